/- How the program's code reads as the abstract machine's: each operation, each function. Definitions alone. -/
import Derived.Test.YtpeafiomifmadaaAbs1
namespace Go.Ab
open Go
set_option linter.unusedVariables false
def scalarOf : Value → Option V
  | .bool b => some (.bool b)
  | .int k n => if k.min ≤ n ∧ n ≤ k.max then some (.int k n) else none
  | .string s => if s.data.toList.length ≤ 1073741824 then some (.str (s.data.toList.map fun b => (b.toNat : Int))) else none
  | .pointer none => some .nilp
  | .slice none 0 0 => some .nils
  | .map none => some .nilm
  | .nilFunc => some .nilf
  | _ => none
def scalarsOf : List Value → Option (List V)
  | [] => some []
  | v :: r => match scalarOf v, scalarsOf r with
    | some x, some l => some (x :: l)
    | _, _ => none
def constOf : Value → Option V
  | .agg cs => (scalarsOf cs.toList).map .agg
  | v => scalarOf v
def zeroOf (P : Program) (t : TypeId) : Option (List V) :=
  match (P.info? t).bind (·.zero) with
  | some v => scalarsOf v.cells.toList
  | none => none
def zeroVal (P : Program) (t : TypeId) : Option V :=
  match (P.info? t).bind (·.zero) with
  | some v => constOf v
  | none => none
def aggD : TypeDesc → Bool
  | .struct _ => true
  | .array _ _ => true
  | _ => false
def aggOf (P : Program) (t : TypeId) : Option Bool := (P.underlying t).map aggD
def sizeOf? (P : Program) (t : TypeId) : Option Nat := (P.info? t).map (·.size)
def shapeOf (P : Program) (t : TypeId) : Option (Nat × Bool) :=
  match aggOf P t, sizeOf? P t with
  | some true, some n => some (n, true)
  | some false, some n => if n = 1 then some (1, false) else none
  | _, _ => none
def opdOf : Operand → Option Opd
  | .tmp t => some (.t t)
  | .const v => (constOf v).map .c
  | .func f => some (.c (.fn (.func f) [] []))
  | .global _ => none
def opdsOf : List Operand → Option (List Opd)
  | [] => some []
  | x :: r => match opdOf x, opdsOf r with
    | some y, some l => some (y :: l)
    | _, _ => none
def opdOf? : Option Operand → Option (Option Opd)
  | none => some none
  | some x => (opdOf x).map some
def flatFs (P : Program) (rec : TypeId → Option (List SK)) : List Field → Nat → Option (List SK)
  | [], _ => some []
  | f :: r, off =>
    if f.name ≠ "_" ∧ f.offset = off then
      match rec f.type, sizeOf? P f.type, aggOf P f.type with
      | some ks, some n, some _ => if ks.length = n then
          match flatFs P rec r (off + n) with
          | some l => some (ks ++ l)
          | none => none
        else none
      | _, _, _ => none
    else none
def flatOf (P : Program) : Nat → TypeId → Option (List SK)
  | 0, _ => none
  | d + 1, t =>
    match P.underlying t with
    | some .bool => some [.bool]
    | some (.int _) => some [.int]
    | some .string => some [.str]
    | some (.struct fs) => if P.stoodInHeld t then none else flatFs P (flatOf P d) fs.toList 0
    | _ => none
def eqkOf (P : Program) (t : TypeId) : Option EqK :=
  match P.underlying t with
  | some .bool => some .bool
  | some (.pointer _) => some .ptr
  | some (.slice _) => some .slice
  | some (.map _ _) => some .map
  | some (.func _ _ _) => some .func
  | some (.struct _) => if P.eqGuardType P.depth t then none else (flatOf P 20 t).map .struct
  | _ => none
def keykOf (P : Program) (t : TypeId) : Option KeyK :=
  match P.underlying t with
  | some .bool => some (.one .bool)
  | some (.int _) => some (.one .int)
  | some .string => some (.one .str)
  | some (.struct _) => (flatOf P 20 t).map .struct
  | _ => none
def partsOf (P : Program) (place : Nat → Option (Nat × Nat)) : List (Nat × Operand) → Option (List (Nat × Nat × Opd))
  | [] => some []
  | (i, x) :: r =>
    match place i, opdOf x, partsOf P place r with
    | some (off, n), some y, some l => some ((off, n, y) :: l)
    | _, _, _ => none
def rowPartsOf : List (Nat × Operand) → Option (List (Nat × Opd))
  | [] => some []
  | (i, x) :: r =>
    match opdOf x, rowPartsOf r with
    | some y, some l => some ((i, y) :: l)
    | _, _ => none
def placesOf (P : Program) : List Field → Option (List (Nat × Nat))
  | [] => some []
  | f :: r => match sizeOf? P f.type, placesOf P r with
    | some n, some l => some ((f.offset, n) :: l)
    | _, _ => none
def callOf (P : Program) (o : Oper) (c : Call) : Option IOp :=
  match c.callee with
  | .value (.func f) => (opdsOf c.args.toList).map (.call f)
  | .value x => match opdOf x, opdsOf c.args.toList with
    | some y, some l => some (.callv y l)
    | _, _ => none
  | .invoke _ _ => none
  | .builtin .len =>
    match c.argTypes.toList, c.args.toList with
    | [t], [x] =>
      match P.underlying t, opdOf x with
      | some .string, some y => some (.len .str y)
      | some (.slice _), some y => some (.len .sl y)
      | some (.map _ _), some y => some (.len .map y)
      | _, _ => none
    | _, _ => none
  | .builtin .append =>
    match c.argTypes.toList, c.args.toList with
    | [t, u], [s, x] =>
      match P.underlying t, opdOf s, opdOf x with
      | some (.slice e), some s, some x =>
        match P.info? e, P.underlying u with
        | some i, some (.slice _) | some i, some .string =>
          match zeroOf P e with
          | some z => if 0 < i.size ∧ 0 < i.bytes ∧ z.length = i.size then some (.append i.size i.bytes s x) else none
          | none => none
        | some i, some (.int _) =>
          match zeroOf P e with
          | some z => if 0 < i.size ∧ 0 < i.bytes ∧ z.length = i.size then some (.appendz i.size i.bytes z s x) else none
          | none => none
        | _, _ => none
      | _, _, _ => none
    | _, _ => none
  | .builtin .copy =>
    match c.argTypes.toList, c.args.toList with
    | [t, u], [d, s] =>
      match P.underlying t, opdOf d, opdOf s with
      | some (.slice e), some d, some s =>
        match P.info? e, P.underlying u with
        | some i, some (.slice _) => some (.copy i.size d s)
        | _, _ => none
      | _, _, _ => none
    | _, _ => none
  | .builtin .min => (opdsOf c.args.toList).map (.minmax true)
  | .builtin .max => (opdsOf c.args.toList).map (.minmax false)
  | .builtin _ => none
def opOf (P : Program) (o : Oper) : Option IOp :=
  match o.op with
  | .move x | .assign x => (opdOf x).map .mov
  | .pick c a b => match opdOf c, opdOf a, opdOf b with
    | some c, some a, some b => some (.pick c a b)
    | _, _, _ => none
  | .alloc t => (zeroOf P t).map fun z => .box (.c (.agg z))
  | .box _ x => (opdOf x).map .box
  | .build t parts =>
    match P.underlying t, zeroOf P t with
    | some (.struct fs), some z =>
      match placesOf P fs.toList with
      | some ps => (partsOf P (fun i => ps[i]?) parts.toList).map (.build z)
      | none => none
    | some (.array _ e), some z =>
      match sizeOf? P e with
      | some n => (partsOf P (fun i => some (i * n, n)) parts.toList).map (.build z)
      | none => none
    | _, _ => none
  | .buildSlice t ln parts =>
    match P.underlying t with
    | some (.slice e) =>
      match sizeOf? P e, zeroOf P e, rowPartsOf parts.toList with
      | some n, some z, some ps => if 0 < n ∧ z.length = n ∧ ln * n ≤ 16777216 then some (.mkrow n ln z ps) else none
      | _, _, _ => none
    | _ => none
  | .load t a => match shapeOf P t, opdOf a with
    | some (n, g), some a => some (.load n g a)
    | _, _ => none
  | .store t a x => match sizeOf? P t, opdOf a, opdOf x with
    | some n, some a, some x => some (.store n a x)
    | _, _, _ => none
  | .nilCheck x => (opdOf x).map .nilck
  | .binOp op t x y _ =>
    match opdOf x, opdOf y with
    | some x, some y =>
      match op with
      | .eql | .neq =>
        match P.underlying t with
        | some (.int _) | some .string => some (.bin op x y)
        | _ => (eqkOf P t).map fun k => .eq k (match op with | .eql => false | _ => true) x y
      | _ => some (.bin op x y)
    | _, _ => none
  | .unOp op _ x => (opdOf x).map (.un op)
  | .convert src dst x =>
    match P.underlying src, P.underlying dst, opdOf x with
    | some (.int _), some (.int k), some x => some (.conv k x)
    | some .string, some (.slice e), some x => match P.underlying e with
      | some (.int .u8) => some (.toBytes x)
      | _ => none
    | some (.slice e), some .string, some x => match P.underlying e with
      | some (.int .u8) => some (.toStr x)
      | _ => none
    | some (.slice e), some (.slice _), some x =>
      if src = dst then match P.underlying e with
        | some (.int .u8) => some (.cvs x)
        | _ => none
      else none
    | _, _, _ => none
  | .makeFunc f a c => match opdsOf a.toList, opdsOf c.toList with
    | some a, some c => some (.mkfn f a c)
    | _, _ => none
  | .makeMap _ none => some .mkmap
  | .makeMap _ (some _) => none
  | .makeSlice t l c =>
    match P.underlying t, opdOf l, opdOf c with
    | some (.slice e), some l, some c =>
      match P.info? e, zeroOf P e with
      | some i, some z => if 0 < i.size ∧ z.length = i.size then some (.mkslice i.size i.bytes z l c) else none
      | _, _ => none
    | _, _, _ => none
  | .slice t x lo hi mx =>
    match opdOf x, opdOf? lo, opdOf? hi, opdOf? mx with
    | some x, some lo, some hi, some mx =>
      match P.underlying t with
      | some .string => some (.slice true 1 x lo hi mx)
      | some (.slice e) => (sizeOf? P e).map fun n => .slice false n x lo hi mx
      | _ => none
    | _, _, _, _ => none
  | .fieldAddr s x f =>
    match P.underlying s, opdOf x with
    | some (.struct fs), some x =>
      match fs[f]? with
      | some fd => match sizeOf? P fd.type with
        | some n => if n ≠ 0 then some (.faddr fd.offset x) else none
        | none => none
      | none => none
    | _, _ => none
  | .field t x f =>
    match P.underlying t, opdOf x with
    | some (.struct fs), some x =>
      match fs[f]? with
      | some fd => (shapeOf P fd.type).map fun (n, g) => .field fd.offset n g x
      | none => none
    | _, _ => none
  | .indexAddr t x i =>
    match P.underlying t, opdOf x, opdOf i with
    | some (.slice e), some x, some i => (sizeOf? P e).map fun n => .iaddr n x i
    | some (.array ln e), some x, some i => (sizeOf? P e).map fun n => .iaddrA ln n x i
    | _, _, _ => none
  | .index t x i =>
    match P.underlying t, opdOf x, opdOf i with
    | some .string, some x, some i => some (.index x i)
    | some (.array ln e), some x, some i => (shapeOf P e).map fun (n, g) => .indexA ln n n g x i
    | _, _, _ => none
  | .lookup t m k ok =>
    match P.underlying t, opdOf m, opdOf k with
    | some (.map kt e), some m, some k =>
      match keykOf P kt, zeroVal P e with
      | some kd, some z => some (.lookup kd z m k ok)
      | _, _ => none
    | _, _, _ => none
  | .mapUpdate t m k x =>
    match P.underlying t, opdOf m, opdOf k, opdOf x with
    | some (.map kt _), some m, some k, some x => (keykOf P kt).map fun kd => .mapset kd m k x
    | _, _, _, _ => none
  | .extract x i => (opdOf x).map fun x => .extract x i
  | .call c => callOf P o c
  | _ => none
def guardOf (ops : Array Oper) : Option (Nat × Bool) → Option (Option (Nat × Bool))
  | none => some none
  | some (j, b) => match (ops[j]?).bind (·.dst) with
    | some d => some (some (d, b))
    | none => none
def operOf (P : Program) (ntmps : Nat) (ops : Array Oper) (chk : Option (Nat × Nat)) (o : Oper) : Option IOper :=
  match opOf P o, guardOf ops o.guard with
  | some i, some g => if o.dst.all (· < ntmps) then some ⟨o.dst, i, g, chk⟩ else none
  | _, _ => none
def opersOf (P : Program) (ntmps : Nat) (ops : Array Oper) : List Oper → Option (List IOper)
  | [] => some []
  | o :: r => match operOf P ntmps ops none o, opersOf P ntmps ops r with
    | some i, some l => some (i :: l)
    | _, _ => none
def opersD (P : Program) (ntmps : Nat) (ops : Array Oper) : List Nat → List IOper → Option (List IOper)
  | [], [] => some []
  | j :: js, h :: hs =>
    match ops[j]? with
    | some o => match operOf P ntmps ops h.chk o, opersD P ntmps ops js hs with
      | some i, some l => some (i :: l)
      | _, _ => none
    | none => none
  | _, _ => none
def ahead (ops : Array Oper) (ord : List Nat) (p q : Nat) : Bool := ((Region.before ops).getD (ord.getD p 0) 0).testBit (ord.getD q 0)
def actAt (is : List IOper) (p : Nat) : Bool := match is[p]? with
  | some x => decide (x.op.kind = .act)
  | none => false
def guardT : Option (Nat × Bool) → List Nat
  | some (t, _) => [t]
  | none => []
def usesAt (is : List IOper) (p : Nat) : List Nat := match is[p]? with
  | some x => x.op.uses ++ guardT x.guard
  | none => []
def dstAt (is : List IOper) (p : Nat) : Option Nat := match is[p]? with
  | some x => x.dst
  | none => none
def actsAhead (ops : Array Oper) (ord : List Nat) (is : List IOper) (n p : Nat) : Nat := (List.range n).countP fun q => actAt is q && ahead ops ord p q
def actsBehind (ops : Array Oper) (ord : List Nat) (is : List IOper) (n p : Nat) : Nat := (List.range n).countP fun q => actAt is q && ahead ops ord q p
def actsAll (is : List IOper) (n : Nat) : Nat := (List.range n).countP fun q => actAt is q
def chkAt (ops : Array Oper) (ord : List Nat) (is : List IOper) (n p : Nat) : Bool := match is[p]? with
  | some x => !decide (x.op.kind = .read) || decide (actsAhead ops ord is n p + actsBehind ops ord is n p = actsAll is n) ||
      (match x.chk with
       | some (l, h) => decide (l ≤ actsAhead ops ord is n p) && decide (actsAll is n ≤ h + actsBehind ops ord is n p)
       | none => false)
  | none => true
def orderOk (ops : Array Oper) (ord : List Nat) (is : List IOper) : Bool :=
  let n := ops.size
  decide ord.Nodup && decide (ord.length = n) && decide (is.length = n) && ord.all (fun j => decide (j < n)) && (List.range n).all (fun j => ord.contains j) &&
  (List.range n).all (fun p => (List.range n).all fun q => !ahead ops ord p q || decide (q < p)) &&
  (List.range n).all (fun p => (List.range n).all fun q => !ahead ops ord p q || (List.range n).all fun r => !ahead ops ord q r || ahead ops ord p r) &&
  (List.range n).all (fun p => match ops[ord.getD p 0]? with
    | some o => o.after.all fun e => !Region.binds .any e || (decide (e.on < n) && ((Region.before ops).getD (ord.getD p 0) 0).testBit e.on)
    | none => false) &&
  (List.range n).all (fun p => (List.range n).all fun q => !ahead ops ord p q || (match ops[ord.getD p 0]? with
    | some o => o.after.any fun e => Region.binds .any e && (e.on == ord.getD q 0 || ((Region.before ops).getD e.on 0).testBit (ord.getD q 0))
    | none => false)) &&
  (List.range n).all (fun p => !actAt is p || (List.range p).all fun q => ahead ops ord p q) &&
  (List.range n).all (fun p => (usesAt is p).all fun t => (List.range n).all fun q => !(dstAt is q == some t) || q == p || ahead ops ord p q || ahead ops ord q p) &&
  (List.range n).all (fun p => (List.range n).all fun q => q == p || (dstAt is p).isNone || !(dstAt is p == dstAt is q)) &&
  (List.range n).all (fun p => chkAt ops ord is n p)
def codeOf (P : Program) (ntmps : Nat) : Code → IC → Option IC
  | .skip, .skip => some .skip
  | .region _ ops false, .reg _ => (opersOf P ntmps ops ops.toList).map .reg
  | .region _ ops true, .regD ord is =>
    match opersD P ntmps ops ord is with
    | some is => if orderOk ops ord is then some (.regD ord is) else none
    | none => none
  | .seq a b, .seq a' b' => match codeOf P ntmps a a', codeOf P ntmps b b' with
    | some a, some b => some (.seq a b)
    | _, _ => none
  | .cond c t e, .cond _ t' e' => match opdOf c, codeOf P ntmps t t', codeOf P ntmps e e' with
    | some c, some t, some e => some (.cond c t e)
    | _, _, _ => none
  | .block id b, .block _ b' => (codeOf P ntmps b b').map (.block id)
  | .loop b, .loop keep b' => (codeOf P ntmps b b').map (.loop keep)
  | .exit id, .exit _ => some (.exit id)
  | .ret, .ret => some .ret
  | _, _ => none
def resOf (P : Program) : List ResultVar → Option (List IRes)
  | [] => some []
  | .tmp t :: r => (resOf P r).map (.tmp t :: ·)
  | .cell a t :: r => match shapeOf P t, resOf P r with
    | some (n, g), some l => some (.cell a n g :: l)
    | _, _ => none
def fnOf (P : Program) (f : Func) (i : IFn) : Option IFn :=
  match f.body with
  | some c =>
    match codeOf P f.ntmps c i.body, resOf P f.results.toList with
    | some b, some r => if f.params.size + f.nfree ≤ f.ntmps ∧ f.name ≠ "runtime.NumGoroutine" then some ⟨f.params.size + f.nfree, r, b⟩ else none
    | _, _ => none
  | none => none
end Go.Ab
