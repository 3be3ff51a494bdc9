/- The abstract machine of the program's code: values, memory, operations, code, and their evaluation. Definitions alone. -/
import Derived.WalkKit
namespace Go.Ab
open Go
set_option linter.unusedVariables false
inductive V where
 | undef
 | bool (b : Bool)
 | int (k : IntKind) (n : Int)
 | str (s : List Int)
 | nilp
 | ptr (o g i s : Nat)
 | nils
 | sl (o g off len esz : Nat) (cap : Option Nat)
 | nilm
 | map (o : Nat)
 | nilf
 | fn (f : Fn) (first captured : List V)
 | agg (cs : List V)
 | tup (vs : List V)
 deriving Inhabited
mutual
def V.beq : V → V → Bool
 | .undef, .undef => true
 | .bool a, .bool b => a == b
 | .int k a, .int j b => decide (k = j) && decide (a = b)
 | .str a, .str b => decide (a = b)
 | .nilp, .nilp => true
 | .ptr o g i s, .ptr o' g' i' s' => decide (o = o') && (decide (g = g') && (decide (i = i') && decide (s = s')))
 | .nils, .nils => true
 | .sl o g a l e c, .sl o' g' a' l' e' c' => decide (o = o') && (decide (g = g') && (decide (a = a') && (decide (l = l') && (decide (e = e') && decide (c = c')))))
 | .nilm, .nilm => true
 | .map o, .map o' => decide (o = o')
 | .nilf, .nilf => true
 | .fn f a c, .fn f' a' c' => decide (f = f') && (V.beqL a a' && V.beqL c c')
 | .agg a, .agg b => V.beqL a b
 | .tup a, .tup b => V.beqL a b
 | _, _ => false
def V.beqL : List V → List V → Bool
 | [], [] => true
 | x :: xs, y :: ys => V.beq x y && V.beqL xs ys
 | _, _ => false
end
inductive Obj where
 | row (es : List (List V)) (gen live : Nat) (ro : Bool)
 | map (es : List (V × V))
 deriving Inhabited
inductive Tr where
 | leaf
 | node (v : Option Obj) (l r : Tr)
 deriving Inhabited
def Tr.get : Tr → Nat → Option Obj
 | .leaf, _ => none
 | .node v l r, n => if n = 0 then v else if n % 2 = 1 then l.get (n / 2) else r.get (n / 2 - 1)
def Tr.sing : Nat → Nat → Obj → Tr
 | 0, _, o => .node (some o) .leaf .leaf
 | f + 1, n, o => if n = 0 then .node (some o) .leaf .leaf else if n % 2 = 1 then .node none (Tr.sing f (n / 2) o) .leaf else .node none .leaf (Tr.sing f (n / 2 - 1) o)
def Tr.set : Tr → Nat → Obj → Tr
 | .leaf, n, o => Tr.sing n n o
 | .node v l r, n, o => if n = 0 then .node (some o) l r else if n % 2 = 1 then .node v (l.set (n / 2) o) r else .node v l (r.set (n / 2 - 1) o)
structure St where
 mem : Tr
 next : Nat
 deriving Inhabited
def St.get (st : St) (o : Nat) : Option Obj := st.mem.get o
def St.set (st : St) (o : Nat) (x : Obj) : St := ⟨st.mem.set o x, st.next⟩
def St.push (st : St) (x : Obj) : St := ⟨st.mem.set st.next x, st.next + 1⟩
def St.empty : St := ⟨.leaf, 0⟩
inductive Opd where
 | t (n : Nat)
 | c (v : V)
 deriving Inhabited
inductive SK where
 | int | bool | str
 deriving DecidableEq, Inhabited
inductive EqK where
 | bool | ptr | slice | map | func
 | struct (ks : List SK)
 deriving DecidableEq, Inhabited
inductive KeyK where
 | one (k : SK)
 | struct (ks : List SK)
 deriving DecidableEq, Inhabited
inductive LK where
 | str | sl | map
 deriving DecidableEq, Inhabited
inductive IOp where
 | mov (x : Opd)
 | pick (c a b : Opd)
 | box (x : Opd)
 | build (zero : List V) (parts : List (Nat × Nat × Opd))
 | mkrow (esz len : Nat) (zero : List V) (parts : List (Nat × Opd))
 | load (n : Nat) (agg : Bool) (a : Opd)
 | store (n : Nat) (a x : Opd)
 | nilck (x : Opd)
 | bin (op : BinOp) (x y : Opd)
 | eq (kd : EqK) (neg : Bool) (x y : Opd)
 | un (op : UnOp) (x : Opd)
 | conv (k : IntKind) (x : Opd)
 | toBytes (x : Opd)
 | toStr (x : Opd)
 | cvs (x : Opd)
 | mkfn (f : Fn) (first captured : List Opd)
 | mkmap
 | mkslice (esz bytes : Nat) (zero : List V) (len cap : Opd)
 | slice (str : Bool) (esz : Nat) (x : Opd) (lo hi mx : Option Opd)
 | faddr (off : Nat) (x : Opd)
 | field (off n : Nat) (agg : Bool) (x : Opd)
 | iaddr (esz : Nat) (x i : Opd)
 | iaddrA (len esz : Nat) (x i : Opd)
 | index (x i : Opd)
 | indexA (ln esz n : Nat) (agg : Bool) (x i : Opd)
 | lookup (kd : KeyK) (zero : V) (m k : Opd) (ok : Bool)
 | mapset (kd : KeyK) (m k v : Opd)
 | extract (x : Opd) (i : Nat)
 | len (kd : LK) (x : Opd)
 | append (esz bytes : Nat) (s x : Opd)
 | appendz (esz bytes : Nat) (zero : List V) (s n : Opd)
 | copy (esz : Nat) (d s : Opd)
 | minmax (mn : Bool) (xs : List Opd)
 | call (f : Nat) (args : List Opd)
 | callv (f : Opd) (args : List Opd)
 deriving Inhabited
inductive Kind where
 | pure | read | fresh | act
 deriving DecidableEq, Inhabited
def IOp.kind : IOp → Kind
 | .load .. | .lookup .. | .toStr _ | .cvs _ | .len .. => .read
 | .box _ | .mkrow .. | .toBytes _ | .mkmap | .mkslice .. => .fresh
 | .store .. | .mapset .. | .append .. | .appendz .. | .copy .. | .call .. | .callv .. => .act
 | _ => .pure
def IOp.isCvs : IOp → Bool
 | .cvs _ => true
 | _ => false
structure IOper where
 dst : Option Nat
 op : IOp
 guard : Option (Nat × Bool)
 chk : Option (Nat × Nat)       -- a read that stands in an open order: among how many turns of memory
 deriving Inhabited
def zi (d : Nat) (o : IOp) : IOper := ⟨some d, o, none, none⟩
def zg (d t : Nat) (b : Bool) (o : IOp) : IOper := ⟨some d, o, some (t, b), none⟩
def zn (o : IOp) : IOper := ⟨none, o, none, none⟩
inductive IC where
 | skip
 | reg (ops : List IOper)
 | regD (ord : List Nat) (ops : List IOper)
 | seq (a b : IC)
 | cond (c : Opd) (t e : IC)
 | block (id : Nat) (b : IC)
 | loop (keep : List Nat) (b : IC)
 | exit (id : Nat)
 | ret
 deriving Inhabited
inductive IRes where
 | tmp (t : Nat)
 | cell (a n : Nat) (agg : Bool)
 deriving Inhabited
structure IFn where
 params : Nat
 results : List IRes
 body : IC
 deriving Inhabited
def Opd.uses : Opd → List Nat
 | .t n => [n]
 | .c _ => []
def usesL : List Opd → List Nat
 | [] => []
 | x :: r => x.uses ++ usesL r
def usesO : Option Opd → List Nat
 | none => []
 | some x => x.uses
def IOp.uses : IOp → List Nat
 | .mov x | .box x | .load _ _ x | .nilck x | .un _ x | .conv _ x | .toBytes x | .toStr x | .cvs x | .faddr _ x | .field _ _ _ x | .extract x _ | .len _ x => x.uses
 | .pick c a b => c.uses ++ a.uses ++ b.uses
 | .build _ ps => usesL (ps.map (·.2.2))
 | .mkrow _ _ _ ps => usesL (ps.map (·.2))
 | .store _ a x | .bin _ a x | .eq _ _ a x | .iaddr _ a x | .iaddrA _ _ a x | .index a x | .indexA _ _ _ _ a x | .mkslice _ _ _ a x | .append _ _ a x | .appendz _ _ _ a x | .copy _ a x => a.uses ++ x.uses
 | .mkfn _ a c => usesL a ++ usesL c
 | .mkmap => []
 | .slice _ _ x lo hi mx => x.uses ++ usesO lo ++ usesO hi ++ usesO mx
 | .lookup _ _ m k _ => m.uses ++ k.uses
 | .mapset _ m k v => m.uses ++ k.uses ++ v.uses
 | .minmax _ xs => usesL xs
 | .call _ xs => usesL xs
 | .callv f xs => f.uses ++ usesL xs
abbrev Env := List (Nat × V)
def Env.get : Env → Nat → V
 | [], _ => .undef
 | (k, v) :: r, n => if k = n then v else Env.get r n
def Env.put (env : Env) (d : Option Nat) (v : V) : Env :=
 match d with
 | some d => (d, v) :: env
 | none => env
def Env.keep (env : Env) : List Nat → Env
 | [] => []
 | k :: ks => (k, Env.get env k) :: Env.keep env ks
def Opd.ev (env : Env) : Opd → V
 | .t n => Env.get env n
 | .c v => v
def evs (env : Env) : List Opd → List V
 | [] => []
 | x :: xs => x.ev env :: evs env xs
def bitsOf (op : BinOp) (k : IntKind) (x y : Int) : Option Int :=
 let a := BitVec.ofInt k.bits x
 let b := BitVec.ofInt k.bits y
 match op with
 | .and => some (k.wrap (a &&& b).toNat)
 | .or => some (k.wrap (a ||| b).toNat)
 | .xor => some (k.wrap (a ^^^ b).toNat)
 | .andNot => some (k.wrap (a &&& ~~~b).toNat)
 | _ => none
def intsLess : List Int → List Int → Bool
 | _, [] => false
 | [], _ :: _ => true
 | a :: x, b :: y => decide (a < b) || (decide (a = b) && intsLess x y)
def plainEq : List SK → List V → List V → Option Bool
 | [], [], [] => some true
 | .bool :: ks, .bool a :: x, .bool b :: y => (plainEq ks x y).map fun r => a == b && r
 | .int :: ks, .int k a :: x, .int j b :: y => if k = j then (plainEq ks x y).map fun r => a == b && r else none
 | .str :: ks, .str a :: x, .str b :: y => (plainEq ks x y).map fun r => a == b && r
 | _, _, _ => none
def V.eqk : EqK → V → V → Option Bool
 | .bool, .bool a, .bool b => some (a == b)
 | .ptr, .nilp, .nilp => some true
 | .ptr, .nilp, .ptr .. => some false
 | .ptr, .ptr .., .nilp => some false
 | .slice, .nils, .nils => some true
 | .slice, .nils, .sl .. => some false
 | .slice, .sl .., .nils => some false
 | .map, .nilm, .nilm => some true
 | .map, .nilm, .map _ => some false
 | .map, .map _, .nilm => some false
 | .func, .nilf, .nilf => some true
 | .func, .nilf, .fn .. => some false
 | .func, .fn .., .nilf => some false
 | .struct ks, .agg a, .agg b => plainEq ks a b
 | _, _, _ => none
def intOp (op : BinOp) (k : IntKind) (a b : Int) : Option V :=
 match op with
 | .add => some (.int k (k.wrap (a + b)))
 | .sub => some (.int k (k.wrap (a - b)))
 | .mul => some (.int k (k.wrap (a * b)))
 | .quo => if b = 0 then none else some (.int k (k.wrap (a.tdiv b)))
 | .rem => if b = 0 then none else some (.int k (a.tmod b))
 | .and | .or | .xor | .andNot => (bitsOf op k a b).map (.int k)
 | .eql => some (.bool (a == b))
 | .neq => some (.bool (a != b))
 | .lss => some (.bool (decide (a < b)))
 | .leq => some (.bool (decide (a ≤ b)))
 | .gtr => some (.bool (decide (a > b)))
 | .geq => some (.bool (decide (a ≥ b)))
 | _ => none
def shiftOp (op : BinOp) (k : IntKind) (a b : Int) : Option V :=
 if b < 0 then none else
 match op with
 | .shl => some (.int k (k.wrap (a * 2 ^ (min b.toNat k.bits))))
 | .shr => some (.int k (a.fdiv (2 ^ (min b.toNat k.bits))))
 | _ => none
def strOp (op : BinOp) (a b : List Int) : Option V :=
 match op with
 | .add => if a.length + b.length ≤ 140737488355328 then some (.str (a ++ b)) else none
 | .eql => some (.bool (a == b))
 | .neq => some (.bool (!(a == b)))
 | .lss => some (.bool (intsLess a b))
 | .leq => some (.bool (intsLess a b || a == b))
 | .gtr => some (.bool (!(intsLess a b || a == b)))
 | .geq => some (.bool (!intsLess a b))
 | _ => none
def V.bin (op : BinOp) (x y : V) : Option V :=
 match x, y with
 | .int k a, .int j b =>
  match op with
  | .shl | .shr => shiftOp op k a b
  | _ => if k = j then intOp op k a b else none
 | .str a, .str b => strOp op a b
 | _, _ => none
def V.un (op : UnOp) (x : V) : Option V :=
 match op, x with
 | .neg, .int k n => some (.int k (k.wrap (0 - n)))
 | .xor, .int k n => (bitsOf .xor k (if k.signed then -1 else k.max) n).map (.int k)
 | .not, .bool b => some (.bool !b)
 | _, _ => none
def cellsOf : V → Option (List V)
 | .agg cs => some cs
 | .undef => none
 | v => some [v]
def V.one : V → Bool
 | .undef | .agg _ | .tup _ => false
 | _ => true
def ofCells (agg : Bool) (cs : List V) : Option V :=
 if agg then some (.agg cs) else
 match cs with
 | [v] => some v
 | _ => none
def cut {α : Type} (l : List α) (off n : Nat) : List α := (l.drop off).take n
def lay {α : Type} (l : List α) (off : Nat) (x : List α) : List α := l.take off ++ x ++ l.drop (off + x.length)
def fillCells (zero : List V) (env : Env) : List (Nat × Nat × Opd) → Option (List V)
 | [] => some zero
 | (off, n, x) :: r =>
  match cellsOf (x.ev env) with
  | some cs => if cs.length = n ∧ off + n ≤ zero.length then fillCells (lay zero off cs) env r else none
  | none => none
def fillRow (row : List (List V)) (esz : Nat) (env : Env) : List (Nat × Opd) → Option (List (List V))
 | [] => some row
 | (i, x) :: r =>
  match cellsOf (x.ev env) with
  | some cs => if cs.length = esz ∧ i < row.length ∧ cs.all V.one = true then fillRow (row.set i cs) esz env r else none
  | none => none
def St.load (st : St) (a : V) (n : Nat) (agg : Bool) : Option V :=
 match a with
 | .ptr o g i s =>
  match st.get o with
  | some (.row es _ live _) =>
   if live ≤ g then
    match es[i]? with
    | some cs => if s + n ≤ cs.length then ofCells agg (cut cs s n) else none
    | none => none
   else none
  | _ => none
 | _ => none
def St.store (st : St) (a : V) (n : Nat) (x : V) : Option St :=
 match a with
 | .ptr o g i s =>
  match st.get o with
  | some (.row es gen _ ro) =>
   if ro = false ∧ g = gen then
    match es[i]?, cellsOf x with
    | some cs, some xs => if s + n ≤ cs.length ∧ xs.length = n ∧ xs.all V.one = true then some (st.set o (.row (es.set i (lay cs s xs)) gen gen ro)) else none
    | _, _ => none
   else none
  | _ => none
 | _ => none
def St.elems (st : St) (esz : Nat) (x : V) : Option (List (List V)) :=
 match x with
 | .nils => some []
 | .sl o g off ln e _ =>
  match st.get o with
  | some (.row es _ live _) => if e = esz ∧ live ≤ g ∧ off + ln ≤ es.length then some (cut es off ln) else none
  | _ => none
 | .str s => if esz = 1 then some (s.map fun n => [.int .u8 n]) else none
 | _ => none
def byteOfCells : List V → Option Int
 | [.int .u8 n] => some n
 | _ => none
def bytesOfRow : List (List V) → Option (List Int)
 | [] => some []
 | x :: r => match byteOfCells x, bytesOfRow r with
  | some n, some l => some (n :: l)
  | _, _ => none
def room : Nat := 140737488355328
def St.append (st : St) (esz bytes : Nat) (s : V) (x : List (List V)) : Option (V × St) :=
 match s with
 | .nils =>
  if x = [] then some (.nils, st) else
  if x.length * bytes ≤ room then some (.sl st.next 0 0 x.length esz none, st.push (.row x 0 0 false)) else none
 | .sl o g off ln e cap =>
  if e ≠ esz then none else
  if x = [] then some (.sl o g off ln e cap, st) else
  match cap with
  | some c =>
   if c < ln + x.length ∧ (ln + x.length) * bytes ≤ room then
    match st.elems esz (.sl o g off ln e cap) with
    | some old => some (.sl st.next 0 0 (ln + x.length) esz none, st.push (.row (old ++ x) 0 0 false))
    | none => none
   else none
  | none =>
   match st.get o with
   | some (.row es gen live ro) =>
    if ro = false ∧ g = gen ∧ off = 0 ∧ ln ≤ es.length ∧ (ln + x.length) * bytes ≤ room then
     some (.sl o (gen + 1) 0 (ln + x.length) esz none, st.set o (.row (es.take ln ++ x) (gen + 1) (if ln = es.length then live else gen + 1) ro))
    else none
   | _ => none
 | _ => none
def St.copy (st : St) (esz : Nat) (d : V) (x : List (List V)) : Option (V × St) :=
 match d with
 | .nils => some (.int .i64 0, st)
 | .sl o g off ln e _ =>
  if e ≠ esz then none else
  if min x.length ln = 0 then some (.int .i64 0, st) else
  match st.get o with
  | some (.row es gen _ ro) =>
   if ro = false ∧ g = gen ∧ off + ln ≤ es.length then
    some (.int .i64 ((min x.length ln : Nat) : Int), st.set o (.row (lay es off (x.take ln)) gen gen ro))
   else none
  | _ => none
 | _ => none
def optInt : Option V → Option (Option Int)
 | none => some none
 | some (.int _ n) => some (some n)
 | some _ => none
def V.slice (str : Bool) (esz : Nat) (x : V) (lo hi mx : Option V) : Option V :=
 match optInt lo, optInt hi, optInt mx with
 | some lo, some hi, some mx =>
  match str, x with
  | true, .str s =>
   if mx = none ∧ 0 ≤ lo.getD 0 ∧ lo.getD 0 ≤ hi.getD s.length ∧ hi.getD s.length ≤ s.length then some (.str (cut s (lo.getD 0).toNat (hi.getD s.length - lo.getD 0).toNat)) else none
  | false, .nils => if mx = none ∧ hi.getD 0 = 0 ∧ lo.getD 0 = 0 then some .nils else none
  | false, .sl o g off ln e cap =>
   if e = esz ∧ 0 ≤ lo.getD 0 ∧ lo.getD 0 ≤ hi.getD ln ∧ hi.getD ln ≤ ln then
    match mx, hi with
    | none, _ => some (.sl o g (off + (lo.getD 0).toNat) (hi.getD ln - lo.getD 0).toNat e (cap.map fun c => c - (lo.getD 0).toNat))
    | some m, some h => if h ≤ m ∧ m ≤ ln then some (.sl o g (off + (lo.getD 0).toNat) (h - lo.getD 0).toNat e (some (m - lo.getD 0).toNat)) else none
    | _, _ => none
   else none
  | _, _ => none
 | _, _, _ => none
def keyEq : KeyK → V → V → Option Bool
 | .one k, a, b => plainEq [k] [a] [b]
 | .struct ks, .agg a, .agg b => plainEq ks a b
 | _, _, _ => none
def mapFind (kd : KeyK) (k : V) : List (V × V) → Option (Option V)
 | [] => if keyEq kd k k = some true then some none else none
 | (j, v) :: r =>
  match keyEq kd k j with
  | some true => some (some v)
  | some false => mapFind kd k r
  | none => none
def mapPut (kd : KeyK) (k v : V) : List (V × V) → Option (List (V × V))
 | [] => if keyEq kd k k = some true then some [(k, v)] else none
 | (j, u) :: r =>
  match keyEq kd k j with
  | some true => some ((k, v) :: r)
  | some false => (mapPut kd k v r).map ((j, u) :: ·)
  | none => none
def minmaxV (mn : Bool) : V → List V → Option V
 | .int k a, [] => some (.int k a)
 | .int k a, .int j b :: r => if k = j then minmaxV mn (.int k (if mn then (if b < a then b else a) else (if b > a then b else a))) r else none
 | _, _ => none
def IOp.ex (o : IOp) (env : Env) (st : St) : Option (V × St) :=
 match o with
 | .mov x => some (x.ev env, st)
 | .pick c a b =>
  match c.ev env with
  | .bool true => some (a.ev env, st)
  | .bool false => some (b.ev env, st)
  | _ => none
 | .box x =>
  match cellsOf (x.ev env) with
  | some cs => if cs.all V.one = true then some (.ptr st.next 0 0 0, st.push (.row [cs] 0 0 false)) else none
  | none => none
 | .build zero parts => (fillCells zero env parts).map fun cs => (.agg cs, st)
 | .mkrow esz ln zero parts =>
  if zero.length = esz ∧ zero.all V.one = true then
   (fillRow (List.replicate ln zero) esz env parts).map fun es => (.sl st.next 0 0 ln esz none, st.push (.row es 0 0 false))
  else none
 | .load n agg a => (st.load (a.ev env) n agg).map fun v => (v, st)
 | .store n a x => (st.store (a.ev env) n (x.ev env)).map fun st => (.tup [], st)
 | .nilck x =>
  match x.ev env with
  | .ptr o g i s => some (.ptr o g i s, st)
  | .fn f a c => match f with
   | .func _ => some (.fn f a c, st)
   | _ => none
  | _ => none
 | .bin op x y => (V.bin op (x.ev env) (y.ev env)).map fun v => (v, st)
 | .eq kd neg x y => (V.eqk kd (x.ev env) (y.ev env)).map fun b => (.bool (if neg then !b else b), st)
 | .un op x => (V.un op (x.ev env)).map fun v => (v, st)
 | .conv k x =>
  match x.ev env with
  | .int _ n => some (.int k (k.wrap n), st)
  | _ => none
 | .toBytes x =>
  match x.ev env with
  | .str s => if s.length ≤ room then some (.sl st.next 0 0 s.length 1 none, st.push (.row (s.map fun n => [.int .u8 n]) 0 0 false)) else none
  | _ => none
 | .toStr x =>
  match x.ev env with
  | .str _ => none
  | v => match st.elems 1 v with
   | some es => (bytesOfRow es).map fun s => (.str s, st)
   | none => none
 | .cvs x =>
  match x.ev env with
  | .sl o g off ln e cap =>
   match st.get o with
   | some (.row es gen live ro) => if ro = false ∧ 0 < ln ∧ live ≤ g then some (.sl o g off ln e cap, st) else none
   | _ => none
  | _ => none
 | .mkfn f a c => match f with
  | .func _ => some (.fn f (evs env a) (evs env c), st)
  | _ => none
 | .mkmap => some (.map st.next, st.push (.map []))
 | .mkslice esz bytes zero ln cp =>
  match ln.ev env, cp.ev env with
  | .int .i64 l, .int .i64 c =>
   if 0 ≤ l ∧ l ≤ c ∧ c * bytes ≤ room ∧ zero.length = esz ∧ zero.all V.one = true then some (.sl st.next 0 0 l.toNat esz none, st.push (.row (List.replicate l.toNat zero) 0 0 false)) else none
  | _, _ => none
 | .slice str esz x lo hi mx => (V.slice str esz (x.ev env) (lo.map (·.ev env)) (hi.map (·.ev env)) (mx.map (·.ev env))).map fun v => (v, st)
 | .faddr off x =>
  match x.ev env with
  | .ptr o g i s => some (.ptr o g i (s + off), st)
  | _ => none
 | .field off n agg x =>
  match x.ev env with
  | .agg cs => if off + n ≤ cs.length then (ofCells agg (cut cs off n)).map fun v => (v, st) else none
  | _ => none
 | .iaddr esz x i =>
  match x.ev env, i.ev env with
  | .sl o g off ln e _, .int _ n => if e = esz ∧ 0 ≤ n ∧ n < ln then some (.ptr o g (off + n.toNat) 0, st) else none
  | _, _ => none
 | .iaddrA ln esz x i =>
  match x.ev env, i.ev env with
  | .ptr o g j s, .int _ n => if 0 ≤ n ∧ n < ln then some (.ptr o g j (s + n.toNat * esz), st) else none
  | _, _ => none
 | .index x i =>
  match x.ev env, i.ev env with
  | .str s, .int _ n => if 0 ≤ n then (s[n.toNat]?).map fun b => (.int .u8 b, st) else none
  | _, _ => none
 | .indexA ln esz n agg x i =>
  match x.ev env, i.ev env with
  | .agg cs, .int _ j => if 0 ≤ j ∧ j < ln ∧ j.toNat * esz + n ≤ cs.length then (ofCells agg (cut cs (j.toNat * esz) n)).map fun v => (v, st) else none
  | _, _ => none
 | .lookup kd zero m k ok =>
  match m.ev env with
  | .nilm => if keyEq kd (k.ev env) (k.ev env) = some true then some (if ok then .tup [zero, .bool false] else zero, st) else none
  | .map o =>
   match st.get o with
   | some (.map es) => (mapFind kd (k.ev env) es).map fun r => (if ok then .tup [r.getD zero, .bool r.isSome] else r.getD zero, st)
   | _ => none
  | _ => none
 | .mapset kd m k v =>
  match m.ev env with
  | .map o =>
   match st.get o with
   | some (.map es) => (mapPut kd (k.ev env) (v.ev env) es).map fun es => (.tup [], st.set o (.map es))
   | _ => none
  | _ => none
 | .extract x i =>
  match x.ev env with
  | .tup vs => (vs[i]?).map fun v => (v, st)
  | _ => none
 | .len kd x =>
  match kd, x.ev env with
  | .sl, .nils => some (.int .i64 0, st)
  | .map, .nilm => some (.int .i64 0, st)
  | .sl, .sl _ _ _ ln _ _ => some (.int .i64 ln, st)
  | .str, .str s => some (.int .i64 s.length, st)
  | .map, .map o =>
   match st.get o with
   | some (.map es) => if es.length ≤ 4611686018427387904 then some (.int .i64 es.length, st) else none
   | _ => none
  | _, _ => none
 | .append esz bytes s x =>
  match st.elems esz (x.ev env) with
  | some es => st.append esz bytes (s.ev env) es
  | none => none
 | .appendz esz bytes zero s n =>
  match n.ev env with
  | .int .i64 m => if 0 ≤ m ∧ m * bytes ≤ room ∧ zero.length = esz ∧ zero.all V.one = true then st.append esz bytes (s.ev env) (List.replicate m.toNat zero) else none
  | _ => none
 | .copy esz d s =>
  match s.ev env with
  | .str _ => none
  | x => match st.elems esz x with
   | some es => st.copy esz (d.ev env) es
   | none => none
 | .minmax mn xs =>
  match evs env xs with
  | x :: r => (minmaxV mn x r).map fun v => (v, st)
  | [] => none
 | .call .. | .callv .. => none
abbrev CallF := Nat → List V → St → Option (V × St)
def IOp.run (call : CallF) (o : IOp) (env : Env) (st : St) : Option (V × St) :=
 match o with
 | .call f args => call f (evs env args) st
 | .callv f args =>
  match f.ev env with
  | .fn (.func g) first captured => call g (first ++ evs env args ++ captured) st
  | _ => none
 | o => o.ex env st
def wantedI (env : Env) : Option (Nat × Bool) → Bool
 | none => true
 | some (t, b) => match Env.get env t with
  | .bool c => c == b
  | _ => false
def guardOk (env : Env) : Option (Nat × Bool) → Bool
 | none => true
 | some (t, _) => match Env.get env t with
  | .undef => false
  | _ => true
def evReg (call : CallF) : List IOper → Env → St → Option (Env × St)
 | [], env, st => some (env, st)
 | o :: os, env, st =>
  match guardOk env o.guard, wantedI env o.guard with
  | true, true =>
   match o.op.run call env st with
   | some (v, st) => evReg call os (Env.put env o.dst v) st
   | none => none
  | true, false => evReg call os (Env.put env o.dst (.tup [])) st
  | false, _ => none
structure Chk where
 op : IOp
 env : Env
 v : V
 lo : Nat
 hi : Nat
def objOf : V → Option Nat
 | .ptr o _ _ _ => some o
 | .sl o _ _ _ _ _ => some o
 | .map o => some o
 | _ => none
def IOp.seen (env : Env) : IOp → Option Nat
 | .load _ _ a => objOf (a.ev env)
 | .lookup _ _ m _ _ => objOf (m.ev env)
 | .toStr x => objOf (x.ev env)
 | .cvs x => objOf (x.ev env)
 | .len _ x => match x.ev env with
  | .map o => some o
  | _ => none
 | _ => none
def Chk.at (c : Chk) (st : St) : Bool :=
 (match c.op.ex c.env st with
 | some (v, _) => V.beq v c.v
 | none => false) ||
 (match c.op.seen c.env with
 | some o => decide (st.next ≤ o)
 | none => false)
def Chk.ok (sts : List St) (c : Chk) : Bool :=
 (cut sts c.lo (c.hi + 1 - c.lo)).all c.at
def evRegD (call : CallF) : List IOper → Env → St → List St → List Chk → Option (Env × St)
 | [], env, st, sts, cs => if cs.all (Chk.ok (sts.reverse ++ [st])) then some (env, st) else none
 | o :: os, env, st, sts, cs =>
  match guardOk env o.guard, wantedI env o.guard with
  | true, true =>
   match o.op.run call env st with
   | some (v, st') =>
    evRegD call os (Env.put env o.dst v) st' (if o.op.kind = .act then st :: sts else sts)
     (match o.chk with | some (lo, hi) => ⟨o.op, env, v, lo, hi⟩ :: cs | none => cs)
   | none => none
  | true, false => evRegD call os (Env.put env o.dst (.tup [])) st (if o.op.kind = .act then st :: sts else sts) cs
  | false, _ => none
inductive Ex where
 | norm
 | exit (id : Nat)
 | ret
 deriving Inhabited
abbrev Res := Option (Ex × Env × St)
def iter (f : Env → St → Res) : Nat → Env → St → Res
 | 0, _, _ => none
 | n + 1, env, st =>
  match f env st with
  | some (.norm, env, st) => iter f n env st
  | r => r
def evC (n : Nat) (call : CallF) : IC → Env → St → Res
 | .skip, env, st => some (.norm, env, st)
 | .reg ops, env, st => match evReg call ops env st with
  | some (env, st) => some (.norm, env, st)
  | none => none
 | .regD _ ops, env, st => match evRegD call ops env st [] [] with
  | some (env, st) => some (.norm, env, st)
  | none => none
 | .seq a b, env, st =>
  match evC n call a env st with
  | some (.norm, env, st) => evC n call b env st
  | r => r
 | .cond c t e, env, st =>
  match c.ev env with
  | .bool true => evC n call t env st
  | .bool false => evC n call e env st
  | _ => none
 | .block id b, env, st =>
  match evC n call b env st with
  | some (.exit j, env, st) => if j = id then some (.norm, env, st) else some (.exit j, env, st)
  | r => r
 | .loop keep b, env, st => iter (fun env st => evC n call b (Env.keep env keep) st) n env st
 | .exit id, env, st => some (.exit id, env, st)
 | .ret, env, st => some (.ret, env, st)
def evRes (env : Env) (st : St) : List IRes → Option (List V)
 | [] => some []
 | .tmp t :: r => (evRes env st r).map (Env.get env t :: ·)
 | .cell a n agg :: r =>
  match st.load (Env.get env a) n agg, evRes env st r with
  | some v, some vs => some (v :: vs)
  | _, _ => none
def ofRes : List V → V
 | [v] => v
 | vs => .tup vs
def envOf : Nat → List V → Env
 | _, [] => []
 | n, v :: vs => (n, v) :: envOf (n + 1) vs
def evFn (n : Nat) (call : CallF) (fn : IFn) (args : List V) (st : St) : Option (V × St) :=
 if args.length ≠ fn.params then none else
 match evC n call fn.body (envOf 0 args) st with
 | some (.norm, env, st) | some (.ret, env, st) => (evRes env st fn.results).map fun vs => (ofRes vs, st)
 | _ => none
end Go.Ab
