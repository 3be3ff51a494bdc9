/- The machine of values: slices are values, memory holds boxes, arrays and maps alone. Definitions alone. -/
import Derived.Test.YtpeafiomifmadaaAbsN
namespace Go.Ab
open Go
set_option linter.unusedVariables false
inductive U where
 | undef
 | bool (b : Bool)
 | int (k : IntKind) (n : Int)
 | str (s : List Int)
 | nilp
 | ptr (o g i s : Nat)
 | eptr (cs : List U) (s : Nat)
 | nils
 | list (cp : Bool) (e : Nat) (es : List (List U))
 | own (e : Nat) (es : List (List U))
 | asl (cap : Option Nat) (o g off len e : Nat)
 | nilm
 | map (o : Nat)
 | nilf
 | fn (f : Fn) (first captured : List U)
 | agg (cs : List U)
 | tup (us : List U)
 deriving Inhabited
mutual
def U.ofV : V → U
 | .bool b => .bool b
 | .int k n => .int k n
 | .str s => .str s
 | .nilp => .nilp
 | .nils => .nils
 | .nilm => .nilm
 | .nilf => .nilf
 | .fn f a c => .fn f (U.ofVs a) (U.ofVs c)
 | .agg cs => .agg (U.ofVs cs)
 | _ => .undef
def U.ofVs : List V → List U
 | [] => []
 | x :: r => U.ofV x :: U.ofVs r
end
def U.toV : U → V
 | .bool b => .bool b
 | .int k n => .int k n
 | .str s => .str s
 | _ => .undef
inductive GObj where
 | box (cs : List U)
 | arr (es : List (List U)) (gen live : Nat)
 | map (ps : List (U × U))
 deriving Inhabited
abbrev GH := List GObj
abbrev GEnv := List (Nat × U)
def GEnv.get : GEnv → Nat → U
 | [], _ => .undef
 | (k, v) :: r, n => if k = n then v else GEnv.get r n
def GEnv.put (env : GEnv) (d : Option Nat) (v : U) : GEnv :=
 match d with
 | some d => (d, v) :: env
 | none => env
def GEnv.keep (env : GEnv) : List Nat → GEnv
 | [] => []
 | k :: ks => (k, GEnv.get env k) :: GEnv.keep env ks
def genvOf : Nat → List U → GEnv
 | _, [] => []
 | n, v :: vs => (n, v) :: genvOf (n + 1) vs
def Opd.gev (env : GEnv) : Opd → U
 | .t n => GEnv.get env n
 | .c v => U.ofV v
def gevs (env : GEnv) : List Opd → List U
 | [] => []
 | x :: xs => x.gev env :: gevs env xs
def U.share : U → U
 | .own e es => .list false e es
 | .list _ e es => .list false e es
 | .tup _ => .undef
 | u => u
def shares : List U → List U
 | [] => []
 | u :: r => u.share :: shares r
def U.moved : U → U
 | .own e es => .own e es
 | .tup us => .tup us
 | u => u.share
def U.handed : U → U
 | .own e es => .own e es
 | u => u.share
def demote (env : GEnv) : Opd → GEnv
 | .t n => match GEnv.get env n with
  | .own e es => (n, .list false e es) :: env
  | .tup _ => (n, .undef) :: env
  | _ => env
 | .c _ => env
def U.cells : U → Option (List U)
 | .agg cs => some cs
 | .undef | .tup _ => none
 | u => some [u]
def U.mcells : U → Option (List U)
 | .own e es => some [.own e es]
 | .agg cs => some (shares cs)
 | .undef | .tup _ => none
 | u => some [u.share]
def U.one : U → Bool
 | .undef | .agg _ | .tup _ => false
 | _ => true
def gof (agg : Bool) (cs : List U) : Option U :=
 if agg then some (.agg (shares cs)) else
 match cs with
 | [u] => some u
 | _ => none
def gfill (zero : List U) (env : GEnv) : List (Nat × Nat × Opd) → Option (List U)
 | [] => some zero
 | (off, n, x) :: r =>
  match (x.gev env).share.cells with
  | some cs => if cs.length = n ∧ off + n ≤ zero.length then gfill (lay zero off cs) env r else none
  | none => none
def gfillRow (row : List (List U)) (esz : Nat) (env : GEnv) : List (Nat × Opd) → Option (List (List U))
 | [] => some row
 | (i, x) :: r =>
  match (x.gev env).share.cells with
  | some cs => if cs.length = esz ∧ i < row.length ∧ cs.all U.one = true then gfillRow (row.set i cs) esz env r else none
  | none => none
def gload (h : GH) (a : U) (n : Nat) (agg : Bool) : Option U :=
 match a with
 | .ptr o g i s =>
  match h[o]? with
  | some (.box cs) => if g = 0 ∧ i = 0 ∧ s + n ≤ cs.length then gof agg (cut cs s n) else none
  | some (.arr es _ live) =>
   if live ≤ g then
    match es[i]? with
    | some cs => if s + n ≤ cs.length then gof agg (cut cs s n) else none
    | none => none
   else none
  | _ => none
 | .eptr cs s => if s + n ≤ cs.length then gof agg (cut cs s n) else none
 | _ => none
def gtake (lo : Nat) (h : GH) (a : U) : Option GH :=
 match a with
 | .ptr o _ i s =>
  if lo ≤ o then
   match h[o]? with
   | some (.box cs) =>
    match cs[s]? with
    | some (.own e es) => some (h.set o (.box (cs.set s (.list false e es))))
    | _ => none
   | _ => none
  else none
 | _ => none
def gstore (lo : Nat) (h : GH) (a : U) (n : Nat) (x : U) (env : GEnv) (xo : Opd) : Option (GEnv × GH) :=
 match a with
 | .ptr o g i s =>
  if lo ≤ o then
   match h[o]? with
   | some (.box cs) =>
    match x.mcells with
    | some xs => if g = 0 ∧ i = 0 ∧ s + n ≤ cs.length ∧ xs.length = n ∧ xs.all U.one = true then some (demote env xo, h.set o (.box (lay cs s xs))) else none
    | none => none
   | some (.arr es gen _) =>
    match es[i]?, x.share.cells with
    | some cs, some xs => if g = gen ∧ s + n ≤ cs.length ∧ xs.length = n ∧ xs.all U.one = true then some (env, h.set o (.arr (es.set i (lay cs s xs)) gen gen)) else none
    | _, _ => none
   | _ => none
  else none
 | _ => none
def els (h : GH) (esz : Nat) : U → Option (List (List U))
 | .nils => some []
 | .list _ e es => if e = esz then some es else none
 | .own e es => if e = esz then some es else none
 | .asl _ o g off ln e =>
  match h[o]? with
  | some (.arr es _ live) => if e = esz ∧ live ≤ g ∧ off + ln ≤ es.length then some (cut es off ln) else none
  | _ => none
 | .str s => if esz = 1 then some (s.map fun n => [.int .u8 n]) else none
 | _ => none
def gbyte : List U → Option Int
 | [.int .u8 n] => some n
 | _ => none
def gbytesOf : List (List U) → Option (List Int)
 | [] => some []
 | x :: r => match gbyte x, gbytesOf r with
  | some n, some l => some (n :: l)
  | _, _ => none
structure Fl where
 takes : List Nat
 arrs : List Nat
def memN : List Nat → Nat → Bool
 | [], _ => false
 | k :: r, n => if k = n then true else memN r n
def isIn (l : List Nat) : Option Nat → Bool
 | some d => memN l d
 | none => false
def gfresh (arr : Bool) (esz : Nat) (es : List (List U)) (env : GEnv) (h : GH) : Option (U × GEnv × GH) :=
 if arr then some (.asl none h.length 0 0 es.length esz, env, h ++ [.arr es 0 0]) else some (.own esz es, env, h)
def goptInt : Option U → Option (Option Int)
 | none => some none
 | some (.int _ n) => some (some n)
 | some _ => none
def gpart (ln : Nat) (lo hi mx : Option Int) : Option (Nat × Nat × Bool) :=
 if 0 ≤ lo.getD 0 ∧ lo.getD 0 ≤ hi.getD ln ∧ hi.getD ln ≤ ln then
  match mx, hi with
  | none, _ => some ((lo.getD 0).toNat, (hi.getD ln - lo.getD 0).toNat, false)
  | some m, some h => if h ≤ m ∧ m ≤ ln ∧ 0 < ln then some ((lo.getD 0).toNat, (h - lo.getD 0).toNat, decide (m = h)) else none
  | _, _ => none
 else none
def U.slice (str : Bool) (esz : Nat) (x : U) (lo hi mx : Option U) : Option U :=
 match goptInt lo, goptInt hi, goptInt mx with
 | some lo, some hi, some mx =>
  match str, x with
  | true, .str s =>
   if mx = none ∧ 0 ≤ lo.getD 0 ∧ lo.getD 0 ≤ hi.getD s.length ∧ hi.getD s.length ≤ s.length then some (.str (cut s (lo.getD 0).toNat (hi.getD s.length - lo.getD 0).toNat)) else none
  | false, .nils => if mx = none ∧ hi.getD 0 = 0 ∧ lo.getD 0 = 0 then some .nils else none
  | false, .list _ e es => if e = esz then (gpart es.length lo hi mx).map fun p => .list p.2.2 e (cut es p.1 p.2.1) else none
  | false, .own e es => if e = esz then (gpart es.length lo hi mx).map fun p => .list p.2.2 e (cut es p.1 p.2.1) else none
  | false, .asl cap o g off ln e =>
   if e = esz ∧ 0 ≤ lo.getD 0 ∧ lo.getD 0 ≤ hi.getD ln ∧ hi.getD ln ≤ ln then
    match mx, hi with
    | none, _ => some (.asl (cap.map fun c => c - (lo.getD 0).toNat) o g (off + (lo.getD 0).toNat) (hi.getD ln - lo.getD 0).toNat e)
    | some m, some h => if h ≤ m ∧ m ≤ ln then some (.asl (some (m - lo.getD 0).toNat) o g (off + (lo.getD 0).toNat) (h - lo.getD 0).toNat e) else none
    | _, _ => none
   else none
  | _, _ => none
 | _, _, _ => none
def toVs : List U → List V
 | [] => []
 | u :: r => u.toV :: toVs r
def U.eqk : EqK → U → U → Option Bool
 | .bool, .bool a, .bool b => some (a == b)
 | .ptr, .nilp, .nilp => some true
 | .ptr, .nilp, .ptr .. => some false
 | .ptr, .ptr .., .nilp => some false
 | .slice, .nils, .nils => some true
 | .map, .nilm, .nilm => some true
 | .map, .nilm, .map _ => some false
 | .map, .map _, .nilm => some false
 | .func, .nilf, .nilf => some true
 | .func, .nilf, .fn .. => some false
 | .func, .fn .., .nilf => some false
 | .struct ks, .agg a, .agg b => plainEq ks (toVs a) (toVs b)
 | _, _, _ => none
def ubin (op : BinOp) (x y : U) : Option U :=
 match x, y with
 | .int k a, .int j b => (V.bin op (.int k a) (.int j b)).map U.ofV
 | .str a, .str b => (V.bin op (.str a) (.str b)).map U.ofV
 | _, _ => none
def uun (op : UnOp) (x : U) : Option U :=
 match x with
 | .int k a => (V.un op (.int k a)).map U.ofV
 | .bool b => (V.un op (.bool b)).map U.ofV
 | _ => none
def ukeyEq : KeyK → U → U → Option Bool
 | .one k, a, b => plainEq [k] [a.toV] [b.toV]
 | .struct ks, .agg a, .agg b => plainEq ks (toVs a) (toVs b)
 | _, _, _ => none
def umapFind (kd : KeyK) (k : U) : List (U × U) → Option (Option U)
 | [] => if ukeyEq kd k k = some true then some none else none
 | (j, v) :: r =>
  match ukeyEq kd k j with
  | some true => some (some v)
  | some false => umapFind kd k r
  | none => none
def umapPut (kd : KeyK) (k v : U) : List (U × U) → Option (List (U × U))
 | [] => if ukeyEq kd k k = some true then some [(k, v)] else none
 | (j, u) :: r =>
  match ukeyEq kd k j with
  | some true => some ((k, v) :: r)
  | some false => (umapPut kd k v r).map ((j, u) :: ·)
  | none => none
def uminmax (mn : Bool) : U → List U → Option U
 | .int k a, [] => some (.int k a)
 | .int k a, .int j b :: r => if k = j then uminmax mn (.int k (if mn then (if b < a then b else a) else (if b > a then b else a))) r else none
 | _, _ => none
def tupDemote (env : GEnv) (x : Opd) (i : Nat) : GEnv :=
 match x with
 | .t n => match GEnv.get env n with
  | .tup us => match us[i]? with
   | some (.own e es) => (n, .tup (us.set i (.list false e es))) :: env
   | _ => env
  | _ => env
 | .c _ => env
def gappend (fl : Fl) (lo : Nat) (dst : Option Nat) (esz bytes : Nat) (s : Opd) (ys : List (List U)) (env : GEnv) (h : GH) : Option (U × GEnv × GH) :=
 match s.gev env with
 | .nils => if ys.length * bytes ≤ room then (if isIn fl.arrs dst = true ∧ ys = [] then some (.nils, env, h) else gfresh (isIn fl.arrs dst) esz ys env h) else none
 | .own e es => if e = esz ∧ (es.length + ys.length) * bytes ≤ room then some (.own e (es ++ ys), demote env s, h) else none
 | .list true e es => if e = esz ∧ (es.length + ys.length) * bytes ≤ room then some (.list false e (es ++ ys), env, h) else none
 | .asl cap o g off ln e =>
  if e ≠ esz then none else
  if ys = [] then some (.asl cap o g off ln e, env, h) else
  match cap with
  | some c =>
   match els h esz (.asl (some c) o g off ln e) with
   | some es => if c < ln + ys.length ∧ (ln + ys.length) * bytes ≤ room then some (.list false e (es ++ ys), env, h) else none
   | none => none
  | none =>
   if lo ≤ o then
    match h[o]? with
    | some (.arr es gen live) =>
     if g = gen ∧ off = 0 ∧ ln ≤ es.length ∧ (ln + ys.length) * bytes ≤ room then
      some (.asl none o (gen + 1) 0 (ln + ys.length) e, env, h.set o (.arr (es.take ln ++ ys) (gen + 1) (if ln = es.length then live else gen + 1)))
     else none
    | _ => none
   else none
 | _ => none
def IOp.gex (fl : Fl) (lo : Nat) (dst : Option Nat) (o : IOp) (env : GEnv) (h : GH) : Option (U × GEnv × GH) :=
 match o with
 | .mov x => if isIn fl.takes dst = true then some ((x.gev env).share, env, h) else some ((x.gev env).moved, demote env x, h)
 | .pick c a b =>
  match c.gev env with
  | .bool true => some ((a.gev env).share, env, h)
  | .bool false => some ((b.gev env).share, env, h)
  | _ => none
 | .box x =>
  match (x.gev env).mcells with
  | some cs => if cs.all U.one = true then some (.ptr h.length 0 0 0, demote env x, h ++ [.box cs]) else none
  | none => none
 | .build zero parts => (gfill (U.ofVs zero) env parts).map fun cs => (.agg cs, env, h)
 | .mkrow esz ln zero parts =>
  if zero.length = esz ∧ zero.all V.one = true then
   match gfillRow (List.replicate ln (U.ofVs zero)) esz env parts with
   | some es => gfresh (isIn fl.arrs dst) esz es env h
   | none => none
  else none
 | .load n agg a =>
  match gload h (a.gev env) n agg with
  | some (.own e es) =>
   if isIn fl.takes dst then (gtake lo h (a.gev env)).map fun h' => (.own e es, env, h')
   else some (.list false e es, env, h)
  | some u => some (u.share, env, h)
  | none => none
 | .store n a x => (gstore lo h (a.gev env) n (x.gev env) env x).map fun r => (.tup [], r.1, r.2)
 | .nilck x =>
  match x.gev env with
  | .ptr o g i s => some (.ptr o g i s, env, h)
  | .eptr cs s => some (.eptr cs s, env, h)
  | .fn f a c => match f with
   | .func _ => some (.fn f a c, env, h)
   | _ => none
  | _ => none
 | .bin op x y => (ubin op (x.gev env) (y.gev env)).map fun v => (v, env, h)
 | .eq kd neg x y => (U.eqk kd (x.gev env) (y.gev env)).map fun b => (.bool (if neg then !b else b), env, h)
 | .un op x => (uun op (x.gev env)).map fun v => (v, env, h)
 | .conv k x =>
  match x.gev env with
  | .int _ n => some (.int k (k.wrap n), env, h)
  | _ => none
 | .toBytes x =>
  match x.gev env with
  | .str s => if s.length ≤ room then gfresh (isIn fl.arrs dst) 1 (s.map fun n => [.int .u8 n]) env h else none
  | _ => none
 | .toStr x =>
  match x.gev env with
  | .str _ => none
  | v => match els h 1 v with
   | some es => (gbytesOf es).map fun s => (.str s, env, h)
   | none => none
 | .cvs x =>
  match x.gev env with
  | .own e es => if es.isEmpty then none else some (.own e es, demote env x, h)
  | .asl cap o g off ln e =>
   match h[o]? with
   | some (.arr _ _ live) => if 0 < ln ∧ live ≤ g then some (.asl cap o g off ln e, env, h) else none
   | _ => none
  | _ => none
 | .mkfn f a c => match f with
  | .func _ => some (.fn f (shares (gevs env a)) (shares (gevs env c)), env, h)
  | _ => none
 | .mkmap => some (.map h.length, env, h ++ [.map []])
 | .mkslice esz bytes zero ln cp =>
  match ln.gev env, cp.gev env with
  | .int .i64 l, .int .i64 c =>
   if 0 ≤ l ∧ l ≤ c ∧ c * bytes ≤ room ∧ zero.length = esz ∧ zero.all V.one = true then gfresh (isIn fl.arrs dst) esz (List.replicate l.toNat (U.ofVs zero)) env h else none
  | _, _ => none
 | .slice str esz x lo hi mx => (U.slice str esz (x.gev env) (lo.map (·.gev env)) (hi.map (·.gev env)) (mx.map (·.gev env))).map fun v => (v, env, h)
 | .faddr off x =>
  match x.gev env with
  | .ptr o g i s => some (.ptr o g i (s + off), env, h)
  | .eptr cs s => some (.eptr cs (s + off), env, h)
  | _ => none
 | .field off n agg x =>
  match x.gev env with
  | .agg cs => if off + n ≤ cs.length then (gof agg (cut cs off n)).map fun v => (v.share, env, h) else none
  | _ => none
 | .iaddr esz x i =>
  match x.gev env, i.gev env with
  | .list _ e es, .int _ n => if e = esz ∧ 0 ≤ n then (es[n.toNat]?).map fun cs => (.eptr cs 0, env, h) else none
  | .own e es, .int _ n => if e = esz ∧ 0 ≤ n then (es[n.toNat]?).map fun cs => (.eptr cs 0, env, h) else none
  | .asl _ o g off ln e, .int _ n => if e = esz ∧ 0 ≤ n ∧ n < ln then some (.ptr o g (off + n.toNat) 0, env, h) else none
  | _, _ => none
 | .iaddrA ln esz x i =>
  match x.gev env, i.gev env with
  | .ptr o g j s, .int _ n => if 0 ≤ n ∧ n < ln then some (.ptr o g j (s + n.toNat * esz), env, h) else none
  | .eptr cs s, .int _ n => if 0 ≤ n ∧ n < ln then some (.eptr cs (s + n.toNat * esz), env, h) else none
  | _, _ => none
 | .index x i =>
  match x.gev env, i.gev env with
  | .str s, .int _ n => if 0 ≤ n then (s[n.toNat]?).map fun b => (.int .u8 b, env, h) else none
  | _, _ => none
 | .indexA ln esz n agg x i =>
  match x.gev env, i.gev env with
  | .agg cs, .int _ j => if 0 ≤ j ∧ j < ln ∧ j.toNat * esz + n ≤ cs.length then (gof agg (cut cs (j.toNat * esz) n)).map fun v => (v.share, env, h) else none
  | _, _ => none
 | .lookup kd zero m k ok =>
  match m.gev env with
  | .nilm => if ukeyEq kd (k.gev env) (k.gev env) = some true then some (if ok then .tup [(U.ofV zero).share, .bool false] else (U.ofV zero).share, env, h) else none
  | .map o =>
   match h[o]? with
   | some (.map es) => (umapFind kd (k.gev env) es).map fun r => (if ok then .tup [(r.getD (U.ofV zero)).share, .bool r.isSome] else (r.getD (U.ofV zero)).share, env, h)
   | _ => none
  | _ => none
 | .mapset kd m k v =>
  match m.gev env with
  | .map o =>
   if lo ≤ o then
    match h[o]? with
    | some (.map es) => (umapPut kd (k.gev env) (v.gev env).share es).map fun es => (.tup [], env, h.set o (.map es))
    | _ => none
   else none
  | _ => none
 | .extract x i =>
  match x.gev env with
  | .tup us => (us[i]?).map fun v => (v.handed, tupDemote env x i, h)
  | _ => none
 | .len kd x =>
  match kd, x.gev env with
  | .sl, .nils => some (.int .i64 0, env, h)
  | .map, .nilm => some (.int .i64 0, env, h)
  | .sl, .list _ _ es => some (.int .i64 es.length, env, h)
  | .sl, .own _ es => some (.int .i64 es.length, env, h)
  | .sl, .asl _ _ _ _ ln _ => some (.int .i64 ln, env, h)
  | .str, .str s => some (.int .i64 s.length, env, h)
  | .map, .map o =>
   match h[o]? with
   | some (.map es) => if es.length ≤ 4611686018427387904 then some (.int .i64 es.length, env, h) else none
   | _ => none
  | _, _ => none
 | .append esz bytes s x =>
  match els h esz (x.gev env) with
  | some ys => gappend fl lo dst esz bytes s ys env h
  | none => none
 | .appendz esz bytes zero s n =>
  match n.gev env with
  | .int .i64 m => if 0 ≤ m ∧ m * bytes ≤ room ∧ zero.length = esz ∧ zero.all V.one = true then gappend fl lo dst esz bytes s (List.replicate m.toNat (U.ofVs zero)) env h else none
  | _ => none
 | .copy esz d s =>
  match s.gev env with
  | .str _ => none
  | x => match els h esz x with
   | some ys =>
    match d.gev env with
    | .nils => some (.int .i64 0, env, h)
    | .asl _ o g off ln e =>
     if e ≠ esz then none else
     if min ys.length ln = 0 then some (.int .i64 0, env, h) else
     if lo ≤ o then
      match h[o]? with
      | some (.arr es gen _) => if g = gen ∧ off + ln ≤ es.length then some (.int .i64 ((min ys.length ln : Nat) : Int), env, h.set o (.arr (lay es off (ys.take ln)) gen gen)) else none
      | _ => none
     else none
    | _ => none
   | none => none
 | .minmax mn xs =>
  match gevs env xs with
  | x :: r => (uminmax mn x r).map fun v => (v, env, h)
  | [] => none
 | .call .. | .callv .. => none
inductive Mode where
 | own | ro | rw
 deriving DecidableEq, Inhabited
structure GFn where
 mode : Mode
 fl : Fl
 fn : IFn
inductive GEnt where
 | code (g : GFn)
 | clone (esz bytes : Nat)
abbrev GTab := Nat → Option GEnt
abbrev GCallF := Nat → List U → GH → Nat → Option (U × GH)
mutual
def U.rf : U → Bool
 | .bool _ | .int _ _ | .str _ | .nilp | .nils | .nilm | .nilf => true
 | .list _ _ es => rfLL es
 | .agg cs => rfL cs
 | .fn _ a c => rfL a && rfL c
 | _ => false
def rfL : List U → Bool
 | [] => true
 | u :: r => u.rf && rfL r
def rfLL : List (List U) → Bool
 | [] => true
 | x :: r => rfL x && rfLL r
end
mutual
def U.snap (h : GH) : U → Option (U × Bool)
 | .bool b => some (.bool b, false)
 | .int k n => some (.int k n, false)
 | .str s => some (.str s, false)
 | .nilp => some (.nilp, false)
 | .nils => some (.nils, false)
 | .nilm => some (.nilm, false)
 | .nilf => some (.nilf, false)
 | .list _ e es => (snapLL h es).map fun r => (.list false e r.1, r.2)
 | .own e es => (snapLL h es).map fun r => (.list false e r.1, r.2)
 | .asl c o g off ln e =>
  match els h e (.asl c o g off ln e) with
  | some es => if rfLL es then some (.list false e es, true) else none
  | none => none
 | .agg cs => (snapL h cs).map fun r => (.agg r.1, r.2)
 | .fn f a c =>
  match snapL h a, snapL h c with
  | some x, some y => some (.fn f x.1 y.1, x.2 || y.2)
  | _, _ => none
 | _ => none
def snapL (h : GH) : List U → Option (List U × Bool)
 | [] => some ([], false)
 | u :: r =>
  match u.snap h, snapL h r with
  | some x, some y => some (x.1 :: y.1, x.2 || y.2)
  | _, _ => none
def snapLL (h : GH) : List (List U) → Option (List (List U) × Bool)
 | [] => some ([], false)
 | u :: r =>
  match snapL h u, snapLL h r with
  | some x, some y => some (x.1 :: y.1, x.2 || y.2)
  | _, _ => none
end
def U.scal : U → Bool
 | .bool _ | .int _ _ | .str _ | .nilp | .nils | .nilm | .nilf => true
 | _ => false
def scalL : List U → Bool
 | [] => true
 | u :: r => u.scal && scalL r
def scalLL : List (List U) → Bool
 | [] => true
 | u :: r => scalL u && scalLL r
def U.clean1 : U → Bool
 | .own _ es => scalLL es
 | .agg cs => scalL cs
 | u => u.scal
def cleanL : List U → Bool
 | [] => true
 | u :: r => u.clean1 && cleanL r
def U.clean : U → Bool
 | .tup us => cleanL us
 | u => u.clean1
def isOwn (T : GTab) (f : Nat) : Bool :=
 match T f with
 | some (.code g) => g.mode == .own
 | _ => false
def isRo (T : GTab) (f : Nat) : Bool :=
 match T f with
 | some (.code g) => !(g.mode == .rw)
 | some (.clone _ _) => true
 | _ => false
def gcall (T : GTab) (call : GCallF) (lo : Nat) (f : Nat) (us : List U) (h : GH) : Option (U × GH) :=
 match T f with
 | some (.code g) =>
  match g.mode with
  | .own =>
   match snapL h us with
   | some (vs, b) =>
    match call f vs [] 0 with
    | some (w, _) => if b = true ∧ w.clean = false then none else some (w, h)
    | none => none
   | none => none
  | .ro => call f (shares us) h (max lo h.length)
  | .rw => call f (shares us) h lo
 | some (.clone e b) =>
  match us with
  | [.str _] => none
  | [u] =>
   match els h e u with
   | some es => if es.length * b ≤ room then some (.own e es, h) else none
   | none => none
  | _ => none
 | none => none
def makes (T : GTab) (f : Nat) : Bool :=
 match T f with
 | some (.code g) => g.mode == .own
 | some (.clone _ _) => true
 | none => false
def thaw (T : GTab) (f : Nat) (arr : Bool) (r : U × GH) : U × GH :=
 if arr && makes T f then
  match r.1 with
  | .own e es => if es.isEmpty then r else if scalLL es then (.asl none r.2.length 0 0 es.length e, r.2 ++ [.arr es 0 0]) else r
  | _ => r
 else r
def IOp.grun (T : GTab) (call : GCallF) (fl : Fl) (lo : Nat) (dst : Option Nat) (o : IOp) (env : GEnv) (h : GH) : Option (U × GEnv × GH) :=
 match o with
 | .call f args => (gcall T call lo f (gevs env args) h).map fun r => ((thaw T f (isIn fl.arrs dst) r).1, env, (thaw T f (isIn fl.arrs dst) r).2)
 | .callv f args =>
  match f.gev env with
  | .fn (.func g) first captured => (gcall T call lo g (first ++ gevs env args ++ captured) h).map fun r => (r.1, env, r.2)
  | _ => none
 | o => o.gex fl lo dst env h
def gwanted (env : GEnv) : Option (Nat × Bool) → Bool
 | none => true
 | some (t, b) => match GEnv.get env t with
  | .bool c => c == b
  | _ => false
def gguardOk (env : GEnv) : Option (Nat × Bool) → Bool
 | none => true
 | some (t, _) => match GEnv.get env t with
  | .undef => false
  | _ => true
def gevReg (T : GTab) (call : GCallF) (fl : Fl) (lo : Nat) : List IOper → GEnv → GH → Option (GEnv × GH)
 | [], env, h => some (env, h)
 | o :: os, env, h =>
  match gguardOk env o.guard, gwanted env o.guard with
  | true, true =>
   match o.op.grun T call fl lo o.dst env h with
   | some (v, env, h) => gevReg T call fl lo os (GEnv.put env o.dst v) h
   | none => none
  | true, false => gevReg T call fl lo os (GEnv.put env o.dst (.tup [])) h
  | false, _ => none
structure Turn where
 q : Bool
 o : Option Nat
 v : Bool
 deriving Inhabited
def quiet (T : GTab) (o : IOp) : Bool :=
 match o with
 | .call f _ => isRo T f
 | _ => false
def turnAt (o : IOp) : Option (Bool × Opd) :=
 match o with
 | .store _ a _ => some (true, a)
 | .append _ _ s _ => some (false, s)
 | _ => none
def uobj : U → Option Nat
 | .ptr p _ _ _ => some p
 | _ => none
def isVal : U → Bool
 | .own _ _ => true
 | .list _ _ _ => true
 | .nils => true
 | _ => false
def mkTurn (s : Bool) (u : U) : Turn := if s then ⟨false, uobj u, false⟩ else match u with
 | .nils => ⟨true, none, true⟩
 | .asl (some _) _ _ _ _ _ => ⟨true, none, true⟩
 | u => ⟨false, none, isVal u⟩
def offB : Option Nat → Option Nat → Bool
 | some o, some p => !(o == p)
 | _, _ => false
def Turn.off (t : Turn) (r : Option Nat) : Bool := t.q || ((t.v && r.isSome) || offB t.o r)
def cOf (ds : List (Nat × Nat)) : Opd → Nat
 | .t n => match ds with
  | [] => 0
  | (k, c) :: r => if k = n then c else cOf r (.t n)
 | .c _ => 0
def IOp.since (ds : List (Nat × Nat)) (now : Nat) : IOp → Nat
 | .faddr _ x | .iaddr _ x _ | .iaddrA _ _ x _ | .mov x | .nilck x | .slice _ _ x _ _ _ => cOf ds x
 | _ => now
def IOp.where? : IOp → Option Opd
 | .load _ _ a => some a
 | .lookup _ _ m _ _ => some m
 | .toStr x => some x
 | .cvs x => some x
 | .len .map x => some x
 | _ => none
def readOf (o : IOp) (env : GEnv) : Option Nat :=
 match o with
 | .load _ _ a => match a.gev env with
  | .ptr p _ _ _ => some p
  | _ => none
 | _ => none
def onDst (ds : List (Nat × Nat)) (d : Option Nat) (c : Nat) : List (Nat × Nat) :=
 match d with
 | some d => (d, c) :: ds
 | none => ds
def again (ds : List (Nat × Nat)) (now : Nat) (o : IOp) (a b : Nat) : Bool :=
 (match o with
 | .cvs _ => true
 | o => match o.where? with
  | some x => decide (cOf ds x ≤ a)
  | none => true) && (decide (a ≤ now) && decide (now ≤ b))
def eread (o : IOp) (env : GEnv) : Bool :=
 match o with
 | .load _ _ a => match a.gev env with
  | .eptr _ _ => true
  | _ => false
 | _ => false
def gevRegD (T : GTab) (call : GCallF) (fl : Fl) (lo : Nat) : List IOper → GEnv → GH → List Turn → List (Nat × Nat) → List (Nat × Nat × Option Nat) → Option (GEnv × GH)
 | [], env, h, acts, ds, ps => if ps.all (fun p => (cut acts.reverse p.1 (p.2.1 - p.1)).all (fun t => t.off p.2.2)) then some (env, h) else none
 | o :: os, env, h, acts, ds, ps =>
  match gguardOk env o.guard, gwanted env o.guard with
  | true, true =>
   match o.op.grun T call fl lo o.dst env h with
   | some (v, env', h') =>
    match o.chk with
    | none =>
     match turnAt o.op with
     | none => gevRegD T call fl lo os (GEnv.put env' o.dst v) h' (if o.op.kind = .act then ⟨quiet T o.op, none, false⟩ :: acts else acts) (onDst ds o.dst (if o.op.kind = .act then acts.length + 1 else o.op.since ds acts.length)) ps
     | some (s, a) => gevRegD T call fl lo os (GEnv.put env' o.dst v) h' (mkTurn s (a.gev env) :: acts) (onDst ds o.dst (acts.length + 1)) ps
    | some (a, b) =>
     if o.op.kind = .read ∧ again ds acts.length o.op a b = true ∧ isIn fl.takes o.dst = false then gevRegD T call fl lo os (GEnv.put env' o.dst v) h' acts (onDst ds o.dst acts.length) (if eread o.op env = true then ps else (a, b, readOf o.op env) :: ps) else none
   | none => none
  | true, false =>
   gevRegD T call fl lo os (GEnv.put env o.dst (.tup [])) h (if o.op.kind = .act then ⟨true, none, false⟩ :: acts else acts) (onDst ds o.dst 0) ps
  | false, _ => none
abbrev GRes := Option (Ex × GEnv × GH)
def giter (f : GEnv → GH → GRes) : Nat → GEnv → GH → GRes
 | 0, _, _ => none
 | n + 1, env, h =>
  match f env h with
  | some (.norm, env, h) => giter f n env h
  | r => r
def gevC (T : GTab) (fl : Fl) (lo : Nat) (n : Nat) (call : GCallF) : IC → GEnv → GH → GRes
 | .skip, env, h => some (.norm, env, h)
 | .reg ops, env, h => match gevReg T call fl lo ops env h with
  | some (env, h) => some (.norm, env, h)
  | none => none
 | .regD _ ops, env, h => match gevRegD T call fl lo ops env h [] [] [] with
  | some (env, h) => some (.norm, env, h)
  | none => none
 | .seq a b, env, h =>
  match gevC T fl lo n call a env h with
  | some (.norm, env, h) => gevC T fl lo n call b env h
  | r => r
 | .cond c t e, env, h =>
  match c.gev env with
  | .bool true => gevC T fl lo n call t env h
  | .bool false => gevC T fl lo n call e env h
  | _ => none
 | .block id b, env, h =>
  match gevC T fl lo n call b env h with
  | some (.exit j, env, h) => if j = id then some (.norm, env, h) else some (.exit j, env, h)
  | r => r
 | .loop keep b, env, h => giter (fun env h => gevC T fl lo n call b (GEnv.keep env keep) h) n env h
 | .exit id, env, h => some (.exit id, env, h)
 | .ret, env, h => some (.ret, env, h)
def gres (env : GEnv) (h : GH) : List IRes → Option (List U)
 | [] => some []
 | .tmp t :: r => (gres (demote env (.t t)) h r).map ((GEnv.get env t).handed :: ·)
 | .cell a n agg :: r =>
  match gload h (GEnv.get env a) n agg, gres env h r with
  | some v, some vs => some (v.share :: vs)
  | _, _ => none
def gofRes : List U → U
 | [v] => v
 | vs => .tup vs
def U.outC (h : GH) : U → Option U
 | .asl c o g off ln e =>
  match els h e (.asl c o g off ln e) with
  | some es => if rfLL es then some (.list false e es) else none
  | none => none
 | u => if u.rf then some u else none
def outCs (h : GH) : List U → Option (List U)
 | [] => some []
 | u :: r => match u.outC h, outCs h r with
  | some v, some vs => some (v :: vs)
  | _, _ => none
def U.out (h : GH) : U → Option U
 | .own e es => if rfLL es then some (.own e es) else none
 | .asl c o g off ln e =>
  match els h e (.asl c o g off ln e) with
  | some es => if rfLL es then some (.list false e es) else none
  | none => none
 | .agg cs => if rfL cs then some (.agg cs) else (outCs h cs).map .agg
 | u => if u.rf then some u else none
def outs (h : GH) : List U → Option (List U)
 | [] => some []
 | u :: r => match u.out h, outs h r with
  | some v, some vs => some (v :: vs)
  | _, _ => none
def gfin (m : Mode) (us : List U) (h : GH) : Option (U × GH) :=
 match m with
 | .own => (outs h us).map fun vs => (gofRes vs, [])
 | _ => some (gofRes us, h)
def gevFn (T : GTab) (n : Nat) (call : GCallF) (g : GFn) (us : List U) (h : GH) (lo : Nat) : Option (U × GH) :=
 if us.length ≠ g.fn.params then none else
 match gevC T g.fl lo n call g.fn.body (genvOf 0 us) h with
 | some (.norm, env, h) | some (.ret, env, h) =>
  match gres env h g.fn.results with
  | some us => gfin g.mode us h
  | none => none
 | _ => none
def grunT (T : GTab) : Nat → GCallF
 | 0, _, _, _, _ => none
 | n + 1, f, us, h, lo =>
  match T f with
  | some (.code g) => gevFn T n (grunT T n) g us h lo
  | _ => none
end Go.Ab
