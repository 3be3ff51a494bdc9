/- What 'simp' may use in walks on the machine of values; slices of plain things. -/
import Derived.Test.YtpeafiomifmadaaValL
namespace Go.Ab
open Go
set_option linter.unusedVariables false
set_option linter.unusedSimpArgs false
theorem gevReg_nil {T : GTab} {call : GCallF} {fl : Fl} {lo : Nat} {env : GEnv} {h : GH} : gevReg T call fl lo [] env h = some (env, h) := by rw [gevReg]
theorem gevReg_cons {T : GTab} {call : GCallF} {fl : Fl} {lo : Nat} {o : IOper} {os : List IOper} {env : GEnv} {h : GH} : gevReg T call fl lo (o :: os) env h = (
  match gguardOk env o.guard, gwanted env o.guard with
  | true, true =>
   match o.op.grun T call fl lo o.dst env h with
   | some (v, env, h) => gevReg T call fl lo os (GEnv.put env o.dst v) h
   | none => none
  | true, false => gevReg T call fl lo os (GEnv.put env o.dst (.tup [])) h
  | false, _ => none) := by
 rw [gevReg]
 rfl
theorem gevRegD_nil {T : GTab} {call : GCallF} {fl : Fl} {lo : Nat} {env : GEnv} {h : GH} {acts : List Turn} {ds : List (Nat × Nat)} {ps : List (Nat × Nat × Option Nat)} : gevRegD T call fl lo [] env h acts ds ps = (if ps.all (fun p => (cut acts.reverse p.1 (p.2.1 - p.1)).all (fun t => t.off p.2.2)) then some (env, h) else none) := by rw [gevRegD]
theorem gevRegD_cons {T : GTab} {call : GCallF} {fl : Fl} {lo : Nat} {o : IOper} {os : List IOper} {env : GEnv} {h : GH} {acts : List Turn} {ds : List (Nat × Nat)} {ps : List (Nat × Nat × Option Nat)} : gevRegD T call fl lo (o :: os) env h acts ds ps = (
  match gguardOk env o.guard, gwanted env o.guard with
  | true, true =>
   match o.op.grun T call fl lo o.dst env h with
   | some (v, env', h') =>
    match o.chk with
    | none =>
     match turnAt o.op with
     | none => gevRegD T call fl lo os (GEnv.put env' o.dst v) h' (if o.op.kind = .act then ⟨quiet T o.op, none, false⟩ :: acts else acts) (onDst ds o.dst (if o.op.kind = .act then acts.length + 1 else o.op.since ds acts.length)) ps
     | some (s, a) => gevRegD T call fl lo os (GEnv.put env' o.dst v) h' (mkTurn s (a.gev env) :: acts) (onDst ds o.dst (acts.length + 1)) ps
    | some (a, b) =>
     if o.op.kind = .read ∧ again ds acts.length o.op a b = true ∧ isIn fl.takes o.dst = false then gevRegD T call fl lo os (GEnv.put env' o.dst v) h' acts (onDst ds o.dst acts.length) (if eread o.op env = true then ps else (a, b, readOf o.op env) :: ps) else none
   | none => none
  | true, false =>
   gevRegD T call fl lo os (GEnv.put env o.dst (.tup [])) h (if o.op.kind = .act then ⟨true, none, false⟩ :: acts else acts) (onDst ds o.dst 0) ps
  | false, _ => none) := by
 rw [gevRegD]
 rfl
def ownCall (call : GCallF) (lo f : Nat) (us : List U) (h : GH) : Option (U × GH) :=
 match snapL h us with
 | some (vs, b) =>
  match call f vs [] 0 with
  | some (w, _) => if b = true ∧ w.clean = false then none else some (w, h)
  | none => none
 | none => none
def roCall (call : GCallF) (lo f : Nat) (us : List U) (h : GH) : Option (U × GH) := call f (shares us) h (max lo h.length)
def rwCall (call : GCallF) (lo f : Nat) (us : List U) (h : GH) : Option (U × GH) := call f (shares us) h lo
def cloneCall (e b : Nat) (us : List U) (h : GH) : Option (U × GH) :=
 match us with
 | [.str _] => none
 | [u] =>
  match els h e u with
  | some es => if es.length * b ≤ room then some (.own e es, h) else none
  | none => none
 | _ => none
def un (k : IntKind) (l : List Nat) : List (List U) := l.map fun (n : Nat) => [.int k (n : Int)]
def ui (k : IntKind) (l : List Int) : List (List U) := l.map fun n => [.int k n]
def ub (l : List Bool) : List (List U) := l.map fun b => [.bool b]
theorem un_length (k : IntKind) (l : List Nat) : (un k l).length = l.length := by simp [un]
theorem un_nil {k : IntKind} : un k [] = [] := rfl
theorem un_cons {k : IntKind} {n : Nat} {l : List Nat} : un k (n :: l) = [.int k (n : Int)] :: un k l := rfl
theorem un_append {k : IntKind} {a b : List Nat} : un k a ++ un k b = un k (a ++ b) := by simp [un]
theorem un_get {k : IntKind} {l : List Nat} {i n : Nat} (h : l[i]? = some n) : (un k l)[i]? = some [.int k (n : Int)] := by simp [un, h]
theorem un_drop {k : IntKind} {l : List Nat} {n : Nat} : (un k l).drop n = un k (l.drop n) := by simp [un]
theorem un_take {k : IntKind} {l : List Nat} {n : Nat} : (un k l).take n = un k (l.take n) := by simp [un]
theorem un_snoc {k : IntKind} {a : List Nat} {n : Nat} : un k a ++ [[.int k (n : Int)]] = un k (a ++ [n]) := by simp [un]
theorem cut_un {k : IntKind} {l : List Nat} {a n : Nat} : cut (un k l) a n = un k (cut l a n) := by simp [cut, un_drop, un_take]
theorem ub_length (l : List Bool) : (ub l).length = l.length := by simp [ub]
theorem ub_append {a b : List Bool} : ub a ++ ub b = ub (a ++ b) := by simp [ub]
theorem ub_get {l : List Bool} {i : Nat} {b : Bool} (h : l[i]? = some b) : (ub l)[i]? = some [.bool b] := by simp [ub, h]
theorem ui_length (k : IntKind) (l : List Int) : (ui k l).length = l.length := by simp [ui]
theorem ui_get {k : IntKind} {l : List Int} {i : Nat} {n : Int} (h : l[i]? = some n) : (ui k l)[i]? = some [.int k n] := by simp [ui, h]
theorem snapLL_map {β : Type} {h : GH} {f : β → List U} (hf : ∀ x, snapL h (f x) = some (f x, false)) : ∀ (l : List β), snapLL h (l.map f) = some (l.map f, false)
 | [] => rfl
 | x :: l => by simp only [List.map_cons, snapLL, hf, snapLL_map hf l, Bool.or_self]
theorem snapLL_un {h : GH} {k : IntKind} {l : List Nat} : snapLL h (un k l) = some (un k l, false) := snapLL_map (fun x => by simp [snapL, U.snap]) l
theorem snapLL_ub {h : GH} {l : List Bool} : snapLL h (ub l) = some (ub l, false) := snapLL_map (fun x => by simp [snapL, U.snap]) l
theorem snapLL_ui {h : GH} {k : IntKind} {l : List Int} : snapLL h (ui k l) = some (ui k l, false) := snapLL_map (fun x => by simp [snapL, U.snap]) l
theorem rfLL_map {β : Type} {f : β → List U} (hf : ∀ x, rfL (f x) = true) : ∀ (l : List β), rfLL (l.map f) = true
 | [] => rfl
 | x :: l => by simp only [List.map_cons, rfLL, hf, rfLL_map hf l, Bool.and_self]
theorem rfLL_un {k : IntKind} {l : List Nat} : rfLL (un k l) = true := rfLL_map (fun x => by simp [rfL, U.rf]) l
theorem rfLL_ub {l : List Bool} : rfLL (ub l) = true := rfLL_map (fun x => by simp [rfL, U.rf]) l
theorem rfLL_ui {k : IntKind} {l : List Int} : rfLL (ui k l) = true := rfLL_map (fun x => by simp [rfL, U.rf]) l
theorem scalLL_map {β : Type} {f : β → List U} (hf : ∀ x, scalL (f x) = true) : ∀ (l : List β), scalLL (l.map f) = true
 | [] => rfl
 | x :: l => by simp only [List.map_cons, scalLL, hf, scalLL_map hf l, Bool.and_self]
theorem scalLL_un {k : IntKind} {l : List Nat} : scalLL (un k l) = true := scalLL_map (fun x => by simp [scalL, U.scal]) l
theorem scalLL_ub {l : List Bool} : scalLL (ub l) = true := scalLL_map (fun x => by simp [scalL, U.scal]) l
theorem gbytesOf_un : ∀ (l : List Nat), gbytesOf (un .u8 l) = some (l.map fun (n : Nat) => (n : Int))
 | [] => rfl
 | n :: l => by rw [un_cons]; simp only [gbytesOf, gbyte, gbytesOf_un l, List.map_cons]
theorem gnum : True := trivial
def cloneIr (e b : Nat) (zero : List V) : IFn :=
 { params := 1, results := [.tmp 2], body :=
 (.seq (.reg [⟨some 2, .mov (.c .nils), none, none⟩])
 (.seq (.seq (.reg [⟨some 3, .mov (.t 0), none, none⟩,
   ⟨some 4, .eq .slice false (.t 3) (.c .nils), none, none⟩])
 (.cond (.t 4)
 (.seq (.reg [⟨some 2, .mov (.c .nils), none, none⟩])
  (.ret))
 (.skip)))
 (.seq (.reg [⟨some 5, .mkrow e 0 zero [], none, none⟩,
   ⟨some 6, .mov (.t 0), none, none⟩,
   ⟨some 7, .append e b (.t 5) (.t 6), none, none⟩,
   ⟨some 2, .mov (.t 7), none, none⟩])
 (.ret)))) }
theorem cloneOk {T : Tab} {f : Nat} {i : IFn} (hf : T f = some i) (e b : Nat) {zero : List V} (hz : zero.length = e ∧ zero.all V.one = true) (hi : i = cloneIr e b zero) {st : St} {x : V} {es : List (List V)} (low : st.Low) (hs : Slc st e x es) (hr : es.length * b ≤ room) :
  ∃ x' st', F T f [x] st = some (x', st') ∧ Own st' st.next e x' es ∧ Up st.next st st' := by
 subst hi
 have pu : Up st.next st (st.push (.row [] 0 0 false)) := .push _ (Nat.le_refl _)
 have hrow : st.next ≤ (st.push (.row [] 0 0 false)).next := by rw [St.next_push]; omega
 obtain ⟨x2, st2, e1, e2, e3⟩ := (Own.new (st := st) [] (esz := e) (Nat.le_refl _)).append (bytes := b) (ys := es) hrow (by simpa using hr)
 have hel := (hs.up low pu).elems
 rw [List.nil_append] at e2
 simp only [List.length_nil] at e1
 refine F_fnR hf rfl ?_
 unfold cloneIr
 simp only [envOf]
 refine X_seq (X_reg (by simp only [evReg,zi,zg,zn,guardOk,wantedI,IOp.run,IOp.ex,Opd.ev,evs,Env.get,Env.put,Env.keep,V.bin,V.un,intOp,shiftOp,fillRow,fillCells,cellsOf,V.one,optInt,bytesOfRow,byteOfCells,ofRes,strOp,List.map_cons,List.map_nil,List.getElem?_cons_zero,List.getElem?_cons_succ,Option.map_some,Option.map_none,reduceIte,reduceCtorEq,if_true,if_false,Nat.reduceEqDiff,Nat.reduceLT,Nat.reduceAdd,Nat.reduceLeDiff,Nat.reduceMul,Int.reduceToNat,Int.reduceLT,Int.reduceLE,Int.reduceEq,Int.reduceNe,Int.reduceBEq,Int.reduceBNe,decide_true,decide_false,List.replicate,List.set_cons_zero,List.set_cons_succ,List.length_cons,List.length_nil,List.all_cons,List.all_nil,Bool.and_true,Bool.true_and,Bool.and_self,and_self,and_true,true_and,Nat.zero_lt_succ,Nat.lt_add_one,beq_self_eq_true,beq_ft,beq_tf,Bool.not_true,Bool.not_false]; rfl) (thn_norm (X_seq (X_seq ?_))))
 have hz' : (zero.length = e) = True := eq_true hz.1
 have hz2 : (zero.all V.one = true) = True := eq_true hz.2
 cases hs with
 | nil =>
  refine X_reg (by simp only [evReg,zi,zg,zn,guardOk,wantedI,IOp.run,IOp.ex,Opd.ev,evs,Env.get,Env.put,Env.keep,V.bin,V.un,intOp,shiftOp,fillRow,fillCells,cellsOf,V.one,optInt,bytesOfRow,byteOfCells,ofRes,strOp,List.map_cons,List.map_nil,List.getElem?_cons_zero,List.getElem?_cons_succ,Option.map_some,Option.map_none,reduceIte,reduceCtorEq,if_true,if_false,Nat.reduceEqDiff,Nat.reduceLT,Nat.reduceAdd,Nat.reduceLeDiff,Nat.reduceMul,Int.reduceToNat,Int.reduceLT,Int.reduceLE,Int.reduceEq,Int.reduceNe,Int.reduceBEq,Int.reduceBNe,decide_true,decide_false,List.replicate,List.set_cons_zero,List.set_cons_succ,List.length_cons,List.length_nil,List.all_cons,List.all_nil,Bool.and_true,Bool.true_and,Bool.and_self,and_self,and_true,true_and,Nat.zero_lt_succ,Nat.lt_add_one,beq_self_eq_true,beq_ft,beq_tf,Bool.not_true,Bool.not_false, V.eqk, Bool.false_eq_true]; rfl) (thn_norm ?_)
  refine X_true (by simp only [evReg,zi,zg,zn,guardOk,wantedI,IOp.run,IOp.ex,Opd.ev,evs,Env.get,Env.put,Env.keep,V.bin,V.un,intOp,shiftOp,fillRow,fillCells,cellsOf,V.one,optInt,bytesOfRow,byteOfCells,ofRes,strOp,List.map_cons,List.map_nil,List.getElem?_cons_zero,List.getElem?_cons_succ,Option.map_some,Option.map_none,reduceIte,reduceCtorEq,if_true,if_false,Nat.reduceEqDiff,Nat.reduceLT,Nat.reduceAdd,Nat.reduceLeDiff,Nat.reduceMul,Int.reduceToNat,Int.reduceLT,Int.reduceLE,Int.reduceEq,Int.reduceNe,Int.reduceBEq,Int.reduceBNe,decide_true,decide_false,List.replicate,List.set_cons_zero,List.set_cons_succ,List.length_cons,List.length_nil,List.all_cons,List.all_nil,Bool.and_true,Bool.true_and,Bool.and_self,and_self,and_true,true_and,Nat.zero_lt_succ,Nat.lt_add_one,beq_self_eq_true,beq_ft,beq_tf,Bool.not_true,Bool.not_false]) (X_seq (X_reg (by simp only [evReg,zi,zg,zn,guardOk,wantedI,IOp.run,IOp.ex,Opd.ev,evs,Env.get,Env.put,Env.keep,V.bin,V.un,intOp,shiftOp,fillRow,fillCells,cellsOf,V.one,optInt,bytesOfRow,byteOfCells,ofRes,strOp,List.map_cons,List.map_nil,List.getElem?_cons_zero,List.getElem?_cons_succ,Option.map_some,Option.map_none,reduceIte,reduceCtorEq,if_true,if_false,Nat.reduceEqDiff,Nat.reduceLT,Nat.reduceAdd,Nat.reduceLeDiff,Nat.reduceMul,Int.reduceToNat,Int.reduceLT,Int.reduceLE,Int.reduceEq,Int.reduceNe,Int.reduceBEq,Int.reduceBNe,decide_true,decide_false,List.replicate,List.set_cons_zero,List.set_cons_succ,List.length_cons,List.length_nil,List.all_cons,List.all_nil,Bool.and_true,Bool.true_and,Bool.and_self,and_self,and_true,true_and,Nat.zero_lt_succ,Nat.lt_add_one,beq_self_eq_true,beq_ft,beq_tf,Bool.not_true,Bool.not_false]; rfl) (thn_norm (X_ret ⟨.inr rfl, _, rfl, .nil, .refl (Nat.le_refl _)⟩))))
 | row h h2 h3 h4 =>
  refine X_reg (by simp only [evReg,zi,zg,zn,guardOk,wantedI,IOp.run,IOp.ex,Opd.ev,evs,Env.get,Env.put,Env.keep,V.bin,V.un,intOp,shiftOp,fillRow,fillCells,cellsOf,V.one,optInt,bytesOfRow,byteOfCells,ofRes,strOp,List.map_cons,List.map_nil,List.getElem?_cons_zero,List.getElem?_cons_succ,Option.map_some,Option.map_none,reduceIte,reduceCtorEq,if_true,if_false,Nat.reduceEqDiff,Nat.reduceLT,Nat.reduceAdd,Nat.reduceLeDiff,Nat.reduceMul,Int.reduceToNat,Int.reduceLT,Int.reduceLE,Int.reduceEq,Int.reduceNe,Int.reduceBEq,Int.reduceBNe,decide_true,decide_false,List.replicate,List.set_cons_zero,List.set_cons_succ,List.length_cons,List.length_nil,List.all_cons,List.all_nil,Bool.and_true,Bool.true_and,Bool.and_self,and_self,and_true,true_and,Nat.zero_lt_succ,Nat.lt_add_one,beq_self_eq_true,beq_ft,beq_tf,Bool.not_true,Bool.not_false, V.eqk, Bool.false_eq_true]; rfl) (thn_norm ?_)
  refine X_false (by simp only [evReg,zi,zg,zn,guardOk,wantedI,IOp.run,IOp.ex,Opd.ev,evs,Env.get,Env.put,Env.keep,V.bin,V.un,intOp,shiftOp,fillRow,fillCells,cellsOf,V.one,optInt,bytesOfRow,byteOfCells,ofRes,strOp,List.map_cons,List.map_nil,List.getElem?_cons_zero,List.getElem?_cons_succ,Option.map_some,Option.map_none,reduceIte,reduceCtorEq,if_true,if_false,Nat.reduceEqDiff,Nat.reduceLT,Nat.reduceAdd,Nat.reduceLeDiff,Nat.reduceMul,Int.reduceToNat,Int.reduceLT,Int.reduceLE,Int.reduceEq,Int.reduceNe,Int.reduceBEq,Int.reduceBNe,decide_true,decide_false,List.replicate,List.set_cons_zero,List.set_cons_succ,List.length_cons,List.length_nil,List.all_cons,List.all_nil,Bool.and_true,Bool.true_and,Bool.and_self,and_self,and_true,true_and,Nat.zero_lt_succ,Nat.lt_add_one,beq_self_eq_true,beq_ft,beq_tf,Bool.not_true,Bool.not_false]) (X_skip (thn_norm (X_seq ?_)))
  refine X_reg (by simp only [evReg,zi,zg,zn,guardOk,wantedI,IOp.run,IOp.ex,Opd.ev,evs,Env.get,Env.put,Env.keep,V.bin,V.un,intOp,shiftOp,fillRow,fillCells,cellsOf,V.one,optInt,bytesOfRow,byteOfCells,ofRes,strOp,List.map_cons,List.map_nil,List.getElem?_cons_zero,List.getElem?_cons_succ,Option.map_some,Option.map_none,reduceIte,reduceCtorEq,if_true,if_false,Nat.reduceEqDiff,Nat.reduceLT,Nat.reduceAdd,Nat.reduceLeDiff,Nat.reduceMul,Int.reduceToNat,Int.reduceLT,Int.reduceLE,Int.reduceEq,Int.reduceNe,Int.reduceBEq,Int.reduceBNe,decide_true,decide_false,List.replicate,List.set_cons_zero,List.set_cons_succ,List.length_cons,List.length_nil,List.all_cons,List.all_nil,Bool.and_true,Bool.true_and,Bool.and_self,and_self,and_true,true_and,Nat.zero_lt_succ,Nat.lt_add_one,beq_self_eq_true,beq_ft,beq_tf,Bool.not_true,Bool.not_false, hz', hz2, hel, e1]; rfl) (thn_norm (X_ret ⟨.inr rfl, _, rfl, e2, pu.trans e3⟩))
theorem RV_nums {st : St} {X : Nat → Prop} {α : List Ad} (hX : ∀ o, ¬ X o) {k : IntKind} {x : V} {l : List Nat} (h : Slc st 1 x (nums k l)) : RV st X α (.list false 1 (un k l)) x := by
 have hr : L2 (L2 (RV st X α)) (un k l) (nums k l) := L2.map (f := fun (n : Nat) => [U.int k (n : Int)]) (g := fun (n : Nat) => [V.int k (n : Int)]) (fun n => ⟨by simp only [RV], trivial⟩) l
 simp only [RV]
 generalize nums k l = es at h hr
 cases h with
 | nil => exact .inl ⟨by trivial, RLL_iff.2 hr⟩
 | row h1 h2 h3 h4 => exact .inr ⟨_, _, _, _, _, _, _, _, _, rfl, hX _, h1, h2, h3, by rw [h4]; exact RLL_iff.2 hr, fun e => by cases e⟩
inductive Arg (st : St) : U → V → Prop where
 | int (k : IntKind) (n : Int) : Arg st (.int k n) (.int k n)
 | bool (b : Bool) : Arg st (.bool b) (.bool b)
 | nums {k : IntKind} {x : V} {l : List Nat} (h : Slc st 1 x (Ab.nums k l)) : Arg st (.list false 1 (un k l)) x
theorem Arg.rv {st : St} {u : U} {v : V} (h : Arg st u v) : RV st (fun _ => False) [] u v := by
 cases h with
 | int k n => simp only [RV]
 | bool b => simp only [RV]
 | nums h => exact RV_nums (fun _ h => h) h
theorem Arg.no {st : St} {u : U} {v : V} (h : Arg st u v) : u.noOwn := by
 cases h <;> exact ⟨fun _ _ h => (by cases h), fun _ _ _ _ h => (by cases h)⟩
theorem law_args {T : GTab} {Tb : Tab} (hTb : TabSim T Tb) (hCl : CloneOk T Tb) {f : Nat} {us : List U} (e : GF T f us [] 0 = some (.bool true, [])) {st : St} {vs : List V} (low : st.Low) (h : L2 (Arg st) us vs) : ∃ st', F Tb f vs st = some (.bool true, st') := by
 refine law_F hTb hCl e low (h.mono fun u v h => h.rv) fun u hu => ?_
 obtain ⟨i, hi⟩ := List.mem_iff_getElem?.1 hu
 obtain ⟨v, _, hv⟩ := h.get hi
 exact hv.no
end Go.Ab
