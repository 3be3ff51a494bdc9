/- Bent and late histories on the machine of values. -/
import Derived.Test.YtdhoihialekgmaaHistU
import Derived.Test.YtdhoihialekgmaaValN
namespace Go.Ab
open Go
set_option linter.unusedVariables false
set_option linter.unusedSimpArgs false
set_option maxRecDepth 10000

/-- A join behind what stands first. -/
theorem Zj0 {T : GTab} {fl : Fl} {lo : Nat} {env : GEnv} {h : GH} {Q : GEnv → GH → Prop} {ic : IC} {ks' : List K} (P : GEnv → GH → Prop) (k1 : Z T fl lo (.c ic :: .again P :: ks') env h Q) (k2 : ∀ env h, P env h → Z T fl lo ks' env h Q) : Z T fl lo (.c ic :: ks') env h Q := by
  unfold Z at k1 k2 ⊢
  simp only [post] at k1 ⊢
  refine k1.mono fun e env' h' m => ?_
  cases e with
  | norm => exact k2 _ _ m
  | exit j => exact m
  | ret => exact m

theorem uvs_set {l : List Ev} {i : Nat} {t a b : Int} {x : Bool} : (uvs l).set i [.int .i64 t, .int .u32 a, .int .u32 b, .bool x] = uvs (l.set i (t, a, b, x)) := by simp [uvs, List.map_set]
theorem u32_range (v : Int) : 0 ≤ IntKind.u32.wrap v ∧ IntKind.u32.wrap v ≤ 4294967295 := by rw [IntKind.wrap_u32]; omega
theorem evOk_set {l : List Ev} {i : Nat} {e : Ev} (h : EvOk l) (he : (0 ≤ e.2.1 ∧ e.2.1 ≤ 4294967295) ∧ (0 ≤ e.2.2.1 ∧ e.2.2.1 ≤ 4294967295)) : EvOk (l.set i e) := fun d hd => by
  rcases List.mem_or_eq_of_mem_set hd with h1 | rfl
  · exact h d h1
  · exact he

set_option maxHeartbeats 2000000 in
theorem bent_R {N v : Int} {w : U} {evs : List Ev} {what at' : Nat} (hw : isVa w evs) (hl : evs.length ≤ 200) (hok : EvOk evs) (hat : at' < 256) : ∃ (N' : Int) (w' : U) (evs' : List Ev), GF gtab fid_archipelagoseat_Bent [.agg [.int .u64 N, w], .int .u8 what, .int .u8 at', .int .i64 v] [] 0 = some (.agg [.int .u64 N', w'], []) ∧ isVa w' evs' ∧ EvOk evs' ∧ evs'.length ≤ evs.length := by
  have key : ∃ u h', GF gtab fid_archipelagoseat_Bent [.agg [.int .u64 N, w], .int .u8 what, .int .u8 at', .int .i64 v] [] 0 = some (u, h') ∧ ∃ (N' : Int) (w' : U) (evs' : List Ev), u = .agg [.int .u64 N', w'] ∧ h' = [] ∧ isVa w' evs' ∧ EvOk evs' ∧ evs'.length ≤ evs.length := by
    refine fnR_archipelagoseat_Bent rfl ?_
    simp only [genvOf]
    have r0 : (0 ≤ room) = True := eq_true (by unfold room; omega)
    have none0 : ∀ (W : U), (W = .nils ∨ W = .list false 4 (uvs [])) → evs = [] → Z gtab ⟨[], [14]⟩ 0 [.c ir_archipelagoseat_Bent.body] [(0, .agg [.int .u64 N, W]), (1, .int .u8 what), (2, .int .u8 at'), (3, .int .i64 v)] [] fun env h1 => ∃ vs, gres env h1 [.cell 8 2 true] = some vs ∧ ∃ w h', gfin .own vs h1 = some (w, h') ∧ ∃ (N' : Int) (w' : U) (evs' : List Ev), w = .agg [.int .u64 N', w'] ∧ h' = [] ∧ isVa w' evs' ∧ EvOk evs' ∧ evs'.length ≤ evs.length := by
      intro W hW h0
      have un0 : uvs [] = [] := rfl
      rcases hW with rfl | rfl
      all_goals
        refine Zr rfl (by simp (maxSteps := 2000000) only [gs,List.replicate,reduceIte,reduceCtorEq,Nat.reduceEqDiff,Nat.reduceLT,Nat.reduceAdd,Nat.reduceSub,Nat.reduceLeDiff,Nat.reduceMul,Int.reduceToNat,Int.reduceLT,Int.reduceLE,Int.reduceEq,Int.reduceNe,Int.reduceBEq,Int.reduceBNe,Int.reduceAdd,Int.reduceSub,Int.reduceNeg]; rfl) ?_
        refine Zr rfl (by simp (maxSteps := 2000000) only [gs,List.replicate,reduceIte,reduceCtorEq,Nat.reduceEqDiff,Nat.reduceLT,Nat.reduceAdd,Nat.reduceSub,Nat.reduceLeDiff,Nat.reduceMul,Int.reduceToNat,Int.reduceLT,Int.reduceLE,Int.reduceEq,Int.reduceNe,Int.reduceBEq,Int.reduceBNe,Int.reduceAdd,Int.reduceSub,Int.reduceNeg, un0, List.length_nil, r0, Nat.zero_mul]; rfl) ?_
        refine Zr rfl (by simp (maxSteps := 2000000) only [gs,List.replicate,reduceIte,reduceCtorEq,Nat.reduceEqDiff,Nat.reduceLT,Nat.reduceAdd,Nat.reduceSub,Nat.reduceLeDiff,Nat.reduceMul,Int.reduceToNat,Int.reduceLT,Int.reduceLE,Int.reduceEq,Int.reduceNe,Int.reduceBEq,Int.reduceBNe,Int.reduceAdd,Int.reduceSub,Int.reduceNeg]; rfl) ?_
        refine Zr rfl (by simp (maxSteps := 2000000) only [gs,List.replicate,reduceIte,reduceCtorEq,Nat.reduceEqDiff,Nat.reduceLT,Nat.reduceAdd,Nat.reduceSub,Nat.reduceLeDiff,Nat.reduceMul,Int.reduceToNat,Int.reduceLT,Int.reduceLE,Int.reduceEq,Int.reduceNe,Int.reduceBEq,Int.reduceBNe,Int.reduceAdd,Int.reduceSub,Int.reduceNeg]; rfl) (Zc rfl rfl (fun _ => ?_) (fun h => by cases h))
        refine Zr rfl (by simp (maxSteps := 2000000) only [gs,List.replicate,reduceIte,reduceCtorEq,Nat.reduceEqDiff,Nat.reduceLT,Nat.reduceAdd,Nat.reduceSub,Nat.reduceLeDiff,Nat.reduceMul,Int.reduceToNat,Int.reduceLT,Int.reduceLE,Int.reduceEq,Int.reduceNe,Int.reduceBEq,Int.reduceBNe,Int.reduceAdd,Int.reduceSub,Int.reduceNeg]; rfl) ?_
        refine Zr rfl (by simp (maxSteps := 2000000) only [gs,List.replicate,reduceIte,reduceCtorEq,Nat.reduceEqDiff,Nat.reduceLT,Nat.reduceAdd,Nat.reduceSub,Nat.reduceLeDiff,Nat.reduceMul,Int.reduceToNat,Int.reduceLT,Int.reduceLE,Int.reduceEq,Int.reduceNe,Int.reduceBEq,Int.reduceBNe,Int.reduceAdd,Int.reduceSub,Int.reduceNeg]; rfl) (Zq rfl ⟨_, (by simp only [gres, gload, GEnv.get, if_true, if_false, Nat.reduceEqDiff, List.getElem?_cons_zero, List.getElem?_cons_succ, gof, cut, shares, U.share, U.handed, lay]; rfl), _, _, rfl, _, .nils, [], rfl, rfl, .inr ⟨rfl, rfl⟩, fun e he => absurd he (by simp), by simp⟩)
    rcases hw with rfl | ⟨rfl, rfl⟩
    case inr => exact none0 _ (.inl rfl) rfl
    by_cases h0 : evs = []
    · subst h0; exact none0 _ (.inr rfl) rfl
    clear none0
    have hpos : 0 < evs.length := List.length_pos_iff.2 h0
    have hne : (uvs evs = []) = False := eq_false (by cases evs with
      | nil => exact absurd rfl h0
      | cons x l => simp [uvs])
    have hr : (evs.length * 24 ≤ room) = True := eq_true (by unfold room; omega)
    have f0 : ((evs.length : Int) == 0) = false := beq_eq_false_iff_ne.2 (by omega)
    have wa : IntKind.i64.wrap ((at' : Nat) : Int) = (at' : Int) := wrap_i64_nat (by omega)
    have fz : ((evs.length : Int) = 0) = False := eq_false (by omega)
    have ma : ((at' : Nat) : Int).tmod ((evs.length : Nat) : Int) = ((at' % evs.length : Nat) : Int) := rfl
    have him := Nat.mod_lt at' hpos
    refine Zr rfl (by simp (maxSteps := 2000000) only [gs,List.replicate,reduceIte,reduceCtorEq,Nat.reduceEqDiff,Nat.reduceLT,Nat.reduceAdd,Nat.reduceSub,Nat.reduceLeDiff,Nat.reduceMul,Int.reduceToNat,Int.reduceLT,Int.reduceLE,Int.reduceEq,Int.reduceNe,Int.reduceBEq,Int.reduceBNe,Int.reduceAdd,Int.reduceSub,Int.reduceNeg]; rfl) ?_
    refine Zr rfl (by simp (maxSteps := 2000000) only [gs,List.replicate,reduceIte,reduceCtorEq,Nat.reduceEqDiff,Nat.reduceLT,Nat.reduceAdd,Nat.reduceSub,Nat.reduceLeDiff,Nat.reduceMul,Int.reduceToNat,Int.reduceLT,Int.reduceLE,Int.reduceEq,Int.reduceNe,Int.reduceBEq,Int.reduceBNe,Int.reduceAdd,Int.reduceSub,Int.reduceNeg, uvs_length, hne, hr]; rfl) ?_
    refine Zr rfl (by simp (maxSteps := 2000000) only [gs,List.replicate,reduceIte,reduceCtorEq,Nat.reduceEqDiff,Nat.reduceLT,Nat.reduceAdd,Nat.reduceSub,Nat.reduceLeDiff,Nat.reduceMul,Int.reduceToNat,Int.reduceLT,Int.reduceLE,Int.reduceEq,Int.reduceNe,Int.reduceBEq,Int.reduceBNe,Int.reduceAdd,Int.reduceSub,Int.reduceNeg]; rfl) ?_
    refine Zr rfl (by simp (maxSteps := 2000000) only [gs,List.replicate,reduceIte,reduceCtorEq,Nat.reduceEqDiff,Nat.reduceLT,Nat.reduceAdd,Nat.reduceSub,Nat.reduceLeDiff,Nat.reduceMul,Int.reduceToNat,Int.reduceLT,Int.reduceLE,Int.reduceEq,Int.reduceNe,Int.reduceBEq,Int.reduceBNe,Int.reduceAdd,Int.reduceSub,Int.reduceNeg, uvs_length, f0]; rfl) (Zc rfl rfl (fun h => by cases h) (fun _ => ?_))
    refine Zr rfl (by simp (maxSteps := 2000000) only [gs,List.replicate,reduceIte,reduceCtorEq,Nat.reduceEqDiff,Nat.reduceLT,Nat.reduceAdd,Nat.reduceSub,Nat.reduceLeDiff,Nat.reduceMul,Int.reduceToNat,Int.reduceLT,Int.reduceLE,Int.reduceEq,Int.reduceNe,Int.reduceBEq,Int.reduceBNe,Int.reduceAdd,Int.reduceSub,Int.reduceNeg, wa, fz, ma]; rfl) ?_
    generalize at' % evs.length = i at him
    have gx : evs[i]? = some (evs[i]'him) := List.getElem?_eq_getElem _
    have gz : evs[0]? = some (evs[0]'hpos) := List.getElem?_eq_getElem _
    have ho := hok _ (List.mem_of_getElem? gx)
    have hz := hok _ (List.mem_of_getElem? gz)
    generalize evs[i]'him = e at gx ho
    generalize evs[0]'hpos = d at gz hz
    have n0 : ((0 : Int) ≤ (i : Int)) = True := eq_true (by omega)
    have n1 : ((i : Int) < (evs.length : Int)) = True := eq_true (by omega)
    have n2 : ((0 : Int) < (evs.length : Int)) = True := eq_true (by omega)
    have m8 : ((what : Nat) : Int).tmod 8 = ((what % 8 : Nat) : Int) := rfl
    refine Zr rfl (by simp (maxSteps := 2000000) only [gs,List.replicate,reduceIte,reduceCtorEq,Nat.reduceEqDiff,Nat.reduceLT,Nat.reduceAdd,Nat.reduceSub,Nat.reduceLeDiff,Nat.reduceMul,Int.reduceToNat,Int.reduceLT,Int.reduceLE,Int.reduceEq,Int.reduceNe,Int.reduceBEq,Int.reduceBNe,Int.reduceAdd,Int.reduceSub,Int.reduceNeg, m8]; rfl) ?_
    generalize what % 8 = q
    refine Zj0 (fun env h => ∃ (N' : Int) (B : List Ev) (g lv ln : Nat) (b1 : GObj), h = [.box [.int .u64 N, .list false 4 (uvs evs)], .box [.int .u64 0, .nils], .arr (uvs B) g lv, .box [.int .u64 N', .asl none 2 g 0 ln 4]] ∧ lv ≤ g ∧ ln ≤ B.length ∧ ln ≤ evs.length ∧ EvOk B ∧ GEnv.get env 8 = .ptr 1 0 0 0 ∧ GEnv.get env 10 = .ptr 3 0 0 0) ?_ ?_
    · have fe : ∀ k : Nat, q = k → (((q : Nat) : Int) == (k : Int)) = true := fun k h => by rw [h]; simp
      have fn : ∀ k : Nat, q ≠ k → (((q : Nat) : Int) == (k : Int)) = false := fun k h => beq_eq_false_iff_ne.2 (by omega)
      by_cases q0 : q = 0
      · have c0 : (((q : Nat) : Int) == 0) = true := fe 0 q0
        refine Zr rfl (by simp (maxSteps := 2000000) only [gs,List.replicate,reduceIte,reduceCtorEq,Nat.reduceEqDiff,Nat.reduceLT,Nat.reduceAdd,Nat.reduceSub,Nat.reduceLeDiff,Nat.reduceMul,Int.reduceToNat,Int.reduceLT,Int.reduceLE,Int.reduceEq,Int.reduceNe,Int.reduceBEq,Int.reduceBNe,Int.reduceAdd,Int.reduceSub,Int.reduceNeg, c0]; rfl) (Zc rfl rfl (fun _ => ?_) (fun h => by cases h))
        refine Zr rfl (by simp (maxSteps := 2000000) only [gs,List.replicate,reduceIte,reduceCtorEq,Nat.reduceEqDiff,Nat.reduceLT,Nat.reduceAdd,Nat.reduceSub,Nat.reduceLeDiff,Nat.reduceMul,Int.reduceToNat,Int.reduceLT,Int.reduceLE,Int.reduceEq,Int.reduceNe,Int.reduceBEq,Int.reduceBNe,Int.reduceAdd,Int.reduceSub,Int.reduceNeg]; rfl) ?_
        exact Za rfl ⟨_, evs, 0, 0, evs.length, .map [], rfl, Nat.le_refl _, Nat.le_refl _, Nat.le_refl _, hok, rfl, rfl⟩
      have c0 : (((q : Nat) : Int) == 0) = false := fn 0 q0
      by_cases q1 : q = 1
      · have c1 : (((q : Nat) : Int) == 1) = true := fe 1 q1
        refine Zr rfl (by simp (maxSteps := 2000000) only [gs,List.replicate,reduceIte,reduceCtorEq,Nat.reduceEqDiff,Nat.reduceLT,Nat.reduceAdd,Nat.reduceSub,Nat.reduceLeDiff,Nat.reduceMul,Int.reduceToNat,Int.reduceLT,Int.reduceLE,Int.reduceEq,Int.reduceNe,Int.reduceBEq,Int.reduceBNe,Int.reduceAdd,Int.reduceSub,Int.reduceNeg, c0]; rfl) (Zc rfl rfl (fun h => by cases h) (fun _ => ?_))
        refine Zr rfl (by simp (maxSteps := 2000000) only [gs,List.replicate,reduceIte,reduceCtorEq,Nat.reduceEqDiff,Nat.reduceLT,Nat.reduceAdd,Nat.reduceSub,Nat.reduceLeDiff,Nat.reduceMul,Int.reduceToNat,Int.reduceLT,Int.reduceLE,Int.reduceEq,Int.reduceNe,Int.reduceBEq,Int.reduceBNe,Int.reduceAdd,Int.reduceSub,Int.reduceNeg, c1]; rfl) (Zc rfl rfl (fun _ => ?_) (fun h => by cases h))
        refine Zr rfl (by simp (maxSteps := 2000000) only [gs,List.replicate,reduceIte,reduceCtorEq,Nat.reduceEqDiff,Nat.reduceLT,Nat.reduceAdd,Nat.reduceSub,Nat.reduceLeDiff,Nat.reduceMul,Int.reduceToNat,Int.reduceLT,Int.reduceLE,Int.reduceEq,Int.reduceNe,Int.reduceBEq,Int.reduceBNe,Int.reduceAdd,Int.reduceSub,Int.reduceNeg, n0, n1, Nat.zero_add, uvs_get gx, uvs_set]; rfl) ?_
        exact Za rfl ⟨_, evs.set i (v, e.2.1, e.2.2.1, e.2.2.2), 0, 0, evs.length, .map [], rfl, Nat.le_refl _, by simp, Nat.le_refl _, evOk_set hok ho, rfl, rfl⟩
      have c1 : (((q : Nat) : Int) == 1) = false := fn 1 q1
      by_cases q2 : q = 2
      · have c2 : (((q : Nat) : Int) == 2) = true := fe 2 q2
        refine Zr rfl (by simp (maxSteps := 2000000) only [gs,List.replicate,reduceIte,reduceCtorEq,Nat.reduceEqDiff,Nat.reduceLT,Nat.reduceAdd,Nat.reduceSub,Nat.reduceLeDiff,Nat.reduceMul,Int.reduceToNat,Int.reduceLT,Int.reduceLE,Int.reduceEq,Int.reduceNe,Int.reduceBEq,Int.reduceBNe,Int.reduceAdd,Int.reduceSub,Int.reduceNeg, c0]; rfl) (Zc rfl rfl (fun h => by cases h) (fun _ => ?_))
        refine Zr rfl (by simp (maxSteps := 2000000) only [gs,List.replicate,reduceIte,reduceCtorEq,Nat.reduceEqDiff,Nat.reduceLT,Nat.reduceAdd,Nat.reduceSub,Nat.reduceLeDiff,Nat.reduceMul,Int.reduceToNat,Int.reduceLT,Int.reduceLE,Int.reduceEq,Int.reduceNe,Int.reduceBEq,Int.reduceBNe,Int.reduceAdd,Int.reduceSub,Int.reduceNeg, c1]; rfl) (Zc rfl rfl (fun h => by cases h) (fun _ => ?_))
        refine Zr rfl (by simp (maxSteps := 2000000) only [gs,List.replicate,reduceIte,reduceCtorEq,Nat.reduceEqDiff,Nat.reduceLT,Nat.reduceAdd,Nat.reduceSub,Nat.reduceLeDiff,Nat.reduceMul,Int.reduceToNat,Int.reduceLT,Int.reduceLE,Int.reduceEq,Int.reduceNe,Int.reduceBEq,Int.reduceBNe,Int.reduceAdd,Int.reduceSub,Int.reduceNeg, c2]; rfl) (Zc rfl rfl (fun _ => ?_) (fun h => by cases h))
        refine Zr rfl (by simp (maxSteps := 2000000) only [gs,List.replicate,reduceIte,reduceCtorEq,Nat.reduceEqDiff,Nat.reduceLT,Nat.reduceAdd,Nat.reduceSub,Nat.reduceLeDiff,Nat.reduceMul,Int.reduceToNat,Int.reduceLT,Int.reduceLE,Int.reduceEq,Int.reduceNe,Int.reduceBEq,Int.reduceBNe,Int.reduceAdd,Int.reduceSub,Int.reduceNeg, n0, n1, Nat.zero_add, uvs_get gx, uvs_set]; rfl) ?_
        exact Za rfl ⟨_, evs.set i (e.1, IntKind.u32.wrap v, e.2.2.1, e.2.2.2), 0, 0, evs.length, .map [], rfl, Nat.le_refl _, by simp, Nat.le_refl _, evOk_set hok ⟨u32_range v, ho.2⟩, rfl, rfl⟩
      have c2 : (((q : Nat) : Int) == 2) = false := fn 2 q2
      by_cases q3 : q = 3
      · have c3 : (((q : Nat) : Int) == 3) = true := fe 3 q3
        refine Zr rfl (by simp (maxSteps := 2000000) only [gs,List.replicate,reduceIte,reduceCtorEq,Nat.reduceEqDiff,Nat.reduceLT,Nat.reduceAdd,Nat.reduceSub,Nat.reduceLeDiff,Nat.reduceMul,Int.reduceToNat,Int.reduceLT,Int.reduceLE,Int.reduceEq,Int.reduceNe,Int.reduceBEq,Int.reduceBNe,Int.reduceAdd,Int.reduceSub,Int.reduceNeg, c0]; rfl) (Zc rfl rfl (fun h => by cases h) (fun _ => ?_))
        refine Zr rfl (by simp (maxSteps := 2000000) only [gs,List.replicate,reduceIte,reduceCtorEq,Nat.reduceEqDiff,Nat.reduceLT,Nat.reduceAdd,Nat.reduceSub,Nat.reduceLeDiff,Nat.reduceMul,Int.reduceToNat,Int.reduceLT,Int.reduceLE,Int.reduceEq,Int.reduceNe,Int.reduceBEq,Int.reduceBNe,Int.reduceAdd,Int.reduceSub,Int.reduceNeg, c1]; rfl) (Zc rfl rfl (fun h => by cases h) (fun _ => ?_))
        refine Zr rfl (by simp (maxSteps := 2000000) only [gs,List.replicate,reduceIte,reduceCtorEq,Nat.reduceEqDiff,Nat.reduceLT,Nat.reduceAdd,Nat.reduceSub,Nat.reduceLeDiff,Nat.reduceMul,Int.reduceToNat,Int.reduceLT,Int.reduceLE,Int.reduceEq,Int.reduceNe,Int.reduceBEq,Int.reduceBNe,Int.reduceAdd,Int.reduceSub,Int.reduceNeg, c2]; rfl) (Zc rfl rfl (fun h => by cases h) (fun _ => ?_))
        refine Zr rfl (by simp (maxSteps := 2000000) only [gs,List.replicate,reduceIte,reduceCtorEq,Nat.reduceEqDiff,Nat.reduceLT,Nat.reduceAdd,Nat.reduceSub,Nat.reduceLeDiff,Nat.reduceMul,Int.reduceToNat,Int.reduceLT,Int.reduceLE,Int.reduceEq,Int.reduceNe,Int.reduceBEq,Int.reduceBNe,Int.reduceAdd,Int.reduceSub,Int.reduceNeg, c3]; rfl) (Zc rfl rfl (fun _ => ?_) (fun h => by cases h))
        refine Zr rfl (by simp (maxSteps := 2000000) only [gs,List.replicate,reduceIte,reduceCtorEq,Nat.reduceEqDiff,Nat.reduceLT,Nat.reduceAdd,Nat.reduceSub,Nat.reduceLeDiff,Nat.reduceMul,Int.reduceToNat,Int.reduceLT,Int.reduceLE,Int.reduceEq,Int.reduceNe,Int.reduceBEq,Int.reduceBNe,Int.reduceAdd,Int.reduceSub,Int.reduceNeg, n0, n1, Nat.zero_add, uvs_get gx, uvs_set]; rfl) ?_
        exact Za rfl ⟨_, evs.set i (e.1, e.2.1, IntKind.u32.wrap v, e.2.2.2), 0, 0, evs.length, .map [], rfl, Nat.le_refl _, by simp, Nat.le_refl _, evOk_set hok ⟨ho.1, u32_range v⟩, rfl, rfl⟩
      have c3 : (((q : Nat) : Int) == 3) = false := fn 3 q3
      by_cases q4 : q = 4
      · have c4 : (((q : Nat) : Int) == 4) = true := fe 4 q4
        refine Zr rfl (by simp (maxSteps := 2000000) only [gs,List.replicate,reduceIte,reduceCtorEq,Nat.reduceEqDiff,Nat.reduceLT,Nat.reduceAdd,Nat.reduceSub,Nat.reduceLeDiff,Nat.reduceMul,Int.reduceToNat,Int.reduceLT,Int.reduceLE,Int.reduceEq,Int.reduceNe,Int.reduceBEq,Int.reduceBNe,Int.reduceAdd,Int.reduceSub,Int.reduceNeg, c0]; rfl) (Zc rfl rfl (fun h => by cases h) (fun _ => ?_))
        refine Zr rfl (by simp (maxSteps := 2000000) only [gs,List.replicate,reduceIte,reduceCtorEq,Nat.reduceEqDiff,Nat.reduceLT,Nat.reduceAdd,Nat.reduceSub,Nat.reduceLeDiff,Nat.reduceMul,Int.reduceToNat,Int.reduceLT,Int.reduceLE,Int.reduceEq,Int.reduceNe,Int.reduceBEq,Int.reduceBNe,Int.reduceAdd,Int.reduceSub,Int.reduceNeg, c1]; rfl) (Zc rfl rfl (fun h => by cases h) (fun _ => ?_))
        refine Zr rfl (by simp (maxSteps := 2000000) only [gs,List.replicate,reduceIte,reduceCtorEq,Nat.reduceEqDiff,Nat.reduceLT,Nat.reduceAdd,Nat.reduceSub,Nat.reduceLeDiff,Nat.reduceMul,Int.reduceToNat,Int.reduceLT,Int.reduceLE,Int.reduceEq,Int.reduceNe,Int.reduceBEq,Int.reduceBNe,Int.reduceAdd,Int.reduceSub,Int.reduceNeg, c2]; rfl) (Zc rfl rfl (fun h => by cases h) (fun _ => ?_))
        refine Zr rfl (by simp (maxSteps := 2000000) only [gs,List.replicate,reduceIte,reduceCtorEq,Nat.reduceEqDiff,Nat.reduceLT,Nat.reduceAdd,Nat.reduceSub,Nat.reduceLeDiff,Nat.reduceMul,Int.reduceToNat,Int.reduceLT,Int.reduceLE,Int.reduceEq,Int.reduceNe,Int.reduceBEq,Int.reduceBNe,Int.reduceAdd,Int.reduceSub,Int.reduceNeg, c3]; rfl) (Zc rfl rfl (fun h => by cases h) (fun _ => ?_))
        refine Zr rfl (by simp (maxSteps := 2000000) only [gs,List.replicate,reduceIte,reduceCtorEq,Nat.reduceEqDiff,Nat.reduceLT,Nat.reduceAdd,Nat.reduceSub,Nat.reduceLeDiff,Nat.reduceMul,Int.reduceToNat,Int.reduceLT,Int.reduceLE,Int.reduceEq,Int.reduceNe,Int.reduceBEq,Int.reduceBNe,Int.reduceAdd,Int.reduceSub,Int.reduceNeg, c4]; rfl) (Zc rfl rfl (fun _ => ?_) (fun h => by cases h))
        refine Zr rfl (by simp (maxSteps := 2000000) only [gs,List.replicate,reduceIte,reduceCtorEq,Nat.reduceEqDiff,Nat.reduceLT,Nat.reduceAdd,Nat.reduceSub,Nat.reduceLeDiff,Nat.reduceMul,Int.reduceToNat,Int.reduceLT,Int.reduceLE,Int.reduceEq,Int.reduceNe,Int.reduceBEq,Int.reduceBNe,Int.reduceAdd,Int.reduceSub,Int.reduceNeg, n0, n1, Nat.zero_add, uvs_get gx, uvs_set]; rfl) ?_
        exact Za rfl ⟨_, evs.set i (e.1, e.2.1, e.2.2.1, !e.2.2.2), 0, 0, evs.length, .map [], rfl, Nat.le_refl _, by simp, Nat.le_refl _, evOk_set hok ho, rfl, rfl⟩
      have c4 : (((q : Nat) : Int) == 4) = false := fn 4 q4
      by_cases q5 : q = 5
      · have c5 : (((q : Nat) : Int) == 5) = true := fe 5 q5
        have gset : (evs.set i d)[0]? = some d := by
          by_cases hi0 : i = 0
          · subst hi0; rw [List.getElem?_set_self him]
          · rw [List.getElem?_set_ne (by omega), gz]
        refine Zr rfl (by simp (maxSteps := 2000000) only [gs,List.replicate,reduceIte,reduceCtorEq,Nat.reduceEqDiff,Nat.reduceLT,Nat.reduceAdd,Nat.reduceSub,Nat.reduceLeDiff,Nat.reduceMul,Int.reduceToNat,Int.reduceLT,Int.reduceLE,Int.reduceEq,Int.reduceNe,Int.reduceBEq,Int.reduceBNe,Int.reduceAdd,Int.reduceSub,Int.reduceNeg, c0]; rfl) (Zc rfl rfl (fun h => by cases h) (fun _ => ?_))
        refine Zr rfl (by simp (maxSteps := 2000000) only [gs,List.replicate,reduceIte,reduceCtorEq,Nat.reduceEqDiff,Nat.reduceLT,Nat.reduceAdd,Nat.reduceSub,Nat.reduceLeDiff,Nat.reduceMul,Int.reduceToNat,Int.reduceLT,Int.reduceLE,Int.reduceEq,Int.reduceNe,Int.reduceBEq,Int.reduceBNe,Int.reduceAdd,Int.reduceSub,Int.reduceNeg, c1]; rfl) (Zc rfl rfl (fun h => by cases h) (fun _ => ?_))
        refine Zr rfl (by simp (maxSteps := 2000000) only [gs,List.replicate,reduceIte,reduceCtorEq,Nat.reduceEqDiff,Nat.reduceLT,Nat.reduceAdd,Nat.reduceSub,Nat.reduceLeDiff,Nat.reduceMul,Int.reduceToNat,Int.reduceLT,Int.reduceLE,Int.reduceEq,Int.reduceNe,Int.reduceBEq,Int.reduceBNe,Int.reduceAdd,Int.reduceSub,Int.reduceNeg, c2]; rfl) (Zc rfl rfl (fun h => by cases h) (fun _ => ?_))
        refine Zr rfl (by simp (maxSteps := 2000000) only [gs,List.replicate,reduceIte,reduceCtorEq,Nat.reduceEqDiff,Nat.reduceLT,Nat.reduceAdd,Nat.reduceSub,Nat.reduceLeDiff,Nat.reduceMul,Int.reduceToNat,Int.reduceLT,Int.reduceLE,Int.reduceEq,Int.reduceNe,Int.reduceBEq,Int.reduceBNe,Int.reduceAdd,Int.reduceSub,Int.reduceNeg, c3]; rfl) (Zc rfl rfl (fun h => by cases h) (fun _ => ?_))
        refine Zr rfl (by simp (maxSteps := 2000000) only [gs,List.replicate,reduceIte,reduceCtorEq,Nat.reduceEqDiff,Nat.reduceLT,Nat.reduceAdd,Nat.reduceSub,Nat.reduceLeDiff,Nat.reduceMul,Int.reduceToNat,Int.reduceLT,Int.reduceLE,Int.reduceEq,Int.reduceNe,Int.reduceBEq,Int.reduceBNe,Int.reduceAdd,Int.reduceSub,Int.reduceNeg, c4]; rfl) (Zc rfl rfl (fun h => by cases h) (fun _ => ?_))
        refine Zr rfl (by simp (maxSteps := 2000000) only [gs,List.replicate,reduceIte,reduceCtorEq,Nat.reduceEqDiff,Nat.reduceLT,Nat.reduceAdd,Nat.reduceSub,Nat.reduceLeDiff,Nat.reduceMul,Int.reduceToNat,Int.reduceLT,Int.reduceLE,Int.reduceEq,Int.reduceNe,Int.reduceBEq,Int.reduceBNe,Int.reduceAdd,Int.reduceSub,Int.reduceNeg, c5]; rfl) (Zc rfl rfl (fun _ => ?_) (fun h => by cases h))
        refine Zd rfl (by simp (maxSteps := 2000000) only [gs,gd,List.replicate,id,reduceIte,reduceCtorEq,Nat.reduceEqDiff,Nat.reduceLT,Nat.reduceAdd,Nat.reduceSub,Nat.reduceLeDiff,Nat.reduceMul,Int.reduceToNat,Int.reduceLT,Int.reduceLE,Int.reduceEq,Int.reduceNe,Int.reduceBEq,Int.reduceBNe,Int.reduceAdd,Int.reduceSub,Int.reduceNeg, n0, n1, n2, Nat.zero_add, uvs_get gx, uvs_get gz, uvs_set, uvs_get gset]; rfl) ?_
        exact Za rfl ⟨_, (evs.set i d).set 0 e, 0, 0, evs.length, .map [], rfl, Nat.le_refl _, by simp, Nat.le_refl _, evOk_set (evOk_set hok hz) ho, rfl, rfl⟩
      have c5 : (((q : Nat) : Int) == 5) = false := fn 5 q5
      by_cases q6 : q = 6
      · have c6 : (((q : Nat) : Int) == 6) = true := fe 6 q6
        have hinc := up64 (show i < 9223372036854775807 by omega)
        have p0 : ((0 : Int) ≤ ((i + 1 : Nat) : Int)) = True := eq_true (by omega)
        have p1 : (((i + 1 : Nat) : Int) ≤ (evs.length : Int)) = True := eq_true (by omega)
        have p2 : ((evs.length : Int) - ((i + 1 : Nat) : Int)).toNat = evs.length - (i + 1) := by omega
        have p3 : ((evs.length : Int) ≤ (evs.length : Int)) = True := eq_true (Int.le_refl _)
        have p4 : ((i : Int) ≤ (evs.length : Int)) = True := eq_true (by omega)
        have p5 : ((i : Int) - 0).toNat = i := by omega
        have p6 : (i + 1 + (evs.length - (i + 1)) ≤ evs.length) = True := eq_true (by omega)
        have dl : ((evs.drop (i + 1)).take (evs.length - (i + 1))) = evs.drop (i + 1) := List.take_of_length_le (by rw [List.length_drop]; exact Nat.le_refl _)
        have dll : (evs.drop (i + 1)).length = evs.length - (i + 1) := by rw [List.length_drop]
        have p7 : (((i + 1 : Nat) : Int)).toNat = i + 1 := by omega
        by_cases hlast : i + 1 = evs.length
        · have hy : (uvs (evs.drop (i + 1)) = []) = True := eq_true (by rw [hlast, List.drop_length]; rfl)
          refine Zr rfl (by simp (maxSteps := 2000000) only [gs,List.replicate,reduceIte,reduceCtorEq,Nat.reduceEqDiff,Nat.reduceLT,Nat.reduceAdd,Nat.reduceSub,Nat.reduceLeDiff,Nat.reduceMul,Int.reduceToNat,Int.reduceLT,Int.reduceLE,Int.reduceEq,Int.reduceNe,Int.reduceBEq,Int.reduceBNe,Int.reduceAdd,Int.reduceSub,Int.reduceNeg, c0]; rfl) (Zc rfl rfl (fun h => by cases h) (fun _ => ?_))
          refine Zr rfl (by simp (maxSteps := 2000000) only [gs,List.replicate,reduceIte,reduceCtorEq,Nat.reduceEqDiff,Nat.reduceLT,Nat.reduceAdd,Nat.reduceSub,Nat.reduceLeDiff,Nat.reduceMul,Int.reduceToNat,Int.reduceLT,Int.reduceLE,Int.reduceEq,Int.reduceNe,Int.reduceBEq,Int.reduceBNe,Int.reduceAdd,Int.reduceSub,Int.reduceNeg, c1]; rfl) (Zc rfl rfl (fun h => by cases h) (fun _ => ?_))
          refine Zr rfl (by simp (maxSteps := 2000000) only [gs,List.replicate,reduceIte,reduceCtorEq,Nat.reduceEqDiff,Nat.reduceLT,Nat.reduceAdd,Nat.reduceSub,Nat.reduceLeDiff,Nat.reduceMul,Int.reduceToNat,Int.reduceLT,Int.reduceLE,Int.reduceEq,Int.reduceNe,Int.reduceBEq,Int.reduceBNe,Int.reduceAdd,Int.reduceSub,Int.reduceNeg, c2]; rfl) (Zc rfl rfl (fun h => by cases h) (fun _ => ?_))
          refine Zr rfl (by simp (maxSteps := 2000000) only [gs,List.replicate,reduceIte,reduceCtorEq,Nat.reduceEqDiff,Nat.reduceLT,Nat.reduceAdd,Nat.reduceSub,Nat.reduceLeDiff,Nat.reduceMul,Int.reduceToNat,Int.reduceLT,Int.reduceLE,Int.reduceEq,Int.reduceNe,Int.reduceBEq,Int.reduceBNe,Int.reduceAdd,Int.reduceSub,Int.reduceNeg, c3]; rfl) (Zc rfl rfl (fun h => by cases h) (fun _ => ?_))
          refine Zr rfl (by simp (maxSteps := 2000000) only [gs,List.replicate,reduceIte,reduceCtorEq,Nat.reduceEqDiff,Nat.reduceLT,Nat.reduceAdd,Nat.reduceSub,Nat.reduceLeDiff,Nat.reduceMul,Int.reduceToNat,Int.reduceLT,Int.reduceLE,Int.reduceEq,Int.reduceNe,Int.reduceBEq,Int.reduceBNe,Int.reduceAdd,Int.reduceSub,Int.reduceNeg, c4]; rfl) (Zc rfl rfl (fun h => by cases h) (fun _ => ?_))
          refine Zr rfl (by simp (maxSteps := 2000000) only [gs,List.replicate,reduceIte,reduceCtorEq,Nat.reduceEqDiff,Nat.reduceLT,Nat.reduceAdd,Nat.reduceSub,Nat.reduceLeDiff,Nat.reduceMul,Int.reduceToNat,Int.reduceLT,Int.reduceLE,Int.reduceEq,Int.reduceNe,Int.reduceBEq,Int.reduceBNe,Int.reduceAdd,Int.reduceSub,Int.reduceNeg, c5]; rfl) (Zc rfl rfl (fun h => by cases h) (fun _ => ?_))
          refine Zr rfl (by simp (maxSteps := 2000000) only [gs,List.replicate,reduceIte,reduceCtorEq,Nat.reduceEqDiff,Nat.reduceLT,Nat.reduceAdd,Nat.reduceSub,Nat.reduceLeDiff,Nat.reduceMul,Int.reduceToNat,Int.reduceLT,Int.reduceLE,Int.reduceEq,Int.reduceNe,Int.reduceBEq,Int.reduceBNe,Int.reduceAdd,Int.reduceSub,Int.reduceNeg, c6]; rfl) (Zc rfl rfl (fun _ => ?_) (fun h => by cases h))
          refine Zd rfl (by simp (maxSteps := 2000000) only [gs,gd,List.replicate,id,reduceIte,reduceCtorEq,Nat.reduceEqDiff,Nat.reduceLT,Nat.reduceAdd,Nat.reduceSub,Nat.reduceLeDiff,Nat.reduceMul,Int.reduceToNat,Int.reduceLT,Int.reduceLE,Int.reduceEq,Int.reduceNe,Int.reduceBEq,Int.reduceBNe,Int.reduceAdd,Int.reduceSub,Int.reduceNeg, n0, n1, p0, p1, p2, p3, p4, p5, p6, p7, hinc, Nat.zero_add, Nat.add_zero, uvs_length, uvs_drop, uvs_take, dl, hy]; rfl) ?_
          exact Za rfl ⟨_, evs, 0, 0, i, .map [], rfl, Nat.le_refl _, by omega, by omega, hok, rfl, rfl⟩
        · have hy : (uvs (evs.drop (i + 1)) = []) = False := eq_false (by
            intro h
            have := congrArg List.length h
            rw [uvs_length, dll] at this
            simp at this; omega)
          have p8 : (i ≤ evs.length) = True := eq_true (by omega)
          have p9 : ((i + (evs.length - (i + 1))) * 24 ≤ room) = True := eq_true (by unfold room; omega)
          have p10 : (i = evs.length) = False := eq_false (by omega)
          refine Zr rfl (by simp (maxSteps := 2000000) only [gs,List.replicate,reduceIte,reduceCtorEq,Nat.reduceEqDiff,Nat.reduceLT,Nat.reduceAdd,Nat.reduceSub,Nat.reduceLeDiff,Nat.reduceMul,Int.reduceToNat,Int.reduceLT,Int.reduceLE,Int.reduceEq,Int.reduceNe,Int.reduceBEq,Int.reduceBNe,Int.reduceAdd,Int.reduceSub,Int.reduceNeg, c0]; rfl) (Zc rfl rfl (fun h => by cases h) (fun _ => ?_))
          refine Zr rfl (by simp (maxSteps := 2000000) only [gs,List.replicate,reduceIte,reduceCtorEq,Nat.reduceEqDiff,Nat.reduceLT,Nat.reduceAdd,Nat.reduceSub,Nat.reduceLeDiff,Nat.reduceMul,Int.reduceToNat,Int.reduceLT,Int.reduceLE,Int.reduceEq,Int.reduceNe,Int.reduceBEq,Int.reduceBNe,Int.reduceAdd,Int.reduceSub,Int.reduceNeg, c1]; rfl) (Zc rfl rfl (fun h => by cases h) (fun _ => ?_))
          refine Zr rfl (by simp (maxSteps := 2000000) only [gs,List.replicate,reduceIte,reduceCtorEq,Nat.reduceEqDiff,Nat.reduceLT,Nat.reduceAdd,Nat.reduceSub,Nat.reduceLeDiff,Nat.reduceMul,Int.reduceToNat,Int.reduceLT,Int.reduceLE,Int.reduceEq,Int.reduceNe,Int.reduceBEq,Int.reduceBNe,Int.reduceAdd,Int.reduceSub,Int.reduceNeg, c2]; rfl) (Zc rfl rfl (fun h => by cases h) (fun _ => ?_))
          refine Zr rfl (by simp (maxSteps := 2000000) only [gs,List.replicate,reduceIte,reduceCtorEq,Nat.reduceEqDiff,Nat.reduceLT,Nat.reduceAdd,Nat.reduceSub,Nat.reduceLeDiff,Nat.reduceMul,Int.reduceToNat,Int.reduceLT,Int.reduceLE,Int.reduceEq,Int.reduceNe,Int.reduceBEq,Int.reduceBNe,Int.reduceAdd,Int.reduceSub,Int.reduceNeg, c3]; rfl) (Zc rfl rfl (fun h => by cases h) (fun _ => ?_))
          refine Zr rfl (by simp (maxSteps := 2000000) only [gs,List.replicate,reduceIte,reduceCtorEq,Nat.reduceEqDiff,Nat.reduceLT,Nat.reduceAdd,Nat.reduceSub,Nat.reduceLeDiff,Nat.reduceMul,Int.reduceToNat,Int.reduceLT,Int.reduceLE,Int.reduceEq,Int.reduceNe,Int.reduceBEq,Int.reduceBNe,Int.reduceAdd,Int.reduceSub,Int.reduceNeg, c4]; rfl) (Zc rfl rfl (fun h => by cases h) (fun _ => ?_))
          refine Zr rfl (by simp (maxSteps := 2000000) only [gs,List.replicate,reduceIte,reduceCtorEq,Nat.reduceEqDiff,Nat.reduceLT,Nat.reduceAdd,Nat.reduceSub,Nat.reduceLeDiff,Nat.reduceMul,Int.reduceToNat,Int.reduceLT,Int.reduceLE,Int.reduceEq,Int.reduceNe,Int.reduceBEq,Int.reduceBNe,Int.reduceAdd,Int.reduceSub,Int.reduceNeg, c5]; rfl) (Zc rfl rfl (fun h => by cases h) (fun _ => ?_))
          refine Zr rfl (by simp (maxSteps := 2000000) only [gs,List.replicate,reduceIte,reduceCtorEq,Nat.reduceEqDiff,Nat.reduceLT,Nat.reduceAdd,Nat.reduceSub,Nat.reduceLeDiff,Nat.reduceMul,Int.reduceToNat,Int.reduceLT,Int.reduceLE,Int.reduceEq,Int.reduceNe,Int.reduceBEq,Int.reduceBNe,Int.reduceAdd,Int.reduceSub,Int.reduceNeg, c6]; rfl) (Zc rfl rfl (fun _ => ?_) (fun h => by cases h))
          refine Zd rfl (by simp (maxSteps := 2000000) only [gs,gd,List.replicate,id,reduceIte,reduceCtorEq,Nat.reduceEqDiff,Nat.reduceLT,Nat.reduceAdd,Nat.reduceSub,Nat.reduceLeDiff,Nat.reduceMul,Int.reduceToNat,Int.reduceLT,Int.reduceLE,Int.reduceEq,Int.reduceNe,Int.reduceBEq,Int.reduceBNe,Int.reduceAdd,Int.reduceSub,Int.reduceNeg, n0, n1, p0, p1, p2, p3, p4, p5, p6, p7, hinc, Nat.zero_add, Nat.add_zero, uvs_length, uvs_drop, uvs_take, dl, dll, hy, p8, p9, p10, uvs_append]; rfl) ?_
          exact Za rfl ⟨_, evs.take i ++ evs.drop (i + 1), 1, 1, i + (evs.length - (i + 1)), .map [], rfl, Nat.le_refl _, by rw [List.length_append, dll, List.length_take]; omega, by omega, fun x hx => by
            rcases List.mem_append.1 hx with h | h
            · exact hok x (List.mem_of_mem_take h)
            · exact hok x (List.mem_of_mem_drop h), rfl, rfl⟩
      have c6 : (((q : Nat) : Int) == 6) = false := fn 6 q6
      refine Zr rfl (by simp (maxSteps := 2000000) only [gs,List.replicate,reduceIte,reduceCtorEq,Nat.reduceEqDiff,Nat.reduceLT,Nat.reduceAdd,Nat.reduceSub,Nat.reduceLeDiff,Nat.reduceMul,Int.reduceToNat,Int.reduceLT,Int.reduceLE,Int.reduceEq,Int.reduceNe,Int.reduceBEq,Int.reduceBNe,Int.reduceAdd,Int.reduceSub,Int.reduceNeg, c0]; rfl) (Zc rfl rfl (fun h => by cases h) (fun _ => ?_))
      refine Zr rfl (by simp (maxSteps := 2000000) only [gs,List.replicate,reduceIte,reduceCtorEq,Nat.reduceEqDiff,Nat.reduceLT,Nat.reduceAdd,Nat.reduceSub,Nat.reduceLeDiff,Nat.reduceMul,Int.reduceToNat,Int.reduceLT,Int.reduceLE,Int.reduceEq,Int.reduceNe,Int.reduceBEq,Int.reduceBNe,Int.reduceAdd,Int.reduceSub,Int.reduceNeg, c1]; rfl) (Zc rfl rfl (fun h => by cases h) (fun _ => ?_))
      refine Zr rfl (by simp (maxSteps := 2000000) only [gs,List.replicate,reduceIte,reduceCtorEq,Nat.reduceEqDiff,Nat.reduceLT,Nat.reduceAdd,Nat.reduceSub,Nat.reduceLeDiff,Nat.reduceMul,Int.reduceToNat,Int.reduceLT,Int.reduceLE,Int.reduceEq,Int.reduceNe,Int.reduceBEq,Int.reduceBNe,Int.reduceAdd,Int.reduceSub,Int.reduceNeg, c2]; rfl) (Zc rfl rfl (fun h => by cases h) (fun _ => ?_))
      refine Zr rfl (by simp (maxSteps := 2000000) only [gs,List.replicate,reduceIte,reduceCtorEq,Nat.reduceEqDiff,Nat.reduceLT,Nat.reduceAdd,Nat.reduceSub,Nat.reduceLeDiff,Nat.reduceMul,Int.reduceToNat,Int.reduceLT,Int.reduceLE,Int.reduceEq,Int.reduceNe,Int.reduceBEq,Int.reduceBNe,Int.reduceAdd,Int.reduceSub,Int.reduceNeg, c3]; rfl) (Zc rfl rfl (fun h => by cases h) (fun _ => ?_))
      refine Zr rfl (by simp (maxSteps := 2000000) only [gs,List.replicate,reduceIte,reduceCtorEq,Nat.reduceEqDiff,Nat.reduceLT,Nat.reduceAdd,Nat.reduceSub,Nat.reduceLeDiff,Nat.reduceMul,Int.reduceToNat,Int.reduceLT,Int.reduceLE,Int.reduceEq,Int.reduceNe,Int.reduceBEq,Int.reduceBNe,Int.reduceAdd,Int.reduceSub,Int.reduceNeg, c4]; rfl) (Zc rfl rfl (fun h => by cases h) (fun _ => ?_))
      refine Zr rfl (by simp (maxSteps := 2000000) only [gs,List.replicate,reduceIte,reduceCtorEq,Nat.reduceEqDiff,Nat.reduceLT,Nat.reduceAdd,Nat.reduceSub,Nat.reduceLeDiff,Nat.reduceMul,Int.reduceToNat,Int.reduceLT,Int.reduceLE,Int.reduceEq,Int.reduceNe,Int.reduceBEq,Int.reduceBNe,Int.reduceAdd,Int.reduceSub,Int.reduceNeg, c5]; rfl) (Zc rfl rfl (fun h => by cases h) (fun _ => ?_))
      refine Zr rfl (by simp (maxSteps := 2000000) only [gs,List.replicate,reduceIte,reduceCtorEq,Nat.reduceEqDiff,Nat.reduceLT,Nat.reduceAdd,Nat.reduceSub,Nat.reduceLeDiff,Nat.reduceMul,Int.reduceToNat,Int.reduceLT,Int.reduceLE,Int.reduceEq,Int.reduceNe,Int.reduceBEq,Int.reduceBNe,Int.reduceAdd,Int.reduceSub,Int.reduceNeg, c6]; rfl) (Zc rfl rfl (fun h => by cases h) (fun _ => ?_))
      refine Zr rfl (by simp (maxSteps := 2000000) only [gs,List.replicate,reduceIte,reduceCtorEq,Nat.reduceEqDiff,Nat.reduceLT,Nat.reduceAdd,Nat.reduceSub,Nat.reduceLeDiff,Nat.reduceMul,Int.reduceToNat,Int.reduceLT,Int.reduceLE,Int.reduceEq,Int.reduceNe,Int.reduceBEq,Int.reduceBNe,Int.reduceAdd,Int.reduceSub,Int.reduceNeg, n0, n1, Nat.zero_add, uvs_get gx]; rfl) ?_
      exact Za rfl ⟨_, evs, 0, 0, evs.length, .map [], rfl, Nat.le_refl _, Nat.le_refl _, Nat.le_refl _, hok, rfl, rfl⟩
    · rintro env h ⟨N', B, g, lv, ln, _, rfl, hlv, hln, hln2, hB, k8, k10⟩
      have l1 : (lv ≤ g) = True := eq_true hlv
      have l2 : (0 + ln ≤ B.length) = True := eq_true (by omega)
      refine Zr rfl (by simp (maxSteps := 2000000) only [gs,List.replicate,reduceIte,reduceCtorEq,Nat.reduceEqDiff,Nat.reduceLT,Nat.reduceAdd,Nat.reduceSub,Nat.reduceLeDiff,Nat.reduceMul,Int.reduceToNat,Int.reduceLT,Int.reduceLE,Int.reduceEq,Int.reduceNe,Int.reduceBEq,Int.reduceBNe,Int.reduceAdd,Int.reduceSub,Int.reduceNeg, k8, k10]; rfl) (Zq rfl ⟨_, (by simp only [gres, gload, GEnv.get, k8, if_true, if_false, Nat.reduceEqDiff, List.getElem?_cons_zero, List.getElem?_cons_succ, gof, cut, shares, U.share, U.handed, lay]; rfl), _, _, (by simp only [gfin, outs, U.out, outCs, U.outC, els, U.rf, rfL, List.drop_zero, List.take_succ_cons, List.take_zero, shares, U.share, Bool.and_true, Bool.and_false, Bool.false_eq_true, if_true, if_false, and_self, and_true, true_and, List.getElem?_cons_zero, List.getElem?_cons_succ, l1, l2, uvs_length, cut, uvs_take, rfLL_uvs, Option.map_some]; rfl), _, .list false 4 (uvs (B.take ln)), B.take ln, rfl, rfl, .inl rfl, fun x hx => hB x (List.mem_of_mem_take hx), by rw [List.length_take]; omega⟩)
  obtain ⟨u, h', h1, N', w', evs', rfl, rfl, h2, h3, h4⟩ := key
  exact ⟨N', w', evs', h1, h2, h3, h4⟩

/-- A history as late as may be. -/
def lateV (evs : List Ev) : List Ev := evs.map fun e => (IntKind.i64.wrap (e.1 + IntKind.i64.wrap (4611686018427387903 - lastT evs)), e.2.1, e.2.2.1, e.2.2.2)
theorem lateV_length (evs : List Ev) : (lateV evs).length = evs.length := by simp [lateV]
theorem evOk_late {evs : List Ev} (h : EvOk evs) : EvOk (lateV evs) := fun e he => by
  obtain ⟨d, hd, rfl⟩ := List.mem_map.1 he
  exact h d hd
theorem vapp_eq {h : GH} {x : GObj} : (h ++ [x])[h.length]? = some x := by simp
theorem vapp_set {h : GH} {x y : GObj} : (h ++ [x]).set h.length y = h ++ [y] := by simp

set_option maxHeartbeats 2000000 in
theorem late_R {N : Int} {w : U} {evs : List Ev} (hw : isVa w evs) (hl : evs.length ≤ 200) : ∃ w' : U, GF gtab fid_archipelagoseat_Late [.agg [.int .u64 N, w]] [] 0 = some (.agg [.int .u64 N, w'], []) ∧ isVa w' (lateV evs) := by
  have key : ∃ u h', GF gtab fid_archipelagoseat_Late [.agg [.int .u64 N, w]] [] 0 = some (u, h') ∧ ∃ w' : U, u = .agg [.int .u64 N, w'] ∧ h' = [] ∧ isVa w' (lateV evs) := by
    refine fnR_archipelagoseat_Late rfl ?_
    simp only [genvOf]
    rcases hw with rfl | ⟨rfl, rfl⟩
    case inr =>
      refine Zr rfl (by simp (maxSteps := 2000000) only [gs,List.replicate,reduceIte,reduceCtorEq,Nat.reduceEqDiff,Nat.reduceLT,Nat.reduceAdd,Nat.reduceSub,Nat.reduceLeDiff,Nat.reduceMul,Int.reduceToNat,Int.reduceLT,Int.reduceLE,Int.reduceEq,Int.reduceNe,Int.reduceBEq,Int.reduceBNe,Int.reduceAdd,Int.reduceSub,Int.reduceNeg]; rfl) ?_
      refine Zr rfl (by simp (maxSteps := 2000000) only [gs,List.replicate,reduceIte,reduceCtorEq,Nat.reduceEqDiff,Nat.reduceLT,Nat.reduceAdd,Nat.reduceSub,Nat.reduceLeDiff,Nat.reduceMul,Int.reduceToNat,Int.reduceLT,Int.reduceLE,Int.reduceEq,Int.reduceNe,Int.reduceBEq,Int.reduceBNe,Int.reduceAdd,Int.reduceSub,Int.reduceNeg]; rfl) ?_
      refine Zr rfl (by simp (maxSteps := 2000000) only [gs,List.replicate,reduceIte,reduceCtorEq,Nat.reduceEqDiff,Nat.reduceLT,Nat.reduceAdd,Nat.reduceSub,Nat.reduceLeDiff,Nat.reduceMul,Int.reduceToNat,Int.reduceLT,Int.reduceLE,Int.reduceEq,Int.reduceNe,Int.reduceBEq,Int.reduceBNe,Int.reduceAdd,Int.reduceSub,Int.reduceNeg]; rfl) (Zc rfl rfl (fun _ => ?_) (fun h => by cases h))
      refine Zr rfl (by simp (maxSteps := 2000000) only [gs,List.replicate,reduceIte,reduceCtorEq,Nat.reduceEqDiff,Nat.reduceLT,Nat.reduceAdd,Nat.reduceSub,Nat.reduceLeDiff,Nat.reduceMul,Int.reduceToNat,Int.reduceLT,Int.reduceLE,Int.reduceEq,Int.reduceNe,Int.reduceBEq,Int.reduceBNe,Int.reduceAdd,Int.reduceSub,Int.reduceNeg]; rfl) (Zq rfl ⟨_, (by simp only [gres, gload, GEnv.get, if_true, if_false, Nat.reduceEqDiff, List.getElem?_cons_zero, List.getElem?_cons_succ, gof, cut, shares, U.share, U.handed, lay]; rfl), _, _, rfl, .nils, rfl, rfl, .inr ⟨rfl, rfl⟩⟩)
    by_cases h0 : evs = []
    · subst h0
      refine Zr rfl (by simp (maxSteps := 2000000) only [gs,List.replicate,reduceIte,reduceCtorEq,Nat.reduceEqDiff,Nat.reduceLT,Nat.reduceAdd,Nat.reduceSub,Nat.reduceLeDiff,Nat.reduceMul,Int.reduceToNat,Int.reduceLT,Int.reduceLE,Int.reduceEq,Int.reduceNe,Int.reduceBEq,Int.reduceBNe,Int.reduceAdd,Int.reduceSub,Int.reduceNeg]; rfl) ?_
      refine Zr rfl (by simp (maxSteps := 2000000) only [gs,List.replicate,reduceIte,reduceCtorEq,Nat.reduceEqDiff,Nat.reduceLT,Nat.reduceAdd,Nat.reduceSub,Nat.reduceLeDiff,Nat.reduceMul,Int.reduceToNat,Int.reduceLT,Int.reduceLE,Int.reduceEq,Int.reduceNe,Int.reduceBEq,Int.reduceBNe,Int.reduceAdd,Int.reduceSub,Int.reduceNeg, uvs_length, List.length_nil, Int.natCast_zero]; rfl) ?_
      refine Zr rfl (by simp (maxSteps := 2000000) only [gs,List.replicate,reduceIte,reduceCtorEq,Nat.reduceEqDiff,Nat.reduceLT,Nat.reduceAdd,Nat.reduceSub,Nat.reduceLeDiff,Nat.reduceMul,Int.reduceToNat,Int.reduceLT,Int.reduceLE,Int.reduceEq,Int.reduceNe,Int.reduceBEq,Int.reduceBNe,Int.reduceAdd,Int.reduceSub,Int.reduceNeg, beq_self_eq_true]; rfl) (Zc rfl rfl (fun _ => ?_) (fun h => by cases h))
      refine Zr rfl (by simp (maxSteps := 2000000) only [gs,List.replicate,reduceIte,reduceCtorEq,Nat.reduceEqDiff,Nat.reduceLT,Nat.reduceAdd,Nat.reduceSub,Nat.reduceLeDiff,Nat.reduceMul,Int.reduceToNat,Int.reduceLT,Int.reduceLE,Int.reduceEq,Int.reduceNe,Int.reduceBEq,Int.reduceBNe,Int.reduceAdd,Int.reduceSub,Int.reduceNeg]; rfl) (Zq rfl ⟨_, (by simp only [gres, gload, GEnv.get, if_true, if_false, Nat.reduceEqDiff, List.getElem?_cons_zero, List.getElem?_cons_succ, gof, cut, shares, U.share, U.handed, lay]; rfl), _, _, rfl, .list false 4 (uvs []), rfl, rfl, .inl rfl⟩)
    have hpos : 0 < evs.length := List.length_pos_iff.2 h0
    have f0 : ((evs.length : Int) == 0) = false := beq_eq_false_iff_ne.2 (by omega)
    have gp : evs[evs.length - 1]? = some (evs[evs.length - 1]'(by omega)) := List.getElem?_eq_getElem _
    have hla : lastT evs = (evs[evs.length - 1]'(by omega)).1 := by rw [lastT, if_neg h0, List.getD_eq_getElem?_getD, gp]; rfl
    generalize evs[evs.length - 1]'(by omega) = d at gp hla
    have ws : IntKind.i64.wrap ((evs.length : Int) - 1) = ((evs.length - 1 : Nat) : Int) := by rw [wrap_i64 (by omega) (by omega)]; omega
    have n1 : ((0 : Int) ≤ ((evs.length - 1 : Nat) : Int)) = True := eq_true (by omega)
    refine Zr rfl (by simp (maxSteps := 2000000) only [gs,List.replicate,reduceIte,reduceCtorEq,Nat.reduceEqDiff,Nat.reduceLT,Nat.reduceAdd,Nat.reduceSub,Nat.reduceLeDiff,Nat.reduceMul,Int.reduceToNat,Int.reduceLT,Int.reduceLE,Int.reduceEq,Int.reduceNe,Int.reduceBEq,Int.reduceBNe,Int.reduceAdd,Int.reduceSub,Int.reduceNeg]; rfl) ?_
    refine Zr rfl (by simp (maxSteps := 2000000) only [gs,List.replicate,reduceIte,reduceCtorEq,Nat.reduceEqDiff,Nat.reduceLT,Nat.reduceAdd,Nat.reduceSub,Nat.reduceLeDiff,Nat.reduceMul,Int.reduceToNat,Int.reduceLT,Int.reduceLE,Int.reduceEq,Int.reduceNe,Int.reduceBEq,Int.reduceBNe,Int.reduceAdd,Int.reduceSub,Int.reduceNeg, uvs_length]; rfl) ?_
    refine Zr rfl (by simp (maxSteps := 2000000) only [gs,List.replicate,reduceIte,reduceCtorEq,Nat.reduceEqDiff,Nat.reduceLT,Nat.reduceAdd,Nat.reduceSub,Nat.reduceLeDiff,Nat.reduceMul,Int.reduceToNat,Int.reduceLT,Int.reduceLE,Int.reduceEq,Int.reduceNe,Int.reduceBEq,Int.reduceBNe,Int.reduceAdd,Int.reduceSub,Int.reduceNeg, f0]; rfl) (Zc rfl rfl (fun h => by cases h) (fun _ => ?_))
    refine Zr rfl (by simp (maxSteps := 2000000) only [gs,List.replicate,reduceIte,reduceCtorEq,Nat.reduceEqDiff,Nat.reduceLT,Nat.reduceAdd,Nat.reduceSub,Nat.reduceLeDiff,Nat.reduceMul,Int.reduceToNat,Int.reduceLT,Int.reduceLE,Int.reduceEq,Int.reduceNe,Int.reduceBEq,Int.reduceBNe,Int.reduceAdd,Int.reduceSub,Int.reduceNeg, ws, n1, uvs_get gp, ← hla]; rfl) ?_
    refine Zr rfl (by simp (maxSteps := 2000000) only [gs,List.replicate,reduceIte,reduceCtorEq,Nat.reduceEqDiff,Nat.reduceLT,Nat.reduceAdd,Nat.reduceSub,Nat.reduceLeDiff,Nat.reduceMul,Int.reduceToNat,Int.reduceLT,Int.reduceLE,Int.reduceEq,Int.reduceNe,Int.reduceBEq,Int.reduceBNe,Int.reduceAdd,Int.reduceSub,Int.reduceNeg]; rfl) ?_
    refine Zr rfl (by simp (maxSteps := 2000000) only [gs,List.replicate,reduceIte,reduceCtorEq,Nat.reduceEqDiff,Nat.reduceLT,Nat.reduceAdd,Nat.reduceSub,Nat.reduceLeDiff,Nat.reduceMul,Int.reduceToNat,Int.reduceLT,Int.reduceLE,Int.reduceEq,Int.reduceNe,Int.reduceBEq,Int.reduceBNe,Int.reduceAdd,Int.reduceSub,Int.reduceNeg]; rfl) ?_
    obtain ⟨dd, hdd⟩ : ∃ dd, dd = IntKind.i64.wrap (4611686018427387903 - lastT evs) := ⟨_, rfl⟩
    rw [← hdd]
    refine Zw rfl (fun m env h => ∃ (i : Nat) (W : U) (tail : GH), h = .box [.int .u64 N, .list false 4 (uvs evs)] :: .box [.int .u64 0, .nils] :: .box [.int .u64 N, W] :: tail ∧ ((i = 0 ∧ W = .nils) ∨ W = .own 4 (uvs ((lateV evs).take i))) ∧ GEnv.get env 1 = .ptr 0 0 0 0 ∧ GEnv.get env 2 = .ptr 1 0 0 0 ∧ GEnv.get env 3 = .int .i64 (evs.length : Int) ∧ GEnv.get env 4 = .int .i64 dd ∧ GEnv.get env 5 = .ptr 2 0 0 0 ∧ GEnv.get env 6 = .int .i64 (i : Int) ∧ m + i = evs.length) evs.length ⟨0, .nils, [], rfl, .inl ⟨rfl, rfl⟩, rfl, rfl, rfl, rfl, rfl, rfl, rfl⟩ ?_
    rintro m env h ⟨i, W, tail, rfl, hW, k1, k2, k3, k4, k5, k6, hm⟩
    simp only [GEnv.keep, k1, k2, k3, k4, k5, k6]
    have hll := lateV_length evs
    refine Zr rfl (by simp (maxSteps := 2000000) only [gs,List.replicate,reduceIte,reduceCtorEq,Nat.reduceEqDiff,Nat.reduceLT,Nat.reduceAdd,Nat.reduceSub,Nat.reduceLeDiff,Nat.reduceMul,Int.reduceToNat,Int.reduceLT,Int.reduceLE,Int.reduceEq,Int.reduceNe,Int.reduceBEq,Int.reduceBNe,Int.reduceAdd,Int.reduceSub,Int.reduceNeg]; rfl) (Zp rfl rfl (fun hi => ?_) (fun hi => ?_))
    · have hi' : i < evs.length := by omega
      have gx : evs[i]? = some (evs[i]'hi') := List.getElem?_eq_getElem _
      have hsn : (lateV evs).take (i + 1) = (lateV evs).take i ++ [(IntKind.i64.wrap ((evs[i]'hi').1 + dd), (evs[i]'hi').2.1, (evs[i]'hi').2.2.1, (evs[i]'hi').2.2.2)] := by
        rw [List.take_add_one, lateV, List.getElem?_map, gx, hdd]; rfl
      have htl : ((lateV evs).take i).length = i := by rw [List.length_take]; omega
      generalize evs[i]'hi' = e at gx hsn
      have n0 : ((0 : Int) ≤ (i : Int)) = True := eq_true (by omega)
      have hinc := up64 (show i < 9223372036854775807 by omega)
      have one_e : ([[U.int .i64 (IntKind.i64.wrap (e.1 + dd)), .int .u32 e.2.1, .int .u32 e.2.2.1, .bool e.2.2.2]] : List (List U)) = uvs [(IntKind.i64.wrap (e.1 + dd), e.2.1, e.2.2.1, e.2.2.2)] := rfl
      have one1 : ([(IntKind.i64.wrap (e.1 + dd), e.2.1, e.2.2.1, e.2.2.2)] : List Ev).length = 1 := rfl
      have r1 : ((i + 1) * 24 ≤ room) = True := eq_true (by unfold room; omega)
      have r2 : (1 * 24 ≤ room) = True := eq_true (by unfold room; omega)
      refine Zr rfl (by simp (maxSteps := 2000000) only [gs,List.replicate,reduceIte,reduceCtorEq,Nat.reduceEqDiff,Nat.reduceLT,Nat.reduceAdd,Nat.reduceSub,Nat.reduceLeDiff,Nat.reduceMul,Int.reduceToNat,Int.reduceLT,Int.reduceLE,Int.reduceEq,Int.reduceNe,Int.reduceBEq,Int.reduceBNe,Int.reduceAdd,Int.reduceSub,Int.reduceNeg, n0, uvs_get gx, vapp_eq, vapp_set]; rfl) ?_
      refine Zr rfl (by simp (maxSteps := 2000000) only [gs,List.replicate,reduceIte,reduceCtorEq,Nat.reduceEqDiff,Nat.reduceLT,Nat.reduceAdd,Nat.reduceSub,Nat.reduceLeDiff,Nat.reduceMul,Int.reduceToNat,Int.reduceLT,Int.reduceLE,Int.reduceEq,Int.reduceNe,Int.reduceBEq,Int.reduceBNe,Int.reduceAdd,Int.reduceSub,Int.reduceNeg, vapp_eq, vapp_set]; rfl) ?_
      rcases hW with ⟨hi0, rfl⟩ | rfl
      · refine Zr rfl (by simp (maxSteps := 2000000) only [gs,List.replicate,reduceIte,reduceCtorEq,Nat.reduceEqDiff,Nat.reduceLT,Nat.reduceAdd,Nat.reduceSub,Nat.reduceLeDiff,Nat.reduceMul,Int.reduceToNat,Int.reduceLT,Int.reduceLE,Int.reduceEq,Int.reduceNe,Int.reduceBEq,Int.reduceBNe,Int.reduceAdd,Int.reduceSub,Int.reduceNeg, vapp_eq, vapp_set, one_e, uvs_length, one1, r2]; rfl) ?_
        refine Zr rfl (by simp (maxSteps := 2000000) only [gs,List.replicate,reduceIte,reduceCtorEq,Nat.reduceEqDiff,Nat.reduceLT,Nat.reduceAdd,Nat.reduceSub,Nat.reduceLeDiff,Nat.reduceMul,Int.reduceToNat,Int.reduceLT,Int.reduceLE,Int.reduceEq,Int.reduceNe,Int.reduceBEq,Int.reduceBNe,Int.reduceAdd,Int.reduceSub,Int.reduceNeg, hinc]; rfl) ?_
        refine Za rfl ⟨m - 1, by omega, i + 1, _, _, rfl, .inr ?_, rfl, rfl, rfl, rfl, rfl, rfl, by omega⟩
        subst hi0
        rw [hsn]; rfl
      · refine Zr rfl (by simp (maxSteps := 2000000) only [gs,List.replicate,reduceIte,reduceCtorEq,Nat.reduceEqDiff,Nat.reduceLT,Nat.reduceAdd,Nat.reduceSub,Nat.reduceLeDiff,Nat.reduceMul,Int.reduceToNat,Int.reduceLT,Int.reduceLE,Int.reduceEq,Int.reduceNe,Int.reduceBEq,Int.reduceBNe,Int.reduceAdd,Int.reduceSub,Int.reduceNeg, vapp_eq, vapp_set, one_e, uvs_length, htl, one1, r1, uvs_append, ← hsn]; rfl) ?_
        refine Zr rfl (by simp (maxSteps := 2000000) only [gs,List.replicate,reduceIte,reduceCtorEq,Nat.reduceEqDiff,Nat.reduceLT,Nat.reduceAdd,Nat.reduceSub,Nat.reduceLeDiff,Nat.reduceMul,Int.reduceToNat,Int.reduceLT,Int.reduceLE,Int.reduceEq,Int.reduceNe,Int.reduceBEq,Int.reduceBNe,Int.reduceAdd,Int.reduceSub,Int.reduceNeg, hinc]; rfl) ?_
        exact Za rfl ⟨m - 1, by omega, i + 1, _, _, rfl, .inr rfl, rfl, rfl, rfl, rfl, rfl, rfl, by omega⟩
    · have hiL : i = evs.length := by omega
      rcases hW with ⟨hi0, _⟩ | rfl
      · omega
      have et : (lateV evs).take i = lateV evs := List.take_of_length_le (by omega)
      rw [et]
      refine Zr rfl (by simp (maxSteps := 2000000) only [gs,List.replicate,reduceIte,reduceCtorEq,Nat.reduceEqDiff,Nat.reduceLT,Nat.reduceAdd,Nat.reduceSub,Nat.reduceLeDiff,Nat.reduceMul,Int.reduceToNat,Int.reduceLT,Int.reduceLE,Int.reduceEq,Int.reduceNe,Int.reduceBEq,Int.reduceBNe,Int.reduceAdd,Int.reduceSub,Int.reduceNeg]; rfl) (Zq rfl ⟨_, (by simp only [gres, gload, GEnv.get, if_true, if_false, Nat.reduceEqDiff, List.getElem?_cons_zero, List.getElem?_cons_succ, gof, cut, shares, U.share, U.handed, lay]; rfl), _, _, (by simp only [gfin, outs, U.out, U.rf, List.drop_zero, List.take_succ_cons, List.take_zero, shares, U.share, rfL, rfLL_uvs, Bool.and_self, Bool.and_true, if_true, Option.map_some]; rfl), .list false 4 (uvs (lateV evs)), rfl, rfl, .inl rfl⟩)
  obtain ⟨u, h', h1, w', rfl, rfl, h2⟩ := key
  exact ⟨w', h1, h2⟩

end Go.Ab
