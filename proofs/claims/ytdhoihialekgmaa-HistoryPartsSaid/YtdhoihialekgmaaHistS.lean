/- history.Check, the document's Check on the machine of values. -/
import Derived.Test.YtdhoihialekgmaaHistQ
import Derived.Test.YtdhoihialekgmaaValN
import Derived.Test.YtdhoihialekgmaaEdgeH
namespace Go.Ab
open Go
set_option linter.unusedVariables false
set_option linter.unusedSimpArgs false
set_option maxRecDepth 10000

theorem sapp_eq {h : GH} {x : GObj} : (h ++ [x])[h.length]? = some x := by simp
theorem sapp_set {h : GH} {x y : GObj} : (h ++ [x]).set h.length y = h ++ [y] := by simp

/-- A map of edges. -/
def mapU (M : List (Ed × Bool)) : List (U × U) := M.map fun p => (.agg [.int .u32 p.1.1, .int .u32 p.1.2], .bool p.2)
def findM : List (Ed × Bool) → Ed → Option Bool
  | [], _ => none
  | (y, b) :: r, x => if x = y then some b else findM r x
def putM : List (Ed × Bool) → Ed → Bool → List (Ed × Bool)
  | [], x, b => [(x, b)]
  | (y, c) :: r, x, b => if x = y then (x, b) :: r else (y, c) :: putM r x b
theorem find_putM {x y : Ed} {b : Bool} : ∀ {M : List (Ed × Bool)}, findM (putM M x b) y = if x = y then some b else findM M y
  | [] => by
    simp only [putM, findM]
    by_cases h : x = y
    · rw [if_pos h, if_pos h.symm]
    · rw [if_neg h, if_neg (fun e => h e.symm)]
  | (z, c) :: r => by
    simp only [putM]
    by_cases hz : x = z
    · rw [if_pos hz]
      simp only [findM]
      by_cases h : x = y
      · rw [if_pos h, if_pos h.symm]
      · rw [if_neg h, if_neg (fun e => h e.symm), if_neg (fun e => h (by rw [hz, e]))]
    · rw [if_neg hz]
      simp only [findM]
      rw [find_putM]
      by_cases h : x = y
      · subst h; simp [hz]
      · simp only [if_neg h]
theorem ukey_ed {a b c d : Int} : ukeyEq (.struct [.int, .int]) (.agg [.int .u32 a, .int .u32 b]) (.agg [.int .u32 c, .int .u32 d]) = some (decide ((a, b) = (c, d))) := by
  simp only [ukeyEq, toVs, U.toV, plainEq, if_true, Option.map_some]
  congr 1
  by_cases h1 : a = c <;> by_cases h2 : b = d <;> simp [h1, h2]
theorem umapFind_M {x : Ed} : ∀ {M : List (Ed × Bool)}, umapFind (.struct [.int, .int]) (.agg [.int .u32 x.1, .int .u32 x.2]) (mapU M) = some ((findM M x).map U.bool)
  | [] => by simp [mapU, umapFind, ukey_ed, findM]
  | (y, b) :: r => by
    have ih := umapFind_M (x := x) (M := r)
    simp only [mapU, List.map_cons, umapFind, ukey_ed, findM] at ih ⊢
    by_cases h : x = y
    · rw [if_pos h, decide_eq_true (show (x.1, x.2) = (y.1, y.2) from h)]; rfl
    · rw [if_neg h, decide_eq_false (show ¬ (x.1, x.2) = (y.1, y.2) from h)]; exact ih
theorem umapPut_M {x : Ed} {b : Bool} : ∀ {M : List (Ed × Bool)}, umapPut (.struct [.int, .int]) (.agg [.int .u32 x.1, .int .u32 x.2]) (.bool b) (mapU M) = some (mapU (putM M x b))
  | [] => by simp [mapU, umapPut, ukey_ed, putM]
  | (y, c) :: r => by
    have ih := umapPut_M (x := x) (b := b) (M := r)
    simp only [mapU, List.map_cons, umapPut, ukey_ed, putM] at ih ⊢
    by_cases h : x = y
    · rw [if_pos h, decide_eq_true (show (x.1, x.2) = (y.1, y.2) from h)]; rfl
    · rw [if_neg h, decide_eq_false (show ¬ (x.1, x.2) = (y.1, y.2) from h)]
      simp only [ih, Option.map_some, List.map_cons]

set_option maxHeartbeats 2000000 in
theorem check_G {N : Int} {w : U} {evs : List Ev} (hw : isVa w evs) (hl : evs.length ≤ 1000) (hok : EvOk evs) : GF gtab fid_history_Check [.agg [.int .u64 N, w]] [] 0 = some (.tup [.int .i64 (evChk N evs).1, .int .i64 (evChk N evs).2], []) := by
  refine fn_history_Check rfl ?_
  simp only [genvOf]
  by_cases hN : N > 4294967296
  · have c1 := eq_true hN
    have e : evChk N evs = (0, 26) := by rw [evChk, if_pos hN]
    rw [e]
    rcases hw with rfl | ⟨rfl, rfl⟩
    · refine Zr rfl (by simp (maxSteps := 2000000) only [gs,List.replicate,reduceIte,reduceCtorEq,Nat.reduceEqDiff,Nat.reduceLT,Nat.reduceAdd,Nat.reduceSub,Nat.reduceLeDiff,Nat.reduceMul,Int.reduceToNat,Int.reduceLT,Int.reduceLE,Int.reduceEq,Int.reduceNe,Int.reduceBEq,Int.reduceBNe,Int.reduceAdd,Int.reduceSub,Int.reduceNeg]; rfl) ?_
      refine Zr rfl (by simp (maxSteps := 2000000) only [gs,List.replicate,reduceIte,reduceCtorEq,Nat.reduceEqDiff,Nat.reduceLT,Nat.reduceAdd,Nat.reduceSub,Nat.reduceLeDiff,Nat.reduceMul,Int.reduceToNat,Int.reduceLT,Int.reduceLE,Int.reduceEq,Int.reduceNe,Int.reduceBEq,Int.reduceBNe,Int.reduceAdd,Int.reduceSub,Int.reduceNeg, c1]; rfl) (Zc rfl rfl (fun _ => ?_) (fun h => by cases h))
      exact Zr rfl (by simp (maxSteps := 2000000) only [gs,List.replicate,reduceIte,reduceCtorEq,Nat.reduceEqDiff,Nat.reduceLT,Nat.reduceAdd,Nat.reduceSub,Nat.reduceLeDiff,Nat.reduceMul,Int.reduceToNat,Int.reduceLT,Int.reduceLE,Int.reduceEq,Int.reduceNe,Int.reduceBEq,Int.reduceBNe,Int.reduceAdd,Int.reduceSub,Int.reduceNeg]; rfl) (Zq rfl ⟨_, rfl, rfl⟩)
    · refine Zr rfl (by simp (maxSteps := 2000000) only [gs,List.replicate,reduceIte,reduceCtorEq,Nat.reduceEqDiff,Nat.reduceLT,Nat.reduceAdd,Nat.reduceSub,Nat.reduceLeDiff,Nat.reduceMul,Int.reduceToNat,Int.reduceLT,Int.reduceLE,Int.reduceEq,Int.reduceNe,Int.reduceBEq,Int.reduceBNe,Int.reduceAdd,Int.reduceSub,Int.reduceNeg]; rfl) ?_
      refine Zr rfl (by simp (maxSteps := 2000000) only [gs,List.replicate,reduceIte,reduceCtorEq,Nat.reduceEqDiff,Nat.reduceLT,Nat.reduceAdd,Nat.reduceSub,Nat.reduceLeDiff,Nat.reduceMul,Int.reduceToNat,Int.reduceLT,Int.reduceLE,Int.reduceEq,Int.reduceNe,Int.reduceBEq,Int.reduceBNe,Int.reduceAdd,Int.reduceSub,Int.reduceNeg, c1]; rfl) (Zc rfl rfl (fun _ => ?_) (fun h => by cases h))
      exact Zr rfl (by simp (maxSteps := 2000000) only [gs,List.replicate,reduceIte,reduceCtorEq,Nat.reduceEqDiff,Nat.reduceLT,Nat.reduceAdd,Nat.reduceSub,Nat.reduceLeDiff,Nat.reduceMul,Int.reduceToNat,Int.reduceLT,Int.reduceLE,Int.reduceEq,Int.reduceNe,Int.reduceBEq,Int.reduceBNe,Int.reduceAdd,Int.reduceSub,Int.reduceNeg]; rfl) (Zq rfl ⟨_, rfl, rfl⟩)
  have c1 := eq_false hN
  have e : evChk N evs = evN N evs evs.length := by rw [evChk, if_neg hN]
  rw [e]
  rcases hw with rfl | ⟨rfl, rfl⟩
  · have c2 : ((evs.length : Int) > 2147483648) = False := eq_false (by omega)
    refine Zr rfl (by simp (maxSteps := 2000000) only [gs,List.replicate,reduceIte,reduceCtorEq,Nat.reduceEqDiff,Nat.reduceLT,Nat.reduceAdd,Nat.reduceSub,Nat.reduceLeDiff,Nat.reduceMul,Int.reduceToNat,Int.reduceLT,Int.reduceLE,Int.reduceEq,Int.reduceNe,Int.reduceBEq,Int.reduceBNe,Int.reduceAdd,Int.reduceSub,Int.reduceNeg]; rfl) ?_
    refine Zr rfl (by simp (maxSteps := 2000000) only [gs,List.replicate,reduceIte,reduceCtorEq,Nat.reduceEqDiff,Nat.reduceLT,Nat.reduceAdd,Nat.reduceSub,Nat.reduceLeDiff,Nat.reduceMul,Int.reduceToNat,Int.reduceLT,Int.reduceLE,Int.reduceEq,Int.reduceNe,Int.reduceBEq,Int.reduceBNe,Int.reduceAdd,Int.reduceSub,Int.reduceNeg, c1, uvs_length, c2]; rfl) (Zc rfl rfl (fun h => by cases h) (fun _ => ?_))
    refine Zr rfl (by simp (maxSteps := 2000000) only [gs,List.replicate,reduceIte,reduceCtorEq,Nat.reduceEqDiff,Nat.reduceLT,Nat.reduceAdd,Nat.reduceSub,Nat.reduceLeDiff,Nat.reduceMul,Int.reduceToNat,Int.reduceLT,Int.reduceLE,Int.reduceEq,Int.reduceNe,Int.reduceBEq,Int.reduceBNe,Int.reduceAdd,Int.reduceSub,Int.reduceNeg]; rfl) ?_
    refine Zr rfl (by simp (maxSteps := 2000000) only [gs,List.replicate,reduceIte,reduceCtorEq,Nat.reduceEqDiff,Nat.reduceLT,Nat.reduceAdd,Nat.reduceSub,Nat.reduceLeDiff,Nat.reduceMul,Int.reduceToNat,Int.reduceLT,Int.reduceLE,Int.reduceEq,Int.reduceNe,Int.reduceBEq,Int.reduceBNe,Int.reduceAdd,Int.reduceSub,Int.reduceNeg, uvs_length]; rfl) ?_
    refine Zw rfl (fun m env h => ∃ (i : Nat) (M : List (Ed × Bool)) (tail : GH), evN N evs i = (0, 0) ∧ (∀ y, (findM M y).getD false = onL (evs.take i) y) ∧ h = .box [.int .u64 N, .list false 4 (uvs evs)] :: .map (mapU M) :: tail ∧ GEnv.get env 1 = .ptr 0 0 0 0 ∧ GEnv.get env 4 = .map 1 ∧ GEnv.get env 18 = .list false 4 (uvs evs) ∧ GEnv.get env 19 = .int .i64 (evs.length : Int) ∧ GEnv.get env 20 = .int .i64 (i : Int) ∧ m + i = evs.length) evs.length ⟨0, [], [], rfl, fun y => rfl, rfl, rfl, rfl, rfl, rfl, rfl, rfl⟩ ?_
    rintro m env h ⟨i, M, tail, hno, hM, rfl, k1, k4, k18, k19, k20, hm⟩
    simp only [GEnv.keep, k1, k4, k18, k19, k20]
    refine Zr rfl (by simp (maxSteps := 2000000) only [gs,List.replicate,reduceIte,reduceCtorEq,Nat.reduceEqDiff,Nat.reduceLT,Nat.reduceAdd,Nat.reduceSub,Nat.reduceLeDiff,Nat.reduceMul,Int.reduceToNat,Int.reduceLT,Int.reduceLE,Int.reduceEq,Int.reduceNe,Int.reduceBEq,Int.reduceBNe,Int.reduceAdd,Int.reduceSub,Int.reduceNeg]; rfl) (Zp rfl rfl (fun hi => ?_) (fun hi => ?_))
    · have hi' : i < evs.length := by omega
      have gx : evs[i]? = some (evs[i]'hi') := List.getElem?_eq_getElem _
      have ho := hok _ (List.mem_of_getElem? gx)
      have htk : evs.take (i + 1) = evs.take i ++ [evs[i]'hi'] := by rw [List.take_add_one, gx]; rfl
      have hat : evAt N evs i = if (evs[i]'hi').1 < 0 ∨ (evs[i]'hi').1 > 4611686018427387903 then 26 else if ¬ ((evs[i]'hi').2.1 < (evs[i]'hi').2.2.1 ∧ (evs[i]'hi').2.2.1 < N) then 24 else
    if 0 < i ∧ ¬ ltV (evs.getD (i - 1) (0, 0, 0, false)) (evs[i]'hi') then 23 else if onL (evs.take i) (edOf (evs[i]'hi')) = (evs[i]'hi').2.2.2 then 25 else 0 := by
        unfold evAt; rw [gx]
      generalize evs[i]'hi' = e at gx ho hat htk
      have bad : ∀ c, evAt N evs i = c → c ≠ 0 → evN N evs evs.length = ((i : Int), c) := fun c h1 h2 => evN_stop hno h1 h2 hi'
      have n0 : ((0 : Int) ≤ (i : Int)) = True := eq_true (by omega)
      have hinc := up64 (show i < 9223372036854775807 by omega)
      refine Zr rfl (by simp (maxSteps := 2000000) only [gs,List.replicate,reduceIte,reduceCtorEq,Nat.reduceEqDiff,Nat.reduceLT,Nat.reduceAdd,Nat.reduceSub,Nat.reduceLeDiff,Nat.reduceMul,Int.reduceToNat,Int.reduceLT,Int.reduceLE,Int.reduceEq,Int.reduceNe,Int.reduceBEq,Int.reduceBNe,Int.reduceAdd,Int.reduceSub,Int.reduceNeg, n0, uvs_get gx, sapp_eq, sapp_set]; rfl) ?_
      by_cases a1 : e.1 < 0
      · rw [bad 26 (by rw [hat, if_pos (.inl a1)]) (by decide)]
        have f1 := eq_true a1
        refine Zr rfl (by simp (maxSteps := 2000000) only [gs,List.replicate,reduceIte,reduceCtorEq,Nat.reduceEqDiff,Nat.reduceLT,Nat.reduceAdd,Nat.reduceSub,Nat.reduceLeDiff,Nat.reduceMul,Int.reduceToNat,Int.reduceLT,Int.reduceLE,Int.reduceEq,Int.reduceNe,Int.reduceBEq,Int.reduceBNe,Int.reduceAdd,Int.reduceSub,Int.reduceNeg, sapp_eq, f1]; rfl) (Zc rfl rfl (fun _ => ?_) (fun h => by cases h))
        exact Zr rfl (by simp (maxSteps := 2000000) only [gs,List.replicate,reduceIte,reduceCtorEq,Nat.reduceEqDiff,Nat.reduceLT,Nat.reduceAdd,Nat.reduceSub,Nat.reduceLeDiff,Nat.reduceMul,Int.reduceToNat,Int.reduceLT,Int.reduceLE,Int.reduceEq,Int.reduceNe,Int.reduceBEq,Int.reduceBNe,Int.reduceAdd,Int.reduceSub,Int.reduceNeg]; rfl) (Zq rfl ⟨_, rfl, rfl⟩)
      have f1 := eq_false a1
      by_cases a2 : e.1 > 4611686018427387903
      · rw [bad 26 (by rw [hat, if_pos (.inr a2)]) (by decide)]
        have f2 := eq_true a2
        refine Zr rfl (by simp (maxSteps := 2000000) only [gs,List.replicate,reduceIte,reduceCtorEq,Nat.reduceEqDiff,Nat.reduceLT,Nat.reduceAdd,Nat.reduceSub,Nat.reduceLeDiff,Nat.reduceMul,Int.reduceToNat,Int.reduceLT,Int.reduceLE,Int.reduceEq,Int.reduceNe,Int.reduceBEq,Int.reduceBNe,Int.reduceAdd,Int.reduceSub,Int.reduceNeg, sapp_eq, f1, f2]; rfl) (Zc rfl rfl (fun _ => ?_) (fun h => by cases h))
        exact Zr rfl (by simp (maxSteps := 2000000) only [gs,List.replicate,reduceIte,reduceCtorEq,Nat.reduceEqDiff,Nat.reduceLT,Nat.reduceAdd,Nat.reduceSub,Nat.reduceLeDiff,Nat.reduceMul,Int.reduceToNat,Int.reduceLT,Int.reduceLE,Int.reduceEq,Int.reduceNe,Int.reduceBEq,Int.reduceBNe,Int.reduceAdd,Int.reduceSub,Int.reduceNeg]; rfl) (Zq rfl ⟨_, rfl, rfl⟩)
      have f2 := eq_false a2
      rw [if_neg (by omega)] at hat
      have RI := right_G (u := e.2.1) (v := e.2.2.1) (n := N) (by omega)
      by_cases a3 : e.2.1 < e.2.2.1 ∧ e.2.2.1 < N
      case neg =>
        have RI' : GF gtab fid_edge_Right [.agg [.int .u32 e.2.1, .int .u32 e.2.2.1], .int .u64 N] [] 0 = some (.bool false, []) := by
          rw [RI]
          congr 3
          by_cases h1 : e.2.1 < e.2.2.1
          · rw [decide_eq_true h1, decide_eq_false (fun h2 => a3 ⟨h1, h2⟩)]; rfl
          · rw [decide_eq_false h1]; rfl
        rw [bad 24 (by rw [hat, if_pos a3]) (by decide)]
        refine Zr rfl (by simp (maxSteps := 2000000) only [gs,List.replicate,reduceIte,reduceCtorEq,Nat.reduceEqDiff,Nat.reduceLT,Nat.reduceAdd,Nat.reduceSub,Nat.reduceLeDiff,Nat.reduceMul,Int.reduceToNat,Int.reduceLT,Int.reduceLE,Int.reduceEq,Int.reduceNe,Int.reduceBEq,Int.reduceBNe,Int.reduceAdd,Int.reduceSub,Int.reduceNeg, sapp_eq, f1, f2]; rfl) (Zc rfl rfl (fun h => by cases h) (fun _ => ?_))
        refine Zr rfl (by simp (maxSteps := 2000000) only [gs,List.replicate,reduceIte,reduceCtorEq,Nat.reduceEqDiff,Nat.reduceLT,Nat.reduceAdd,Nat.reduceSub,Nat.reduceLeDiff,Nat.reduceMul,Int.reduceToNat,Int.reduceLT,Int.reduceLE,Int.reduceEq,Int.reduceNe,Int.reduceBEq,Int.reduceBNe,Int.reduceAdd,Int.reduceSub,Int.reduceNeg, sapp_eq, gc_edge_Right, RI']; rfl) (Zc rfl rfl (fun _ => ?_) (fun h => by cases h))
        exact Zr rfl (by simp (maxSteps := 2000000) only [gs,List.replicate,reduceIte,reduceCtorEq,Nat.reduceEqDiff,Nat.reduceLT,Nat.reduceAdd,Nat.reduceSub,Nat.reduceLeDiff,Nat.reduceMul,Int.reduceToNat,Int.reduceLT,Int.reduceLE,Int.reduceEq,Int.reduceNe,Int.reduceBEq,Int.reduceBNe,Int.reduceAdd,Int.reduceSub,Int.reduceNeg]; rfl) (Zq rfl ⟨_, rfl, rfl⟩)
      have RI' : GF gtab fid_edge_Right [.agg [.int .u32 e.2.1, .int .u32 e.2.2.1], .int .u64 N] [] 0 = some (.bool true, []) := by
        rw [RI, decide_eq_true a3.1, decide_eq_true a3.2]; rfl
      rw [if_neg (by simpa using a3)] at hat
      refine Zr rfl (by simp (maxSteps := 2000000) only [gs,List.replicate,reduceIte,reduceCtorEq,Nat.reduceEqDiff,Nat.reduceLT,Nat.reduceAdd,Nat.reduceSub,Nat.reduceLeDiff,Nat.reduceMul,Int.reduceToNat,Int.reduceLT,Int.reduceLE,Int.reduceEq,Int.reduceNe,Int.reduceBEq,Int.reduceBNe,Int.reduceAdd,Int.reduceSub,Int.reduceNeg, sapp_eq, f1, f2]; rfl) (Zc rfl rfl (fun h => by cases h) (fun _ => ?_))
      refine Zr rfl (by simp (maxSteps := 2000000) only [gs,List.replicate,reduceIte,reduceCtorEq,Nat.reduceEqDiff,Nat.reduceLT,Nat.reduceAdd,Nat.reduceSub,Nat.reduceLeDiff,Nat.reduceMul,Int.reduceToNat,Int.reduceLT,Int.reduceLE,Int.reduceEq,Int.reduceNe,Int.reduceBEq,Int.reduceBNe,Int.reduceAdd,Int.reduceSub,Int.reduceNeg, sapp_eq, gc_edge_Right, RI']; rfl) (Zc rfl rfl (fun h => by cases h) (fun _ => ?_))
      refine Zj rfl (fun env h => h = .box [.int .u64 N, .list false 4 (uvs evs)] :: .map (mapU M) :: (tail ++ [.box [.int .i64 e.1, .int .u32 e.2.1, .int .u32 e.2.2.1, .bool e.2.2.2]]) ∧ (∃ b, (b = true ↔ (0 < i ∧ ¬ ltV (evs.getD (i - 1) (0, 0, 0, false)) e)) ∧ GEnv.get env 43 = .bool b) ∧ GEnv.get env 1 = .ptr 0 0 0 0 ∧ GEnv.get env 4 = .map 1 ∧ GEnv.get env 5 = .int .i64 (i : Int) ∧ GEnv.get env 6 = .ptr (tail.length + 1 + 1) 0 0 0 ∧ GEnv.get env 18 = .list false 4 (uvs evs) ∧ GEnv.get env 19 = .int .i64 (evs.length : Int) ∧ GEnv.get env 20 = .int .i64 (i : Int)) ?_ ?_
      · by_cases hi0 : i = 0
        · have g0 : ((i : Int) > 0) = False := eq_false (by omega)
          refine Zd rfl (by simp (maxSteps := 2000000) only [gs,gd,List.replicate,id,reduceIte,reduceCtorEq,Nat.reduceEqDiff,Nat.reduceLT,Nat.reduceAdd,Nat.reduceSub,Nat.reduceLeDiff,Nat.reduceMul,Int.reduceToNat,Int.reduceLT,Int.reduceLE,Int.reduceEq,Int.reduceNe,Int.reduceBEq,Int.reduceBNe,Int.reduceAdd,Int.reduceSub,Int.reduceNeg, g0]; rfl) ?_
          exact Za rfl ⟨rfl, ⟨false, ⟨fun h => absurd h (by simp), fun h => absurd h.1 (by omega)⟩, rfl⟩, rfl, rfl, rfl, rfl, rfl, rfl, rfl⟩
        · have g1 : ((i : Int) > 0) = True := eq_true (by omega)
          have ws : IntKind.i64.wrap ((i : Int) - 1) = ((i - 1 : Nat) : Int) := by rw [wrap_i64 (by omega) (by omega)]; omega
          have n1 : ((0 : Int) ≤ ((i - 1 : Nat) : Int)) = True := eq_true (by omega)
          have gp : evs[i - 1]? = some (evs[i - 1]'(by omega)) := List.getElem?_eq_getElem _
          have hgd : evs.getD (i - 1) (0, 0, 0, false) = evs[i - 1]'(by omega) := by rw [List.getD_eq_getElem?_getD, gp]; rfl
          rw [hgd]
          generalize evs[i - 1]'(by omega) = d at gp
          have BE := before_H d e
          refine Zd rfl (by simp (maxSteps := 2000000) only [gs,gd,List.replicate,id,reduceIte,reduceCtorEq,Nat.reduceEqDiff,Nat.reduceLT,Nat.reduceAdd,Nat.reduceSub,Nat.reduceLeDiff,Nat.reduceMul,Int.reduceToNat,Int.reduceLT,Int.reduceLE,Int.reduceEq,Int.reduceNe,Int.reduceBEq,Int.reduceBNe,Int.reduceAdd,Int.reduceSub,Int.reduceNeg, g1, ws, n1, uvs_get gp, sapp_eq, gc_edge_Before, iq_edge_Before, BE]; rfl) ?_
          exact Za rfl ⟨rfl, ⟨!decide (ltV d e), ⟨fun h => ⟨by omega, by simpa using h⟩, fun h => by simpa using h.2⟩, rfl⟩, rfl, rfl, rfl, rfl, rfl, rfl, rfl⟩
      rintro env h ⟨rfl, ⟨b, hb, k43⟩, k1, k4, k5, k6, k18, k19, k20⟩
      by_cases a4 : 0 < i ∧ ¬ ltV (evs.getD (i - 1) (0, 0, 0, false)) e
      · rw [bad 23 (by rw [hat, if_pos a4]) (by decide)]
        rw [hb.2 a4] at k43
        refine Zc rfl (x := true) k43 (fun _ => ?_) (fun h => by cases h)
        exact Zr rfl (by simp (maxSteps := 2000000) only [gs,List.replicate,reduceIte,reduceCtorEq,Nat.reduceEqDiff,Nat.reduceLT,Nat.reduceAdd,Nat.reduceSub,Nat.reduceLeDiff,Nat.reduceMul,Int.reduceToNat,Int.reduceLT,Int.reduceLE,Int.reduceEq,Int.reduceNe,Int.reduceBEq,Int.reduceBNe,Int.reduceAdd,Int.reduceSub,Int.reduceNeg, k5]; rfl) (Zq rfl ⟨_, rfl, rfl⟩)
      have hbf : b = false := by cases b with
        | false => rfl
        | true => exact absurd (hb.1 rfl) a4
      rw [hbf] at k43
      rw [if_neg a4] at hat
      refine Zc rfl (x := false) k43 (fun h => by cases h) (fun _ => ?_)
      have FM := umapFind_M (x := edOf e) (M := M)
      have PM := umapPut_M (x := edOf e) (M := M) (b := e.2.2.2)
      simp only [edOf] at FM PM
      have hMe := hM (edOf e)
      have fin : ¬ onL (evs.take i) (edOf e) = e.2.2.2 → ∃ (i' : Nat) (M' : List (Ed × Bool)) (tail' : GH), i' = i + 1 ∧ M' = putM M (e.2.1, e.2.2.1) e.2.2.2 ∧ evN N evs i' = (0, 0) ∧ (∀ y, (findM M' y).getD false = onL (evs.take i') y) := fun h5 => ⟨i + 1, _, [], rfl, rfl, evN_next hno (by rw [hat, if_neg h5]), fun y => by
        rw [find_putM, htk, onL_snoc]
        by_cases hy : edOf e = y
        · have hy' : (e.2.1, e.2.2.1) = y := hy
          rw [if_pos hy, if_pos hy']; rfl
        · have hy' : ¬ (e.2.1, e.2.2.1) = y := hy
          rw [if_neg hy, if_neg hy']; exact hM y⟩
      cases hf : findM M (edOf e) with
      | none =>
        rw [hf] at hMe
        simp only [Option.getD_none] at hMe
        simp only [edOf] at hf
        rw [hf, Option.map_none] at FM
        by_cases a5 : onL (evs.take i) (edOf e) = e.2.2.2
        · rw [bad 25 (by rw [hat, if_pos a5]) (by decide)]
          have f5 : (false == e.2.2.2) = true := by rw [hMe, a5]; simp
          refine Zd rfl (by simp (maxSteps := 2000000) only [gs,gd,List.replicate,id,reduceIte,reduceCtorEq,Nat.reduceEqDiff,Nat.reduceLT,Nat.reduceAdd,Nat.reduceSub,Nat.reduceLeDiff,Nat.reduceMul,Int.reduceToNat,Int.reduceLT,Int.reduceLE,Int.reduceEq,Int.reduceNe,Int.reduceBEq,Int.reduceBNe,Int.reduceAdd,Int.reduceSub,Int.reduceNeg, k4, k6, sapp_eq, FM, f5]; rfl) (Zc rfl rfl (fun _ => ?_) (fun h => by cases h))
          exact Zr rfl (by simp (maxSteps := 2000000) only [gs,List.replicate,reduceIte,reduceCtorEq,Nat.reduceEqDiff,Nat.reduceLT,Nat.reduceAdd,Nat.reduceSub,Nat.reduceLeDiff,Nat.reduceMul,Int.reduceToNat,Int.reduceLT,Int.reduceLE,Int.reduceEq,Int.reduceNe,Int.reduceBEq,Int.reduceBNe,Int.reduceAdd,Int.reduceSub,Int.reduceNeg, k5]; rfl) (Zq rfl ⟨_, rfl, rfl⟩)
        · have f5 : (false == e.2.2.2) = false := beq_eq_false_iff_ne.2 (fun h => a5 (hMe.symm.trans h))
          obtain ⟨i', M', _, rfl, rfl, q1, q2⟩ := fin a5
          refine Zd rfl (by simp (maxSteps := 2000000) only [gs,gd,List.replicate,id,reduceIte,reduceCtorEq,Nat.reduceEqDiff,Nat.reduceLT,Nat.reduceAdd,Nat.reduceSub,Nat.reduceLeDiff,Nat.reduceMul,Int.reduceToNat,Int.reduceLT,Int.reduceLE,Int.reduceEq,Int.reduceNe,Int.reduceBEq,Int.reduceBNe,Int.reduceAdd,Int.reduceSub,Int.reduceNeg, k4, k6, sapp_eq, FM, f5]; rfl) (Zc rfl rfl (fun h => by cases h) (fun _ => ?_))
          refine Zr rfl (by simp (maxSteps := 2000000) only [gs,List.replicate,reduceIte,reduceCtorEq,Nat.reduceEqDiff,Nat.reduceLT,Nat.reduceAdd,Nat.reduceSub,Nat.reduceLeDiff,Nat.reduceMul,Int.reduceToNat,Int.reduceLT,Int.reduceLE,Int.reduceEq,Int.reduceNe,Int.reduceBEq,Int.reduceBNe,Int.reduceAdd,Int.reduceSub,Int.reduceNeg, k4, k6, sapp_eq, PM]; rfl) ?_
          refine Zr rfl (by simp (maxSteps := 2000000) only [gs,List.replicate,reduceIte,reduceCtorEq,Nat.reduceEqDiff,Nat.reduceLT,Nat.reduceAdd,Nat.reduceSub,Nat.reduceLeDiff,Nat.reduceMul,Int.reduceToNat,Int.reduceLT,Int.reduceLE,Int.reduceEq,Int.reduceNe,Int.reduceBEq,Int.reduceBNe,Int.reduceAdd,Int.reduceSub,Int.reduceNeg, k20, hinc]; rfl) ?_
          exact Za rfl ⟨m - 1, by omega, i + 1, putM M (e.2.1, e.2.2.1) e.2.2.2, _, q1, q2, rfl, by simp [GEnv.get, k1], by simp [GEnv.get, k4], by simp [GEnv.get, k18], by simp [GEnv.get, k19], by simp [GEnv.get], by omega⟩
      | some b5 =>
        rw [hf] at hMe
        simp only [Option.getD_some] at hMe
        simp only [edOf] at hf
        rw [hf, Option.map_some] at FM
        by_cases a5 : onL (evs.take i) (edOf e) = e.2.2.2
        · rw [bad 25 (by rw [hat, if_pos a5]) (by decide)]
          have f5 : (b5 == e.2.2.2) = true := by rw [hMe, a5]; simp
          refine Zd rfl (by simp (maxSteps := 2000000) only [gs,gd,List.replicate,id,reduceIte,reduceCtorEq,Nat.reduceEqDiff,Nat.reduceLT,Nat.reduceAdd,Nat.reduceSub,Nat.reduceLeDiff,Nat.reduceMul,Int.reduceToNat,Int.reduceLT,Int.reduceLE,Int.reduceEq,Int.reduceNe,Int.reduceBEq,Int.reduceBNe,Int.reduceAdd,Int.reduceSub,Int.reduceNeg, k4, k6, sapp_eq, FM, f5]; rfl) (Zc rfl rfl (fun _ => ?_) (fun h => by cases h))
          exact Zr rfl (by simp (maxSteps := 2000000) only [gs,List.replicate,reduceIte,reduceCtorEq,Nat.reduceEqDiff,Nat.reduceLT,Nat.reduceAdd,Nat.reduceSub,Nat.reduceLeDiff,Nat.reduceMul,Int.reduceToNat,Int.reduceLT,Int.reduceLE,Int.reduceEq,Int.reduceNe,Int.reduceBEq,Int.reduceBNe,Int.reduceAdd,Int.reduceSub,Int.reduceNeg, k5]; rfl) (Zq rfl ⟨_, rfl, rfl⟩)
        · have f5 : (b5 == e.2.2.2) = false := beq_eq_false_iff_ne.2 (fun h => a5 (hMe.symm.trans h))
          obtain ⟨i', M', _, rfl, rfl, q1, q2⟩ := fin a5
          refine Zd rfl (by simp (maxSteps := 2000000) only [gs,gd,List.replicate,id,reduceIte,reduceCtorEq,Nat.reduceEqDiff,Nat.reduceLT,Nat.reduceAdd,Nat.reduceSub,Nat.reduceLeDiff,Nat.reduceMul,Int.reduceToNat,Int.reduceLT,Int.reduceLE,Int.reduceEq,Int.reduceNe,Int.reduceBEq,Int.reduceBNe,Int.reduceAdd,Int.reduceSub,Int.reduceNeg, k4, k6, sapp_eq, FM, f5]; rfl) (Zc rfl rfl (fun h => by cases h) (fun _ => ?_))
          refine Zr rfl (by simp (maxSteps := 2000000) only [gs,List.replicate,reduceIte,reduceCtorEq,Nat.reduceEqDiff,Nat.reduceLT,Nat.reduceAdd,Nat.reduceSub,Nat.reduceLeDiff,Nat.reduceMul,Int.reduceToNat,Int.reduceLT,Int.reduceLE,Int.reduceEq,Int.reduceNe,Int.reduceBEq,Int.reduceBNe,Int.reduceAdd,Int.reduceSub,Int.reduceNeg, k4, k6, sapp_eq, PM]; rfl) ?_
          refine Zr rfl (by simp (maxSteps := 2000000) only [gs,List.replicate,reduceIte,reduceCtorEq,Nat.reduceEqDiff,Nat.reduceLT,Nat.reduceAdd,Nat.reduceSub,Nat.reduceLeDiff,Nat.reduceMul,Int.reduceToNat,Int.reduceLT,Int.reduceLE,Int.reduceEq,Int.reduceNe,Int.reduceBEq,Int.reduceBNe,Int.reduceAdd,Int.reduceSub,Int.reduceNeg, k20, hinc]; rfl) ?_
          exact Za rfl ⟨m - 1, by omega, i + 1, putM M (e.2.1, e.2.2.1) e.2.2.2, _, q1, q2, rfl, by simp [GEnv.get, k1], by simp [GEnv.get, k4], by simp [GEnv.get, k18], by simp [GEnv.get, k19], by simp [GEnv.get], by omega⟩
    · have : i = evs.length := by omega
      subst this
      rw [hno]
      exact Zr rfl (by simp (maxSteps := 2000000) only [gs,List.replicate,reduceIte,reduceCtorEq,Nat.reduceEqDiff,Nat.reduceLT,Nat.reduceAdd,Nat.reduceSub,Nat.reduceLeDiff,Nat.reduceMul,Int.reduceToNat,Int.reduceLT,Int.reduceLE,Int.reduceEq,Int.reduceNe,Int.reduceBEq,Int.reduceBNe,Int.reduceAdd,Int.reduceSub,Int.reduceNeg]; rfl) (Zq rfl ⟨_, rfl, rfl⟩)
  · refine Zr rfl (by simp (maxSteps := 2000000) only [gs,List.replicate,reduceIte,reduceCtorEq,Nat.reduceEqDiff,Nat.reduceLT,Nat.reduceAdd,Nat.reduceSub,Nat.reduceLeDiff,Nat.reduceMul,Int.reduceToNat,Int.reduceLT,Int.reduceLE,Int.reduceEq,Int.reduceNe,Int.reduceBEq,Int.reduceBNe,Int.reduceAdd,Int.reduceSub,Int.reduceNeg]; rfl) ?_
    refine Zr rfl (by simp (maxSteps := 2000000) only [gs,List.replicate,reduceIte,reduceCtorEq,Nat.reduceEqDiff,Nat.reduceLT,Nat.reduceAdd,Nat.reduceSub,Nat.reduceLeDiff,Nat.reduceMul,Int.reduceToNat,Int.reduceLT,Int.reduceLE,Int.reduceEq,Int.reduceNe,Int.reduceBEq,Int.reduceBNe,Int.reduceAdd,Int.reduceSub,Int.reduceNeg, c1]; rfl) (Zc rfl rfl (fun h => by cases h) (fun _ => ?_))
    refine Zr rfl (by simp (maxSteps := 2000000) only [gs,List.replicate,reduceIte,reduceCtorEq,Nat.reduceEqDiff,Nat.reduceLT,Nat.reduceAdd,Nat.reduceSub,Nat.reduceLeDiff,Nat.reduceMul,Int.reduceToNat,Int.reduceLT,Int.reduceLE,Int.reduceEq,Int.reduceNe,Int.reduceBEq,Int.reduceBNe,Int.reduceAdd,Int.reduceSub,Int.reduceNeg]; rfl) ?_
    refine Zr rfl (by simp (maxSteps := 2000000) only [gs,List.replicate,reduceIte,reduceCtorEq,Nat.reduceEqDiff,Nat.reduceLT,Nat.reduceAdd,Nat.reduceSub,Nat.reduceLeDiff,Nat.reduceMul,Int.reduceToNat,Int.reduceLT,Int.reduceLE,Int.reduceEq,Int.reduceNe,Int.reduceBEq,Int.reduceBNe,Int.reduceAdd,Int.reduceSub,Int.reduceNeg]; rfl) ?_
    refine Zw rfl (fun m env h => h = [.box [.int .u64 N, .nils], .map []] ∧ GEnv.get env 1 = .ptr 0 0 0 0 ∧ GEnv.get env 4 = .map 1 ∧ GEnv.get env 18 = .nils ∧ GEnv.get env 19 = .int .i64 0 ∧ GEnv.get env 20 = .int .i64 0) 0 ⟨rfl, rfl, rfl, rfl, rfl, rfl⟩ ?_
    rintro m env h ⟨rfl, k1, k4, k18, k19, k20⟩
    simp only [GEnv.keep, k1, k4, k18, k19, k20]
    refine Zr rfl (by simp (maxSteps := 2000000) only [gs,List.replicate,reduceIte,reduceCtorEq,Nat.reduceEqDiff,Nat.reduceLT,Nat.reduceAdd,Nat.reduceSub,Nat.reduceLeDiff,Nat.reduceMul,Int.reduceToNat,Int.reduceLT,Int.reduceLE,Int.reduceEq,Int.reduceNe,Int.reduceBEq,Int.reduceBNe,Int.reduceAdd,Int.reduceSub,Int.reduceNeg]; rfl) (Zc rfl rfl (fun h => by cases h) (fun _ => ?_))
    exact Zr rfl (by simp (maxSteps := 2000000) only [gs,List.replicate,reduceIte,reduceCtorEq,Nat.reduceEqDiff,Nat.reduceLT,Nat.reduceAdd,Nat.reduceSub,Nat.reduceLeDiff,Nat.reduceMul,Int.reduceToNat,Int.reduceLT,Int.reduceLE,Int.reduceEq,Int.reduceNe,Int.reduceBEq,Int.reduceBNe,Int.reduceAdd,Int.reduceSub,Int.reduceNeg]; rfl) (Zq rfl ⟨_, rfl, rfl⟩)

end Go.Ab

/- The document's Check on the machine of values. -/
namespace Go.Ab
open Go
set_option linter.unusedVariables false
set_option linter.unusedSimpArgs false
set_option maxRecDepth 10000

theorem isE_share {w : U} {l : List Ed} (h : isE w l) : isEa w.share l := by
  rcases h with rfl | rfl | ⟨rfl, rfl⟩
  · exact .inl rfl
  · exact .inl rfl
  · exact .inr ⟨rfl, rfl⟩

set_option maxHeartbeats 2000000 in
theorem rcheck_G {N : Int} {w : U} {evs : List Ev} (hw : isVa w evs) (hl : evs.length ≤ 400) (hok : EvOk evs) : GF gtab fid_archipelagoref8_Check [.agg [.int .u64 N, w]] [] 0 = some (.tup [.int .i64 (evChk N evs).1, .int .i64 (evChk N evs).2], []) := by
  refine fn_archipelagoref8_Check rfl ?_
  simp only [genvOf]
  by_cases hN : N > 4294967296
  · have c1 := eq_true hN
    have e : evChk N evs = (0, 26) := by rw [evChk, if_pos hN]
    rw [e]
    rcases hw with rfl | ⟨rfl, rfl⟩
    · refine Zr rfl (by simp (maxSteps := 2000000) only [gs,List.replicate,reduceIte,reduceCtorEq,Nat.reduceEqDiff,Nat.reduceLT,Nat.reduceAdd,Nat.reduceSub,Nat.reduceLeDiff,Nat.reduceMul,Int.reduceToNat,Int.reduceLT,Int.reduceLE,Int.reduceEq,Int.reduceNe,Int.reduceBEq,Int.reduceBNe,Int.reduceAdd,Int.reduceSub,Int.reduceNeg]; rfl) ?_
      refine Zr rfl (by simp (maxSteps := 2000000) only [gs,List.replicate,reduceIte,reduceCtorEq,Nat.reduceEqDiff,Nat.reduceLT,Nat.reduceAdd,Nat.reduceSub,Nat.reduceLeDiff,Nat.reduceMul,Int.reduceToNat,Int.reduceLT,Int.reduceLE,Int.reduceEq,Int.reduceNe,Int.reduceBEq,Int.reduceBNe,Int.reduceAdd,Int.reduceSub,Int.reduceNeg, c1]; rfl) (Zc rfl rfl (fun _ => ?_) (fun h => by cases h))
      exact Zr rfl (by simp (maxSteps := 2000000) only [gs,List.replicate,reduceIte,reduceCtorEq,Nat.reduceEqDiff,Nat.reduceLT,Nat.reduceAdd,Nat.reduceSub,Nat.reduceLeDiff,Nat.reduceMul,Int.reduceToNat,Int.reduceLT,Int.reduceLE,Int.reduceEq,Int.reduceNe,Int.reduceBEq,Int.reduceBNe,Int.reduceAdd,Int.reduceSub,Int.reduceNeg]; rfl) (Zq rfl ⟨_, rfl, rfl⟩)
    · refine Zr rfl (by simp (maxSteps := 2000000) only [gs,List.replicate,reduceIte,reduceCtorEq,Nat.reduceEqDiff,Nat.reduceLT,Nat.reduceAdd,Nat.reduceSub,Nat.reduceLeDiff,Nat.reduceMul,Int.reduceToNat,Int.reduceLT,Int.reduceLE,Int.reduceEq,Int.reduceNe,Int.reduceBEq,Int.reduceBNe,Int.reduceAdd,Int.reduceSub,Int.reduceNeg]; rfl) ?_
      refine Zr rfl (by simp (maxSteps := 2000000) only [gs,List.replicate,reduceIte,reduceCtorEq,Nat.reduceEqDiff,Nat.reduceLT,Nat.reduceAdd,Nat.reduceSub,Nat.reduceLeDiff,Nat.reduceMul,Int.reduceToNat,Int.reduceLT,Int.reduceLE,Int.reduceEq,Int.reduceNe,Int.reduceBEq,Int.reduceBNe,Int.reduceAdd,Int.reduceSub,Int.reduceNeg, c1]; rfl) (Zc rfl rfl (fun _ => ?_) (fun h => by cases h))
      exact Zr rfl (by simp (maxSteps := 2000000) only [gs,List.replicate,reduceIte,reduceCtorEq,Nat.reduceEqDiff,Nat.reduceLT,Nat.reduceAdd,Nat.reduceSub,Nat.reduceLeDiff,Nat.reduceMul,Int.reduceToNat,Int.reduceLT,Int.reduceLE,Int.reduceEq,Int.reduceNe,Int.reduceBEq,Int.reduceBNe,Int.reduceAdd,Int.reduceSub,Int.reduceNeg]; rfl) (Zq rfl ⟨_, rfl, rfl⟩)
  have c1 := eq_false hN
  have e : evChk N evs = evN N evs evs.length := by rw [evChk, if_neg hN]
  rw [e]
  rcases hw with rfl | ⟨rfl, rfl⟩
  · have c2 : ((evs.length : Int) > 2147483648) = False := eq_false (by omega)
    refine Zr rfl (by simp (maxSteps := 2000000) only [gs,List.replicate,reduceIte,reduceCtorEq,Nat.reduceEqDiff,Nat.reduceLT,Nat.reduceAdd,Nat.reduceSub,Nat.reduceLeDiff,Nat.reduceMul,Int.reduceToNat,Int.reduceLT,Int.reduceLE,Int.reduceEq,Int.reduceNe,Int.reduceBEq,Int.reduceBNe,Int.reduceAdd,Int.reduceSub,Int.reduceNeg]; rfl) ?_
    refine Zr rfl (by simp (maxSteps := 2000000) only [gs,List.replicate,reduceIte,reduceCtorEq,Nat.reduceEqDiff,Nat.reduceLT,Nat.reduceAdd,Nat.reduceSub,Nat.reduceLeDiff,Nat.reduceMul,Int.reduceToNat,Int.reduceLT,Int.reduceLE,Int.reduceEq,Int.reduceNe,Int.reduceBEq,Int.reduceBNe,Int.reduceAdd,Int.reduceSub,Int.reduceNeg, c1, uvs_length, c2]; rfl) (Zc rfl rfl (fun h => by cases h) (fun _ => ?_))
    refine Zr rfl (by simp (maxSteps := 2000000) only [gs,List.replicate,reduceIte,reduceCtorEq,Nat.reduceEqDiff,Nat.reduceLT,Nat.reduceAdd,Nat.reduceSub,Nat.reduceLeDiff,Nat.reduceMul,Int.reduceToNat,Int.reduceLT,Int.reduceLE,Int.reduceEq,Int.reduceNe,Int.reduceBEq,Int.reduceBNe,Int.reduceAdd,Int.reduceSub,Int.reduceNeg]; rfl) ?_
    refine Zr rfl (by simp (maxSteps := 2000000) only [gs,List.replicate,reduceIte,reduceCtorEq,Nat.reduceEqDiff,Nat.reduceLT,Nat.reduceAdd,Nat.reduceSub,Nat.reduceLeDiff,Nat.reduceMul,Int.reduceToNat,Int.reduceLT,Int.reduceLE,Int.reduceEq,Int.reduceNe,Int.reduceBEq,Int.reduceBNe,Int.reduceAdd,Int.reduceSub,Int.reduceNeg]; rfl) ?_
    refine Zw rfl (fun m env h => ∃ (i : Nat) (now : U) (es : List Ed) (tail : GH), evN N evs i = (0, 0) ∧ isE now es ∧ NowOf (evs.take i) es ∧ es.length ≤ i ∧ h = .box [.int .u64 N, .list false 4 (uvs evs)] :: tail ∧ GEnv.get env 1 = .ptr 0 0 0 0 ∧ GEnv.get env 4 = now ∧ GEnv.get env 5 = .int .i64 (i : Int) ∧ m + i = evs.length) evs.length ⟨0, .nils, [], [], rfl, .inr (.inr ⟨rfl, rfl⟩), ⟨List.Pairwise.nil, fun x => by simp [onL]⟩, Nat.le_refl _, rfl, rfl, rfl, rfl, rfl⟩ ?_
    rintro m env h ⟨i, now, es, tail, hno, hnow, hNO, hesl, rfl, k1, k4, k5, hm⟩
    simp only [GEnv.keep, k1, k4, k5]
    refine Zr rfl (by simp (maxSteps := 2000000) only [gs,List.replicate,reduceIte,reduceCtorEq,Nat.reduceEqDiff,Nat.reduceLT,Nat.reduceAdd,Nat.reduceSub,Nat.reduceLeDiff,Nat.reduceMul,Int.reduceToNat,Int.reduceLT,Int.reduceLE,Int.reduceEq,Int.reduceNe,Int.reduceBEq,Int.reduceBNe,Int.reduceAdd,Int.reduceSub,Int.reduceNeg, uvs_length]; rfl) (Zp rfl rfl (fun hi => ?_) (fun hi => ?_))
    · have hi' : i < evs.length := by omega
      have gx : evs[i]? = some (evs[i]'hi') := List.getElem?_eq_getElem _
      have ho := hok _ (List.mem_of_getElem? gx)
      have htk : evs.take (i + 1) = evs.take i ++ [evs[i]'hi'] := by rw [List.take_add_one, gx]; rfl
      have hat : evAt N evs i = if (evs[i]'hi').1 < 0 ∨ (evs[i]'hi').1 > 4611686018427387903 then 26 else if ¬ ((evs[i]'hi').2.1 < (evs[i]'hi').2.2.1 ∧ (evs[i]'hi').2.2.1 < N) then 24 else
    if 0 < i ∧ ¬ ltV (evs.getD (i - 1) (0, 0, 0, false)) (evs[i]'hi') then 23 else if onL (evs.take i) (edOf (evs[i]'hi')) = (evs[i]'hi').2.2.2 then 25 else 0 := by
        unfold evAt; rw [gx]
      generalize evs[i]'hi' = e at gx ho hat htk
      have bad : ∀ c, evAt N evs i = c → c ≠ 0 → evN N evs evs.length = ((i : Int), c) := fun c h1 h2 => evN_stop hno h1 h2 hi'
      have n0 : ((0 : Int) ≤ (i : Int)) = True := eq_true (by omega)
      have hinc := up64 (show i < 9223372036854775807 by omega)
      refine Zr rfl (by simp (maxSteps := 2000000) only [gs,List.replicate,reduceIte,reduceCtorEq,Nat.reduceEqDiff,Nat.reduceLT,Nat.reduceAdd,Nat.reduceSub,Nat.reduceLeDiff,Nat.reduceMul,Int.reduceToNat,Int.reduceLT,Int.reduceLE,Int.reduceEq,Int.reduceNe,Int.reduceBEq,Int.reduceBNe,Int.reduceAdd,Int.reduceSub,Int.reduceNeg, n0, uvs_get gx, sapp_eq, sapp_set]; rfl) ?_
      by_cases a1 : e.1 < 0
      · rw [bad 26 (by rw [hat, if_pos (.inl a1)]) (by decide)]
        have f1 := eq_true a1
        refine Zr rfl (by simp (maxSteps := 2000000) only [gs,List.replicate,reduceIte,reduceCtorEq,Nat.reduceEqDiff,Nat.reduceLT,Nat.reduceAdd,Nat.reduceSub,Nat.reduceLeDiff,Nat.reduceMul,Int.reduceToNat,Int.reduceLT,Int.reduceLE,Int.reduceEq,Int.reduceNe,Int.reduceBEq,Int.reduceBNe,Int.reduceAdd,Int.reduceSub,Int.reduceNeg, sapp_eq, f1]; rfl) (Zc rfl rfl (fun _ => ?_) (fun h => by cases h))
        exact Zr rfl (by simp (maxSteps := 2000000) only [gs,List.replicate,reduceIte,reduceCtorEq,Nat.reduceEqDiff,Nat.reduceLT,Nat.reduceAdd,Nat.reduceSub,Nat.reduceLeDiff,Nat.reduceMul,Int.reduceToNat,Int.reduceLT,Int.reduceLE,Int.reduceEq,Int.reduceNe,Int.reduceBEq,Int.reduceBNe,Int.reduceAdd,Int.reduceSub,Int.reduceNeg]; rfl) (Zq rfl ⟨_, rfl, rfl⟩)
      have f1 := eq_false a1
      by_cases a2 : e.1 > 4611686018427387903
      · rw [bad 26 (by rw [hat, if_pos (.inr a2)]) (by decide)]
        have f2 := eq_true a2
        refine Zr rfl (by simp (maxSteps := 2000000) only [gs,List.replicate,reduceIte,reduceCtorEq,Nat.reduceEqDiff,Nat.reduceLT,Nat.reduceAdd,Nat.reduceSub,Nat.reduceLeDiff,Nat.reduceMul,Int.reduceToNat,Int.reduceLT,Int.reduceLE,Int.reduceEq,Int.reduceNe,Int.reduceBEq,Int.reduceBNe,Int.reduceAdd,Int.reduceSub,Int.reduceNeg, sapp_eq, f1, f2]; rfl) (Zc rfl rfl (fun _ => ?_) (fun h => by cases h))
        exact Zr rfl (by simp (maxSteps := 2000000) only [gs,List.replicate,reduceIte,reduceCtorEq,Nat.reduceEqDiff,Nat.reduceLT,Nat.reduceAdd,Nat.reduceSub,Nat.reduceLeDiff,Nat.reduceMul,Int.reduceToNat,Int.reduceLT,Int.reduceLE,Int.reduceEq,Int.reduceNe,Int.reduceBEq,Int.reduceBNe,Int.reduceAdd,Int.reduceSub,Int.reduceNeg]; rfl) (Zq rfl ⟨_, rfl, rfl⟩)
      have f2 := eq_false a2
      rw [if_neg (by omega)] at hat
      have RI := right8_G (u := e.2.1) (v := e.2.2.1) (n := N) (by omega)
      by_cases a3 : e.2.1 < e.2.2.1 ∧ e.2.2.1 < N
      case neg =>
        have RI' : GF gtab fid_archipelagoref8_Right [.agg [.int .u32 e.2.1, .int .u32 e.2.2.1], .int .u64 N] [] 0 = some (.bool false, []) := by
          rw [RI]
          congr 3
          by_cases h1 : e.2.1 < e.2.2.1
          · rw [decide_eq_true h1, decide_eq_false (fun h2 => a3 ⟨h1, h2⟩)]; rfl
          · rw [decide_eq_false h1]; rfl
        rw [bad 24 (by rw [hat, if_pos a3]) (by decide)]
        refine Zr rfl (by simp (maxSteps := 2000000) only [gs,List.replicate,reduceIte,reduceCtorEq,Nat.reduceEqDiff,Nat.reduceLT,Nat.reduceAdd,Nat.reduceSub,Nat.reduceLeDiff,Nat.reduceMul,Int.reduceToNat,Int.reduceLT,Int.reduceLE,Int.reduceEq,Int.reduceNe,Int.reduceBEq,Int.reduceBNe,Int.reduceAdd,Int.reduceSub,Int.reduceNeg, sapp_eq, f1, f2]; rfl) (Zc rfl rfl (fun h => by cases h) (fun _ => ?_))
        refine Zr rfl (by simp (maxSteps := 2000000) only [gs,List.replicate,reduceIte,reduceCtorEq,Nat.reduceEqDiff,Nat.reduceLT,Nat.reduceAdd,Nat.reduceSub,Nat.reduceLeDiff,Nat.reduceMul,Int.reduceToNat,Int.reduceLT,Int.reduceLE,Int.reduceEq,Int.reduceNe,Int.reduceBEq,Int.reduceBNe,Int.reduceAdd,Int.reduceSub,Int.reduceNeg, sapp_eq, gc_archipelagoref8_Right, RI']; rfl) (Zc rfl rfl (fun _ => ?_) (fun h => by cases h))
        exact Zr rfl (by simp (maxSteps := 2000000) only [gs,List.replicate,reduceIte,reduceCtorEq,Nat.reduceEqDiff,Nat.reduceLT,Nat.reduceAdd,Nat.reduceSub,Nat.reduceLeDiff,Nat.reduceMul,Int.reduceToNat,Int.reduceLT,Int.reduceLE,Int.reduceEq,Int.reduceNe,Int.reduceBEq,Int.reduceBNe,Int.reduceAdd,Int.reduceSub,Int.reduceNeg]; rfl) (Zq rfl ⟨_, rfl, rfl⟩)
      have RI' : GF gtab fid_archipelagoref8_Right [.agg [.int .u32 e.2.1, .int .u32 e.2.2.1], .int .u64 N] [] 0 = some (.bool true, []) := by
        rw [RI, decide_eq_true a3.1, decide_eq_true a3.2]; rfl
      rw [if_neg (by simpa using a3)] at hat
      refine Zr rfl (by simp (maxSteps := 2000000) only [gs,List.replicate,reduceIte,reduceCtorEq,Nat.reduceEqDiff,Nat.reduceLT,Nat.reduceAdd,Nat.reduceSub,Nat.reduceLeDiff,Nat.reduceMul,Int.reduceToNat,Int.reduceLT,Int.reduceLE,Int.reduceEq,Int.reduceNe,Int.reduceBEq,Int.reduceBNe,Int.reduceAdd,Int.reduceSub,Int.reduceNeg, sapp_eq, f1, f2]; rfl) (Zc rfl rfl (fun h => by cases h) (fun _ => ?_))
      refine Zr rfl (by simp (maxSteps := 2000000) only [gs,List.replicate,reduceIte,reduceCtorEq,Nat.reduceEqDiff,Nat.reduceLT,Nat.reduceAdd,Nat.reduceSub,Nat.reduceLeDiff,Nat.reduceMul,Int.reduceToNat,Int.reduceLT,Int.reduceLE,Int.reduceEq,Int.reduceNe,Int.reduceBEq,Int.reduceBNe,Int.reduceAdd,Int.reduceSub,Int.reduceNeg, sapp_eq, gc_archipelagoref8_Right, RI']; rfl) (Zc rfl rfl (fun h => by cases h) (fun _ => ?_))
      refine Zj rfl (fun env h => h = .box [.int .u64 N, .list false 4 (uvs evs)] :: (tail ++ [.box [.int .i64 e.1, .int .u32 e.2.1, .int .u32 e.2.2.1, .bool e.2.2.2]]) ∧ (∃ b, (b = true ↔ (0 < i ∧ ¬ ltV (evs.getD (i - 1) (0, 0, 0, false)) e)) ∧ GEnv.get env 48 = .bool b) ∧ GEnv.get env 1 = .ptr 0 0 0 0 ∧ GEnv.get env 4 = now ∧ GEnv.get env 5 = .int .i64 (i : Int) ∧ GEnv.get env 6 = .ptr (tail.length + 1) 0 0 0) ?_ ?_
      · by_cases hi0 : i = 0
        · have g0 : ((i : Int) > 0) = False := eq_false (by omega)
          refine Zd rfl (by simp (maxSteps := 2000000) only [gs,gd,List.replicate,id,reduceIte,reduceCtorEq,Nat.reduceEqDiff,Nat.reduceLT,Nat.reduceAdd,Nat.reduceSub,Nat.reduceLeDiff,Nat.reduceMul,Int.reduceToNat,Int.reduceLT,Int.reduceLE,Int.reduceEq,Int.reduceNe,Int.reduceBEq,Int.reduceBNe,Int.reduceAdd,Int.reduceSub,Int.reduceNeg, g0]; rfl) ?_
          exact Za rfl ⟨rfl, ⟨false, ⟨fun h => absurd h (by simp), fun h => absurd h.1 (by omega)⟩, rfl⟩, rfl, rfl, rfl, rfl⟩
        · have g1 : ((i : Int) > 0) = True := eq_true (by omega)
          have ws : IntKind.i64.wrap ((i : Int) - 1) = ((i - 1 : Nat) : Int) := by rw [wrap_i64 (by omega) (by omega)]; omega
          have n1 : ((0 : Int) ≤ ((i - 1 : Nat) : Int)) = True := eq_true (by omega)
          have gp : evs[i - 1]? = some (evs[i - 1]'(by omega)) := List.getElem?_eq_getElem _
          have hgd : evs.getD (i - 1) (0, 0, 0, false) = evs[i - 1]'(by omega) := by rw [List.getD_eq_getElem?_getD, gp]; rfl
          rw [hgd]
          generalize evs[i - 1]'(by omega) = d at gp
          have BE := before8_H d e
          refine Zd rfl (by simp (maxSteps := 2000000) only [gs,gd,List.replicate,id,reduceIte,reduceCtorEq,Nat.reduceEqDiff,Nat.reduceLT,Nat.reduceAdd,Nat.reduceSub,Nat.reduceLeDiff,Nat.reduceMul,Int.reduceToNat,Int.reduceLT,Int.reduceLE,Int.reduceEq,Int.reduceNe,Int.reduceBEq,Int.reduceBNe,Int.reduceAdd,Int.reduceSub,Int.reduceNeg, g1, ws, n1, uvs_get gp, sapp_eq, gc_archipelagoref8_Before, iq_archipelagoref8_Before, BE]; rfl) ?_
          exact Za rfl ⟨rfl, ⟨!decide (ltV d e), ⟨fun h => ⟨by omega, by simpa using h⟩, fun h => by simpa using h.2⟩, rfl⟩, rfl, rfl, rfl, rfl⟩
      rintro env h ⟨rfl, ⟨b, hb, k48⟩, k1, k4, k5, k6⟩
      by_cases a4 : 0 < i ∧ ¬ ltV (evs.getD (i - 1) (0, 0, 0, false)) e
      · rw [bad 23 (by rw [hat, if_pos a4]) (by decide)]
        rw [hb.2 a4] at k48
        refine Zc rfl (x := true) k48 (fun _ => ?_) (fun h => by cases h)
        exact Zr rfl (by simp (maxSteps := 2000000) only [gs,List.replicate,reduceIte,reduceCtorEq,Nat.reduceEqDiff,Nat.reduceLT,Nat.reduceAdd,Nat.reduceSub,Nat.reduceLeDiff,Nat.reduceMul,Int.reduceToNat,Int.reduceLT,Int.reduceLE,Int.reduceEq,Int.reduceNe,Int.reduceBEq,Int.reduceBNe,Int.reduceAdd,Int.reduceSub,Int.reduceNeg, k5]; rfl) (Zq rfl ⟨_, rfl, rfl⟩)
      have hbf : b = false := by cases b with
        | false => rfl
        | true => exact absurd (hb.1 rfl) a4
      rw [hbf] at k48
      rw [if_neg a4] at hat
      refine Zc rfl (x := false) k48 (fun h => by cases h) (fun _ => ?_)
      obtain ⟨v, ok, es', TU, tu1, tu2, tu3⟩ := turn_R (e := e) (isE_share hnow) (by omega)
      refine Zj rfl (fun env h => h = .box [.int .u64 N, .list false 4 (uvs evs)] :: (tail ++ [.box [.int .i64 e.1, .int .u32 e.2.1, .int .u32 e.2.2.1, .bool e.2.2.2]]) ∧ GEnv.get env 1 = .ptr 0 0 0 0 ∧ isE (GEnv.get env 7) es' ∧ GEnv.get env 8 = .bool ok ∧ GEnv.get env 5 = .int .i64 (i : Int)) ?_ ?_
      · rcases hnow with rfl | rfl | ⟨rfl, rfl⟩
        all_goals
          simp only [U.share] at TU
          rcases tu1 with rfl | rfl | ⟨rfl, rfl⟩
          · refine Zr rfl (by simp (maxSteps := 2000000) only [gs,List.replicate,reduceIte,reduceCtorEq,Nat.reduceEqDiff,Nat.reduceLT,Nat.reduceAdd,Nat.reduceSub,Nat.reduceLeDiff,Nat.reduceMul,Int.reduceToNat,Int.reduceLT,Int.reduceLE,Int.reduceEq,Int.reduceNe,Int.reduceBEq,Int.reduceBNe,Int.reduceAdd,Int.reduceSub,Int.reduceNeg, k4, k6, sapp_eq, gc_archipelagoref8_Turn, snapLL_ues, TU]; rfl) ?_
            exact Za rfl ⟨rfl, by simp [GEnv.get, k1], .inl (by simp [GEnv.get]), by simp [GEnv.get], by simp [GEnv.get, k5]⟩
          · refine Zr rfl (by simp (maxSteps := 2000000) only [gs,List.replicate,reduceIte,reduceCtorEq,Nat.reduceEqDiff,Nat.reduceLT,Nat.reduceAdd,Nat.reduceSub,Nat.reduceLeDiff,Nat.reduceMul,Int.reduceToNat,Int.reduceLT,Int.reduceLE,Int.reduceEq,Int.reduceNe,Int.reduceBEq,Int.reduceBNe,Int.reduceAdd,Int.reduceSub,Int.reduceNeg, k4, k6, sapp_eq, gc_archipelagoref8_Turn, snapLL_ues, TU]; rfl) ?_
            exact Za rfl ⟨rfl, by simp [GEnv.get, k1], .inr (.inl (by simp [GEnv.get])), by simp [GEnv.get], by simp [GEnv.get, k5]⟩
          · refine Zr rfl (by simp (maxSteps := 2000000) only [gs,List.replicate,reduceIte,reduceCtorEq,Nat.reduceEqDiff,Nat.reduceLT,Nat.reduceAdd,Nat.reduceSub,Nat.reduceLeDiff,Nat.reduceMul,Int.reduceToNat,Int.reduceLT,Int.reduceLE,Int.reduceEq,Int.reduceNe,Int.reduceBEq,Int.reduceBNe,Int.reduceAdd,Int.reduceSub,Int.reduceNeg, k4, k6, sapp_eq, gc_archipelagoref8_Turn, snapLL_ues, TU]; rfl) ?_
            exact Za rfl ⟨rfl, by simp [GEnv.get, k1], .inr (.inr ⟨by simp [GEnv.get], rfl⟩), by simp [GEnv.get], by simp [GEnv.get, k5]⟩
      rintro env h ⟨rfl, k1, k7, k8, k5⟩
      have hon := hNO.2 (edOf e)
      cases ok with
      | false =>
        have a5 : onL (evs.take i) (edOf e) = e.2.2.2 := by
          cases h1 : onL (evs.take i) (edOf e) <;> cases h2 : e.2.2.2
          · rfl
          · exact absurd (tu3.1.2 ⟨hNO.1, by rw [h2, hon, h1]; simp⟩) (by simp)
          · exact absurd (tu3.1.2 ⟨hNO.1, by rw [h2, hon, h1]; simp⟩) (by simp)
          · rfl
        rw [bad 25 (by rw [hat, if_pos a5]) (by decide)]
        refine Zr rfl (by simp (maxSteps := 2000000) only [gs,List.replicate,reduceIte,reduceCtorEq,Nat.reduceEqDiff,Nat.reduceLT,Nat.reduceAdd,Nat.reduceSub,Nat.reduceLeDiff,Nat.reduceMul,Int.reduceToNat,Int.reduceLT,Int.reduceLE,Int.reduceEq,Int.reduceNe,Int.reduceBEq,Int.reduceBNe,Int.reduceAdd,Int.reduceSub,Int.reduceNeg, k8]; rfl) (Zc rfl rfl (fun _ => ?_) (fun h => by cases h))
        exact Zr rfl (by simp (maxSteps := 2000000) only [gs,List.replicate,reduceIte,reduceCtorEq,Nat.reduceEqDiff,Nat.reduceLT,Nat.reduceAdd,Nat.reduceSub,Nat.reduceLeDiff,Nat.reduceMul,Int.reduceToNat,Int.reduceLT,Int.reduceLE,Int.reduceEq,Int.reduceNe,Int.reduceBEq,Int.reduceBNe,Int.reduceAdd,Int.reduceSub,Int.reduceNeg, k5]; rfl) (Zq rfl ⟨_, rfl, rfl⟩)
      | true =>
        obtain ⟨t1, t2⟩ := tu3.2 rfl
        have a5 : ¬ onL (evs.take i) (edOf e) = e.2.2.2 := fun h => by
          have := (tu3.1.1 rfl).2
          rw [hon, h] at this
          cases h2 : e.2.2.2 <;> rw [h2] at this <;> simp at this
        refine Zr rfl (by simp (maxSteps := 2000000) only [gs,List.replicate,reduceIte,reduceCtorEq,Nat.reduceEqDiff,Nat.reduceLT,Nat.reduceAdd,Nat.reduceSub,Nat.reduceLeDiff,Nat.reduceMul,Int.reduceToNat,Int.reduceLT,Int.reduceLE,Int.reduceEq,Int.reduceNe,Int.reduceBEq,Int.reduceBNe,Int.reduceAdd,Int.reduceSub,Int.reduceNeg, k8]; rfl) (Zc rfl rfl (fun h => by cases h) (fun _ => ?_))
        generalize hq : GEnv.get env 7 = w7 at k7
        have nx := evN_next hno (by rw [hat, if_neg a5])
        have hNO' : NowOf (evs.take (i + 1)) es' := by rw [htk]; exact now_turn hNO t1 t2
        rcases k7 with rfl | rfl | ⟨rfl, rfl⟩
        · refine Zr rfl (by simp (maxSteps := 2000000) only [gs,List.replicate,reduceIte,reduceCtorEq,Nat.reduceEqDiff,Nat.reduceLT,Nat.reduceAdd,Nat.reduceSub,Nat.reduceLeDiff,Nat.reduceMul,Int.reduceToNat,Int.reduceLT,Int.reduceLE,Int.reduceEq,Int.reduceNe,Int.reduceBEq,Int.reduceBNe,Int.reduceAdd,Int.reduceSub,Int.reduceNeg, hq]; rfl) ?_
          refine Zr rfl (by simp (maxSteps := 2000000) only [gs,List.replicate,reduceIte,reduceCtorEq,Nat.reduceEqDiff,Nat.reduceLT,Nat.reduceAdd,Nat.reduceSub,Nat.reduceLeDiff,Nat.reduceMul,Int.reduceToNat,Int.reduceLT,Int.reduceLE,Int.reduceEq,Int.reduceNe,Int.reduceBEq,Int.reduceBNe,Int.reduceAdd,Int.reduceSub,Int.reduceNeg, k5, hinc]; rfl) ?_
          exact Za rfl ⟨m - 1, by omega, i + 1, _, es', _, nx, .inl rfl, hNO', by omega, rfl, by simp [GEnv.get, k1], by simp [GEnv.get], by simp [GEnv.get], by omega⟩
        · refine Zr rfl (by simp (maxSteps := 2000000) only [gs,List.replicate,reduceIte,reduceCtorEq,Nat.reduceEqDiff,Nat.reduceLT,Nat.reduceAdd,Nat.reduceSub,Nat.reduceLeDiff,Nat.reduceMul,Int.reduceToNat,Int.reduceLT,Int.reduceLE,Int.reduceEq,Int.reduceNe,Int.reduceBEq,Int.reduceBNe,Int.reduceAdd,Int.reduceSub,Int.reduceNeg, hq]; rfl) ?_
          refine Zr rfl (by simp (maxSteps := 2000000) only [gs,List.replicate,reduceIte,reduceCtorEq,Nat.reduceEqDiff,Nat.reduceLT,Nat.reduceAdd,Nat.reduceSub,Nat.reduceLeDiff,Nat.reduceMul,Int.reduceToNat,Int.reduceLT,Int.reduceLE,Int.reduceEq,Int.reduceNe,Int.reduceBEq,Int.reduceBNe,Int.reduceAdd,Int.reduceSub,Int.reduceNeg, k5, hinc]; rfl) ?_
          exact Za rfl ⟨m - 1, by omega, i + 1, _, es', _, nx, .inr (.inl rfl), hNO', by omega, rfl, by simp [GEnv.get, k1], by simp [GEnv.get], by simp [GEnv.get], by omega⟩
        · refine Zr rfl (by simp (maxSteps := 2000000) only [gs,List.replicate,reduceIte,reduceCtorEq,Nat.reduceEqDiff,Nat.reduceLT,Nat.reduceAdd,Nat.reduceSub,Nat.reduceLeDiff,Nat.reduceMul,Int.reduceToNat,Int.reduceLT,Int.reduceLE,Int.reduceEq,Int.reduceNe,Int.reduceBEq,Int.reduceBNe,Int.reduceAdd,Int.reduceSub,Int.reduceNeg, hq]; rfl) ?_
          refine Zr rfl (by simp (maxSteps := 2000000) only [gs,List.replicate,reduceIte,reduceCtorEq,Nat.reduceEqDiff,Nat.reduceLT,Nat.reduceAdd,Nat.reduceSub,Nat.reduceLeDiff,Nat.reduceMul,Int.reduceToNat,Int.reduceLT,Int.reduceLE,Int.reduceEq,Int.reduceNe,Int.reduceBEq,Int.reduceBNe,Int.reduceAdd,Int.reduceSub,Int.reduceNeg, k5, hinc]; rfl) ?_
          exact Za rfl ⟨m - 1, by omega, i + 1, _, [], _, nx, .inr (.inr ⟨rfl, rfl⟩), hNO', by simp, rfl, by simp [GEnv.get, k1], by simp [GEnv.get], by simp [GEnv.get], by omega⟩
    · have : i = evs.length := by omega
      subst this
      rw [hno]
      exact Zr rfl (by simp (maxSteps := 2000000) only [gs,List.replicate,reduceIte,reduceCtorEq,Nat.reduceEqDiff,Nat.reduceLT,Nat.reduceAdd,Nat.reduceSub,Nat.reduceLeDiff,Nat.reduceMul,Int.reduceToNat,Int.reduceLT,Int.reduceLE,Int.reduceEq,Int.reduceNe,Int.reduceBEq,Int.reduceBNe,Int.reduceAdd,Int.reduceSub,Int.reduceNeg]; rfl) (Zq rfl ⟨_, rfl, rfl⟩)
  · refine Zr rfl (by simp (maxSteps := 2000000) only [gs,List.replicate,reduceIte,reduceCtorEq,Nat.reduceEqDiff,Nat.reduceLT,Nat.reduceAdd,Nat.reduceSub,Nat.reduceLeDiff,Nat.reduceMul,Int.reduceToNat,Int.reduceLT,Int.reduceLE,Int.reduceEq,Int.reduceNe,Int.reduceBEq,Int.reduceBNe,Int.reduceAdd,Int.reduceSub,Int.reduceNeg]; rfl) ?_
    refine Zr rfl (by simp (maxSteps := 2000000) only [gs,List.replicate,reduceIte,reduceCtorEq,Nat.reduceEqDiff,Nat.reduceLT,Nat.reduceAdd,Nat.reduceSub,Nat.reduceLeDiff,Nat.reduceMul,Int.reduceToNat,Int.reduceLT,Int.reduceLE,Int.reduceEq,Int.reduceNe,Int.reduceBEq,Int.reduceBNe,Int.reduceAdd,Int.reduceSub,Int.reduceNeg, c1]; rfl) (Zc rfl rfl (fun h => by cases h) (fun _ => ?_))
    refine Zr rfl (by simp (maxSteps := 2000000) only [gs,List.replicate,reduceIte,reduceCtorEq,Nat.reduceEqDiff,Nat.reduceLT,Nat.reduceAdd,Nat.reduceSub,Nat.reduceLeDiff,Nat.reduceMul,Int.reduceToNat,Int.reduceLT,Int.reduceLE,Int.reduceEq,Int.reduceNe,Int.reduceBEq,Int.reduceBNe,Int.reduceAdd,Int.reduceSub,Int.reduceNeg]; rfl) ?_
    refine Zr rfl (by simp (maxSteps := 2000000) only [gs,List.replicate,reduceIte,reduceCtorEq,Nat.reduceEqDiff,Nat.reduceLT,Nat.reduceAdd,Nat.reduceSub,Nat.reduceLeDiff,Nat.reduceMul,Int.reduceToNat,Int.reduceLT,Int.reduceLE,Int.reduceEq,Int.reduceNe,Int.reduceBEq,Int.reduceBNe,Int.reduceAdd,Int.reduceSub,Int.reduceNeg]; rfl) ?_
    refine Zw rfl (fun m env h => h = [.box [.int .u64 N, .nils]] ∧ GEnv.get env 1 = .ptr 0 0 0 0 ∧ GEnv.get env 4 = .nils ∧ GEnv.get env 5 = .int .i64 0) 0 ⟨rfl, rfl, rfl, rfl⟩ ?_
    rintro m env h ⟨rfl, k1, k4, k5⟩
    simp only [GEnv.keep, k1, k4, k5]
    refine Zr rfl (by simp (maxSteps := 2000000) only [gs,List.replicate,reduceIte,reduceCtorEq,Nat.reduceEqDiff,Nat.reduceLT,Nat.reduceAdd,Nat.reduceSub,Nat.reduceLeDiff,Nat.reduceMul,Int.reduceToNat,Int.reduceLT,Int.reduceLE,Int.reduceEq,Int.reduceNe,Int.reduceBEq,Int.reduceBNe,Int.reduceAdd,Int.reduceSub,Int.reduceNeg]; rfl) (Zc rfl rfl (fun h => by cases h) (fun _ => ?_))
    exact Zr rfl (by simp (maxSteps := 2000000) only [gs,List.replicate,reduceIte,reduceCtorEq,Nat.reduceEqDiff,Nat.reduceLT,Nat.reduceAdd,Nat.reduceSub,Nat.reduceLeDiff,Nat.reduceMul,Int.reduceToNat,Int.reduceLT,Int.reduceLE,Int.reduceEq,Int.reduceNe,Int.reduceBEq,Int.reduceBNe,Int.reduceAdd,Int.reduceSub,Int.reduceNeg]; rfl) (Zq rfl ⟨_, rfl, rfl⟩)

end Go.Ab
