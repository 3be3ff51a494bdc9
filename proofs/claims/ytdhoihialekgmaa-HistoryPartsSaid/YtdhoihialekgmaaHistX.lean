/- HistoryParts on the machine of values. -/
import Derived.Test.YtdhoihialekgmaaHistW
import Derived.Test.YtdhoihialekgmaaValN
namespace Go.Ab
open Go
set_option linter.unusedVariables false
set_option linter.unusedSimpArgs false
set_option maxRecDepth 10000

theorem evN_zero {N : Int} {evs : List Ev} : ∀ n, (evN N evs n).2 = 0 → evN N evs n = (0, 0)
  | 0, _ => rfl
  | n + 1, h => by
    rw [evN] at h ⊢
    by_cases h1 : (evN N evs n).2 ≠ 0
    · rw [if_pos h1] at h; exact absurd h h1
    · rw [if_neg h1] at h ⊢
      by_cases h2 : evAt N evs n = 0
      · rw [if_pos h2]
      · rw [if_neg h2] at h; exact absurd h h2
theorem evChk_zero {N : Int} {evs : List Ev} (h : (evChk N evs).2 = 0) : (evChk N evs).1 = 0 := by
  unfold evChk at *
  split at h
  · simp at h
  · rename_i hN
    rw [if_neg hN, evN_zero _ h]

set_option maxHeartbeats 4000000 in
theorem historyParts_G {k ct what at' : Nat} {l : List Nat} {v : Int} {more : List Ev} (hm : EvOk more) (hk : k < 256) (hl : ∀ x ∈ l, x < 256) (hct : ct < 256) (hat : at' < 256) : GF gtab fid_archipelagolaw9_HistoryParts [.int .u8 k, .list false 1 (un .u8 l), .int .u8 ct, .int .u8 what, .int .u8 at', .int .i64 v, .list false 4 (uvs more)] [] 0 = some (.bool true, []) := by
  refine fn_archipelagolaw9_HistoryParts rfl ?_
  simp only [genvOf]
  refine Zr rfl (by simp (maxSteps := 2000000) only [gs,List.replicate,reduceIte,reduceCtorEq,Nat.reduceEqDiff,Nat.reduceLT,Nat.reduceAdd,Nat.reduceSub,Nat.reduceLeDiff,Nat.reduceMul,Int.reduceToNat,Int.reduceLT,Int.reduceLE,Int.reduceEq,Int.reduceNe,Int.reduceBEq,Int.reduceBNe,Int.reduceAdd,Int.reduceSub,Int.reduceNeg]; rfl) ?_
  refine Zr rfl (by simp (maxSteps := 2000000) only [gs,List.replicate,reduceIte,reduceCtorEq,Nat.reduceEqDiff,Nat.reduceLT,Nat.reduceAdd,Nat.reduceSub,Nat.reduceLeDiff,Nat.reduceMul,Int.reduceToNat,Int.reduceLT,Int.reduceLE,Int.reduceEq,Int.reduceNe,Int.reduceBEq,Int.reduceBNe,Int.reduceAdd,Int.reduceSub,Int.reduceNeg, gc_archipelagolaw9_known, hw_known]; rfl) (Zc rfl rfl (fun h => by cases h) (fun _ => ?_))
  by_cases g2 : l.length ≤ 60
  case neg =>
    have c2 : ((l.length : Int) > 60) = True := eq_true (by omega)
    refine Zr rfl (by simp (maxSteps := 2000000) only [gs,List.replicate,reduceIte,reduceCtorEq,Nat.reduceEqDiff,Nat.reduceLT,Nat.reduceAdd,Nat.reduceSub,Nat.reduceLeDiff,Nat.reduceMul,Int.reduceToNat,Int.reduceLT,Int.reduceLE,Int.reduceEq,Int.reduceNe,Int.reduceBEq,Int.reduceBNe,Int.reduceAdd,Int.reduceSub,Int.reduceNeg, un_length, c2]; rfl) (Zc rfl rfl (fun _ => ?_) (fun h => by cases h))
    exact Zr rfl (by simp (maxSteps := 2000000) only [gs,List.replicate,reduceIte,reduceCtorEq,Nat.reduceEqDiff,Nat.reduceLT,Nat.reduceAdd,Nat.reduceSub,Nat.reduceLeDiff,Nat.reduceMul,Int.reduceToNat,Int.reduceLT,Int.reduceLE,Int.reduceEq,Int.reduceNe,Int.reduceBEq,Int.reduceBNe,Int.reduceAdd,Int.reduceSub,Int.reduceNeg]; rfl) (Zq rfl ⟨_, rfl, rfl⟩)
  have c2 : ((l.length : Int) > 60) = False := eq_false (by omega)
  by_cases g1 : more.length ≤ 10
  case neg =>
    have c1 : ((more.length : Int) > 10) = True := eq_true (by omega)
    refine Zr rfl (by simp (maxSteps := 2000000) only [gs,List.replicate,reduceIte,reduceCtorEq,Nat.reduceEqDiff,Nat.reduceLT,Nat.reduceAdd,Nat.reduceSub,Nat.reduceLeDiff,Nat.reduceMul,Int.reduceToNat,Int.reduceLT,Int.reduceLE,Int.reduceEq,Int.reduceNe,Int.reduceBEq,Int.reduceBNe,Int.reduceAdd,Int.reduceSub,Int.reduceNeg, uvs_length, un_length, c1, c2]; rfl) (Zc rfl rfl (fun _ => ?_) (fun h => by cases h))
    exact Zr rfl (by simp (maxSteps := 2000000) only [gs,List.replicate,reduceIte,reduceCtorEq,Nat.reduceEqDiff,Nat.reduceLT,Nat.reduceAdd,Nat.reduceSub,Nat.reduceLeDiff,Nat.reduceMul,Int.reduceToNat,Int.reduceLT,Int.reduceLE,Int.reduceEq,Int.reduceNe,Int.reduceBEq,Int.reduceBNe,Int.reduceAdd,Int.reduceSub,Int.reduceNeg]; rfl) (Zq rfl ⟨_, rfl, rfl⟩)
  have c1 : ((more.length : Int) > 10) = False := eq_false (by omega)
  refine Zr rfl (by simp (maxSteps := 2000000) only [gs,List.replicate,reduceIte,reduceCtorEq,Nat.reduceEqDiff,Nat.reduceLT,Nat.reduceAdd,Nat.reduceSub,Nat.reduceLeDiff,Nat.reduceMul,Int.reduceToNat,Int.reduceLT,Int.reduceLE,Int.reduceEq,Int.reduceNe,Int.reduceBEq,Int.reduceBNe,Int.reduceAdd,Int.reduceSub,Int.reduceNeg, uvs_length, un_length, c1, c2]; rfl) (Zc rfl rfl (fun h => by cases h) (fun _ => ?_))
  obtain ⟨N, hv, evs, HI, hva, hsrt, htin, hlen, hN, hR, hEv⟩ := history_R hk hl g2
  obtain ⟨Nb, wb, evb, BE, bva, bok, blen⟩ := bent_R (N := (N : Int)) (v := v) (what := what) hva (by omega) hEv hat
  have t1 := isVa_share hva
  unfold U.share at t1
  have o1 := isVa_one hva
  unfold U.one at o1
  have n1 := isVa_snap hva
  have t2 := isVa_share bva
  unfold U.share at t2
  have o2 := isVa_one bva
  unfold U.one at o2
  have n2 := isVa_snap bva
  refine Zr rfl (by simp (maxSteps := 2000000) only [gs,List.replicate,reduceIte,reduceCtorEq,Nat.reduceEqDiff,Nat.reduceLT,Nat.reduceAdd,Nat.reduceSub,Nat.reduceLeDiff,Nat.reduceMul,Int.reduceToNat,Int.reduceLT,Int.reduceLE,Int.reduceEq,Int.reduceNe,Int.reduceBEq,Int.reduceBNe,Int.reduceAdd,Int.reduceSub,Int.reduceNeg, gc_archipelagoseat_History, snapLL_un, HI, t1, o1]; rfl) ?_
  refine Z_nrm 1 (Zj0 (fun env h => ∃ tail : GH, h = .box [.int .u64 (N : Int), hv] :: tail ∧ GEnv.get env 3 = .int .u8 (what : Int) ∧ GEnv.get env 4 = .int .u8 (at' : Int) ∧ GEnv.get env 5 = .int .i64 v ∧ GEnv.get env 6 = .list false 4 (uvs more) ∧ GEnv.get env 15 = .ptr 0 0 0 0) ?_ ?_)
  · rcases hva with rfl | ⟨rfl, rfl⟩
    · by_cases h0 : evs = []
      · subst h0
        refine Zr rfl (by simp (maxSteps := 2000000) only [gs,List.replicate,reduceIte,reduceCtorEq,Nat.reduceEqDiff,Nat.reduceLT,Nat.reduceAdd,Nat.reduceSub,Nat.reduceLeDiff,Nat.reduceMul,Int.reduceToNat,Int.reduceLT,Int.reduceLE,Int.reduceEq,Int.reduceNe,Int.reduceBEq,Int.reduceBNe,Int.reduceAdd,Int.reduceSub,Int.reduceNeg, uvs_length, List.length_nil, Int.natCast_zero]; rfl) ?_
        refine Zc rfl rfl (fun h => by cases h) (fun _ => ?_)
        exact Za rfl ⟨[], rfl, rfl, rfl, rfl, rfl, rfl⟩
      · have hpos : 0 < evs.length := List.length_pos_iff.2 h0
        have f0 : ((evs.length : Int) > 0) = True := eq_true (by omega)
        have wa : IntKind.i64.wrap ((ct : Nat) : Int) = (ct : Int) := wrap_i64_nat (by omega)
        have fz : ((evs.length : Int) = 0) = False := eq_false (by omega)
        have ma : ((ct : Nat) : Int).tmod ((evs.length : Nat) : Int) = ((ct % evs.length : Nat) : Int) := rfl
        have him := Nat.mod_lt ct hpos
        refine Zr rfl (by simp (maxSteps := 2000000) only [gs,List.replicate,reduceIte,reduceCtorEq,Nat.reduceEqDiff,Nat.reduceLT,Nat.reduceAdd,Nat.reduceSub,Nat.reduceLeDiff,Nat.reduceMul,Int.reduceToNat,Int.reduceLT,Int.reduceLE,Int.reduceEq,Int.reduceNe,Int.reduceBEq,Int.reduceBNe,Int.reduceAdd,Int.reduceSub,Int.reduceNeg, uvs_length, f0]; rfl) (Zc rfl rfl (fun _ => ?_) (fun h => by cases h))
        generalize ct % evs.length = i at him ma
        have q0 : ((0 : Int) ≤ (i : Int)) = True := eq_true (by omega)
        have q1 : ((i : Int) ≤ (evs.length : Int)) = True := eq_true (by omega)
        have q2 : ((i : Int) - 0).toNat = i := by omega
        have CK := check_G (N := (N : Int)) (.inl (rfl : U.list false 4 (uvs (evs.take i)) = _)) (by rw [List.length_take]; omega) (fun e he => hEv e (List.mem_of_mem_take he))
        rw [(hR.take i).check] at CK
        refine Zr rfl (by simp (maxSteps := 2000000) only [gs,List.replicate,reduceIte,reduceCtorEq,Nat.reduceEqDiff,Nat.reduceLT,Nat.reduceAdd,Nat.reduceSub,Nat.reduceLeDiff,Nat.reduceMul,Int.reduceToNat,Int.reduceLT,Int.reduceLE,Int.reduceEq,Int.reduceNe,Int.reduceBEq,Int.reduceBNe,Int.reduceAdd,Int.reduceSub,Int.reduceNeg]; rfl) ?_
        refine Zd rfl (by simp (maxSteps := 2000000) only [gs,gd,List.replicate,id,reduceIte,reduceCtorEq,Nat.reduceEqDiff,Nat.reduceLT,Nat.reduceAdd,Nat.reduceSub,Nat.reduceLeDiff,Nat.reduceMul,Int.reduceToNat,Int.reduceLT,Int.reduceLE,Int.reduceEq,Int.reduceNe,Int.reduceBEq,Int.reduceBNe,Int.reduceAdd,Int.reduceSub,Int.reduceNeg, uvs_length, wa, fz, ma, q0, q1, q2, uvs_take]; rfl) ?_
        refine Zr rfl (by simp (maxSteps := 2000000) only [gs,List.replicate,reduceIte,reduceCtorEq,Nat.reduceEqDiff,Nat.reduceLT,Nat.reduceAdd,Nat.reduceSub,Nat.reduceLeDiff,Nat.reduceMul,Int.reduceToNat,Int.reduceLT,Int.reduceLE,Int.reduceEq,Int.reduceNe,Int.reduceBEq,Int.reduceBNe,Int.reduceAdd,Int.reduceSub,Int.reduceNeg, gc_history_Check, snapLL_uvs, CK]; rfl) ?_
        refine Zr rfl (by simp (maxSteps := 2000000) only [gs,List.replicate,reduceIte,reduceCtorEq,Nat.reduceEqDiff,Nat.reduceLT,Nat.reduceAdd,Nat.reduceSub,Nat.reduceLeDiff,Nat.reduceMul,Int.reduceToNat,Int.reduceLT,Int.reduceLE,Int.reduceEq,Int.reduceNe,Int.reduceBEq,Int.reduceBNe,Int.reduceAdd,Int.reduceSub,Int.reduceNeg]; rfl) (Zc rfl rfl (fun h => by cases h) (fun _ => ?_))
        exact Za rfl ⟨_, rfl, rfl, rfl, rfl, rfl, rfl⟩
    · refine Zr rfl (by simp (maxSteps := 2000000) only [gs,List.replicate,reduceIte,reduceCtorEq,Nat.reduceEqDiff,Nat.reduceLT,Nat.reduceAdd,Nat.reduceSub,Nat.reduceLeDiff,Nat.reduceMul,Int.reduceToNat,Int.reduceLT,Int.reduceLE,Int.reduceEq,Int.reduceNe,Int.reduceBEq,Int.reduceBNe,Int.reduceAdd,Int.reduceSub,Int.reduceNeg]; rfl) ?_
      refine Zc rfl rfl (fun h => by cases h) (fun _ => ?_)
      exact Za rfl ⟨[], rfl, rfl, rfl, rfl, rfl, rfl⟩
  rintro env h ⟨tail, rfl, k3, k4, k5, k6, k15⟩
  have CK := check_G (N := Nb) bva (by omega) bok
  refine Zr rfl (by simp (maxSteps := 2000000) only [gs,List.replicate,reduceIte,reduceCtorEq,Nat.reduceEqDiff,Nat.reduceLT,Nat.reduceAdd,Nat.reduceSub,Nat.reduceLeDiff,Nat.reduceMul,Int.reduceToNat,Int.reduceLT,Int.reduceLE,Int.reduceEq,Int.reduceNe,Int.reduceBEq,Int.reduceBNe,Int.reduceAdd,Int.reduceSub,Int.reduceNeg, k3, k4, k5, k15, gc_archipelagoseat_Bent, BE, t1, n1, t2, o2, wapp_eq, wapp_set]; rfl) ?_
  refine Zr rfl (by simp (maxSteps := 2000000) only [gs,List.replicate,reduceIte,reduceCtorEq,Nat.reduceEqDiff,Nat.reduceLT,Nat.reduceAdd,Nat.reduceSub,Nat.reduceLeDiff,Nat.reduceMul,Int.reduceToNat,Int.reduceLT,Int.reduceLE,Int.reduceEq,Int.reduceNe,Int.reduceBEq,Int.reduceBNe,Int.reduceAdd,Int.reduceSub,Int.reduceNeg, wapp_eq, t2, n2, gc_history_Check, CK]; rfl) ?_
  by_cases hz : (evChk Nb evb).2 = 0
  · have hz1 := evChk_zero hz
    refine Zr rfl (by simp (maxSteps := 2000000) only [gs,List.replicate,reduceIte,reduceCtorEq,Nat.reduceEqDiff,Nat.reduceLT,Nat.reduceAdd,Nat.reduceSub,Nat.reduceLeDiff,Nat.reduceMul,Int.reduceToNat,Int.reduceLT,Int.reduceLE,Int.reduceEq,Int.reduceNe,Int.reduceBEq,Int.reduceBNe,Int.reduceAdd,Int.reduceSub,Int.reduceNeg, hz, beq_self_eq_true]; rfl) (Zc rfl rfl (fun _ => ?_) (fun h => by cases h))
    exact Zr rfl (by simp (maxSteps := 2000000) only [gs,List.replicate,reduceIte,reduceCtorEq,Nat.reduceEqDiff,Nat.reduceLT,Nat.reduceAdd,Nat.reduceSub,Nat.reduceLeDiff,Nat.reduceMul,Int.reduceToNat,Int.reduceLT,Int.reduceLE,Int.reduceEq,Int.reduceNe,Int.reduceBEq,Int.reduceBNe,Int.reduceAdd,Int.reduceSub,Int.reduceNeg, hz1]; rfl) (Zq rfl ⟨_, rfl, rfl⟩)
  · have f0 : ((evChk Nb evb).2 == 0) = false := beq_eq_false_iff_ne.2 hz
    refine Zr rfl (by simp (maxSteps := 2000000) only [gs,List.replicate,reduceIte,reduceCtorEq,Nat.reduceEqDiff,Nat.reduceLT,Nat.reduceAdd,Nat.reduceSub,Nat.reduceLeDiff,Nat.reduceMul,Int.reduceToNat,Int.reduceLT,Int.reduceLE,Int.reduceEq,Int.reduceNe,Int.reduceBEq,Int.reduceBNe,Int.reduceAdd,Int.reduceSub,Int.reduceNeg, f0]; rfl) (Zc rfl rfl (fun h => by cases h) (fun _ => ?_))
    have CK2 := check_G (N := Nb) (.inl (rfl : U.list false 4 (uvs (evb ++ more)) = _)) (by rw [List.length_append]; omega) (fun e he => by
      rcases List.mem_append.1 he with h | h
      · exact bok e h
      · exact hm e h)
    rw [evChk_append (more := more) hz] at CK2
    have r1 : (evb.length * 24 ≤ room) = True := eq_true (by unfold room; omega)
    have r2 : ((evb.length + more.length) * 24 ≤ room) = True := eq_true (by unfold room; omega)
    have r3 : (more.length * 24 ≤ room) = True := eq_true (by unfold room; omega)
    have r4 : ((0 + more.length) * 24 ≤ room) = True := eq_true (by unfold room; omega)
    have r0 : (0 ≤ room) = True := eq_true (by unfold room; omega)
    rcases bva with rfl | ⟨rfl, rfl⟩
    · refine Zr rfl (by simp (maxSteps := 2000000) only [gs,List.replicate,reduceIte,reduceCtorEq,Nat.reduceEqDiff,Nat.reduceLT,Nat.reduceAdd,Nat.reduceSub,Nat.reduceLeDiff,Nat.reduceMul,Int.reduceToNat,Int.reduceLT,Int.reduceLE,Int.reduceEq,Int.reduceNe,Int.reduceBEq,Int.reduceBNe,Int.reduceAdd,Int.reduceSub,Int.reduceNeg, k6, wapp_eq, wapp_set, uvs_length, r1, r2, uvs_append]; rfl) ?_
      refine Zr rfl (by simp (maxSteps := 2000000) only [gs,List.replicate,reduceIte,reduceCtorEq,Nat.reduceEqDiff,Nat.reduceLT,Nat.reduceAdd,Nat.reduceSub,Nat.reduceLeDiff,Nat.reduceMul,Int.reduceToNat,Int.reduceLT,Int.reduceLE,Int.reduceEq,Int.reduceNe,Int.reduceBEq,Int.reduceBNe,Int.reduceAdd,Int.reduceSub,Int.reduceNeg, wapp_eq, gc_history_Check, snapLL_uvs, CK2]; rfl) ?_
      exact Zr rfl (by simp (maxSteps := 2000000) only [gs,List.replicate,reduceIte,reduceCtorEq,Nat.reduceEqDiff,Nat.reduceLT,Nat.reduceAdd,Nat.reduceSub,Nat.reduceLeDiff,Nat.reduceMul,Int.reduceToNat,Int.reduceLT,Int.reduceLE,Int.reduceEq,Int.reduceNe,Int.reduceBEq,Int.reduceBNe,Int.reduceAdd,Int.reduceSub,Int.reduceNeg, beq_self_eq_true]; rfl) (Zq rfl ⟨_, rfl, rfl⟩)
    · rw [List.nil_append] at CK2
      refine Zr rfl (by simp (maxSteps := 2000000) only [gs,List.replicate,reduceIte,reduceCtorEq,Nat.reduceEqDiff,Nat.reduceLT,Nat.reduceAdd,Nat.reduceSub,Nat.reduceLeDiff,Nat.reduceMul,Int.reduceToNat,Int.reduceLT,Int.reduceLE,Int.reduceEq,Int.reduceNe,Int.reduceBEq,Int.reduceBNe,Int.reduceAdd,Int.reduceSub,Int.reduceNeg, k6, wapp_eq, wapp_set, uvs_length, List.length_nil, r0, r3, r4, List.nil_append]; rfl) ?_
      refine Zr rfl (by simp (maxSteps := 2000000) only [gs,List.replicate,reduceIte,reduceCtorEq,Nat.reduceEqDiff,Nat.reduceLT,Nat.reduceAdd,Nat.reduceSub,Nat.reduceLeDiff,Nat.reduceMul,Int.reduceToNat,Int.reduceLT,Int.reduceLE,Int.reduceEq,Int.reduceNe,Int.reduceBEq,Int.reduceBNe,Int.reduceAdd,Int.reduceSub,Int.reduceNeg, wapp_eq, gc_history_Check, snapLL_uvs, CK2]; rfl) ?_
      exact Zr rfl (by simp (maxSteps := 2000000) only [gs,List.replicate,reduceIte,reduceCtorEq,Nat.reduceEqDiff,Nat.reduceLT,Nat.reduceAdd,Nat.reduceSub,Nat.reduceLeDiff,Nat.reduceMul,Int.reduceToNat,Int.reduceLT,Int.reduceLE,Int.reduceEq,Int.reduceNe,Int.reduceBEq,Int.reduceBNe,Int.reduceAdd,Int.reduceSub,Int.reduceNeg, beq_self_eq_true]; rfl) (Zq rfl ⟨_, rfl, rfl⟩)

theorem historyParts_law (us : List U) (h : Ars [.one (.int .u8), .one (.sl [.int .u8]), .one (.int .u8), .one (.int .u8), .one (.int .u8), .one (.int .i64), .one (.sl [.int .i64, .int .u32, .int .u32, .bool])] us) : GF gtab fid_archipelagolaw9_HistoryParts us [] 0 = some (.bool true, []) := by
  obtain ⟨u1, _, rfl, h1, u2, _, rfl, h2, u3, _, rfl, h3, u4, _, rfl, h4, u5, _, rfl, h5, u6, _, rfl, h6, u7, _, rfl, h7, rfl⟩ := h
  obtain ⟨k, rfl, hk⟩ := Sh.nat rfl h1
  obtain ⟨l, rfl, _, hl⟩ := Sh.nums rfl h2
  obtain ⟨ct, rfl, hct⟩ := Sh.nat rfl h3
  obtain ⟨what, rfl, hwh⟩ := Sh.nat rfl h4
  obtain ⟨at', rfl, hat⟩ := Sh.nat rfl h5
  simp only [Ar.fits, Sh.fits] at h6
  obtain ⟨v, rfl, _⟩ := h6
  obtain ⟨more, rfl, hm⟩ := Sh.events h7
  exact historyParts_G hm (Nat.lt_succ_of_le (Int.ofNat_le.1 hk)) (fun x hx => Nat.lt_succ_of_le (Int.ofNat_le.1 (hl x hx))) (Nat.lt_succ_of_le (Int.ofNat_le.1 hct)) (Nat.lt_succ_of_le (Int.ofNat_le.1 hat))

end Go.Ab
