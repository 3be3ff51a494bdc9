/- How many bits an event takes; DeltaSizes. -/
import Derived.Test.YtbkbelaogegpgaaDelA
import Derived.Test.YtbkbelaogegpgaaValN
import Derived.Test.YtbkbelaogegpgaaArgA
namespace Go.Ab
open Go
set_option linter.unusedVariables false
set_option linter.unusedSimpArgs false
set_option maxRecDepth 10000

theorem shr_any {v s : Nat} (hv : v < 18446744073709551616) : (v : Int).fdiv (2 ^ min s IntKind.u64.bits) = ((v / 2 ^ s : Nat) : Int) := by
  have := shr_nat (k := .u64) (a := v) (s := s) hv
  simp only [Int.toNat_natCast] at this
  exact this

theorem rlength_G {v : Nat} (hv : v < 18446744073709551616) : GF gtab fid_archipelagoref1_length [.int .u64 v] [] 0 = some (.int .i64 (nb v : Nat), []) := by
  refine fn_archipelagoref1_length rfl ?_
  simp only [genvOf]
  have hnb := nb_bound (v := v) (n := 64) hv
  refine Zr rfl (by simp (maxSteps := 2000000) only [gs,List.replicate,reduceIte,reduceCtorEq,Nat.reduceEqDiff,Nat.reduceLT,Nat.reduceAdd,Nat.reduceSub,Nat.reduceLeDiff,Nat.reduceMul,Int.reduceToNat,Int.reduceLT,Int.reduceLE,Int.reduceEq,Int.reduceNe,Int.reduceBEq,Int.reduceBNe,Int.reduceAdd,Int.reduceSub,Int.reduceNeg]; rfl) ?_
  refine Zr rfl (by simp (maxSteps := 2000000) only [gs,List.replicate,reduceIte,reduceCtorEq,Nat.reduceEqDiff,Nat.reduceLT,Nat.reduceAdd,Nat.reduceSub,Nat.reduceLeDiff,Nat.reduceMul,Int.reduceToNat,Int.reduceLT,Int.reduceLE,Int.reduceEq,Int.reduceNe,Int.reduceBEq,Int.reduceBNe,Int.reduceAdd,Int.reduceSub,Int.reduceNeg]; rfl) ?_
  refine Zw rfl (fun m env h => h = [] ∧ ∃ z n : Nat, GEnv.get env 0 = .int .u64 (z : Int) ∧ GEnv.get env 3 = .int .i64 (n : Int) ∧ z ≤ v ∧ n + nb z = nb v ∧ m = nb z) (nb v) ⟨rfl, v, 0, rfl, rfl, Nat.le_refl _, by omega, rfl⟩ ?_
  rintro m env h ⟨rfl, z, n, k0, k3, hz, hn, rfl⟩
  simp only [GEnv.keep, k0, k3]
  refine Zr rfl (by simp (maxSteps := 2000000) only [gs,List.replicate,reduceIte,reduceCtorEq,Nat.reduceEqDiff,Nat.reduceLT,Nat.reduceAdd,Nat.reduceSub,Nat.reduceLeDiff,Nat.reduceMul,Int.reduceToNat,Int.reduceLT,Int.reduceLE,Int.reduceEq,Int.reduceNe,Int.reduceBEq,Int.reduceBNe,Int.reduceAdd,Int.reduceSub,Int.reduceNeg]; rfl) (Zp rfl rfl (fun hi => ?_) (fun hi => ?_))
  · have hz0 : z ≠ 0 := by omega
    have hnp := nb_pos hz0
    have hsf : nb z = 1 + nb (z / 2) := by
      by_cases h1 : z = 1
      · subst h1; kernel_rfl
      · have := nb_shift (v := z) (s := 1) (by omega)
        rwa [Nat.pow_one] at this
    have hnn : IntKind.i64.wrap ((n : Int) + 1) = ((n + 1 : Nat) : Int) := up64 (by omega)
    have hsh : (z : Int).fdiv (2 ^ min 1 IntKind.u64.bits) = ((z / 2 : Nat) : Int) := by
      have := shr_any (v := z) (s := 1) (by omega)
      rwa [Nat.pow_one] at this
    refine Zr rfl (by simp (maxSteps := 2000000) only [gs,List.replicate,reduceIte,reduceCtorEq,Nat.reduceEqDiff,Nat.reduceLT,Nat.reduceAdd,Nat.reduceSub,Nat.reduceLeDiff,Nat.reduceMul,Int.reduceToNat,Int.reduceLT,Int.reduceLE,Int.reduceEq,Int.reduceNe,Int.reduceBEq,Int.reduceBNe,Int.reduceAdd,Int.reduceSub,Int.reduceNeg, hnn, hsh]; rfl) ?_
    exact Za rfl ⟨nb (z / 2), by omega, rfl, z / 2, n + 1, rfl, rfl, by omega, by omega, rfl⟩
  · have hz0 : z = 0 := by omega
    subst hz0
    have : n = nb v := by rw [← hn]; rfl
    subst this
    exact Zr rfl (by simp (maxSteps := 2000000) only [gs,List.replicate,reduceIte,reduceCtorEq,Nat.reduceEqDiff,Nat.reduceLT,Nat.reduceAdd,Nat.reduceSub,Nat.reduceLeDiff,Nat.reduceMul,Int.reduceToNat,Int.reduceLT,Int.reduceLE,Int.reduceEq,Int.reduceNe,Int.reduceBEq,Int.reduceBNe,Int.reduceAdd,Int.reduceSub,Int.reduceNeg]; rfl) (Zq rfl ⟨_, rfl, rfl⟩)

theorem rgsize_G {v : Nat} (hv : v < 18446744073709551616) : GF gtab fid_archipelagoref1_GammaSize [.int .u64 v] [] 0 = some (.int .i64 ((gbits v).length : Nat), []) := by
  refine fn_archipelagoref1_GammaSize rfl ?_
  simp only [genvOf]
  have hnb := nb_bound (v := v) (n := 64) hv
  have w1 : IntKind.i64.wrap (2 * ((nb v : Nat) : Int)) = 2 * ((nb v : Nat) : Int) := wrap_i64 (by omega) (by omega)
  have w2 : IntKind.i64.wrap (2 * ((nb v : Nat) : Int) - 1) = 2 * ((nb v : Nat) : Int) - 1 := wrap_i64 (by omega) (by omega)
  have hm : (if (0 : Int) > 2 * ((nb v : Nat) : Int) - 1 then 0 else 2 * ((nb v : Nat) : Int) - 1) = (((gbits v).length : Nat) : Int) := by rw [gbits_length]; split <;> omega
  refine Zr rfl (by simp (maxSteps := 2000000) only [gs,List.replicate,reduceIte,reduceCtorEq,Nat.reduceEqDiff,Nat.reduceLT,Nat.reduceAdd,Nat.reduceSub,Nat.reduceLeDiff,Nat.reduceMul,Int.reduceToNat,Int.reduceLT,Int.reduceLE,Int.reduceEq,Int.reduceNe,Int.reduceBEq,Int.reduceBNe,Int.reduceAdd,Int.reduceSub,Int.reduceNeg]; rfl) ?_
  exact Zr rfl (by simp (maxSteps := 2000000) only [gs,List.replicate,reduceIte,reduceCtorEq,Nat.reduceEqDiff,Nat.reduceLT,Nat.reduceAdd,Nat.reduceSub,Nat.reduceLeDiff,Nat.reduceMul,Int.reduceToNat,Int.reduceLT,Int.reduceLE,Int.reduceEq,Int.reduceNe,Int.reduceBEq,Int.reduceBNe,Int.reduceAdd,Int.reduceSub,Int.reduceNeg, gc_archipelagoref1_length, rlength_G hv, w1, w2, hm]; rfl) (Zq rfl ⟨_, rfl, rfl⟩)

theorem known16_G : GF gtab fid_archipelagolaw16_known [] [] 0 = some (.bool true, []) := GF_run 300 (by kernel_rfl)

theorem dsz_one : (db 9 [(9, 3, 7, true)]).length = 12 := by decide
theorem dsz_two (b : Ev) : (db 9 [(9, 3, 7, true), b]).length = 12 + (dbits (9, 3, 7, true) true b).length := by
  have : db 9 [(9, 3, 7, true), b] = db 9 [(9, 3, 7, true)] ++ dbits (9, 3, 7, true) true b := by
    unfold db
    simp only [dall, List.append_nil]
  rw [this, List.length_append, dsz_one]

set_option maxHeartbeats 4000000 in
theorem deltaSizes_G {u v gap : Nat} {same add : Bool} (hu : u < 65536) (hv : v < 65536) (hg : gap < 4294967296) : GF gtab fid_archipelagolaw16_DeltaSizes [.int .u16 u, .int .u16 v, .int .u32 gap, .bool same, .bool add] [] 0 = some (.bool true, []) := by
  refine fn_archipelagolaw16_DeltaSizes rfl ?_
  simp only [genvOf]
  obtain ⟨V, hV⟩ : ∃ V, V = u + 1 + v := ⟨_, rfl⟩
  have c1 : IntKind.u32.wrap ((u : Nat) : Int) = ((u : Nat) : Int) := by rw [wrap_u32_nat, Nat.mod_eq_of_lt (by omega)]
  have c2 : IntKind.u32.wrap ((v : Nat) : Int) = ((v : Nat) : Int) := by rw [wrap_u32_nat, Nat.mod_eq_of_lt (by omega)]
  have c3 : IntKind.u32.wrap (((u : Nat) : Int) + 1) = ((u + 1 : Nat) : Int) := by
    rw [show ((u : Nat) : Int) + 1 = ((u + 1 : Nat) : Int) by omega, wrap_u32_nat, Nat.mod_eq_of_lt (by omega)]
  have c4 : IntKind.u32.wrap (((u + 1 : Nat) : Int) + ((v : Nat) : Int)) = ((V : Nat) : Int) := by
    rw [show ((u + 1 : Nat) : Int) + ((v : Nat) : Int) = ((V : Nat) : Int) by omega, wrap_u32_nat, Nat.mod_eq_of_lt (by omega)]
  have c5 : IntKind.i64.wrap ((gap : Nat) : Int) = ((gap : Nat) : Int) := wrap_i64_nat (by omega)
  have c6 : IntKind.i64.wrap (10 + ((gap : Nat) : Int)) = ((10 + gap : Nat) : Int) := by
    rw [show (10 : Int) + ((gap : Nat) : Int) = ((10 + gap : Nat) : Int) by omega]; exact wrap_i64_nat (by omega)
  obtain ⟨T, hT⟩ : ∃ T, T = if same = true then 9 else 10 + gap := ⟨_, rfl⟩
  have hTb : 9 ≤ T ∧ T ≤ 4294967306 := by rw [hT]; split <;> omega
  refine Zr rfl (by simp (maxSteps := 2000000) only [gs,List.replicate,reduceIte,reduceCtorEq,Nat.reduceEqDiff,Nat.reduceLT,Nat.reduceAdd,Nat.reduceSub,Nat.reduceLeDiff,Nat.reduceMul,Int.reduceToNat,Int.reduceLT,Int.reduceLE,Int.reduceEq,Int.reduceNe,Int.reduceBEq,Int.reduceBNe,Int.reduceAdd,Int.reduceSub,Int.reduceNeg]; rfl) ?_
  refine Zr rfl (by simp (maxSteps := 2000000) only [gs,List.replicate,reduceIte,reduceCtorEq,Nat.reduceEqDiff,Nat.reduceLT,Nat.reduceAdd,Nat.reduceSub,Nat.reduceLeDiff,Nat.reduceMul,Int.reduceToNat,Int.reduceLT,Int.reduceLE,Int.reduceEq,Int.reduceNe,Int.reduceBEq,Int.reduceBNe,Int.reduceAdd,Int.reduceSub,Int.reduceNeg, gc_archipelagolaw16_known, known16_G]; rfl) (Zc rfl rfl (fun h => by cases h) (fun _ => ?_))
  refine Zr rfl (by simp (maxSteps := 2000000) only [gs,List.replicate,reduceIte,reduceCtorEq,Nat.reduceEqDiff,Nat.reduceLT,Nat.reduceAdd,Nat.reduceSub,Nat.reduceLeDiff,Nat.reduceMul,Int.reduceToNat,Int.reduceLT,Int.reduceLE,Int.reduceEq,Int.reduceNe,Int.reduceBEq,Int.reduceBNe,Int.reduceAdd,Int.reduceSub,Int.reduceNeg]; rfl) ?_
  refine Zr rfl (by simp (maxSteps := 2000000) only [gs,List.replicate,reduceIte,reduceCtorEq,Nat.reduceEqDiff,Nat.reduceLT,Nat.reduceAdd,Nat.reduceSub,Nat.reduceLeDiff,Nat.reduceMul,Int.reduceToNat,Int.reduceLT,Int.reduceLE,Int.reduceEq,Int.reduceNe,Int.reduceBEq,Int.reduceBNe,Int.reduceAdd,Int.reduceSub,Int.reduceNeg, c1, c2, c3, c4]; rfl) ?_
  refine Zr rfl (by simp (maxSteps := 2000000) only [gs,List.replicate,reduceIte,reduceCtorEq,Nat.reduceEqDiff,Nat.reduceLT,Nat.reduceAdd,Nat.reduceSub,Nat.reduceLeDiff,Nat.reduceMul,Int.reduceToNat,Int.reduceLT,Int.reduceLE,Int.reduceEq,Int.reduceNe,Int.reduceBEq,Int.reduceBNe,Int.reduceAdd,Int.reduceSub,Int.reduceNeg]; rfl) ?_
  have less := hless_G 3 7 ((u : Nat) : Int) ((V : Nat) : Int)
  by_cases hskip : same = true ∧ ¬ ((3 : Int) < ((u : Nat) : Int) ∨ (3 : Int) = ((u : Nat) : Int) ∧ (7 : Int) < ((V : Nat) : Int))
  · obtain ⟨rfl, h2⟩ := hskip
    rw [show lessE 3 7 ((u : Nat) : Int) ((V : Nat) : Int) = false from decide_eq_false h2] at less
    refine Zr rfl (by simp (maxSteps := 2000000) only [gs,List.replicate,reduceIte,reduceCtorEq,Nat.reduceEqDiff,Nat.reduceLT,Nat.reduceAdd,Nat.reduceSub,Nat.reduceLeDiff,Nat.reduceMul,Int.reduceToNat,Int.reduceLT,Int.reduceLE,Int.reduceEq,Int.reduceNe,Int.reduceBEq,Int.reduceBNe,Int.reduceAdd,Int.reduceSub,Int.reduceNeg]; rfl) (Zc rfl rfl (fun h => by cases h) (fun _ => ?_))
    refine Zr rfl (by simp (maxSteps := 2000000) only [gs,List.replicate,reduceIte,reduceCtorEq,Nat.reduceEqDiff,Nat.reduceLT,Nat.reduceAdd,Nat.reduceSub,Nat.reduceLeDiff,Nat.reduceMul,Int.reduceToNat,Int.reduceLT,Int.reduceLE,Int.reduceEq,Int.reduceNe,Int.reduceBEq,Int.reduceBNe,Int.reduceAdd,Int.reduceSub,Int.reduceNeg, gc_archipelagoref8_Less, less]; rfl) (Zc rfl rfl (fun _ => ?_) (fun h => by cases h))
    exact Zr rfl (by simp (maxSteps := 2000000) only [gs,List.replicate,reduceIte,reduceCtorEq,Nat.reduceEqDiff,Nat.reduceLT,Nat.reduceAdd,Nat.reduceSub,Nat.reduceLeDiff,Nat.reduceMul,Int.reduceToNat,Int.reduceLT,Int.reduceLE,Int.reduceEq,Int.reduceNe,Int.reduceBEq,Int.reduceBNe,Int.reduceAdd,Int.reduceSub,Int.reduceNeg]; rfl) (Zq rfl ⟨_, rfl, rfl⟩)
  have hless : same = true → lessE 3 7 ((u : Nat) : Int) ((V : Nat) : Int) = true := fun h => decide_eq_true (by
    by_cases h2 : ((3 : Int) < ((u : Nat) : Int) ∨ (3 : Int) = ((u : Nat) : Int) ∧ (7 : Int) < ((V : Nat) : Int))
    · exact h2
    · exact absurd ⟨h, h2⟩ hskip)
  have hso : same = true → 3 < u ∨ 3 = u ∧ 7 < V := fun h => by
    have := of_decide_eq_true (hless h)
    omega
  have H0 : ∃ H : GH, H = [GObj.box [.int .i64 9, .int .u32 3, .int .u32 7, .bool true], GObj.box [.int .u32 (u : Int), .int .u32 (V : Int)], GObj.box [.int .i64 (T : Int), .int .u32 (u : Int), .int .u32 (V : Int), .bool add]] := ⟨_, rfl⟩
  obtain ⟨H, hH⟩ := H0
  refine Z_nrm 1 (Zj2 (fun env h => h = H ∧ GEnv.get env 3 = .bool same ∧ GEnv.get env 11 = .ptr 0 0 0 0 ∧ GEnv.get env 12 = .ptr 1 0 0 0 ∧ GEnv.get env 13 = .ptr 2 0 0 0) ?_ ?_)
  · cases same with
    | false =>
      rw [if_neg (by simp)] at hT
      refine Zr rfl (by simp (maxSteps := 2000000) only [gs,List.replicate,reduceIte,reduceCtorEq,Nat.reduceEqDiff,Nat.reduceLT,Nat.reduceAdd,Nat.reduceSub,Nat.reduceLeDiff,Nat.reduceMul,Int.reduceToNat,Int.reduceLT,Int.reduceLE,Int.reduceEq,Int.reduceNe,Int.reduceBEq,Int.reduceBNe,Int.reduceAdd,Int.reduceSub,Int.reduceNeg]; rfl) (Zc rfl rfl (fun _ => ?_) (fun h => by cases h))
      refine Zr rfl (by simp (maxSteps := 2000000) only [gs,List.replicate,reduceIte,reduceCtorEq,Nat.reduceEqDiff,Nat.reduceLT,Nat.reduceAdd,Nat.reduceSub,Nat.reduceLeDiff,Nat.reduceMul,Int.reduceToNat,Int.reduceLT,Int.reduceLE,Int.reduceEq,Int.reduceNe,Int.reduceBEq,Int.reduceBNe,Int.reduceAdd,Int.reduceSub,Int.reduceNeg, c5, c6]; rfl) ?_
      exact Za rfl ⟨by rw [hH, hT], rfl, rfl, rfl, rfl⟩
    | true =>
      rw [if_pos rfl] at hT
      have less' := less
      rw [hless rfl] at less'
      refine Zr rfl (by simp (maxSteps := 2000000) only [gs,List.replicate,reduceIte,reduceCtorEq,Nat.reduceEqDiff,Nat.reduceLT,Nat.reduceAdd,Nat.reduceSub,Nat.reduceLeDiff,Nat.reduceMul,Int.reduceToNat,Int.reduceLT,Int.reduceLE,Int.reduceEq,Int.reduceNe,Int.reduceBEq,Int.reduceBNe,Int.reduceAdd,Int.reduceSub,Int.reduceNeg]; rfl) (Zc rfl rfl (fun h => by cases h) (fun _ => ?_))
      refine Zr rfl (by simp (maxSteps := 2000000) only [gs,List.replicate,reduceIte,reduceCtorEq,Nat.reduceEqDiff,Nat.reduceLT,Nat.reduceAdd,Nat.reduceSub,Nat.reduceLeDiff,Nat.reduceMul,Int.reduceToNat,Int.reduceLT,Int.reduceLE,Int.reduceEq,Int.reduceNe,Int.reduceBEq,Int.reduceBNe,Int.reduceAdd,Int.reduceSub,Int.reduceNeg, gc_archipelagoref8_Less, less']; rfl) (Zc rfl rfl (fun h => by cases h) (fun _ => ?_))
      exact Za rfl ⟨by rw [hH, hT]; rfl, rfl, rfl, rfl, rfl⟩
  rintro env h ⟨rfl, k3, k11, k12, k13⟩
  subst hH
  have e1 : [[U.int .i64 9, .int .u32 3, .int .u32 7, .bool true]] = uvs [(9, 3, 7, true)] := rfl
  have e2 : [[U.int .i64 9, .int .u32 3, .int .u32 7, .bool true], [U.int .i64 (T : Int), .int .u32 (u : Int), .int .u32 (V : Int), .bool add]] = uvs [(9, 3, 7, true), ((T : Int), (u : Int), (V : Int), add)] := rfl
  have R1 : RightD 9 [(9, 3, 7, true)] := ⟨fun e he => by rw [List.mem_singleton.1 he]; decide, List.pairwise_singleton _ _, fun e r h => by rw [List.cons.injEq] at h; rw [← h.1]⟩
  have hlt : ltV (9, 3, 7, true) ((T : Int), (u : Int), (V : Int), add) := by
    unfold ltV ltE edOf
    simp only
    rw [hT]
    by_cases h : same = true
    · have := hso h
      rw [if_pos h]
      omega
    · rw [if_neg h]; omega
  have R2 : RightD 9 [(9, 3, 7, true), ((T : Int), (u : Int), (V : Int), add)] := ⟨fun e he => by
    rcases List.mem_cons.1 he with rfl | he
    · decide
    · rw [List.mem_singleton.1 he]; simp only; omega, List.pairwise_cons.2 ⟨fun e he => by rw [List.mem_singleton.1 he]; exact hlt, List.pairwise_singleton _ _⟩, fun e r h => by rw [List.cons.injEq] at h; rw [← h.1]⟩
  obtain ⟨b1, p1, P1⟩ : ∃ bs, Packed bs (db 9 [(9, 3, 7, true)]) ∧ GF gtab fid_delta_Put [.int .i64 9, .list false 4 (uvs [(9, 3, 7, true)])] [] 0 = some (.tup [.own 1 (un .u8 bs), .int .i64 0], []) := by
    rcases dput_R (w := .list false 4 (uvs [(9, 3, 7, true)])) (l := [(9, 3, 7, true)]) (first := 9) (.inl rfl) (by simp) (fun e he => by rw [List.mem_singleton.1 he]; decide) with ⟨bs, _, a, b⟩ | ⟨a, _⟩
    · exact ⟨bs, a, b⟩
    · exact absurd R1 a
  obtain ⟨b2, p2, P2⟩ : ∃ bs, Packed bs (db 9 [(9, 3, 7, true), ((T : Int), (u : Int), (V : Int), add)]) ∧ GF gtab fid_delta_Put [.int .i64 9, .list false 4 (uvs [(9, 3, 7, true), ((T : Int), (u : Int), (V : Int), add)])] [] 0 = some (.tup [.own 1 (un .u8 bs), .int .i64 0], []) := by
    rcases dput_R (w := .list false 4 (uvs [(9, 3, 7, true), ((T : Int), (u : Int), (V : Int), add)])) (l := [(9, 3, 7, true), ((T : Int), (u : Int), (V : Int), add)]) (first := 9) (.inl rfl) (by simp) (fun e he => by
      rcases List.mem_cons.1 he with rfl | he
      · decide
      · rw [List.mem_singleton.1 he]; simp only; omega) with ⟨bs, _, a, b⟩ | ⟨a, _⟩
    · exact ⟨bs, a, b⟩
    · exact absurd R2 a
  have hb1 : b1.length = 2 := by rw [p1.len, dsz_one]
  have hb2 := p2.len
  rw [dsz_two] at hb2
  have hdl : (dbits (9, 3, 7, true) true ((T : Int), (u : Int), (V : Int), add)).length = (gbits (T - 9 + 1)).length + 1 + ((gbits (du (9, 3, 7, true) true ((T : Int), (u : Int), (V : Int), add))).length + (gbits (dv (9, 3, 7, true) true ((T : Int), (u : Int), (V : Int), add))).length) := by
    have : dgap (9, 3, 7, true) ((T : Int), (u : Int), (V : Int), add) = T - 9 + 1 := by unfold dgap; simp only; omega
    unfold dbits
    rw [this]
    simp only [List.length_append, List.length_singleton]
    omega
  rw [hdl] at hb2
  have hsm : dsame (9, 3, 7, true) true ((T : Int), (u : Int), (V : Int), add) = same := by
    unfold dsame
    rw [Bool.true_and]
    cases same with
    | true => rw [if_pos rfl] at hT; exact decide_eq_true (by simp only; omega)
    | false => rw [if_neg (by simp)] at hT; exact decide_eq_false (by simp only; omega)
  have hdu : du (9, 3, 7, true) true ((T : Int), (u : Int), (V : Int), add) = if same = true then (((u : Nat) : Int) + 1 - 3).toNat else u + 1 := by
    unfold du; rw [hsm]; simp only; split <;> omega
  have hdv : dv (9, 3, 7, true) true ((T : Int), (u : Int), (V : Int), add) = if same = true ∧ u = 3 then V - 7 else V - u := by
    unfold dv; rw [hsm]; simp only
    by_cases h : same = true ∧ u = 3
    · rw [if_pos ⟨h.1, by omega⟩, if_pos h]; omega
    · rw [if_neg (fun hh => h ⟨hh.1, by omega⟩), if_neg h]; omega
  rw [hdu, hdv] at hb2
  have f1 : (((b1.length : Nat) : Int) == 2) = true := by rw [hb1]; rfl
  have w1 : IntKind.i64.wrap (((T : Nat) : Int) - 9) = ((T - 9 : Nat) : Int) := by rw [wrap_i64 (by omega) (by omega)]; omega
  have w2 : IntKind.u64.wrap ((T - 9 : Nat) : Int) = ((T - 9 : Nat) : Int) := by rw [wrap_u64_nat, Nat.mod_eq_of_lt (by omega)]
  have w3 : IntKind.u64.wrap (((T - 9 : Nat) : Int) + 1) = ((T - 9 + 1 : Nat) : Int) := by
    rw [show ((T - 9 : Nat) : Int) + 1 = ((T - 9 + 1 : Nat) : Int) by omega, wrap_u64_nat, Nat.mod_eq_of_lt (by omega)]
  have G1 := rgsize_G (v := T - 9 + 1) (by omega)
  have g1 := gbits_le (v := T - 9 + 1) (by omega)
  obtain ⟨s1, hs1⟩ : ∃ s1, s1 = (gbits (T - 9 + 1)).length := ⟨_, rfl⟩
  rw [← hs1] at hb2 G1 g1
  have a1 : IntKind.i64.wrap (12 + ((s1 : Nat) : Int)) = ((12 + s1 : Nat) : Int) := by
    rw [show (12 : Int) + ((s1 : Nat) : Int) = ((12 + s1 : Nat) : Int) by omega]; exact wrap_i64_nat (by omega)
  have a2 : IntKind.i64.wrap (((12 + s1 : Nat) : Int) + 1) = ((12 + s1 + 1 : Nat) : Int) := up64 (by omega)
  have d1 : IntKind.u64.wrap ((u : Nat) : Int) = ((u : Nat) : Int) := by rw [wrap_u64_nat, Nat.mod_eq_of_lt (by omega)]
  have d2 : IntKind.u64.wrap (((u : Nat) : Int) + 1) = ((u + 1 : Nat) : Int) := by
    rw [show ((u : Nat) : Int) + 1 = ((u + 1 : Nat) : Int) by omega, wrap_u64_nat, Nat.mod_eq_of_lt (by omega)]
  have d3 : IntKind.u32.wrap (((V : Nat) : Int) - ((u : Nat) : Int)) = ((V - u : Nat) : Int) := by
    rw [show ((V : Nat) : Int) - ((u : Nat) : Int) = ((V - u : Nat) : Int) by omega, wrap_u32_nat, Nat.mod_eq_of_lt (by omega)]
  have d4 : IntKind.u64.wrap ((V - u : Nat) : Int) = ((V - u : Nat) : Int) := by rw [wrap_u64_nat, Nat.mod_eq_of_lt (by omega)]
  have q19 : IntKind.i64.wrap 19 = 19 := rfl
  have t19 : (19 : Int).tdiv 8 = 2 := rfl
  refine Zr rfl (by simp (maxSteps := 2000000) only [gs,List.replicate,reduceIte,reduceCtorEq,Nat.reduceEqDiff,Nat.reduceLT,Nat.reduceAdd,Nat.reduceSub,Nat.reduceLeDiff,Nat.reduceMul,Int.reduceToNat,Int.reduceLT,Int.reduceLE,Int.reduceEq,Int.reduceNe,Int.reduceBEq,Int.reduceBNe,Int.reduceAdd,Int.reduceSub,Int.reduceNeg, k11, e1, snapLL_uvs, gc_delta_Put, P1]; rfl) ?_
  refine Zr rfl (by simp (maxSteps := 2000000) only [gs,List.replicate,reduceIte,reduceCtorEq,Nat.reduceEqDiff,Nat.reduceLT,Nat.reduceAdd,Nat.reduceSub,Nat.reduceLeDiff,Nat.reduceMul,Int.reduceToNat,Int.reduceLT,Int.reduceLE,Int.reduceEq,Int.reduceNe,Int.reduceBEq,Int.reduceBNe,Int.reduceAdd,Int.reduceSub,Int.reduceNeg, k11, k13, e2, snapLL_uvs, gc_delta_Put, P2]; rfl) ?_
  refine Zr rfl (by simp (maxSteps := 2000000) only [gs,List.replicate,reduceIte,reduceCtorEq,Nat.reduceEqDiff,Nat.reduceLT,Nat.reduceAdd,Nat.reduceSub,Nat.reduceLeDiff,Nat.reduceMul,Int.reduceToNat,Int.reduceLT,Int.reduceLE,Int.reduceEq,Int.reduceNe,Int.reduceBEq,Int.reduceBNe,Int.reduceAdd,Int.reduceSub,Int.reduceNeg]; rfl) ?_
  refine Zr rfl (by simp (maxSteps := 2000000) only [gs,List.replicate,reduceIte,reduceCtorEq,Nat.reduceEqDiff,Nat.reduceLT,Nat.reduceAdd,Nat.reduceSub,Nat.reduceLeDiff,Nat.reduceMul,Int.reduceToNat,Int.reduceLT,Int.reduceLE,Int.reduceEq,Int.reduceNe,Int.reduceBEq,Int.reduceBNe,Int.reduceAdd,Int.reduceSub,Int.reduceNeg, k13, w1, w2, w3, gc_archipelagoref1_GammaSize, G1, a1, a2]; rfl) ?_
  -- the size that is to be
  obtain ⟨M, hM⟩ : ∃ M, M = 12 + (s1 + 1 + ((gbits (if same = true then (((u : Nat) : Int) + 1 - 3).toNat else u + 1)).length + (gbits (if same = true ∧ u = 3 then V - 7 else V - u)).length)) := ⟨_, rfl⟩
  rw [← hM] at hb2
  have hM4 : M ≤ 1000 := by
    have x1 := gbits_le (v := if same = true then (((u : Nat) : Int) + 1 - 3).toNat else u + 1) (by split <;> omega)
    have x2 := gbits_le (v := if same = true ∧ u = 3 then V - 7 else V - u) (by split <;> omega)
    omega
  refine Z_nrm 1 (Zj2 (fun env h => GEnv.get env 14 = .own 1 (un .u8 b1) ∧ GEnv.get env 16 = .own 1 (un .u8 b2) ∧ GEnv.get env 17 = .int .i64 0 ∧ GEnv.get env 18 = .int .i64 12 ∧ GEnv.get env 19 = .int .i64 ((M : Nat) : Int)) ?_ ?_)
  · have g2 := fun (x : Nat) (hx : x < 18446744073709551616) => gbits_le (v := x) hx
    have sums : ∀ (s2 s3 : Nat), s2 ≤ 128 → s3 ≤ 128 → IntKind.i64.wrap (((s2 : Nat) : Int) + ((s3 : Nat) : Int)) = ((s2 + s3 : Nat) : Int) ∧ IntKind.i64.wrap (((12 + s1 + 1 : Nat) : Int) + ((s2 + s3 : Nat) : Int)) = ((12 + s1 + 1 + (s2 + s3) : Nat) : Int) := fun s2 s3 h2 h3 => by
      constructor
      · rw [show ((s2 : Nat) : Int) + ((s3 : Nat) : Int) = ((s2 + s3 : Nat) : Int) by omega]; exact wrap_i64_nat (by omega)
      · rw [show ((12 + s1 + 1 : Nat) : Int) + ((s2 + s3 : Nat) : Int) = ((12 + s1 + 1 + (s2 + s3) : Nat) : Int) by omega]; exact wrap_i64_nat (by omega)
    cases same with
    | false =>
      rw [if_neg (by simp), if_neg (by simp)] at hM
      have G2 := rgsize_G (v := u + 1) (by omega)
      have G3 := rgsize_G (v := V - u) (by omega)
      obtain ⟨x1, x2⟩ := sums _ _ (g2 (u + 1) (by omega)) (g2 (V - u) (by omega))
      have hMM : ((12 + s1 + 1 + ((gbits (u + 1)).length + (gbits (V - u)).length) : Nat) : Int) = ((M : Nat) : Int) := by omega
      rw [hMM] at x2
      refine Zr rfl (by simp (maxSteps := 2000000) only [gs,List.replicate,reduceIte,reduceCtorEq,Nat.reduceEqDiff,Nat.reduceLT,Nat.reduceAdd,Nat.reduceSub,Nat.reduceLeDiff,Nat.reduceMul,Int.reduceToNat,Int.reduceLT,Int.reduceLE,Int.reduceEq,Int.reduceNe,Int.reduceBEq,Int.reduceBNe,Int.reduceAdd,Int.reduceSub,Int.reduceNeg, k3]; rfl) (Zc rfl rfl (fun _ => ?_) (fun h => by cases h))
      refine Zd rfl (by simp (maxSteps := 2000000) only [gs,gd,List.replicate,id,reduceIte,reduceCtorEq,Nat.reduceEqDiff,Nat.reduceLT,Nat.reduceAdd,Nat.reduceSub,Nat.reduceLeDiff,Nat.reduceMul,Int.reduceToNat,Int.reduceLT,Int.reduceLE,Int.reduceEq,Int.reduceNe,Int.reduceBEq,Int.reduceBNe,Int.reduceAdd,Int.reduceSub,Int.reduceNeg, k12, d1, d2, d3, d4, gc_archipelagoref1_GammaSize, iq_archipelagoref1_GammaSize, G2, G3, x1, x2]; rfl) ?_
      exact Za rfl ⟨by simp [GEnv.get], by simp [GEnv.get], by simp [GEnv.get], by simp [GEnv.get], by simp [GEnv.get]⟩
    | true =>
      rw [if_pos rfl] at hM
      have hso := hso rfl
      by_cases hu3 : u = 3
      · rw [if_pos ⟨rfl, hu3⟩] at hM
        have hb3 : (((u : Nat) : Int) == 3) = true := by rw [hu3]; rfl
        have d5 : IntKind.u32.wrap (((V : Nat) : Int) - 7) = ((V - 7 : Nat) : Int) := by
          rw [show ((V : Nat) : Int) - 7 = ((V - 7 : Nat) : Int) by omega, wrap_u32_nat, Nat.mod_eq_of_lt (by omega)]
        have d6 : IntKind.u64.wrap ((V - 7 : Nat) : Int) = ((V - 7 : Nat) : Int) := by rw [wrap_u64_nat, Nat.mod_eq_of_lt (by omega)]
        have G3 := rgsize_G (v := V - 7) (by omega)
        obtain ⟨x1, x2⟩ := sums 1 _ (by omega) (g2 (V - 7) (by omega))
        have x1 : IntKind.i64.wrap (1 + (((gbits (V - 7)).length : Nat) : Int)) = ((1 + (gbits (V - 7)).length : Nat) : Int) := x1
        have hg1 : (gbits (((u : Nat) : Int) + 1 - 3).toNat).length = 1 := by rw [show (((u : Nat) : Int) + 1 - 3).toNat = 1 by omega]; rfl
        rw [hg1] at hM
        have hMM : ((12 + s1 + 1 + (1 + (gbits (V - 7)).length) : Nat) : Int) = ((M : Nat) : Int) := by omega
        rw [hMM] at x2
        refine Zr rfl (by simp (maxSteps := 2000000) only [gs,List.replicate,reduceIte,reduceCtorEq,Nat.reduceEqDiff,Nat.reduceLT,Nat.reduceAdd,Nat.reduceSub,Nat.reduceLeDiff,Nat.reduceMul,Int.reduceToNat,Int.reduceLT,Int.reduceLE,Int.reduceEq,Int.reduceNe,Int.reduceBEq,Int.reduceBNe,Int.reduceAdd,Int.reduceSub,Int.reduceNeg, k3]; rfl) (Zc rfl rfl (fun h => by cases h) (fun _ => ?_))
        refine Zr rfl (by simp (maxSteps := 2000000) only [gs,List.replicate,reduceIte,reduceCtorEq,Nat.reduceEqDiff,Nat.reduceLT,Nat.reduceAdd,Nat.reduceSub,Nat.reduceLeDiff,Nat.reduceMul,Int.reduceToNat,Int.reduceLT,Int.reduceLE,Int.reduceEq,Int.reduceNe,Int.reduceBEq,Int.reduceBNe,Int.reduceAdd,Int.reduceSub,Int.reduceNeg, k12, hb3]; rfl) (Zc rfl rfl (fun _ => ?_) (fun h => by cases h))
        refine Zr rfl (by simp (maxSteps := 2000000) only [gs,List.replicate,reduceIte,reduceCtorEq,Nat.reduceEqDiff,Nat.reduceLT,Nat.reduceAdd,Nat.reduceSub,Nat.reduceLeDiff,Nat.reduceMul,Int.reduceToNat,Int.reduceLT,Int.reduceLE,Int.reduceEq,Int.reduceNe,Int.reduceBEq,Int.reduceBNe,Int.reduceAdd,Int.reduceSub,Int.reduceNeg, k12, d5, d6, gc_archipelagoref1_GammaSize, G3, x1, x2]; rfl) ?_
        exact Za rfl ⟨by simp [GEnv.get], by simp [GEnv.get], by simp [GEnv.get], by simp [GEnv.get], by simp [GEnv.get]⟩
      · rw [if_neg (fun h => hu3 h.2)] at hM
        have hb3 : (((u : Nat) : Int) == 3) = false := beq_eq_false_iff_ne.2 (by omega)
        have d5 : IntKind.u32.wrap (((u : Nat) : Int) - 3) = ((u - 3 : Nat) : Int) := by
          rw [show ((u : Nat) : Int) - 3 = ((u - 3 : Nat) : Int) by omega, wrap_u32_nat, Nat.mod_eq_of_lt (by omega)]
        have d6 : IntKind.u64.wrap ((u - 3 : Nat) : Int) = ((u - 3 : Nat) : Int) := by rw [wrap_u64_nat, Nat.mod_eq_of_lt (by omega)]
        have d7 : IntKind.u64.wrap (((u - 3 : Nat) : Int) + 1) = ((u - 3 + 1 : Nat) : Int) := by
          rw [show ((u - 3 : Nat) : Int) + 1 = ((u - 3 + 1 : Nat) : Int) by omega, wrap_u64_nat, Nat.mod_eq_of_lt (by omega)]
        have G2 := rgsize_G (v := u - 3 + 1) (by omega)
        have G3 := rgsize_G (v := V - u) (by omega)
        rw [show (((u : Nat) : Int) + 1 - 3).toNat = u - 3 + 1 by omega] at hM
        obtain ⟨x1, x2⟩ := sums _ _ (g2 (u - 3 + 1) (by omega)) (g2 (V - u) (by omega))
        have hMM : ((12 + s1 + 1 + ((gbits (u - 3 + 1)).length + (gbits (V - u)).length) : Nat) : Int) = ((M : Nat) : Int) := by omega
        rw [hMM] at x2
        refine Zr rfl (by simp (maxSteps := 2000000) only [gs,List.replicate,reduceIte,reduceCtorEq,Nat.reduceEqDiff,Nat.reduceLT,Nat.reduceAdd,Nat.reduceSub,Nat.reduceLeDiff,Nat.reduceMul,Int.reduceToNat,Int.reduceLT,Int.reduceLE,Int.reduceEq,Int.reduceNe,Int.reduceBEq,Int.reduceBNe,Int.reduceAdd,Int.reduceSub,Int.reduceNeg, k3]; rfl) (Zc rfl rfl (fun h => by cases h) (fun _ => ?_))
        refine Zr rfl (by simp (maxSteps := 2000000) only [gs,List.replicate,reduceIte,reduceCtorEq,Nat.reduceEqDiff,Nat.reduceLT,Nat.reduceAdd,Nat.reduceSub,Nat.reduceLeDiff,Nat.reduceMul,Int.reduceToNat,Int.reduceLT,Int.reduceLE,Int.reduceEq,Int.reduceNe,Int.reduceBEq,Int.reduceBNe,Int.reduceAdd,Int.reduceSub,Int.reduceNeg, k12, hb3]; rfl) (Zc rfl rfl (fun h => by cases h) (fun _ => ?_))
        refine Zd rfl (by simp (maxSteps := 2000000) only [gs,gd,List.replicate,id,reduceIte,reduceCtorEq,Nat.reduceEqDiff,Nat.reduceLT,Nat.reduceAdd,Nat.reduceSub,Nat.reduceLeDiff,Nat.reduceMul,Int.reduceToNat,Int.reduceLT,Int.reduceLE,Int.reduceEq,Int.reduceNe,Int.reduceBEq,Int.reduceBNe,Int.reduceAdd,Int.reduceSub,Int.reduceNeg, k12, d3, d4, d5, d6, d7, gc_archipelagoref1_GammaSize, iq_archipelagoref1_GammaSize, G2, G3, x1, x2]; rfl) ?_
        exact Za rfl ⟨by simp [GEnv.get], by simp [GEnv.get], by simp [GEnv.get], by simp [GEnv.get], by simp [GEnv.get]⟩
  rintro env h ⟨k14, k16, k17, k18, k19⟩
  have m7 : IntKind.i64.wrap (((M : Nat) : Int) + 7) = ((M + 7 : Nat) : Int) := wrap_i64_nat (n := M + 7) (by omega)
  have q2 : IntKind.i64.wrap 2 = 2 := rfl
  have wq : IntKind.i64.wrap (((M + 7) / 8 : Nat) : Int) = (((M + 7) / 8 : Nat) : Int) := wrap_i64_nat (by omega)
  have t7 : ((M + 7 : Nat) : Int).tdiv 8 = (((M + 7) / 8 : Nat) : Int) := rfl
  have f2 : (((b2.length : Nat) : Int) == (((M + 7) / 8 : Nat) : Int)) = true := by rw [hb2]; exact beq_self_eq_true _
  exact Zr rfl (by simp (maxSteps := 2000000) only [gs,List.replicate,reduceIte,reduceCtorEq,Nat.reduceEqDiff,Nat.reduceLT,Nat.reduceAdd,Nat.reduceSub,Nat.reduceLeDiff,Nat.reduceMul,Int.reduceToNat,Int.reduceLT,Int.reduceLE,Int.reduceEq,Int.reduceNe,Int.reduceBEq,Int.reduceBNe,Int.reduceAdd,Int.reduceSub,Int.reduceNeg, k14, k16, k17, k18, k19, beq_self_eq_true, un_length, q19, t19, q2, f1, m7, t7, wq, f2]; rfl) (Zq rfl ⟨_, rfl, rfl⟩)

theorem deltaSizes_law (us : List U) (h : Ars [.one (.int .u16), .one (.int .u16), .one (.int .u32), .one .bool, .one .bool] us) : GF gtab fid_archipelagolaw16_DeltaSizes us [] 0 = some (.bool true, []) := by
  obtain ⟨u0, _, rfl, h0, u1, _, rfl, h1, u2, _, rfl, h2, u3, _, rfl, h3, u4, _, rfl, h4, rfl⟩ := h
  obtain ⟨a, rfl, ha⟩ := Sh.nat rfl h0
  obtain ⟨b, rfl, hb⟩ := Sh.nat rfl h1
  obtain ⟨c, rfl, hc⟩ := Sh.nat rfl h2
  obtain ⟨d, rfl⟩ := h3
  obtain ⟨e, rfl⟩ := h4
  exact deltaSizes_G (Nat.lt_succ_of_le (Int.ofNat_le.1 ha)) (Nat.lt_succ_of_le (Int.ofNat_le.1 hb)) (Nat.lt_succ_of_le (Int.ofNat_le.1 hc))

end Go.Ab
