/- How many bytes edges near one another take; AdjSizes. -/
import Derived.Test.YtaoippgdkilacaaAdjE
import Derived.Test.YtaoippgdkilacaaValN
namespace Go.Ab
open Go
set_option linter.unusedVariables false
set_option linter.unusedSimpArgs false
set_option maxRecDepth 10000

def pathG : Nat → Nat → List Gr
  | _, 0 => []
  | u, k + 1 => (u, [u + 1]) :: pathG (u + 1) k
def sizeG (star : Bool) (u k : Nat) : List Gr := if star then [(u, List.range' (u + 1) k)] else pathG u k
theorem path_snoc : ∀ (k u : Nat), gflat (pathG u (k + 1)) = gflat (pathG u k) ++ [(u + k, u + k + 1)]
  | 0, u => rfl
  | k + 1, u => by
    have := path_snoc k (u + 1)
    rw [pathG, gflat_cons, this, pathG, gflat_cons, List.append_assoc, show u + 1 + k = u + (k + 1) by omega]
theorem path_good : ∀ (k u n : Nat), n ≤ u → GoodG n (pathG u k)
  | 0, _, _, _ => trivial
  | k + 1, u, n, h => ⟨h, by simp, ⟨by show u < u + 1; omega, trivial⟩, path_good k (u + 1) (u + 1) (Nat.le_refl _)⟩
theorem path_body : ∀ (k u : Nat), (∀ x ∈ gbody u (pathG u k), x < 128) ∧ (gbody u (pathG u k)).length = 3 * k
  | 0, u => ⟨fun x hx => absurd hx (by simp [pathG, gbody]), rfl⟩
  | k + 1, u => by
    obtain ⟨a, b⟩ := path_body k (u + 1)
    refine ⟨fun x hx => ?_, ?_⟩
    · simp only [pathG, gbody, gaps, List.length_cons, List.length_nil, List.mem_cons, List.cons_append, List.nil_append] at hx
      rcases hx with rfl | rfl | rfl | hx
      · omega
      · omega
      · omega
      · exact a x hx
    · simp only [pathG, gbody, gaps, List.length_cons, List.cons_append, List.nil_append]
      rw [b]; omega
theorem path_len (k u : Nat) : (pathG u k).length = k := by
  induction k generalizing u with
  | zero => rfl
  | succ k ih => rw [pathG, List.length_cons, ih]
theorem range_inc : ∀ (k u : Nat), Inc u (List.range' (u + 1) k)
  | 0, _ => trivial
  | k + 1, u => by rw [List.range'_succ]; exact ⟨by omega, range_inc k (u + 1)⟩
theorem range_gaps : ∀ (k u : Nat), gaps u (List.range' (u + 1) k) = List.replicate k 0
  | 0, _ => rfl
  | k + 1, u => by
    rw [List.range'_succ, gaps, range_gaps k (u + 1), List.replicate_succ, show u + 1 - u - 1 = 0 by omega]
theorem size_snoc (star : Bool) (k u : Nat) : gflat (sizeG star u (k + 1)) = gflat (sizeG star u k) ++ [if star then (u, u + 1 + k) else (u + k, u + k + 1)] := by
  cases star with
  | true =>
    simp only [sizeG, if_true, gflat_one, gfl]
    rw [List.range'_concat, List.map_append, Nat.one_mul]
    rfl
  | false => exact path_snoc k u
theorem size_zero (star : Bool) (u : Nat) : gflat (sizeG star u 0) = [] := by cases star <;> rfl
theorem size_good (star : Bool) (k u : Nat) : GoodG 0 (sizeG star u (k + 1)) := by
  cases star with
  | true => exact ⟨Nat.zero_le _, by simp [List.range'_succ], range_inc (k + 1) u, trivial⟩
  | false => exact path_good (k + 1) u 0 (Nat.zero_le _)
theorem size_length (star : Bool) (k u : Nat) : (gflat (sizeG star u k)).length = k := by
  induction k with
  | zero => rw [size_zero]; rfl
  | succ k ih => rw [size_snoc, List.length_append, ih]; rfl
theorem size_fit (star : Bool) (k u : Nat) : ∀ e ∈ gflat (sizeG star u k), e.1 ≤ u + k ∧ e.2 ≤ u + k := by
  induction k with
  | zero => rw [size_zero]; intro e he; cases he
  | succ k ih =>
    intro e he
    rw [size_snoc] at he
    rcases List.mem_append.1 he with he | he
    · have := ih e he; omega
    · rw [List.mem_singleton.1 he]; cases star
      · show u + k ≤ _ ∧ u + k + 1 ≤ _; omega
      · show u ≤ _ ∧ u + 1 + k ≤ _; omega
theorem size_bytes (star : Bool) {k u : Nat} (hk : k < 100) : (genc (sizeG star u (k + 1))).length = if star then (putV u).length + k + 3 else (putV u).length + 3 * k + 3 := by
  cases star with
  | true =>
    simp only [sizeG, if_true, genc, List.length_singleton, gbody, List.append_nil, Nat.sub_zero]
    rw [range_gaps, putL_cons, putL_cons, putL_cons, putV_small (show 1 < 128 by omega), putV_small (v := (List.range' (u + 1) (k + 1)).length) (by rw [List.length_range']; omega), putL_small (fun x hx => by rw [(List.mem_replicate.1 hx).2]; omega)]
    simp only [List.length_append, List.length_singleton, List.length_replicate]
    omega
  | false =>
    have h := path_body k (u + 1)
    have hl := path_len (k + 1) u
    simp only [sizeG, genc, Bool.false_eq_true, if_false]
    rw [hl, pathG, gbody, putL_cons, putV_small (by omega), putL_cons, Nat.sub_zero]
    simp only [gaps, List.cons_append, List.nil_append]
    rw [putL_small]
    · simp only [List.length_append, List.length_cons, List.length_nil]
      rw [h.2]; omega
    · intro x hx
      simp only [List.mem_cons, List.length_cons, List.length_nil] at hx
      rcases hx with rfl | rfl | hx
      · omega
      · omega
      · exact h.1 x hx
def cntV (v : Nat) : Nat := if v = 0 then 0 else (putV v).length
theorem cntV_step {v : Nat} (h : 0 < v) : cntV v = cntV (v / 128) + 1 := by
  unfold cntV
  rw [if_neg (by omega)]
  by_cases h1 : v < 128
  · rw [putV_small h1, if_pos (by omega)]; rfl
  · rw [putV_big h1, if_neg (by omega), List.length_cons]
theorem cntV_len (v : Nat) : (putV v).length = cntV (v / 128) + 1 := by
  by_cases h : 0 < v
  · have := cntV_step h
    unfold cntV at this ⊢
    rw [if_neg (by omega)] at this
    exact this
  · have : v = 0 := by omega
    subst this
    rw [putV_small (by omega)]; rfl
theorem not_strict_twice {l : List Nd} {e : Nd} (h : e ∈ l) : ¬ Strict (l ++ [e]) := fun hs => by
  have := (List.pairwise_append.1 hs.1).2.2 e h e (by simp)
  unfold ltN at this
  omega

set_option maxHeartbeats 2000000 in
theorem adjSizes_G {n f i : Nat} {star : Bool} (hn : n < 256) (hf : f < 4294967296) (hi : i < 256) : GF gtab fid_archipelagolaw15_AdjSizes [.int .u8 n, .int .u32 f, .bool star, .int .u8 i] [] 0 = some (.bool true, []) := by
  refine fn_archipelagolaw15_AdjSizes rfl ?_
  simp only [genvOf]
  refine Zr rfl (by simp (maxSteps := 2000000) only [gs,List.replicate,reduceIte,reduceCtorEq,Nat.reduceEqDiff,Nat.reduceLT,Nat.reduceAdd,Nat.reduceSub,Nat.reduceLeDiff,Nat.reduceMul,Int.reduceToNat,Int.reduceLT,Int.reduceLE,Int.reduceEq,Int.reduceNe,Int.reduceBEq,Int.reduceBNe,Int.reduceAdd,Int.reduceSub,Int.reduceNeg]; rfl) ?_
  refine Zr rfl (by simp (maxSteps := 2000000) only [gs,List.replicate,reduceIte,reduceCtorEq,Nat.reduceEqDiff,Nat.reduceLT,Nat.reduceAdd,Nat.reduceSub,Nat.reduceLeDiff,Nat.reduceMul,Int.reduceToNat,Int.reduceLT,Int.reduceLE,Int.reduceEq,Int.reduceNe,Int.reduceBEq,Int.reduceBNe,Int.reduceAdd,Int.reduceSub,Int.reduceNeg, gc_archipelagolaw15_known, known15_G]; rfl) (Zc rfl rfl (fun h => by cases h) (fun _ => ?_))
  have q1 : ((n : Nat) : Int).tmod 100 = ((n % 100 : Nat) : Int) := rfl
  have q2 : ((f : Nat) : Int).tmod 2147483648 = ((f % 2147483648 : Nat) : Int) := rfl
  have hk : n % 100 < 100 := Nat.mod_lt _ (by decide)
  have hu : f % 2147483648 < 2147483648 := Nat.mod_lt _ (by decide)
  generalize n % 100 = k at q1 hk
  generalize f % 2147483648 = u at q2 hu
  have c1 : IntKind.i64.wrap ((k : Nat) : Int) = ((k : Nat) : Int) := wrap_i64_nat (by omega)
  have c2 : IntKind.i64.wrap (((k : Nat) : Int) + 1) = ((k + 1 : Nat) : Int) := up64 (by omega)
  refine Zr rfl (by simp (maxSteps := 2000000) only [gs,List.replicate,reduceIte,reduceCtorEq,Nat.reduceEqDiff,Nat.reduceLT,Nat.reduceAdd,Nat.reduceSub,Nat.reduceLeDiff,Nat.reduceMul,Int.reduceToNat,Int.reduceLT,Int.reduceLE,Int.reduceEq,Int.reduceNe,Int.reduceBEq,Int.reduceBNe,Int.reduceAdd,Int.reduceSub,Int.reduceNeg, q1, c1, c2]; rfl) ?_
  refine Zr rfl (by simp (maxSteps := 2000000) only [gs,List.replicate,reduceIte,reduceCtorEq,Nat.reduceEqDiff,Nat.reduceLT,Nat.reduceAdd,Nat.reduceSub,Nat.reduceLeDiff,Nat.reduceMul,Int.reduceToNat,Int.reduceLT,Int.reduceLE,Int.reduceEq,Int.reduceNe,Int.reduceBEq,Int.reduceBNe,Int.reduceAdd,Int.reduceSub,Int.reduceNeg, q2]; rfl) ?_
  refine Zr rfl (by simp (maxSteps := 2000000) only [gs,List.replicate,reduceIte,reduceCtorEq,Nat.reduceEqDiff,Nat.reduceLT,Nat.reduceAdd,Nat.reduceSub,Nat.reduceLeDiff,Nat.reduceMul,Int.reduceToNat,Int.reduceLT,Int.reduceLE,Int.reduceEq,Int.reduceNe,Int.reduceBEq,Int.reduceBNe,Int.reduceAdd,Int.reduceSub,Int.reduceNeg]; rfl) ?_
  refine Zr rfl (by simp (maxSteps := 2000000) only [gs,List.replicate,reduceIte,reduceCtorEq,Nat.reduceEqDiff,Nat.reduceLT,Nat.reduceAdd,Nat.reduceSub,Nat.reduceLeDiff,Nat.reduceMul,Int.reduceToNat,Int.reduceLT,Int.reduceLE,Int.reduceEq,Int.reduceNe,Int.reduceBEq,Int.reduceBNe,Int.reduceAdd,Int.reduceSub,Int.reduceNeg]; rfl) ?_
  refine Zw rfl (fun m env h => h = [] ∧ ∃ j : Nat, m + j = k + 1 ∧ GEnv.get env 2 = .bool star ∧ GEnv.get env 3 = .int .u8 ((i : Nat) : Int) ∧ GEnv.get env 9 = .int .i64 ((k + 1 : Nat) : Int) ∧ GEnv.get env 10 = .int .u32 ((u : Nat) : Int) ∧ isOe (GEnv.get env 11) (gflat (sizeG star u j)) ∧ GEnv.get env 12 = .int .i64 ((j : Nat) : Int)) (k + 1) ⟨rfl, 0, rfl, rfl, rfl, rfl, rfl, .inl ⟨rfl, size_zero _ _⟩, rfl⟩ ?_
  rintro m env h ⟨rfl, j, hm, k2, k3, k9, k10, k11, k12⟩
  simp only [GEnv.keep, k2, k3, k9, k10, k12]
  generalize GEnv.get env 11 = s11 at k11 ⊢
  have hlj := size_length star j u
  by_cases hj : j < k + 1
  · have g1 : decide (((j : Nat) : Int) < ((k + 1 : Nat) : Int)) = true := decide_eq_true (by omega)
    have b1 : IntKind.u32.wrap (((u : Nat) : Int) + 1) = ((u + 1 : Nat) : Int) := by
      rw [show ((u : Nat) : Int) + 1 = ((u + 1 : Nat) : Int) by omega, wrap_u32_nat, Nat.mod_eq_of_lt (by omega)]
    have b2 : IntKind.u32.wrap ((j : Nat) : Int) = ((j : Nat) : Int) := by rw [wrap_u32_nat, Nat.mod_eq_of_lt (by omega)]
    have b3 : IntKind.u32.wrap (((u + 1 : Nat) : Int) + ((j : Nat) : Int)) = ((u + 1 + j : Nat) : Int) := by
      rw [show ((u + 1 : Nat) : Int) + ((j : Nat) : Int) = ((u + 1 + j : Nat) : Int) by omega, wrap_u32_nat, Nat.mod_eq_of_lt (by omega)]
    have b4 : IntKind.u32.wrap (((u : Nat) : Int) + ((j : Nat) : Int)) = ((u + j : Nat) : Int) := by
      rw [show ((u : Nat) : Int) + ((j : Nat) : Int) = ((u + j : Nat) : Int) by omega, wrap_u32_nat, Nat.mod_eq_of_lt (by omega)]
    have b5 : IntKind.u32.wrap (((u + j : Nat) : Int) + 1) = ((u + j + 1 : Nat) : Int) := by
      rw [show ((u + j : Nat) : Int) + 1 = ((u + j + 1 : Nat) : Int) by omega, wrap_u32_nat, Nat.mod_eq_of_lt (by omega)]
    have hinc := up64 (show j < 9223372036854775807 by omega)
    have hr0 : (1 * 8 ≤ room) = True := eq_true (by unfold room; omega)
    have hr1 : ((j + 1) * 8 ≤ room) = True := eq_true (by unfold room; omega)
    have sn := size_snoc star j u
    refine Zr rfl (by simp (maxSteps := 2000000) only [gs,List.replicate,reduceIte,reduceCtorEq,Nat.reduceEqDiff,Nat.reduceLT,Nat.reduceAdd,Nat.reduceSub,Nat.reduceLeDiff,Nat.reduceMul,Int.reduceToNat,Int.reduceLT,Int.reduceLE,Int.reduceEq,Int.reduceNe,Int.reduceBEq,Int.reduceBNe,Int.reduceAdd,Int.reduceSub,Int.reduceNeg, g1]; rfl) (Zc rfl rfl (fun _ => ?_) (fun h => by cases h))
    cases star with
    | true =>
      simp only [if_true] at sn
      refine Zr rfl (by simp (maxSteps := 2000000) only [gs,List.replicate,reduceIte,reduceCtorEq,Nat.reduceEqDiff,Nat.reduceLT,Nat.reduceAdd,Nat.reduceSub,Nat.reduceLeDiff,Nat.reduceMul,Int.reduceToNat,Int.reduceLT,Int.reduceLE,Int.reduceEq,Int.reduceNe,Int.reduceBEq,Int.reduceBNe,Int.reduceAdd,Int.reduceSub,Int.reduceNeg]; rfl) (Zc rfl rfl (fun _ => ?_) (fun h => by cases h))
      rcases k11 with ⟨rfl, h0⟩ | rfl
      · rw [h0, List.nil_append] at sn
        have e1 : [[U.int .u32 ((u : Nat) : Int), .int .u32 ((u + 1 + j : Nat) : Int)]] = uen [(u, u + 1 + j)] := rfl
        refine Zr rfl (by simp (maxSteps := 2000000) only [gs,List.replicate,reduceIte,reduceCtorEq,Nat.reduceEqDiff,Nat.reduceLT,Nat.reduceAdd,Nat.reduceSub,Nat.reduceLeDiff,Nat.reduceMul,Int.reduceToNat,Int.reduceLT,Int.reduceLE,Int.reduceEq,Int.reduceNe,Int.reduceBEq,Int.reduceBNe,Int.reduceAdd,Int.reduceSub,Int.reduceNeg, b1, b2, b3, e1, uen_length, List.length_singleton, hr0]; rfl) ?_
        refine Zr rfl (by simp (maxSteps := 2000000) only [gs,List.replicate,reduceIte,reduceCtorEq,Nat.reduceEqDiff,Nat.reduceLT,Nat.reduceAdd,Nat.reduceSub,Nat.reduceLeDiff,Nat.reduceMul,Int.reduceToNat,Int.reduceLT,Int.reduceLE,Int.reduceEq,Int.reduceNe,Int.reduceBEq,Int.reduceBNe,Int.reduceAdd,Int.reduceSub,Int.reduceNeg, hinc]; rfl) ?_
        exact Za rfl ⟨m - 1, by omega, rfl, j + 1, by omega, rfl, rfl, rfl, rfl, .inr (by rw [sn]; rfl), rfl⟩
      · refine Zr rfl (by simp (maxSteps := 2000000) only [gs,List.replicate,reduceIte,reduceCtorEq,Nat.reduceEqDiff,Nat.reduceLT,Nat.reduceAdd,Nat.reduceSub,Nat.reduceLeDiff,Nat.reduceMul,Int.reduceToNat,Int.reduceLT,Int.reduceLE,Int.reduceEq,Int.reduceNe,Int.reduceBEq,Int.reduceBNe,Int.reduceAdd,Int.reduceSub,Int.reduceNeg, b1, b2, b3, uen_length, hlj, hr1, uen_snoc]; rfl) ?_
        refine Zr rfl (by simp (maxSteps := 2000000) only [gs,List.replicate,reduceIte,reduceCtorEq,Nat.reduceEqDiff,Nat.reduceLT,Nat.reduceAdd,Nat.reduceSub,Nat.reduceLeDiff,Nat.reduceMul,Int.reduceToNat,Int.reduceLT,Int.reduceLE,Int.reduceEq,Int.reduceNe,Int.reduceBEq,Int.reduceBNe,Int.reduceAdd,Int.reduceSub,Int.reduceNeg, hinc]; rfl) ?_
        exact Za rfl ⟨m - 1, by omega, rfl, j + 1, by omega, rfl, rfl, rfl, rfl, .inr (by rw [sn]; rfl), rfl⟩
    | false =>
      simp only [Bool.false_eq_true, if_false] at sn
      refine Zr rfl (by simp (maxSteps := 2000000) only [gs,List.replicate,reduceIte,reduceCtorEq,Nat.reduceEqDiff,Nat.reduceLT,Nat.reduceAdd,Nat.reduceSub,Nat.reduceLeDiff,Nat.reduceMul,Int.reduceToNat,Int.reduceLT,Int.reduceLE,Int.reduceEq,Int.reduceNe,Int.reduceBEq,Int.reduceBNe,Int.reduceAdd,Int.reduceSub,Int.reduceNeg]; rfl) (Zc rfl rfl (fun h => by cases h) (fun _ => ?_))
      rcases k11 with ⟨rfl, h0⟩ | rfl
      · rw [h0, List.nil_append] at sn
        have e1 : [[U.int .u32 ((u + j : Nat) : Int), .int .u32 ((u + j + 1 : Nat) : Int)]] = uen [(u + j, u + j + 1)] := rfl
        refine Zr rfl (by simp (maxSteps := 2000000) only [gs,List.replicate,reduceIte,reduceCtorEq,Nat.reduceEqDiff,Nat.reduceLT,Nat.reduceAdd,Nat.reduceSub,Nat.reduceLeDiff,Nat.reduceMul,Int.reduceToNat,Int.reduceLT,Int.reduceLE,Int.reduceEq,Int.reduceNe,Int.reduceBEq,Int.reduceBNe,Int.reduceAdd,Int.reduceSub,Int.reduceNeg, b2, b4, b5, e1, uen_length, List.length_singleton, hr0]; rfl) ?_
        refine Zr rfl (by simp (maxSteps := 2000000) only [gs,List.replicate,reduceIte,reduceCtorEq,Nat.reduceEqDiff,Nat.reduceLT,Nat.reduceAdd,Nat.reduceSub,Nat.reduceLeDiff,Nat.reduceMul,Int.reduceToNat,Int.reduceLT,Int.reduceLE,Int.reduceEq,Int.reduceNe,Int.reduceBEq,Int.reduceBNe,Int.reduceAdd,Int.reduceSub,Int.reduceNeg, hinc]; rfl) ?_
        exact Za rfl ⟨m - 1, by omega, rfl, j + 1, by omega, rfl, rfl, rfl, rfl, .inr (by rw [sn]; rfl), rfl⟩
      · refine Zr rfl (by simp (maxSteps := 2000000) only [gs,List.replicate,reduceIte,reduceCtorEq,Nat.reduceEqDiff,Nat.reduceLT,Nat.reduceAdd,Nat.reduceSub,Nat.reduceLeDiff,Nat.reduceMul,Int.reduceToNat,Int.reduceLT,Int.reduceLE,Int.reduceEq,Int.reduceNe,Int.reduceBEq,Int.reduceBNe,Int.reduceAdd,Int.reduceSub,Int.reduceNeg, b2, b4, b5, uen_length, hlj, hr1, uen_snoc]; rfl) ?_
        refine Zr rfl (by simp (maxSteps := 2000000) only [gs,List.replicate,reduceIte,reduceCtorEq,Nat.reduceEqDiff,Nat.reduceLT,Nat.reduceAdd,Nat.reduceSub,Nat.reduceLeDiff,Nat.reduceMul,Int.reduceToNat,Int.reduceLT,Int.reduceLE,Int.reduceEq,Int.reduceNe,Int.reduceBEq,Int.reduceBNe,Int.reduceAdd,Int.reduceSub,Int.reduceNeg, hinc]; rfl) ?_
        exact Za rfl ⟨m - 1, by omega, rfl, j + 1, by omega, rfl, rfl, rfl, rfl, .inr (by rw [sn]; rfl), rfl⟩
  · have hjk : j = k + 1 := by omega
    subst hjk
    have g1 : decide (((k + 1 : Nat) : Int) < ((k + 1 : Nat) : Int)) = false := decide_eq_false (by omega)
    have hgood := size_good star k u
    have hfit := size_fit star (k + 1) u
    have hbytes := size_bytes star (u := u) hk
    have hlen10 : (putV u).length ≤ 10 := putV_len10 (by omega)
    rcases k11 with ⟨rfl, h0⟩ | rfl
    · rw [h0] at hlj; simp at hlj
    · obtain ⟨L, hL⟩ : ∃ L, L = gflat (sizeG star u (k + 1)) := ⟨_, rfl⟩
      rw [← hL] at hlj hfit ⊢
      have P1 : GF gtab fid_adj_Put [.list false 2 (uen L)] [] 0 = some (.tup [.own 1 (un .u8 (genc (sizeG star u (k + 1)))), .int .i64 0], []) := by
        rcases aput_R (w := .list false 2 (uen L)) (l := L) (.inl rfl) (by omega) (fun e he => by have := hfit e he; omega) with ⟨G, a, b, c⟩ | ⟨a, b⟩
        · have : G = sizeG star u (k + 1) := good_one a hgood (by rw [b, hL])
          rw [← this]; exact c
        · exact absurd (by rw [hL]; exact GoodG_strict hgood) a
      have hA : AdjIs 4294967296 (genc (sizeG star u (k + 1))) L := ⟨_, hgood, hL.symm, rfl, fun e he => by have := hfit e he; omega⟩
      have hbl : (genc (sizeG star u (k + 1))).length ≤ 1000 := by rw [hbytes]; cases star <;> simp <;> omega
      obtain ⟨v, hv, _, R1⟩ := aread_is (w := .list false 1 (un .u8 (genc (sizeG star u (k + 1))))) (n := 4294967296) (.inl rfl) (fun c hc => putL_lt _ c hc) (by omega) (by omega) hA
      have R1 : GF gtab fid_adj_Read [.list false 1 (un .u8 (genc (sizeG star u (k + 1)))), .int .u64 4294967296] [] 0 = some (.tup [v, .int .i64 0], []) := R1
      generalize hbs : genc (sizeG star u (k + 1)) = bs at P1 R1 hbytes hbl
      rcases hv with rfl | ⟨_, h0⟩
      · have hsh := shr_nat (k := .u32) (a := u) (s := 7) (show u < 4294967296 by omega)
        have hsh7 : ((u : Nat) : Int).fdiv (2 ^ min 7 IntKind.u32.bits) = ((u / 128 : Nat) : Int) := hsh
        refine Zr rfl (by simp (maxSteps := 2000000) only [gs,List.replicate,reduceIte,reduceCtorEq,Nat.reduceEqDiff,Nat.reduceLT,Nat.reduceAdd,Nat.reduceSub,Nat.reduceLeDiff,Nat.reduceMul,Int.reduceToNat,Int.reduceLT,Int.reduceLE,Int.reduceEq,Int.reduceNe,Int.reduceBEq,Int.reduceBNe,Int.reduceAdd,Int.reduceSub,Int.reduceNeg, g1]; rfl) (Zc rfl rfl (fun h => by cases h) (fun _ => ?_))
        refine Zr rfl (by simp (maxSteps := 2000000) only [gs,List.replicate,reduceIte,reduceCtorEq,Nat.reduceEqDiff,Nat.reduceLT,Nat.reduceAdd,Nat.reduceSub,Nat.reduceLeDiff,Nat.reduceMul,Int.reduceToNat,Int.reduceLT,Int.reduceLE,Int.reduceEq,Int.reduceNe,Int.reduceBEq,Int.reduceBNe,Int.reduceAdd,Int.reduceSub,Int.reduceNeg, snapLL_uen, gc_adj_Put, P1]; rfl) ?_
        refine Zr rfl (by simp (maxSteps := 2000000) only [gs,List.replicate,reduceIte,reduceCtorEq,Nat.reduceEqDiff,Nat.reduceLT,Nat.reduceAdd,Nat.reduceSub,Nat.reduceLeDiff,Nat.reduceMul,Int.reduceToNat,Int.reduceLT,Int.reduceLE,Int.reduceEq,Int.reduceNe,Int.reduceBEq,Int.reduceBNe,Int.reduceAdd,Int.reduceSub,Int.reduceNeg, snapLL_un, gc_adj_Read, R1]; rfl) ?_
        refine Zr rfl (by simp (maxSteps := 2000000) only [gs,List.replicate,reduceIte,reduceCtorEq,Nat.reduceEqDiff,Nat.reduceLT,Nat.reduceAdd,Nat.reduceSub,Nat.reduceLeDiff,Nat.reduceMul,Int.reduceToNat,Int.reduceLT,Int.reduceLE,Int.reduceEq,Int.reduceNe,Int.reduceBEq,Int.reduceBNe,Int.reduceAdd,Int.reduceSub,Int.reduceNeg]; rfl) ?_
        refine Zr rfl (by simp (maxSteps := 2000000) only [gs,List.replicate,reduceIte,reduceCtorEq,Nat.reduceEqDiff,Nat.reduceLT,Nat.reduceAdd,Nat.reduceSub,Nat.reduceLeDiff,Nat.reduceMul,Int.reduceToNat,Int.reduceLT,Int.reduceLE,Int.reduceEq,Int.reduceNe,Int.reduceBEq,Int.reduceBNe,Int.reduceAdd,Int.reduceSub,Int.reduceNeg, hsh7]; rfl) ?_
        have hcl := cntV_len u
        have hcb : cntV (u / 128) ≤ 9 := by omega
        refine Zw rfl (fun m env h => h = [] ∧ ∃ s : Nat, s + cntV m = cntV (u / 128) ∧ GEnv.get env 2 = .bool star ∧ GEnv.get env 3 = .int .u8 ((i : Nat) : Int) ∧ GEnv.get env 9 = .int .i64 ((k + 1 : Nat) : Int) ∧ GEnv.get env 11 = .list false 2 (uen L) ∧ GEnv.get env 13 = .list false 1 (un .u8 bs) ∧ GEnv.get env 14 = .int .i64 0 ∧ GEnv.get env 15 = .list false 2 (uen L) ∧ GEnv.get env 16 = .int .i64 0 ∧ GEnv.get env 17 = .int .i64 ((s : Nat) : Int) ∧ GEnv.get env 18 = .int .u32 ((m : Nat) : Int) ∧ m < 4294967296) (u / 128) ⟨rfl, 0, by omega, rfl, rfl, rfl, rfl, rfl, rfl, rfl, rfl, rfl, rfl, by omega⟩ ?_
        rintro m env h ⟨rfl, s, hs, j2, j3, j9, j11, j13, j14, j15, j16, j17, j18, hml⟩
        simp only [GEnv.keep, j2, j3, j9, j11, j13, j14, j15, j16, j17, j18]
        have hinc := up64 (show s < 9223372036854775807 by omega)
        refine Zr rfl (by simp (maxSteps := 2000000) only [gs,List.replicate,reduceIte,reduceCtorEq,Nat.reduceEqDiff,Nat.reduceLT,Nat.reduceAdd,Nat.reduceSub,Nat.reduceLeDiff,Nat.reduceMul,Int.reduceToNat,Int.reduceLT,Int.reduceLE,Int.reduceEq,Int.reduceNe,Int.reduceBEq,Int.reduceBNe,Int.reduceAdd,Int.reduceSub,Int.reduceNeg]; rfl) (Zp rfl rfl (fun hpos => ?_) (fun hpos => ?_))
        · have hsh8 : ((m : Nat) : Int).fdiv (2 ^ min 7 IntKind.u32.bits) = ((m / 128 : Nat) : Int) := shr_nat (k := .u32) (a := m) (s := 7) hml
          have hst := cntV_step (v := m) (by omega)
          refine Zr rfl (by simp (maxSteps := 2000000) only [gs,List.replicate,reduceIte,reduceCtorEq,Nat.reduceEqDiff,Nat.reduceLT,Nat.reduceAdd,Nat.reduceSub,Nat.reduceLeDiff,Nat.reduceMul,Int.reduceToNat,Int.reduceLT,Int.reduceLE,Int.reduceEq,Int.reduceNe,Int.reduceBEq,Int.reduceBNe,Int.reduceAdd,Int.reduceSub,Int.reduceNeg, hinc]; rfl) ?_
          refine Zr rfl (by simp (maxSteps := 2000000) only [gs,List.replicate,reduceIte,reduceCtorEq,Nat.reduceEqDiff,Nat.reduceLT,Nat.reduceAdd,Nat.reduceSub,Nat.reduceLeDiff,Nat.reduceMul,Int.reduceToNat,Int.reduceLT,Int.reduceLE,Int.reduceEq,Int.reduceNe,Int.reduceBEq,Int.reduceBNe,Int.reduceAdd,Int.reduceSub,Int.reduceNeg, hsh8]; rfl) ?_
          exact Za rfl ⟨m / 128, by omega, rfl, s + 1, by omega, rfl, rfl, rfl, rfl, rfl, rfl, rfl, rfl, rfl, rfl, by omega⟩
        · have hm0 : m = 0 := by omega
          subst hm0
          have hs' : s = cntV (u / 128) := by have : cntV 0 = 0 := rfl; omega
          have a1 : IntKind.i64.wrap (1 + ((s : Nat) : Int)) = ((1 + s : Nat) : Int) := by
            rw [show (1 : Int) + ((s : Nat) : Int) = ((1 + s : Nat) : Int) by omega]; exact wrap_i64_nat (by omega)
          have a2 : IntKind.i64.wrap (((1 + s : Nat) : Int) + 1) = ((1 + s + 1 : Nat) : Int) := up64 (by omega)
          have a3 : IntKind.i64.wrap (((1 + s + 1 : Nat) : Int) + 1) = ((1 + s + 1 + 1 : Nat) : Int) := up64 (by omega)
          have a4 : IntKind.i64.wrap (((1 + s + 1 + 1 : Nat) : Int) + ((k + 1 : Nat) : Int)) = ((1 + s + 1 + 1 + (k + 1) : Nat) : Int) := by
            rw [show ((1 + s + 1 + 1 : Nat) : Int) + ((k + 1 : Nat) : Int) = ((1 + s + 1 + 1 + (k + 1) : Nat) : Int) by omega]; exact wrap_i64_nat (by omega)
          have a5 : IntKind.i64.wrap (3 * ((k + 1 : Nat) : Int)) = ((3 * (k + 1) : Nat) : Int) := by
            rw [show 3 * ((k + 1 : Nat) : Int) = ((3 * (k + 1) : Nat) : Int) by omega]; exact wrap_i64_nat (by omega)
          have a6 : IntKind.i64.wrap (((1 + s : Nat) : Int) + ((3 * (k + 1) : Nat) : Int)) = ((1 + s + 3 * (k + 1) : Nat) : Int) := by
            rw [show ((1 + s : Nat) : Int) + ((3 * (k + 1) : Nat) : Int) = ((1 + s + 3 * (k + 1) : Nat) : Int) by omega]; exact wrap_i64_nat (by omega)
          have q3 : ((i : Nat) : Int).tmod ((k + 1 : Nat) : Int) = ((i % (k + 1) : Nat) : Int) := rfl
          have c3 : IntKind.i64.wrap ((i : Nat) : Int) = ((i : Nat) : Int) := wrap_i64_nat (by omega)
          have hj : i % (k + 1) < k + 1 := Nat.mod_lt _ (by omega)
          generalize i % (k + 1) = j at q3 hj
          have c4 : IntKind.i64.wrap ((j : Nat) : Int) = ((j : Nat) : Int) := wrap_i64_nat (by omega)
          have z1 : (((k + 1 : Nat) : Int) == 0) = false := beq_eq_false_iff_ne.2 (by omega)
          have z2 : (((k + 1 : Nat) : Int) = 0) = False := eq_false (by omega)
          have gx : L[j]? = some (L[j]'(by omega)) := List.getElem?_eq_getElem _
          have hm := List.getElem_mem (l := L) (n := j) (by omega)
          generalize L[j]'(by omega) = x at gx hm
          obtain ⟨x1, x2⟩ := x
          have n0 : ((0 : Int) ≤ ((j : Nat) : Int)) = True := eq_true (by omega)
          have r1 : (L.length * 8 ≤ room) = True := eq_true (by unfold room; omega)
          have r2 : ((L.length + 1) * 8 ≤ room) = True := eq_true (by unfold room; omega)
          have P2 : GF gtab fid_adj_Put [.list false 2 (uen (L ++ [(x1, x2)]))] [] 0 = some (.tup [.nils, .int .i64 23], []) := by
            rcases aput_R (w := .list false 2 (uen (L ++ [(x1, x2)]))) (l := L ++ [(x1, x2)]) (.inl rfl) (by rw [List.length_append, List.length_singleton]; omega) (fun e he => by
              rcases List.mem_append.1 he with he | he
              · have := hfit e he; omega
              · have := hfit (x1, x2) hm
                rw [List.mem_singleton.1 he]; omega) with ⟨G, a, b, c⟩ | ⟨a, b⟩
            · exact absurd (by rw [← b]; exact GoodG_strict a) (not_strict_twice hm)
            · exact b
          have S1 := same_E (w1 := .list false 2 (uen L)) (w2 := .list false 2 (uen L)) (A := L) (B := L) (.inl rfl) (.inl rfl) (by omega) (by omega)
          rw [decide_eq_true rfl] at S1
          refine Zr rfl (by simp (maxSteps := 2000000) only [gs,List.replicate,reduceIte,reduceCtorEq,Nat.reduceEqDiff,Nat.reduceLT,Nat.reduceAdd,Nat.reduceSub,Nat.reduceLeDiff,Nat.reduceMul,Int.reduceToNat,Int.reduceLT,Int.reduceLE,Int.reduceEq,Int.reduceNe,Int.reduceBEq,Int.reduceBNe,Int.reduceAdd,Int.reduceSub,Int.reduceNeg, a1, a2, a3, a4]; rfl) ?_
          cases star with
          | true =>
            simp only [if_true] at hbytes
            have f1 : (((bs.length : Nat) : Int) == ((1 + s + 1 + 1 + (k + 1) : Nat) : Int)) = true := by rw [beq_iff_eq, hbytes]; omega
            refine Zr rfl (by simp (maxSteps := 2000000) only [gs,List.replicate,reduceIte,reduceCtorEq,Nat.reduceEqDiff,Nat.reduceLT,Nat.reduceAdd,Nat.reduceSub,Nat.reduceLeDiff,Nat.reduceMul,Int.reduceToNat,Int.reduceLT,Int.reduceLE,Int.reduceEq,Int.reduceNe,Int.reduceBEq,Int.reduceBNe,Int.reduceAdd,Int.reduceSub,Int.reduceNeg]; rfl) (Zc rfl rfl (fun h => by cases h) (fun _ => ?_))
            refine Zr rfl (by simp (maxSteps := 2000000) only [gs,List.replicate,reduceIte,reduceCtorEq,Nat.reduceEqDiff,Nat.reduceLT,Nat.reduceAdd,Nat.reduceSub,Nat.reduceLeDiff,Nat.reduceMul,Int.reduceToNat,Int.reduceLT,Int.reduceLE,Int.reduceEq,Int.reduceNe,Int.reduceBEq,Int.reduceBNe,Int.reduceAdd,Int.reduceSub,Int.reduceNeg, c3, q3, c4, z1, z2]; rfl) ?_
            refine Zd rfl (by simp (maxSteps := 2000000) only [gs,gd,List.replicate,id,reduceIte,reduceCtorEq,Nat.reduceEqDiff,Nat.reduceLT,Nat.reduceAdd,Nat.reduceSub,Nat.reduceLeDiff,Nat.reduceMul,Int.reduceToNat,Int.reduceLT,Int.reduceLE,Int.reduceEq,Int.reduceNe,Int.reduceBEq,Int.reduceBNe,Int.reduceAdd,Int.reduceSub,Int.reduceNeg, n0, uen_length, uen_get gx, r1, r2, uen_snoc]; rfl) ?_
            refine Zr rfl (by simp (maxSteps := 2000000) only [gs,List.replicate,reduceIte,reduceCtorEq,Nat.reduceEqDiff,Nat.reduceLT,Nat.reduceAdd,Nat.reduceSub,Nat.reduceLeDiff,Nat.reduceMul,Int.reduceToNat,Int.reduceLT,Int.reduceLE,Int.reduceEq,Int.reduceNe,Int.reduceBEq,Int.reduceBNe,Int.reduceAdd,Int.reduceSub,Int.reduceNeg, snapLL_uen, gc_adj_Put, P2]; rfl) ?_
            exact Zr rfl (by simp (maxSteps := 2000000) only [gs,List.replicate,reduceIte,reduceCtorEq,Nat.reduceEqDiff,Nat.reduceLT,Nat.reduceAdd,Nat.reduceSub,Nat.reduceLeDiff,Nat.reduceMul,Int.reduceToNat,Int.reduceLT,Int.reduceLE,Int.reduceEq,Int.reduceNe,Int.reduceBEq,Int.reduceBNe,Int.reduceAdd,Int.reduceSub,Int.reduceNeg, beq_self_eq_true, snapLL_uen, gc_archipelagoref8_SameEdges, S1, un_length, f1]; rfl) (Zq rfl ⟨_, rfl, rfl⟩)
          | false =>
            simp only [Bool.false_eq_true, if_false] at hbytes
            have f1 : (((bs.length : Nat) : Int) == ((1 + s + 3 * (k + 1) : Nat) : Int)) = true := by rw [beq_iff_eq, hbytes]; omega
            refine Zr rfl (by simp (maxSteps := 2000000) only [gs,List.replicate,reduceIte,reduceCtorEq,Nat.reduceEqDiff,Nat.reduceLT,Nat.reduceAdd,Nat.reduceSub,Nat.reduceLeDiff,Nat.reduceMul,Int.reduceToNat,Int.reduceLT,Int.reduceLE,Int.reduceEq,Int.reduceNe,Int.reduceBEq,Int.reduceBNe,Int.reduceAdd,Int.reduceSub,Int.reduceNeg]; rfl) (Zc rfl rfl (fun _ => ?_) (fun h => by cases h))
            refine Zr rfl (by simp (maxSteps := 2000000) only [gs,List.replicate,reduceIte,reduceCtorEq,Nat.reduceEqDiff,Nat.reduceLT,Nat.reduceAdd,Nat.reduceSub,Nat.reduceLeDiff,Nat.reduceMul,Int.reduceToNat,Int.reduceLT,Int.reduceLE,Int.reduceEq,Int.reduceNe,Int.reduceBEq,Int.reduceBNe,Int.reduceAdd,Int.reduceSub,Int.reduceNeg, a1, a5, a6]; rfl) ?_
            refine Zr rfl (by simp (maxSteps := 2000000) only [gs,List.replicate,reduceIte,reduceCtorEq,Nat.reduceEqDiff,Nat.reduceLT,Nat.reduceAdd,Nat.reduceSub,Nat.reduceLeDiff,Nat.reduceMul,Int.reduceToNat,Int.reduceLT,Int.reduceLE,Int.reduceEq,Int.reduceNe,Int.reduceBEq,Int.reduceBNe,Int.reduceAdd,Int.reduceSub,Int.reduceNeg, c3, q3, c4, z1, z2]; rfl) ?_
            refine Zd rfl (by simp (maxSteps := 2000000) only [gs,gd,List.replicate,id,reduceIte,reduceCtorEq,Nat.reduceEqDiff,Nat.reduceLT,Nat.reduceAdd,Nat.reduceSub,Nat.reduceLeDiff,Nat.reduceMul,Int.reduceToNat,Int.reduceLT,Int.reduceLE,Int.reduceEq,Int.reduceNe,Int.reduceBEq,Int.reduceBNe,Int.reduceAdd,Int.reduceSub,Int.reduceNeg, n0, uen_length, uen_get gx, r1, r2, uen_snoc]; rfl) ?_
            refine Zr rfl (by simp (maxSteps := 2000000) only [gs,List.replicate,reduceIte,reduceCtorEq,Nat.reduceEqDiff,Nat.reduceLT,Nat.reduceAdd,Nat.reduceSub,Nat.reduceLeDiff,Nat.reduceMul,Int.reduceToNat,Int.reduceLT,Int.reduceLE,Int.reduceEq,Int.reduceNe,Int.reduceBEq,Int.reduceBNe,Int.reduceAdd,Int.reduceSub,Int.reduceNeg, snapLL_uen, gc_adj_Put, P2]; rfl) ?_
            exact Zr rfl (by simp (maxSteps := 2000000) only [gs,List.replicate,reduceIte,reduceCtorEq,Nat.reduceEqDiff,Nat.reduceLT,Nat.reduceAdd,Nat.reduceSub,Nat.reduceLeDiff,Nat.reduceMul,Int.reduceToNat,Int.reduceLT,Int.reduceLE,Int.reduceEq,Int.reduceNe,Int.reduceBEq,Int.reduceBNe,Int.reduceAdd,Int.reduceSub,Int.reduceNeg, beq_self_eq_true, snapLL_uen, gc_archipelagoref8_SameEdges, S1, un_length, f1]; rfl) (Zq rfl ⟨_, rfl, rfl⟩)
      · rw [h0] at hlj; simp at hlj

theorem adjSizes_law (us : List U) (h : Ars [.one (.int .u8), .one (.int .u32), .one .bool, .one (.int .u8)] us) : GF gtab fid_archipelagolaw15_AdjSizes us [] 0 = some (.bool true, []) := by
  obtain ⟨u0, _, rfl, h0, u1, _, rfl, h1, u2, _, rfl, h2, u3, _, rfl, h3, rfl⟩ := h
  obtain ⟨a, rfl, ha⟩ := Sh.nat rfl h0
  obtain ⟨b, rfl, hb⟩ := Sh.nat rfl h1
  obtain ⟨c, rfl⟩ := h2
  obtain ⟨d, rfl, hd⟩ := Sh.nat rfl h3
  exact adjSizes_G (Nat.lt_succ_of_le (Int.ofNat_le.1 ha)) (Nat.lt_succ_of_le (Int.ofNat_le.1 hb)) (Nat.lt_succ_of_le (Int.ofNat_le.1 hd))

end Go.Ab
