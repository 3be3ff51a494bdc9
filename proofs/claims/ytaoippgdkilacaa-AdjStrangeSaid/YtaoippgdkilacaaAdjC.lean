/- adj's reader on the machine of values. -/
import Derived.Test.YtaoippgdkilacaaAdjB
import Derived.Test.YtaoippgdkilacaaValN
namespace Go.Ab
open Go
set_option linter.unusedVariables false
set_option linter.unusedSimpArgs false
set_option maxRecDepth 10000

theorem num_G {w : U} {bs : List Nat} {ok : Bool} (hw : isBa w bs) (hb : ∀ c ∈ bs, c < 256) (hl : bs.length ≤ 1000000) :
    ∃ w', isBa w' (bs.drop (takeV 4294967295 0 0 bs).2.1) ∧ GF gtab fid_adj_reader_num [.ptr 0 0 0 0] [.box [w, .bool ok]] 0 = some (.int .u64 ((takeV 4294967295 0 0 bs).1 : Int), [.box [w', .bool (ok && decide ((takeV 4294967295 0 0 bs).2.2 = 0))]]) := by
  have hT := vtake_G hw hb (most := 4294967295) (by decide) hl
  rw [show (((4294967295 : Nat) : Int)) = 4294967295 from rfl] at hT
  have hts := takeV_some (most := 4294967295) bs 0 0
  generalize takeV 4294967295 0 0 bs = r at hT hts ⊢
  obtain ⟨v, k, e⟩ := r
  simp only at hT hts ⊢
  have hk : k ≤ bs.length := by omega
  have n0 : ((0 : Int) ≤ (k : Int)) = True := eq_true (by omega)
  have n1 : ((k : Int) ≤ (bs.length : Int)) = True := eq_true (by omega)
  have hcut : (bs.drop k).take (bs.length - k) = bs.drop k := List.take_of_length_le (by rw [List.length_drop]; omega)
  have hle : ((bs.length : Int) ≤ (bs.length : Int)) = True := eq_true (by omega)
  have hsub : ((bs.length : Int) - (k : Int)).toNat = bs.length - k := by omega
  have he : ((e : Int) == 0) = decide (e = 0) := by
    by_cases h : e = 0
    · subst h; rfl
    · rw [beq_eq_false_iff_ne.2 (by omega), decide_eq_false h]
  have Hsn : ∀ {h : GH}, snapLL h (un .u8 bs) = some (un .u8 bs, false) := snapLL_un
  rcases hw with rfl | ⟨rfl, rfl⟩
  · refine ⟨.list false 1 (un .u8 (bs.drop k)), .inl rfl, ?_⟩
    refine fn_adj_reader_num rfl ?_
    simp only [genvOf]
    refine Zr rfl (by simp (maxSteps := 2000000) only [gs,List.replicate,reduceIte,reduceCtorEq,Nat.reduceEqDiff,Nat.reduceLT,Nat.reduceAdd,Nat.reduceSub,Nat.reduceLeDiff,Nat.reduceMul,Int.reduceToNat,Int.reduceLT,Int.reduceLE,Int.reduceEq,Int.reduceNe,Int.reduceBEq,Int.reduceBNe,Int.reduceAdd,Int.reduceSub,Int.reduceNeg]; rfl) ?_
    refine Zr rfl (by simp (maxSteps := 2000000) only [gs,List.replicate,reduceIte,reduceCtorEq,Nat.reduceEqDiff,Nat.reduceLT,Nat.reduceAdd,Nat.reduceSub,Nat.reduceLeDiff,Nat.reduceMul,Int.reduceToNat,Int.reduceLT,Int.reduceLE,Int.reduceEq,Int.reduceNe,Int.reduceBEq,Int.reduceBNe,Int.reduceAdd,Int.reduceSub,Int.reduceNeg, Hsn, gc_varint_Take, hT]; rfl) ?_
    cases ok with
    | true =>
      refine Zd rfl (by simp (maxSteps := 2000000) only [gs,gd,List.replicate,id,reduceIte,reduceCtorEq,Nat.reduceEqDiff,Nat.reduceLT,Nat.reduceAdd,Nat.reduceSub,Nat.reduceLeDiff,Nat.reduceMul,Int.reduceToNat,Int.reduceLT,Int.reduceLE,Int.reduceEq,Int.reduceNe,Int.reduceBEq,Int.reduceBNe,Int.reduceAdd,Int.reduceSub,Int.reduceNeg, n0, n1, hle, hsub, un_length, un_drop, un_take, hcut, he]; rfl) ?_
      exact Zr rfl (by simp (maxSteps := 2000000) only [gs,List.replicate,reduceIte,reduceCtorEq,Nat.reduceEqDiff,Nat.reduceLT,Nat.reduceAdd,Nat.reduceSub,Nat.reduceLeDiff,Nat.reduceMul,Int.reduceToNat,Int.reduceLT,Int.reduceLE,Int.reduceEq,Int.reduceNe,Int.reduceBEq,Int.reduceBNe,Int.reduceAdd,Int.reduceSub,Int.reduceNeg]; rfl) (Zq rfl ⟨_, rfl, rfl⟩)
    | false =>
      refine Zd rfl (by simp (maxSteps := 2000000) only [gs,gd,List.replicate,id,reduceIte,reduceCtorEq,Nat.reduceEqDiff,Nat.reduceLT,Nat.reduceAdd,Nat.reduceSub,Nat.reduceLeDiff,Nat.reduceMul,Int.reduceToNat,Int.reduceLT,Int.reduceLE,Int.reduceEq,Int.reduceNe,Int.reduceBEq,Int.reduceBNe,Int.reduceAdd,Int.reduceSub,Int.reduceNeg, n0, n1, hle, hsub, un_length, un_drop, un_take, hcut, he]; rfl) ?_
      exact Zr rfl (by simp (maxSteps := 2000000) only [gs,List.replicate,reduceIte,reduceCtorEq,Nat.reduceEqDiff,Nat.reduceLT,Nat.reduceAdd,Nat.reduceSub,Nat.reduceLeDiff,Nat.reduceMul,Int.reduceToNat,Int.reduceLT,Int.reduceLE,Int.reduceEq,Int.reduceNe,Int.reduceBEq,Int.reduceBNe,Int.reduceAdd,Int.reduceSub,Int.reduceNeg]; rfl) (Zq rfl ⟨_, rfl, rfl⟩)
  · obtain rfl : k = 0 := by simpa using hk
    refine ⟨.nils, .inr ⟨rfl, by simp⟩, ?_⟩
    refine fn_adj_reader_num rfl ?_
    simp only [genvOf]
    refine Zr rfl (by simp (maxSteps := 2000000) only [gs,List.replicate,reduceIte,reduceCtorEq,Nat.reduceEqDiff,Nat.reduceLT,Nat.reduceAdd,Nat.reduceSub,Nat.reduceLeDiff,Nat.reduceMul,Int.reduceToNat,Int.reduceLT,Int.reduceLE,Int.reduceEq,Int.reduceNe,Int.reduceBEq,Int.reduceBNe,Int.reduceAdd,Int.reduceSub,Int.reduceNeg]; rfl) ?_
    refine Zr rfl (by simp (maxSteps := 2000000) only [gs,List.replicate,reduceIte,reduceCtorEq,Nat.reduceEqDiff,Nat.reduceLT,Nat.reduceAdd,Nat.reduceSub,Nat.reduceLeDiff,Nat.reduceMul,Int.reduceToNat,Int.reduceLT,Int.reduceLE,Int.reduceEq,Int.reduceNe,Int.reduceBEq,Int.reduceBNe,Int.reduceAdd,Int.reduceSub,Int.reduceNeg, gc_varint_Take, hT]; rfl) ?_
    cases ok with
    | true =>
      refine Zd rfl (by simp (maxSteps := 2000000) only [gs,gd,List.replicate,id,reduceIte,reduceCtorEq,Nat.reduceEqDiff,Nat.reduceLT,Nat.reduceAdd,Nat.reduceSub,Nat.reduceLeDiff,Nat.reduceMul,Int.reduceToNat,Int.reduceLT,Int.reduceLE,Int.reduceEq,Int.reduceNe,Int.reduceBEq,Int.reduceBNe,Int.reduceAdd,Int.reduceSub,Int.reduceNeg, he]; rfl) ?_
      exact Zr rfl (by simp (maxSteps := 2000000) only [gs,List.replicate,reduceIte,reduceCtorEq,Nat.reduceEqDiff,Nat.reduceLT,Nat.reduceAdd,Nat.reduceSub,Nat.reduceLeDiff,Nat.reduceMul,Int.reduceToNat,Int.reduceLT,Int.reduceLE,Int.reduceEq,Int.reduceNe,Int.reduceBEq,Int.reduceBNe,Int.reduceAdd,Int.reduceSub,Int.reduceNeg]; rfl) (Zq rfl ⟨_, rfl, rfl⟩)
    | false =>
      refine Zd rfl (by simp (maxSteps := 2000000) only [gs,gd,List.replicate,id,reduceIte,reduceCtorEq,Nat.reduceEqDiff,Nat.reduceLT,Nat.reduceAdd,Nat.reduceSub,Nat.reduceLeDiff,Nat.reduceMul,Int.reduceToNat,Int.reduceLT,Int.reduceLE,Int.reduceEq,Int.reduceNe,Int.reduceBEq,Int.reduceBNe,Int.reduceAdd,Int.reduceSub,Int.reduceNeg, he]; rfl) ?_
      exact Zr rfl (by simp (maxSteps := 2000000) only [gs,List.replicate,reduceIte,reduceCtorEq,Nat.reduceEqDiff,Nat.reduceLT,Nat.reduceAdd,Nat.reduceSub,Nat.reduceLeDiff,Nat.reduceMul,Int.reduceToNat,Int.reduceLT,Int.reduceLE,Int.reduceEq,Int.reduceNe,Int.reduceBEq,Int.reduceBNe,Int.reduceAdd,Int.reduceSub,Int.reduceNeg]; rfl) (Zq rfl ⟨_, rfl, rfl⟩)

theorem drop_lt {bs : List Nat} {k : Nat} (h : ∀ c ∈ bs, c < 256) : ∀ c ∈ bs.drop k, c < 256 := fun c hc => h c (List.mem_of_mem_drop hc)
theorem u64_sum (a b : Nat) : IntKind.u64.wrap ((a : Int) + (b : Int)) = (((a + b) % 18446744073709551616 : Nat) : Int) := by
  rw [show (a : Int) + (b : Int) = ((a + b : Nat) : Int) by omega, wrap_u64_nat]
theorem u64_one (a : Nat) : IntKind.u64.wrap ((a : Int) + 1) = (((a + 1) % 18446744073709551616 : Nat) : Int) := by
  rw [show (a : Int) + 1 = ((a + 1 : Nat) : Int) by omega, wrap_u64_nat]
theorem u64_pred {a : Nat} (h : a + 1 < 18446744073709551616) : IntKind.u64.wrap (((a + 1 : Nat) : Int) - 1) = ((a : Nat) : Int) := by
  rw [show ((a + 1 : Nat) : Int) - 1 = ((a : Nat) : Int) by omega, wrap_u64_nat, Nat.mod_eq_of_lt (by omega)]

theorem edges_R {w : U} {bs : List Nat} {n : Nat} (hw : isBa w bs) (hb : ∀ c ∈ bs, c < 256) (hl : bs.length ≤ 1000) (hn : n < 18446744073709551616) :
    ∃ u w', isOe u (eRead n bs).2.2 ∧ GF gtab fid_adj_reader_edges [.ptr 0 0 0 0, .int .u64 (n : Int)] [.box [w, .bool true]] 0 = some (u, [.box [w', .bool (eRead n bs).2.1]]) := by
  have key : ∃ u h', GF gtab fid_adj_reader_edges [.ptr 0 0 0 0, .int .u64 (n : Int)] [.box [w, .bool true]] 0 = some (u, h') ∧ ∃ w', isOe u (eRead n bs).2.2 ∧ h' = [.box [w', .bool (eRead n bs).2.1]] := by
    refine fnR_adj_reader_edges rfl ?_
    simp only [genvOf]
    refine Zr rfl (by simp (maxSteps := 2000000) only [gs,List.replicate,reduceIte,reduceCtorEq,Nat.reduceEqDiff,Nat.reduceLT,Nat.reduceAdd,Nat.reduceSub,Nat.reduceLeDiff,Nat.reduceMul,Int.reduceToNat,Int.reduceLT,Int.reduceLE,Int.reduceEq,Int.reduceNe,Int.reduceBEq,Int.reduceBNe,Int.reduceAdd,Int.reduceSub,Int.reduceNeg]; rfl) ?_
    refine Zr rfl (by simp (maxSteps := 2000000) only [gs,List.replicate,reduceIte,reduceCtorEq,Nat.reduceEqDiff,Nat.reduceLT,Nat.reduceAdd,Nat.reduceSub,Nat.reduceLeDiff,Nat.reduceMul,Int.reduceToNat,Int.reduceLT,Int.reduceLE,Int.reduceEq,Int.reduceNe,Int.reduceBEq,Int.reduceBNe,Int.reduceAdd,Int.reduceSub,Int.reduceNeg]; rfl) ?_
    refine Zr rfl (by simp (maxSteps := 2000000) only [gs,List.replicate,reduceIte,reduceCtorEq,Nat.reduceEqDiff,Nat.reduceLT,Nat.reduceAdd,Nat.reduceSub,Nat.reduceLeDiff,Nat.reduceMul,Int.reduceToNat,Int.reduceLT,Int.reduceLE,Int.reduceEq,Int.reduceNe,Int.reduceBEq,Int.reduceBNe,Int.reduceAdd,Int.reduceSub,Int.reduceNeg]; rfl) ?_
    obtain ⟨w1, hw1, hG1⟩ := num_G (ok := true) hw hb (by omega)
    have hs1 := takeV_some (most := 4294967295) bs 0 0
    have hE : eOut n (takeV 4294967295 0 0 bs).1 0 (bs.drop (takeV 4294967295 0 0 bs).2.1) (decide ((takeV 4294967295 0 0 bs).2.2 = 0)) [] = eRead n bs := rfl
    generalize eRead n bs = Z at hE ⊢
    generalize takeV 4294967295 0 0 bs = r1 at hw1 hG1 hE hs1
    rw [Bool.true_and] at hG1
    refine Zr rfl (by simp (maxSteps := 2000000) only [gs,List.replicate,reduceIte,reduceCtorEq,Nat.reduceEqDiff,Nat.reduceLT,Nat.reduceAdd,Nat.reduceSub,Nat.reduceLeDiff,Nat.reduceMul,Int.reduceToNat,Int.reduceLT,Int.reduceLE,Int.reduceEq,Int.reduceNe,Int.reduceBEq,Int.reduceBNe,Int.reduceAdd,Int.reduceSub,Int.reduceNeg, gc_adj_reader_num, hG1]; rfl) ?_
    refine Zw rfl (fun m env h => ∃ (b1 : List Nat) (w1 : U) (ok1 : Bool) (out1 : List Nd) (next : Nat), h = [.box [w1, .bool ok1]] ∧ isBa w1 b1 ∧ (∀ c ∈ b1, c < 256) ∧ out1.length + b1.length ≤ bs.length ∧ GEnv.get env 0 = .ptr 0 0 0 0 ∧ GEnv.get env 1 = .int .u64 (n : Int) ∧ isOe (GEnv.get env 5) out1 ∧ GEnv.get env 6 = .int .u64 ((next : Nat) : Int) ∧ next < 18446744073709551616 ∧ GEnv.get env 7 = .int .u64 ((m : Nat) : Int) ∧ m ≤ 4294967295 ∧ eOut n m next b1 ok1 out1 = Z) r1.1 ⟨_, w1, _, [], 0, rfl, hw1, drop_lt hb, by simp, rfl, rfl, .inl ⟨rfl, rfl⟩, rfl, by omega, rfl, by omega, hE⟩ ?_
    clear hE hG1 hw1 hs1
    rintro m env h ⟨b1, w1, ok1, out1, next, rfl, hw1, hb1, hl1, k0, k1, k5, k6, hnx, k7, hm, hE⟩
    simp only [GEnv.keep, k0, k1, k6, k7]
    generalize GEnv.get env 5 = s5 at k5 ⊢
    have fin : ∀ {s5 : U}, isOe s5 out1 → eOut n m next b1 ok1 out1 = (b1, ok1, out1) → isOe s5 Z.2.2 ∧ ok1 = Z.2.1 := fun h5 h => by
      rw [h] at hE; subst hE; exact ⟨h5, rfl⟩
    cases m with
    | zero =>
      have hf := fin k5 (by rw [eOut])
      refine Zr rfl (by simp (maxSteps := 2000000) only [gs,List.replicate,reduceIte,reduceCtorEq,Nat.reduceEqDiff,Nat.reduceLT,Nat.reduceAdd,Nat.reduceSub,Nat.reduceLeDiff,Nat.reduceMul,Int.reduceToNat,Int.reduceLT,Int.reduceLE,Int.reduceEq,Int.reduceNe,Int.reduceBEq,Int.reduceBNe,Int.reduceAdd,Int.reduceSub,Int.reduceNeg]; rfl) (Zc rfl rfl (fun h => by cases h) (fun _ => ?_))
      rcases k5 with ⟨rfl, h0⟩ | rfl
      · refine Zr rfl (by simp (maxSteps := 2000000) only [gs,List.replicate,reduceIte,reduceCtorEq,Nat.reduceEqDiff,Nat.reduceLT,Nat.reduceAdd,Nat.reduceSub,Nat.reduceLeDiff,Nat.reduceMul,Int.reduceToNat,Int.reduceLT,Int.reduceLE,Int.reduceEq,Int.reduceNe,Int.reduceBEq,Int.reduceBNe,Int.reduceAdd,Int.reduceSub,Int.reduceNeg]; rfl) (Zq rfl ⟨_, rfl, ?_⟩)
        exact ⟨.nils, _, rfl, _, hf.1, by rw [← hf.2]⟩
      · refine Zr rfl (by simp (maxSteps := 2000000) only [gs,List.replicate,reduceIte,reduceCtorEq,Nat.reduceEqDiff,Nat.reduceLT,Nat.reduceAdd,Nat.reduceSub,Nat.reduceLeDiff,Nat.reduceMul,Int.reduceToNat,Int.reduceLT,Int.reduceLE,Int.reduceEq,Int.reduceNe,Int.reduceBEq,Int.reduceBNe,Int.reduceAdd,Int.reduceSub,Int.reduceNeg]; rfl) (Zq rfl ⟨_, rfl, ?_⟩)
        simp only [gfin, outs, U.out, U.handed, GEnv.get, if_true, Nat.reduceEqDiff, if_false, rfLL_uen, Option.map_some]
        exact ⟨_, _, rfl, _, hf.1, by rw [← hf.2]⟩
    | succ m =>
      have g1 : (((m + 1 : Nat) : Int) > 0) = True := eq_true (by omega)
      cases ok1 with
      | false =>
        have hf := fin k5 (by rw [eOut, if_neg (by simp)])
        refine Zr rfl (by simp (maxSteps := 2000000) only [gs,List.replicate,reduceIte,reduceCtorEq,Nat.reduceEqDiff,Nat.reduceLT,Nat.reduceAdd,Nat.reduceSub,Nat.reduceLeDiff,Nat.reduceMul,Int.reduceToNat,Int.reduceLT,Int.reduceLE,Int.reduceEq,Int.reduceNe,Int.reduceBEq,Int.reduceBNe,Int.reduceAdd,Int.reduceSub,Int.reduceNeg, g1, decide_true]; rfl) (Zc rfl rfl (fun h => by cases h) (fun _ => ?_))
        rcases k5 with ⟨rfl, h0⟩ | rfl
        · refine Zr rfl (by simp (maxSteps := 2000000) only [gs,List.replicate,reduceIte,reduceCtorEq,Nat.reduceEqDiff,Nat.reduceLT,Nat.reduceAdd,Nat.reduceSub,Nat.reduceLeDiff,Nat.reduceMul,Int.reduceToNat,Int.reduceLT,Int.reduceLE,Int.reduceEq,Int.reduceNe,Int.reduceBEq,Int.reduceBNe,Int.reduceAdd,Int.reduceSub,Int.reduceNeg]; rfl) (Zq rfl ⟨_, rfl, ?_⟩)
          exact ⟨.nils, _, rfl, _, hf.1, by rw [← hf.2]⟩
        · refine Zr rfl (by simp (maxSteps := 2000000) only [gs,List.replicate,reduceIte,reduceCtorEq,Nat.reduceEqDiff,Nat.reduceLT,Nat.reduceAdd,Nat.reduceSub,Nat.reduceLeDiff,Nat.reduceMul,Int.reduceToNat,Int.reduceLT,Int.reduceLE,Int.reduceEq,Int.reduceNe,Int.reduceBEq,Int.reduceBNe,Int.reduceAdd,Int.reduceSub,Int.reduceNeg]; rfl) (Zq rfl ⟨_, rfl, ?_⟩)
          simp only [gfin, outs, U.out, U.handed, GEnv.get, if_true, Nat.reduceEqDiff, if_false, rfLL_uen, Option.map_some]
          exact ⟨_, _, rfl, _, hf.1, by rw [← hf.2]⟩
      | true =>
        clear fin
        rw [eOut, if_pos rfl] at hE
        simp only at hE
        obtain ⟨w2, hw2, hG2⟩ := num_G (ok := true) hw1 hb1 (by omega)
        rw [Bool.true_and] at hG2
        have hs2 := takeV_some (most := 4294967295) b1 0 0
        obtain ⟨w3, hw3, hG3⟩ := num_G (ok := decide ((takeV 4294967295 0 0 b1).2.2 = 0)) hw2 (drop_lt hb1) (by rw [List.length_drop]; omega)
        have hs3 := takeV_some (most := 4294967295) (b1.drop (takeV 4294967295 0 0 b1).2.1) 0 0
        generalize takeV 4294967295 0 0 b1 = r2 at hw2 hG2 hE hs2 hw3 hG3 hs3
        have hl3 : out1.length + ((b1.drop r2.2.1).drop (takeV 4294967295 0 0 (b1.drop r2.2.1)).2.1).length ≤ bs.length := by simp only [List.length_drop]; omega
        have hb3 : ∀ c ∈ (b1.drop r2.2.1).drop (takeV 4294967295 0 0 (b1.drop r2.2.1)).2.1, c < 256 := drop_lt (drop_lt hb1)
        generalize takeV 4294967295 0 0 (b1.drop r2.2.1) = r3 at hw3 hG3 hE hs3 hl3 hb3
        have hu1 : (next + r2.1) % 18446744073709551616 < 18446744073709551616 := Nat.mod_lt _ (by decide)
        generalize hu : (next + r2.1) % 18446744073709551616 = u at hE hu1
        have s1 := u64_sum next r2.1
        rw [hu] at s1
        generalize (b1.drop r2.2.1).drop r3.2.1 = b3 at hw3 hG3 hE hl3 hb3
        generalize (decide (r2.2.2 = 0) && decide (r3.2.2 = 0)) = ok3 at hG3 hE
        refine Zr rfl (by simp (maxSteps := 2000000) only [gs,List.replicate,reduceIte,reduceCtorEq,Nat.reduceEqDiff,Nat.reduceLT,Nat.reduceAdd,Nat.reduceSub,Nat.reduceLeDiff,Nat.reduceMul,Int.reduceToNat,Int.reduceLT,Int.reduceLE,Int.reduceEq,Int.reduceNe,Int.reduceBEq,Int.reduceBNe,Int.reduceAdd,Int.reduceSub,Int.reduceNeg, g1, decide_true]; rfl) (Zc rfl rfl (fun _ => ?_) (fun h => by cases h))
        refine Zr rfl (by simp (maxSteps := 2000000) only [gs,List.replicate,reduceIte,reduceCtorEq,Nat.reduceEqDiff,Nat.reduceLT,Nat.reduceAdd,Nat.reduceSub,Nat.reduceLeDiff,Nat.reduceMul,Int.reduceToNat,Int.reduceLT,Int.reduceLE,Int.reduceEq,Int.reduceNe,Int.reduceBEq,Int.reduceBNe,Int.reduceAdd,Int.reduceSub,Int.reduceNeg, gc_adj_reader_num, hG2, s1]; rfl) ?_
        refine Zr rfl (by simp (maxSteps := 2000000) only [gs,List.replicate,reduceIte,reduceCtorEq,Nat.reduceEqDiff,Nat.reduceLT,Nat.reduceAdd,Nat.reduceSub,Nat.reduceLeDiff,Nat.reduceMul,Int.reduceToNat,Int.reduceLT,Int.reduceLE,Int.reduceEq,Int.reduceNe,Int.reduceBEq,Int.reduceBNe,Int.reduceAdd,Int.reduceSub,Int.reduceNeg, u64_one u]; rfl) ?_
        refine Zr rfl (by simp (maxSteps := 2000000) only [gs,List.replicate,reduceIte,reduceCtorEq,Nat.reduceEqDiff,Nat.reduceLT,Nat.reduceAdd,Nat.reduceSub,Nat.reduceLeDiff,Nat.reduceMul,Int.reduceToNat,Int.reduceLT,Int.reduceLE,Int.reduceEq,Int.reduceNe,Int.reduceBEq,Int.reduceBNe,Int.reduceAdd,Int.reduceSub,Int.reduceNeg]; rfl) ?_
        refine Zr rfl (by simp (maxSteps := 2000000) only [gs,List.replicate,reduceIte,reduceCtorEq,Nat.reduceEqDiff,Nat.reduceLT,Nat.reduceAdd,Nat.reduceSub,Nat.reduceLeDiff,Nat.reduceMul,Int.reduceToNat,Int.reduceLT,Int.reduceLE,Int.reduceEq,Int.reduceNe,Int.reduceBEq,Int.reduceBNe,Int.reduceAdd,Int.reduceSub,Int.reduceNeg, gc_adj_reader_num, hG3]; rfl) ?_
        generalize hz : eIn n u r3.1 u b3 ok3 out1 = z at hE
        refine Zw rfl (fun k env h => ∃ (b4 : List Nat) (w4 : U) (ok4 : Bool) (out4 : List Nd) (last : Nat), h = [.box [w4, .bool ok4]] ∧ isBa w4 b4 ∧ (∀ c ∈ b4, c < 256) ∧ out4.length + b4.length ≤ bs.length ∧ GEnv.get env 0 = .ptr 0 0 0 0 ∧ GEnv.get env 1 = .int .u64 (n : Int) ∧ isOe (GEnv.get env 5) out4 ∧ GEnv.get env 6 = .int .u64 (((u + 1) % 18446744073709551616 : Nat) : Int) ∧ GEnv.get env 7 = .int .u64 ((m + 1 : Nat) : Int) ∧ GEnv.get env 8 = .int .u64 ((u : Nat) : Int) ∧ GEnv.get env 9 = .int .u64 ((last : Nat) : Int) ∧ GEnv.get env 10 = .int .u64 ((k : Nat) : Int) ∧ k ≤ 4294967295 ∧ last < 18446744073709551616 ∧ eIn n u k last b4 ok4 out4 = z) r3.1 ⟨b3, w3, ok3, out1, u, rfl, hw3, hb3, hl3, rfl, rfl, k5, rfl, rfl, rfl, rfl, rfl, by omega, hu1, hz⟩ ?_
        clear hz hG3 hG2 hw3 hw2
        rintro k env h ⟨b4, w4, ok4, out4, last, rfl, hw4, hb4, hl4, j0, j1, j5, j6, j7, j8, j9, j10, hk, hla, hz⟩
        simp only [GEnv.keep, j0, j1, j6, j7, j8, j9, j10]
        generalize GEnv.get env 5 = s6 at j5 ⊢
        have hpm := u64_pred (a := m) (by omega)
        have fin : ∀ {s5 : U} {b5 : List Nat} {ok5 : Bool} {out5 : List Nd}, isOe s5 out5 → z = (b5, ok5, out5) → eOut n m ((u + 1) % 18446744073709551616) b5 ok5 out5 = Z ∧ True := fun h5 h => by
          subst h; exact ⟨hE, trivial⟩
        cases k with
        | zero =>
          have hf := (fin j5 (by rw [← hz, eIn])).1
          refine Zr rfl (by simp (maxSteps := 2000000) only [gs,List.replicate,reduceIte,reduceCtorEq,Nat.reduceEqDiff,Nat.reduceLT,Nat.reduceAdd,Nat.reduceSub,Nat.reduceLeDiff,Nat.reduceMul,Int.reduceToNat,Int.reduceLT,Int.reduceLE,Int.reduceEq,Int.reduceNe,Int.reduceBEq,Int.reduceBNe,Int.reduceAdd,Int.reduceSub,Int.reduceNeg]; rfl) (Zc rfl rfl (fun h => by cases h) (fun _ => ?_))
          refine Zr rfl (by simp (maxSteps := 2000000) only [gs,List.replicate,reduceIte,reduceCtorEq,Nat.reduceEqDiff,Nat.reduceLT,Nat.reduceAdd,Nat.reduceSub,Nat.reduceLeDiff,Nat.reduceMul,Int.reduceToNat,Int.reduceLT,Int.reduceLE,Int.reduceEq,Int.reduceNe,Int.reduceBEq,Int.reduceBNe,Int.reduceAdd,Int.reduceSub,Int.reduceNeg, hpm]; rfl) ?_
          exact Za rfl ⟨m, by omega, b4, w4, ok4, out4, (u + 1) % 18446744073709551616, rfl, hw4, hb4, hl4, rfl, rfl, j5, rfl, Nat.mod_lt _ (by decide), rfl, by omega, hf⟩
        | succ k =>
          have g2 : (((k + 1 : Nat) : Int) > 0) = True := eq_true (by omega)
          cases ok4 with
          | false =>
            have hf := (fin j5 (by rw [← hz, eIn, if_neg (by simp)])).1
            refine Zr rfl (by simp (maxSteps := 2000000) only [gs,List.replicate,reduceIte,reduceCtorEq,Nat.reduceEqDiff,Nat.reduceLT,Nat.reduceAdd,Nat.reduceSub,Nat.reduceLeDiff,Nat.reduceMul,Int.reduceToNat,Int.reduceLT,Int.reduceLE,Int.reduceEq,Int.reduceNe,Int.reduceBEq,Int.reduceBNe,Int.reduceAdd,Int.reduceSub,Int.reduceNeg, g2, decide_true]; rfl) (Zc rfl rfl (fun h => by cases h) (fun _ => ?_))
            refine Zr rfl (by simp (maxSteps := 2000000) only [gs,List.replicate,reduceIte,reduceCtorEq,Nat.reduceEqDiff,Nat.reduceLT,Nat.reduceAdd,Nat.reduceSub,Nat.reduceLeDiff,Nat.reduceMul,Int.reduceToNat,Int.reduceLT,Int.reduceLE,Int.reduceEq,Int.reduceNe,Int.reduceBEq,Int.reduceBNe,Int.reduceAdd,Int.reduceSub,Int.reduceNeg, hpm]; rfl) ?_
            exact Za rfl ⟨m, by omega, b4, w4, false, out4, (u + 1) % 18446744073709551616, rfl, hw4, hb4, hl4, rfl, rfl, j5, rfl, Nat.mod_lt _ (by decide), rfl, by omega, hf⟩
          | true =>
            clear fin
            rw [eIn, if_pos rfl] at hz
            obtain ⟨w5, hw5, hG5⟩ := num_G (ok := true) hw4 hb4 (by omega)
            rw [Bool.true_and] at hG5
            have hs5 := takeV_some (most := 4294967295) b4 0 0
            have hl5 : (b4.drop (takeV 4294967295 0 0 b4).2.1).length = b4.length - (takeV 4294967295 0 0 b4).2.1 := List.length_drop
            have hb5 : ∀ c ∈ b4.drop (takeV 4294967295 0 0 b4).2.1, c < 256 := drop_lt hb4
            generalize takeV 4294967295 0 0 b4 = r5 at hw5 hG5 hz hs5 hl5 hb5
            have s2 : IntKind.u64.wrap ((r5.1 : Int) + 1) = ((r5.1 + 1 : Nat) : Int) := by rw [u64_one, Nat.mod_eq_of_lt (by omega)]
            have s3 := u64_sum last (r5.1 + 1)
            have hla' : (last + (r5.1 + 1)) % 18446744073709551616 < 18446744073709551616 := Nat.mod_lt _ (by decide)
            generalize (last + (r5.1 + 1)) % 18446744073709551616 = last' at s3 hz hla'
            generalize b4.drop r5.2.1 = b5 at hw5 hz hl5 hb5
            have hpk := u64_pred (a := k) (by omega)
            refine Zr rfl (by simp (maxSteps := 2000000) only [gs,List.replicate,reduceIte,reduceCtorEq,Nat.reduceEqDiff,Nat.reduceLT,Nat.reduceAdd,Nat.reduceSub,Nat.reduceLeDiff,Nat.reduceMul,Int.reduceToNat,Int.reduceLT,Int.reduceLE,Int.reduceEq,Int.reduceNe,Int.reduceBEq,Int.reduceBNe,Int.reduceAdd,Int.reduceSub,Int.reduceNeg, g2, decide_true]; rfl) (Zc rfl rfl (fun _ => ?_) (fun h => by cases h))
            refine Zr rfl (by simp (maxSteps := 2000000) only [gs,List.replicate,reduceIte,reduceCtorEq,Nat.reduceEqDiff,Nat.reduceLT,Nat.reduceAdd,Nat.reduceSub,Nat.reduceLeDiff,Nat.reduceMul,Int.reduceToNat,Int.reduceLT,Int.reduceLE,Int.reduceEq,Int.reduceNe,Int.reduceBEq,Int.reduceBNe,Int.reduceAdd,Int.reduceSub,Int.reduceNeg, gc_adj_reader_num, hG5, s2, s3]; rfl) ?_
            by_cases he : r5.2.2 = 0
            · have d1 : decide (r5.2.2 = 0) = true := decide_eq_true he
              by_cases hln : last' < n
              · have d2 : decide ((last' : Int) < (n : Int)) = true := decide_eq_true (by omega)
                by_cases hlm : last' ≤ 4294967295
                · have d3 : decide ((last' : Int) ≤ 4294967295) = true := decide_eq_true (by omega)
                  rw [if_pos ⟨he, hln, hlm⟩] at hz
                  have c1 : IntKind.u32.wrap (u : Int) = ((u % 4294967296 : Nat) : Int) := wrap_u32_nat u
                  have c2 : IntKind.u32.wrap (last' : Int) = ((last' : Nat) : Int) := by rw [wrap_u32_nat, Nat.mod_eq_of_lt (by omega)]
                  have hr0 : (1 * 8 ≤ room) = True := eq_true (by unfold room; omega)
                  have hr1 : ((out4.length + 1) * 8 ≤ room) = True := eq_true (by unfold room; omega)
                  refine Zr rfl (by simp (maxSteps := 2000000) only [gs,List.replicate,reduceIte,reduceCtorEq,Nat.reduceEqDiff,Nat.reduceLT,Nat.reduceAdd,Nat.reduceSub,Nat.reduceLeDiff,Nat.reduceMul,Int.reduceToNat,Int.reduceLT,Int.reduceLE,Int.reduceEq,Int.reduceNe,Int.reduceBEq,Int.reduceBNe,Int.reduceAdd,Int.reduceSub,Int.reduceNeg, d1, d2, d3]; rfl) ?_
                  refine Zr rfl (by simp (maxSteps := 2000000) only [gs,List.replicate,reduceIte,reduceCtorEq,Nat.reduceEqDiff,Nat.reduceLT,Nat.reduceAdd,Nat.reduceSub,Nat.reduceLeDiff,Nat.reduceMul,Int.reduceToNat,Int.reduceLT,Int.reduceLE,Int.reduceEq,Int.reduceNe,Int.reduceBEq,Int.reduceBNe,Int.reduceAdd,Int.reduceSub,Int.reduceNeg]; rfl) (Zc rfl rfl (fun _ => ?_) (fun h => by cases h))
                  rcases j5 with ⟨rfl, h0⟩ | rfl
                  · subst h0
                    have e1 : [[U.int .u32 ((u % 4294967296 : Nat) : Int), .int .u32 (last' : Int)]] = uen [(u % 4294967296, last')] := rfl
                    refine Zr rfl (by simp (maxSteps := 2000000) only [gs,List.replicate,reduceIte,reduceCtorEq,Nat.reduceEqDiff,Nat.reduceLT,Nat.reduceAdd,Nat.reduceSub,Nat.reduceLeDiff,Nat.reduceMul,Int.reduceToNat,Int.reduceLT,Int.reduceLE,Int.reduceEq,Int.reduceNe,Int.reduceBEq,Int.reduceBNe,Int.reduceAdd,Int.reduceSub,Int.reduceNeg, c1, c2, e1, uen_length, List.length_singleton, hr0]; rfl) ?_
                    refine Zr rfl (by simp (maxSteps := 2000000) only [gs,List.replicate,reduceIte,reduceCtorEq,Nat.reduceEqDiff,Nat.reduceLT,Nat.reduceAdd,Nat.reduceSub,Nat.reduceLeDiff,Nat.reduceMul,Int.reduceToNat,Int.reduceLT,Int.reduceLE,Int.reduceEq,Int.reduceNe,Int.reduceBEq,Int.reduceBNe,Int.reduceAdd,Int.reduceSub,Int.reduceNeg, hpk]; rfl) ?_
                    exact Za rfl ⟨k, by omega, b5, w5, true, [(u % 4294967296, last')], last', rfl, hw5, hb5, by rw [List.length_singleton]; omega, rfl, rfl, .inr rfl, rfl, rfl, rfl, rfl, rfl, by omega, hla', hz⟩
                  · refine Zr rfl (by simp (maxSteps := 2000000) only [gs,List.replicate,reduceIte,reduceCtorEq,Nat.reduceEqDiff,Nat.reduceLT,Nat.reduceAdd,Nat.reduceSub,Nat.reduceLeDiff,Nat.reduceMul,Int.reduceToNat,Int.reduceLT,Int.reduceLE,Int.reduceEq,Int.reduceNe,Int.reduceBEq,Int.reduceBNe,Int.reduceAdd,Int.reduceSub,Int.reduceNeg, c1, c2, uen_length, hr1, uen_snoc]; rfl) ?_
                    refine Zr rfl (by simp (maxSteps := 2000000) only [gs,List.replicate,reduceIte,reduceCtorEq,Nat.reduceEqDiff,Nat.reduceLT,Nat.reduceAdd,Nat.reduceSub,Nat.reduceLeDiff,Nat.reduceMul,Int.reduceToNat,Int.reduceLT,Int.reduceLE,Int.reduceEq,Int.reduceNe,Int.reduceBEq,Int.reduceBNe,Int.reduceAdd,Int.reduceSub,Int.reduceNeg, hpk]; rfl) ?_
                    exact Za rfl ⟨k, by omega, b5, w5, true, out4 ++ [(u % 4294967296, last')], last', rfl, hw5, hb5, by rw [List.length_append, List.length_singleton]; omega, rfl, rfl, .inr rfl, rfl, rfl, rfl, rfl, rfl, by omega, hla', hz⟩
                · have d3 : decide ((last' : Int) ≤ 4294967295) = false := decide_eq_false (by omega)
                  rw [if_neg (fun h => hlm h.2.2)] at hz
                  have hz2 : eIn n u k last' b5 false out4 = z := by rw [← hz]; cases k <;> rw [eIn]; rw [if_neg (by simp)]
                  refine Zr rfl (by simp (maxSteps := 2000000) only [gs,List.replicate,reduceIte,reduceCtorEq,Nat.reduceEqDiff,Nat.reduceLT,Nat.reduceAdd,Nat.reduceSub,Nat.reduceLeDiff,Nat.reduceMul,Int.reduceToNat,Int.reduceLT,Int.reduceLE,Int.reduceEq,Int.reduceNe,Int.reduceBEq,Int.reduceBNe,Int.reduceAdd,Int.reduceSub,Int.reduceNeg, d1, d2, d3]; rfl) ?_
                  refine Zr rfl (by simp (maxSteps := 2000000) only [gs,List.replicate,reduceIte,reduceCtorEq,Nat.reduceEqDiff,Nat.reduceLT,Nat.reduceAdd,Nat.reduceSub,Nat.reduceLeDiff,Nat.reduceMul,Int.reduceToNat,Int.reduceLT,Int.reduceLE,Int.reduceEq,Int.reduceNe,Int.reduceBEq,Int.reduceBNe,Int.reduceAdd,Int.reduceSub,Int.reduceNeg]; rfl) (Zc rfl rfl (fun h => by cases h) (fun _ => ?_))
                  refine Zr rfl (by simp (maxSteps := 2000000) only [gs,List.replicate,reduceIte,reduceCtorEq,Nat.reduceEqDiff,Nat.reduceLT,Nat.reduceAdd,Nat.reduceSub,Nat.reduceLeDiff,Nat.reduceMul,Int.reduceToNat,Int.reduceLT,Int.reduceLE,Int.reduceEq,Int.reduceNe,Int.reduceBEq,Int.reduceBNe,Int.reduceAdd,Int.reduceSub,Int.reduceNeg, hpk]; rfl) ?_
                  exact Za rfl ⟨k, by omega, b5, w5, false, out4, last', rfl, hw5, hb5, by omega, rfl, rfl, j5, rfl, rfl, rfl, rfl, rfl, by omega, hla', hz2⟩
              · have d2 : decide ((last' : Int) < (n : Int)) = false := decide_eq_false (by omega)
                rw [if_neg (fun h => hln h.2.1)] at hz
                have hz2 : eIn n u k last' b5 false out4 = z := by rw [← hz]; cases k <;> rw [eIn]; rw [if_neg (by simp)]
                refine Zr rfl (by simp (maxSteps := 2000000) only [gs,List.replicate,reduceIte,reduceCtorEq,Nat.reduceEqDiff,Nat.reduceLT,Nat.reduceAdd,Nat.reduceSub,Nat.reduceLeDiff,Nat.reduceMul,Int.reduceToNat,Int.reduceLT,Int.reduceLE,Int.reduceEq,Int.reduceNe,Int.reduceBEq,Int.reduceBNe,Int.reduceAdd,Int.reduceSub,Int.reduceNeg, d1, d2]; rfl) ?_
                refine Zr rfl (by simp (maxSteps := 2000000) only [gs,List.replicate,reduceIte,reduceCtorEq,Nat.reduceEqDiff,Nat.reduceLT,Nat.reduceAdd,Nat.reduceSub,Nat.reduceLeDiff,Nat.reduceMul,Int.reduceToNat,Int.reduceLT,Int.reduceLE,Int.reduceEq,Int.reduceNe,Int.reduceBEq,Int.reduceBNe,Int.reduceAdd,Int.reduceSub,Int.reduceNeg]; rfl) (Zc rfl rfl (fun h => by cases h) (fun _ => ?_))
                refine Zr rfl (by simp (maxSteps := 2000000) only [gs,List.replicate,reduceIte,reduceCtorEq,Nat.reduceEqDiff,Nat.reduceLT,Nat.reduceAdd,Nat.reduceSub,Nat.reduceLeDiff,Nat.reduceMul,Int.reduceToNat,Int.reduceLT,Int.reduceLE,Int.reduceEq,Int.reduceNe,Int.reduceBEq,Int.reduceBNe,Int.reduceAdd,Int.reduceSub,Int.reduceNeg, hpk]; rfl) ?_
                exact Za rfl ⟨k, by omega, b5, w5, false, out4, last', rfl, hw5, hb5, by omega, rfl, rfl, j5, rfl, rfl, rfl, rfl, rfl, by omega, hla', hz2⟩
            · have d1 : decide (r5.2.2 = 0) = false := decide_eq_false he
              rw [if_neg (fun h => he h.1)] at hz
              have hz2 : eIn n u k last' b5 false out4 = z := by rw [← hz]; cases k <;> rw [eIn]; rw [if_neg (by simp)]
              refine Zr rfl (by simp (maxSteps := 2000000) only [gs,List.replicate,reduceIte,reduceCtorEq,Nat.reduceEqDiff,Nat.reduceLT,Nat.reduceAdd,Nat.reduceSub,Nat.reduceLeDiff,Nat.reduceMul,Int.reduceToNat,Int.reduceLT,Int.reduceLE,Int.reduceEq,Int.reduceNe,Int.reduceBEq,Int.reduceBNe,Int.reduceAdd,Int.reduceSub,Int.reduceNeg, d1]; rfl) ?_
              refine Zr rfl (by simp (maxSteps := 2000000) only [gs,List.replicate,reduceIte,reduceCtorEq,Nat.reduceEqDiff,Nat.reduceLT,Nat.reduceAdd,Nat.reduceSub,Nat.reduceLeDiff,Nat.reduceMul,Int.reduceToNat,Int.reduceLT,Int.reduceLE,Int.reduceEq,Int.reduceNe,Int.reduceBEq,Int.reduceBNe,Int.reduceAdd,Int.reduceSub,Int.reduceNeg]; rfl) (Zc rfl rfl (fun h => by cases h) (fun _ => ?_))
              refine Zr rfl (by simp (maxSteps := 2000000) only [gs,List.replicate,reduceIte,reduceCtorEq,Nat.reduceEqDiff,Nat.reduceLT,Nat.reduceAdd,Nat.reduceSub,Nat.reduceLeDiff,Nat.reduceMul,Int.reduceToNat,Int.reduceLT,Int.reduceLE,Int.reduceEq,Int.reduceNe,Int.reduceBEq,Int.reduceBNe,Int.reduceAdd,Int.reduceSub,Int.reduceNeg, hpk]; rfl) ?_
              exact Za rfl ⟨k, by omega, b5, w5, false, out4, last', rfl, hw5, hb5, by omega, rfl, rfl, j5, rfl, rfl, rfl, rfl, rfl, by omega, hla', hz2⟩
  obtain ⟨u, h', h1, w', h2, rfl⟩ := key
  exact ⟨u, w', h2, h1⟩

end Go.Ab
