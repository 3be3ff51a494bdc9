/- adj's reader on the machine of values. -/
import Derived.Test.YtaoippgdkilacaaAdjA
import Derived.Test.YtaoippgdkilacaaValN
namespace Go.Ab
open Go
open Nat renaming reduceEqDiff → zpa, reduceLT → zpb, reduceAdd → zpc, reduceSub → zpd, reduceLeDiff → zpe, reduceMul → zpf
open Int renaming reduceToNat → zpg, reduceLT → zph, reduceLE → zpi, reduceEq → zpj, reduceNe → zpk, reduceBEq → zpl, reduceBNe → zpm, reduceAdd → zpn, reduceSub → zpo, reduceNeg → zpp
open List renaming replicate → zlr
set_option linter.unusedVariables false
set_option linter.unusedSimpArgs false
set_option maxRecDepth 10000

theorem num_G {w : U} {bs : List Nat} {ok : Bool} (hw : isBa w bs) (hb : ∀ c ∈ bs, c < 256) (hl : bs.length ≤ 1000000) :
    ∃ w', isBa w' (bs.drop (takeV 4294967295 0 0 bs).2.1) ∧ GF gtab fid_adj_reader_num [.ptr 0 0 0 0] [.box [w, .bool ok]] 0 = some (.int .u64 ((takeV 4294967295 0 0 bs).1 : Int), [.box [w', .bool (ok && decide ((takeV 4294967295 0 0 bs).2.2 = 0))]]) := by
  have hT := vtake_G hw hb (most := 4294967295) (by decide) hl
  rw [show (((4294967295 : Nat) : Int)) = 4294967295 from rfl] at hT
  have hts := takeV_some (most := 4294967295) bs 0 0
  generalize takeV 4294967295 0 0 bs = r at hT hts ⊢
  obtain ⟨v, k, e⟩ := r
  simp only at hT hts ⊢
  have hk : k ≤ bs.length := by omega
  have n0 : ((0 : Int) ≤ (k : Int)) = True := eq_true (by omega)
  have n1 : ((k : Int) ≤ (bs.length : Int)) = True := eq_true (by omega)
  have hcut : (bs.drop k).take (bs.length - k) = bs.drop k := List.take_of_length_le (by rw [List.length_drop]; omega)
  have hle : ((bs.length : Int) ≤ (bs.length : Int)) = True := eq_true (by omega)
  have hsub : ((bs.length : Int) - (k : Int)).toNat = bs.length - k := by omega
  have he : ((e : Int) == 0) = decide (e = 0) := by
    by_cases h : e = 0
    · subst h; rfl
    · rw [beq_eq_false_iff_ne.2 (by omega), decide_eq_false h]
  have Hsn : ∀ {h : GH}, snapLL h (un .u8 bs) = some (un .u8 bs, false) := snapLL_un
  rcases hw with rfl | ⟨rfl, rfl⟩
  · refine ⟨.list false 1 (un .u8 (bs.drop k)), .inl rfl, ?_⟩
    refine fn_adj_reader_num rfl ?_
    simp only [genvOf]
    refine Zr rfl (by simp (maxSteps := 2000000) only [gs,zlr,reduceIte,reduceCtorEq,zpa,zpb,zpc,zpd,zpe,zpf,zpg,zph,zpi,zpj,zpk,zpl,zpm,zpn,zpo,zpp]; rfl) ?_
    refine Zr rfl (by simp (maxSteps := 2000000) only [gs,zlr,reduceIte,reduceCtorEq,zpa,zpb,zpc,zpd,zpe,zpf,zpg,zph,zpi,zpj,zpk,zpl,zpm,zpn,zpo,zpp, Hsn, gc_varint_Take, hT]; rfl) ?_
    cases ok with
    | true =>
      refine Zd rfl (by simp (maxSteps := 2000000) only [gs,gd,zlr,id,reduceIte,reduceCtorEq,zpa,zpb,zpc,zpd,zpe,zpf,zpg,zph,zpi,zpj,zpk,zpl,zpm,zpn,zpo,zpp, n0, n1, hle, hsub, un_length, un_drop, un_take, hcut, he]; rfl) ?_
      exact Zr rfl (by simp (maxSteps := 2000000) only [gs,zlr,reduceIte,reduceCtorEq,zpa,zpb,zpc,zpd,zpe,zpf,zpg,zph,zpi,zpj,zpk,zpl,zpm,zpn,zpo,zpp]; rfl) (Zq rfl ⟨_, rfl, rfl⟩)
    | false =>
      refine Zd rfl (by simp (maxSteps := 2000000) only [gs,gd,zlr,id,reduceIte,reduceCtorEq,zpa,zpb,zpc,zpd,zpe,zpf,zpg,zph,zpi,zpj,zpk,zpl,zpm,zpn,zpo,zpp, n0, n1, hle, hsub, un_length, un_drop, un_take, hcut, he]; rfl) ?_
      exact Zr rfl (by simp (maxSteps := 2000000) only [gs,zlr,reduceIte,reduceCtorEq,zpa,zpb,zpc,zpd,zpe,zpf,zpg,zph,zpi,zpj,zpk,zpl,zpm,zpn,zpo,zpp]; rfl) (Zq rfl ⟨_, rfl, rfl⟩)
  · obtain rfl : k = 0 := by simpa using hk
    refine ⟨.nils, .inr ⟨rfl, by simp⟩, ?_⟩
    refine fn_adj_reader_num rfl ?_
    simp only [genvOf]
    refine Zr rfl (by simp (maxSteps := 2000000) only [gs,zlr,reduceIte,reduceCtorEq,zpa,zpb,zpc,zpd,zpe,zpf,zpg,zph,zpi,zpj,zpk,zpl,zpm,zpn,zpo,zpp]; rfl) ?_
    refine Zr rfl (by simp (maxSteps := 2000000) only [gs,zlr,reduceIte,reduceCtorEq,zpa,zpb,zpc,zpd,zpe,zpf,zpg,zph,zpi,zpj,zpk,zpl,zpm,zpn,zpo,zpp, gc_varint_Take, hT]; rfl) ?_
    cases ok with
    | true =>
      refine Zd rfl (by simp (maxSteps := 2000000) only [gs,gd,zlr,id,reduceIte,reduceCtorEq,zpa,zpb,zpc,zpd,zpe,zpf,zpg,zph,zpi,zpj,zpk,zpl,zpm,zpn,zpo,zpp, he]; rfl) ?_
      exact Zr rfl (by simp (maxSteps := 2000000) only [gs,zlr,reduceIte,reduceCtorEq,zpa,zpb,zpc,zpd,zpe,zpf,zpg,zph,zpi,zpj,zpk,zpl,zpm,zpn,zpo,zpp]; rfl) (Zq rfl ⟨_, rfl, rfl⟩)
    | false =>
      refine Zd rfl (by simp (maxSteps := 2000000) only [gs,gd,zlr,id,reduceIte,reduceCtorEq,zpa,zpb,zpc,zpd,zpe,zpf,zpg,zph,zpi,zpj,zpk,zpl,zpm,zpn,zpo,zpp, he]; rfl) ?_
      exact Zr rfl (by simp (maxSteps := 2000000) only [gs,zlr,reduceIte,reduceCtorEq,zpa,zpb,zpc,zpd,zpe,zpf,zpg,zph,zpi,zpj,zpk,zpl,zpm,zpn,zpo,zpp]; rfl) (Zq rfl ⟨_, rfl, rfl⟩)

theorem drop_lt {bs : List Nat} {k : Nat} (h : ∀ c ∈ bs, c < 256) : ∀ c ∈ bs.drop k, c < 256 := fun c hc => h c (List.mem_of_mem_drop hc)
theorem u64_sum (a b : Nat) : IntKind.u64.wrap ((a : Int) + (b : Int)) = (((a + b) % 18446744073709551616 : Nat) : Int) := by
  rw [show (a : Int) + (b : Int) = ((a + b : Nat) : Int) by omega, wrap_u64_nat]
theorem u64_one (a : Nat) : IntKind.u64.wrap ((a : Int) + 1) = (((a + 1) % 18446744073709551616 : Nat) : Int) := by
  rw [show (a : Int) + 1 = ((a + 1 : Nat) : Int) by omega, wrap_u64_nat]
theorem u64_pred {a : Nat} (h : a + 1 < 18446744073709551616) : IntKind.u64.wrap (((a + 1 : Nat) : Int) - 1) = ((a : Nat) : Int) := by
  rw [show ((a + 1 : Nat) : Int) - 1 = ((a : Nat) : Int) by omega, wrap_u64_nat, Nat.mod_eq_of_lt (by omega)]

theorem edges_R {w : U} {bs : List Nat} {n : Nat} (hw : isBa w bs) (hb : ∀ c ∈ bs, c < 256) (hl : bs.length ≤ 10000) (hn : n < 18446744073709551616) :
    ∃ u w', isOe u (eRead n bs).2.2 ∧ GF gtab fid_adj_reader_edges [.ptr 0 0 0 0, .int .u64 (n : Int)] [.box [w, .bool true]] 0 = some (u, [.box [w', .bool (eRead n bs).2.1]]) := by
  have key : ∃ u h', GF gtab fid_adj_reader_edges [.ptr 0 0 0 0, .int .u64 (n : Int)] [.box [w, .bool true]] 0 = some (u, h') ∧ ∃ w', isOe u (eRead n bs).2.2 ∧ h' = [.box [w', .bool (eRead n bs).2.1]] := by
    refine fnR_adj_reader_edges rfl ?_
    simp only [genvOf]
    refine Zr rfl (by simp (maxSteps := 2000000) only [gs,zlr,reduceIte,reduceCtorEq,zpa,zpb,zpc,zpd,zpe,zpf,zpg,zph,zpi,zpj,zpk,zpl,zpm,zpn,zpo,zpp]; rfl) ?_
    refine Zr rfl (by simp (maxSteps := 2000000) only [gs,zlr,reduceIte,reduceCtorEq,zpa,zpb,zpc,zpd,zpe,zpf,zpg,zph,zpi,zpj,zpk,zpl,zpm,zpn,zpo,zpp]; rfl) ?_
    refine Zr rfl (by simp (maxSteps := 2000000) only [gs,zlr,reduceIte,reduceCtorEq,zpa,zpb,zpc,zpd,zpe,zpf,zpg,zph,zpi,zpj,zpk,zpl,zpm,zpn,zpo,zpp]; rfl) ?_
    obtain ⟨w1, hw1, hG1⟩ := num_G (ok := true) hw hb (by omega)
    have hs1 := takeV_some (most := 4294967295) bs 0 0
    have hE : eOut n (takeV 4294967295 0 0 bs).1 0 (bs.drop (takeV 4294967295 0 0 bs).2.1) (decide ((takeV 4294967295 0 0 bs).2.2 = 0)) [] = eRead n bs := rfl
    generalize eRead n bs = Z at hE ⊢
    generalize takeV 4294967295 0 0 bs = r1 at hw1 hG1 hE hs1
    rw [Bool.true_and] at hG1
    refine Zr rfl (by simp (maxSteps := 2000000) only [gs,zlr,reduceIte,reduceCtorEq,zpa,zpb,zpc,zpd,zpe,zpf,zpg,zph,zpi,zpj,zpk,zpl,zpm,zpn,zpo,zpp, gc_adj_reader_num, hG1]; rfl) ?_
    refine Zw rfl (fun m env h => ∃ (b1 : List Nat) (w1 : U) (ok1 : Bool) (out1 : List Nd) (next : Nat), h = [.box [w1, .bool ok1]] ∧ isBa w1 b1 ∧ (∀ c ∈ b1, c < 256) ∧ out1.length + b1.length ≤ bs.length ∧ GEnv.get env 0 = .ptr 0 0 0 0 ∧ GEnv.get env 1 = .int .u64 (n : Int) ∧ isOe (GEnv.get env 5) out1 ∧ GEnv.get env 6 = .int .u64 ((next : Nat) : Int) ∧ next < 18446744073709551616 ∧ GEnv.get env 7 = .int .u64 ((m : Nat) : Int) ∧ m ≤ 4294967295 ∧ eOut n m next b1 ok1 out1 = Z) r1.1 ⟨_, w1, _, [], 0, rfl, hw1, drop_lt hb, by simp, rfl, rfl, .inl ⟨rfl, rfl⟩, rfl, by omega, rfl, by omega, hE⟩ ?_
    clear hE hG1 hw1 hs1
    rintro m env h ⟨b1, w1, ok1, out1, next, rfl, hw1, hb1, hl1, k0, k1, k5, k6, hnx, k7, hm, hE⟩
    simp only [GEnv.keep, k0, k1, k6, k7]
    generalize GEnv.get env 5 = s5 at k5 ⊢
    have fin : ∀ {s5 : U}, isOe s5 out1 → eOut n m next b1 ok1 out1 = (b1, ok1, out1) → isOe s5 Z.2.2 ∧ ok1 = Z.2.1 := fun h5 h => by
      rw [h] at hE; subst hE; exact ⟨h5, rfl⟩
    cases m with
    | zero =>
      have hf := fin k5 (by rw [eOut])
      refine Zr rfl (by simp (maxSteps := 2000000) only [gs,zlr,reduceIte,reduceCtorEq,zpa,zpb,zpc,zpd,zpe,zpf,zpg,zph,zpi,zpj,zpk,zpl,zpm,zpn,zpo,zpp]; rfl) (Zc rfl rfl (fun h => by cases h) (fun _ => ?_))
      rcases k5 with ⟨rfl, h0⟩ | rfl
      · refine Zr rfl (by simp (maxSteps := 2000000) only [gs,zlr,reduceIte,reduceCtorEq,zpa,zpb,zpc,zpd,zpe,zpf,zpg,zph,zpi,zpj,zpk,zpl,zpm,zpn,zpo,zpp]; rfl) (Zq rfl ⟨_, rfl, ?_⟩)
        exact ⟨.nils, _, rfl, _, hf.1, by rw [← hf.2]⟩
      · refine Zr rfl (by simp (maxSteps := 2000000) only [gs,zlr,reduceIte,reduceCtorEq,zpa,zpb,zpc,zpd,zpe,zpf,zpg,zph,zpi,zpj,zpk,zpl,zpm,zpn,zpo,zpp]; rfl) (Zq rfl ⟨_, rfl, ?_⟩)
        simp only [gfin, outs, U.out, U.handed, GEnv.get, if_true, Nat.reduceEqDiff, if_false, rfLL_uen, Option.map_some]
        exact ⟨_, _, rfl, _, hf.1, by rw [← hf.2]⟩
    | succ m =>
      have g1 : (((m + 1 : Nat) : Int) > 0) = True := eq_true (by omega)
      cases ok1 with
      | false =>
        have hf := fin k5 (by rw [eOut, if_neg (by simp)])
        refine Zr rfl (by simp (maxSteps := 2000000) only [gs,zlr,reduceIte,reduceCtorEq,zpa,zpb,zpc,zpd,zpe,zpf,zpg,zph,zpi,zpj,zpk,zpl,zpm,zpn,zpo,zpp, g1, decide_true]; rfl) (Zc rfl rfl (fun h => by cases h) (fun _ => ?_))
        rcases k5 with ⟨rfl, h0⟩ | rfl
        · refine Zr rfl (by simp (maxSteps := 2000000) only [gs,zlr,reduceIte,reduceCtorEq,zpa,zpb,zpc,zpd,zpe,zpf,zpg,zph,zpi,zpj,zpk,zpl,zpm,zpn,zpo,zpp]; rfl) (Zq rfl ⟨_, rfl, ?_⟩)
          exact ⟨.nils, _, rfl, _, hf.1, by rw [← hf.2]⟩
        · refine Zr rfl (by simp (maxSteps := 2000000) only [gs,zlr,reduceIte,reduceCtorEq,zpa,zpb,zpc,zpd,zpe,zpf,zpg,zph,zpi,zpj,zpk,zpl,zpm,zpn,zpo,zpp]; rfl) (Zq rfl ⟨_, rfl, ?_⟩)
          simp only [gfin, outs, U.out, U.handed, GEnv.get, if_true, Nat.reduceEqDiff, if_false, rfLL_uen, Option.map_some]
          exact ⟨_, _, rfl, _, hf.1, by rw [← hf.2]⟩
      | true =>
        clear fin
        rw [eOut, if_pos rfl] at hE
        simp only at hE
        obtain ⟨w2, hw2, hG2⟩ := num_G (ok := true) hw1 hb1 (by omega)
        rw [Bool.true_and] at hG2
        have hs2 := takeV_some (most := 4294967295) b1 0 0
        obtain ⟨w3, hw3, hG3⟩ := num_G (ok := decide ((takeV 4294967295 0 0 b1).2.2 = 0)) hw2 (drop_lt hb1) (by rw [List.length_drop]; omega)
        have hs3 := takeV_some (most := 4294967295) (b1.drop (takeV 4294967295 0 0 b1).2.1) 0 0
        generalize takeV 4294967295 0 0 b1 = r2 at hw2 hG2 hE hs2 hw3 hG3 hs3
        have hl3 : out1.length + ((b1.drop r2.2.1).drop (takeV 4294967295 0 0 (b1.drop r2.2.1)).2.1).length ≤ bs.length := by simp only [List.length_drop]; omega
        have hb3 : ∀ c ∈ (b1.drop r2.2.1).drop (takeV 4294967295 0 0 (b1.drop r2.2.1)).2.1, c < 256 := drop_lt (drop_lt hb1)
        generalize takeV 4294967295 0 0 (b1.drop r2.2.1) = r3 at hw3 hG3 hE hs3 hl3 hb3
        have hu1 : (next + r2.1) % 18446744073709551616 < 18446744073709551616 := Nat.mod_lt _ (by decide)
        generalize hu : (next + r2.1) % 18446744073709551616 = u at hE hu1
        have s1 := u64_sum next r2.1
        rw [hu] at s1
        generalize (b1.drop r2.2.1).drop r3.2.1 = b3 at hw3 hG3 hE hl3 hb3
        generalize (decide (r2.2.2 = 0) && decide (r3.2.2 = 0)) = ok3 at hG3 hE
        refine Zr rfl (by simp (maxSteps := 2000000) only [gs,zlr,reduceIte,reduceCtorEq,zpa,zpb,zpc,zpd,zpe,zpf,zpg,zph,zpi,zpj,zpk,zpl,zpm,zpn,zpo,zpp, g1, decide_true]; rfl) (Zc rfl rfl (fun _ => ?_) (fun h => by cases h))
        refine Zr rfl (by simp (maxSteps := 2000000) only [gs,zlr,reduceIte,reduceCtorEq,zpa,zpb,zpc,zpd,zpe,zpf,zpg,zph,zpi,zpj,zpk,zpl,zpm,zpn,zpo,zpp, gc_adj_reader_num, hG2, s1]; rfl) ?_
        refine Zr rfl (by simp (maxSteps := 2000000) only [gs,zlr,reduceIte,reduceCtorEq,zpa,zpb,zpc,zpd,zpe,zpf,zpg,zph,zpi,zpj,zpk,zpl,zpm,zpn,zpo,zpp, u64_one u]; rfl) ?_
        refine Zr rfl (by simp (maxSteps := 2000000) only [gs,zlr,reduceIte,reduceCtorEq,zpa,zpb,zpc,zpd,zpe,zpf,zpg,zph,zpi,zpj,zpk,zpl,zpm,zpn,zpo,zpp]; rfl) ?_
        refine Zr rfl (by simp (maxSteps := 2000000) only [gs,zlr,reduceIte,reduceCtorEq,zpa,zpb,zpc,zpd,zpe,zpf,zpg,zph,zpi,zpj,zpk,zpl,zpm,zpn,zpo,zpp, gc_adj_reader_num, hG3]; rfl) ?_
        generalize hz : eIn n u r3.1 u b3 ok3 out1 = z at hE
        refine Zw rfl (fun k env h => ∃ (b4 : List Nat) (w4 : U) (ok4 : Bool) (out4 : List Nd) (last : Nat), h = [.box [w4, .bool ok4]] ∧ isBa w4 b4 ∧ (∀ c ∈ b4, c < 256) ∧ out4.length + b4.length ≤ bs.length ∧ GEnv.get env 0 = .ptr 0 0 0 0 ∧ GEnv.get env 1 = .int .u64 (n : Int) ∧ isOe (GEnv.get env 5) out4 ∧ GEnv.get env 6 = .int .u64 (((u + 1) % 18446744073709551616 : Nat) : Int) ∧ GEnv.get env 7 = .int .u64 ((m + 1 : Nat) : Int) ∧ GEnv.get env 8 = .int .u64 ((u : Nat) : Int) ∧ GEnv.get env 9 = .int .u64 ((last : Nat) : Int) ∧ GEnv.get env 10 = .int .u64 ((k : Nat) : Int) ∧ k ≤ 4294967295 ∧ last < 18446744073709551616 ∧ eIn n u k last b4 ok4 out4 = z) r3.1 ⟨b3, w3, ok3, out1, u, rfl, hw3, hb3, hl3, rfl, rfl, k5, rfl, rfl, rfl, rfl, rfl, by omega, hu1, hz⟩ ?_
        clear hz hG3 hG2 hw3 hw2
        rintro k env h ⟨b4, w4, ok4, out4, last, rfl, hw4, hb4, hl4, j0, j1, j5, j6, j7, j8, j9, j10, hk, hla, hz⟩
        simp only [GEnv.keep, j0, j1, j6, j7, j8, j9, j10]
        generalize GEnv.get env 5 = s6 at j5 ⊢
        have hpm := u64_pred (a := m) (by omega)
        have fin : ∀ {s5 : U} {b5 : List Nat} {ok5 : Bool} {out5 : List Nd}, isOe s5 out5 → z = (b5, ok5, out5) → eOut n m ((u + 1) % 18446744073709551616) b5 ok5 out5 = Z ∧ True := fun h5 h => by
          subst h; exact ⟨hE, trivial⟩
        cases k with
        | zero =>
          have hf := (fin j5 (by rw [← hz, eIn])).1
          refine Zr rfl (by simp (maxSteps := 2000000) only [gs,zlr,reduceIte,reduceCtorEq,zpa,zpb,zpc,zpd,zpe,zpf,zpg,zph,zpi,zpj,zpk,zpl,zpm,zpn,zpo,zpp]; rfl) (Zc rfl rfl (fun h => by cases h) (fun _ => ?_))
          refine Zr rfl (by simp (maxSteps := 2000000) only [gs,zlr,reduceIte,reduceCtorEq,zpa,zpb,zpc,zpd,zpe,zpf,zpg,zph,zpi,zpj,zpk,zpl,zpm,zpn,zpo,zpp, hpm]; rfl) ?_
          exact Za rfl ⟨m, by omega, b4, w4, ok4, out4, (u + 1) % 18446744073709551616, rfl, hw4, hb4, hl4, rfl, rfl, j5, rfl, Nat.mod_lt _ (by decide), rfl, by omega, hf⟩
        | succ k =>
          have g2 : (((k + 1 : Nat) : Int) > 0) = True := eq_true (by omega)
          cases ok4 with
          | false =>
            have hf := (fin j5 (by rw [← hz, eIn, if_neg (by simp)])).1
            refine Zr rfl (by simp (maxSteps := 2000000) only [gs,zlr,reduceIte,reduceCtorEq,zpa,zpb,zpc,zpd,zpe,zpf,zpg,zph,zpi,zpj,zpk,zpl,zpm,zpn,zpo,zpp, g2, decide_true]; rfl) (Zc rfl rfl (fun h => by cases h) (fun _ => ?_))
            refine Zr rfl (by simp (maxSteps := 2000000) only [gs,zlr,reduceIte,reduceCtorEq,zpa,zpb,zpc,zpd,zpe,zpf,zpg,zph,zpi,zpj,zpk,zpl,zpm,zpn,zpo,zpp, hpm]; rfl) ?_
            exact Za rfl ⟨m, by omega, b4, w4, false, out4, (u + 1) % 18446744073709551616, rfl, hw4, hb4, hl4, rfl, rfl, j5, rfl, Nat.mod_lt _ (by decide), rfl, by omega, hf⟩
          | true =>
            clear fin
            rw [eIn, if_pos rfl] at hz
            obtain ⟨w5, hw5, hG5⟩ := num_G (ok := true) hw4 hb4 (by omega)
            rw [Bool.true_and] at hG5
            have hs5 := takeV_some (most := 4294967295) b4 0 0
            have hl5 : (b4.drop (takeV 4294967295 0 0 b4).2.1).length = b4.length - (takeV 4294967295 0 0 b4).2.1 := List.length_drop
            have hb5 : ∀ c ∈ b4.drop (takeV 4294967295 0 0 b4).2.1, c < 256 := drop_lt hb4
            generalize takeV 4294967295 0 0 b4 = r5 at hw5 hG5 hz hs5 hl5 hb5
            have s2 : IntKind.u64.wrap ((r5.1 : Int) + 1) = ((r5.1 + 1 : Nat) : Int) := by rw [u64_one, Nat.mod_eq_of_lt (by omega)]
            have s3 := u64_sum last (r5.1 + 1)
            have hla' : (last + (r5.1 + 1)) % 18446744073709551616 < 18446744073709551616 := Nat.mod_lt _ (by decide)
            generalize (last + (r5.1 + 1)) % 18446744073709551616 = last' at s3 hz hla'
            generalize b4.drop r5.2.1 = b5 at hw5 hz hl5 hb5
            have hpk := u64_pred (a := k) (by omega)
            refine Zr rfl (by simp (maxSteps := 2000000) only [gs,zlr,reduceIte,reduceCtorEq,zpa,zpb,zpc,zpd,zpe,zpf,zpg,zph,zpi,zpj,zpk,zpl,zpm,zpn,zpo,zpp, g2, decide_true]; rfl) (Zc rfl rfl (fun _ => ?_) (fun h => by cases h))
            refine Zr rfl (by simp (maxSteps := 2000000) only [gs,zlr,reduceIte,reduceCtorEq,zpa,zpb,zpc,zpd,zpe,zpf,zpg,zph,zpi,zpj,zpk,zpl,zpm,zpn,zpo,zpp, gc_adj_reader_num, hG5, s2, s3]; rfl) ?_
            by_cases he : r5.2.2 = 0
            · have d1 : decide (r5.2.2 = 0) = true := decide_eq_true he
              by_cases hln : last' < n
              · have d2 : decide ((last' : Int) < (n : Int)) = true := decide_eq_true (by omega)
                by_cases hlm : last' ≤ 4294967295
                · have d3 : decide ((last' : Int) ≤ 4294967295) = true := decide_eq_true (by omega)
                  rw [if_pos ⟨he, hln, hlm⟩] at hz
                  have c1 : IntKind.u32.wrap (u : Int) = ((u % 4294967296 : Nat) : Int) := wrap_u32_nat u
                  have c2 : IntKind.u32.wrap (last' : Int) = ((last' : Nat) : Int) := by rw [wrap_u32_nat, Nat.mod_eq_of_lt (by omega)]
                  have hr0 : (1 * 8 ≤ room) = True := eq_true (by unfold room; omega)
                  have hr1 : ((out4.length + 1) * 8 ≤ room) = True := eq_true (by unfold room; omega)
                  refine Zr rfl (by simp (maxSteps := 2000000) only [gs,zlr,reduceIte,reduceCtorEq,zpa,zpb,zpc,zpd,zpe,zpf,zpg,zph,zpi,zpj,zpk,zpl,zpm,zpn,zpo,zpp, d1, d2, d3]; rfl) ?_
                  refine Zr rfl (by simp (maxSteps := 2000000) only [gs,zlr,reduceIte,reduceCtorEq,zpa,zpb,zpc,zpd,zpe,zpf,zpg,zph,zpi,zpj,zpk,zpl,zpm,zpn,zpo,zpp]; rfl) (Zc rfl rfl (fun _ => ?_) (fun h => by cases h))
                  rcases j5 with ⟨rfl, h0⟩ | rfl
                  · subst h0
                    have e1 : [[U.int .u32 ((u % 4294967296 : Nat) : Int), .int .u32 (last' : Int)]] = uen [(u % 4294967296, last')] := rfl
                    refine Zr rfl (by simp (maxSteps := 2000000) only [gs,zlr,reduceIte,reduceCtorEq,zpa,zpb,zpc,zpd,zpe,zpf,zpg,zph,zpi,zpj,zpk,zpl,zpm,zpn,zpo,zpp, c1, c2, e1, uen_length, List.length_singleton, hr0]; rfl) ?_
                    refine Zr rfl (by simp (maxSteps := 2000000) only [gs,zlr,reduceIte,reduceCtorEq,zpa,zpb,zpc,zpd,zpe,zpf,zpg,zph,zpi,zpj,zpk,zpl,zpm,zpn,zpo,zpp, hpk]; rfl) ?_
                    exact Za rfl ⟨k, by omega, b5, w5, true, [(u % 4294967296, last')], last', rfl, hw5, hb5, by rw [List.length_singleton]; omega, rfl, rfl, .inr rfl, rfl, rfl, rfl, rfl, rfl, by omega, hla', hz⟩
                  · refine Zr rfl (by simp (maxSteps := 2000000) only [gs,zlr,reduceIte,reduceCtorEq,zpa,zpb,zpc,zpd,zpe,zpf,zpg,zph,zpi,zpj,zpk,zpl,zpm,zpn,zpo,zpp, c1, c2, uen_length, hr1, uen_snoc]; rfl) ?_
                    refine Zr rfl (by simp (maxSteps := 2000000) only [gs,zlr,reduceIte,reduceCtorEq,zpa,zpb,zpc,zpd,zpe,zpf,zpg,zph,zpi,zpj,zpk,zpl,zpm,zpn,zpo,zpp, hpk]; rfl) ?_
                    exact Za rfl ⟨k, by omega, b5, w5, true, out4 ++ [(u % 4294967296, last')], last', rfl, hw5, hb5, by rw [List.length_append, List.length_singleton]; omega, rfl, rfl, .inr rfl, rfl, rfl, rfl, rfl, rfl, by omega, hla', hz⟩
                · have d3 : decide ((last' : Int) ≤ 4294967295) = false := decide_eq_false (by omega)
                  rw [if_neg (fun h => hlm h.2.2)] at hz
                  have hz2 : eIn n u k last' b5 false out4 = z := by rw [← hz]; cases k <;> rw [eIn]; rw [if_neg (by simp)]
                  refine Zr rfl (by simp (maxSteps := 2000000) only [gs,zlr,reduceIte,reduceCtorEq,zpa,zpb,zpc,zpd,zpe,zpf,zpg,zph,zpi,zpj,zpk,zpl,zpm,zpn,zpo,zpp, d1, d2, d3]; rfl) ?_
                  refine Zr rfl (by simp (maxSteps := 2000000) only [gs,zlr,reduceIte,reduceCtorEq,zpa,zpb,zpc,zpd,zpe,zpf,zpg,zph,zpi,zpj,zpk,zpl,zpm,zpn,zpo,zpp]; rfl) (Zc rfl rfl (fun h => by cases h) (fun _ => ?_))
                  refine Zr rfl (by simp (maxSteps := 2000000) only [gs,zlr,reduceIte,reduceCtorEq,zpa,zpb,zpc,zpd,zpe,zpf,zpg,zph,zpi,zpj,zpk,zpl,zpm,zpn,zpo,zpp, hpk]; rfl) ?_
                  exact Za rfl ⟨k, by omega, b5, w5, false, out4, last', rfl, hw5, hb5, by omega, rfl, rfl, j5, rfl, rfl, rfl, rfl, rfl, by omega, hla', hz2⟩
              · have d2 : decide ((last' : Int) < (n : Int)) = false := decide_eq_false (by omega)
                rw [if_neg (fun h => hln h.2.1)] at hz
                have hz2 : eIn n u k last' b5 false out4 = z := by rw [← hz]; cases k <;> rw [eIn]; rw [if_neg (by simp)]
                refine Zr rfl (by simp (maxSteps := 2000000) only [gs,zlr,reduceIte,reduceCtorEq,zpa,zpb,zpc,zpd,zpe,zpf,zpg,zph,zpi,zpj,zpk,zpl,zpm,zpn,zpo,zpp, d1, d2]; rfl) ?_
                refine Zr rfl (by simp (maxSteps := 2000000) only [gs,zlr,reduceIte,reduceCtorEq,zpa,zpb,zpc,zpd,zpe,zpf,zpg,zph,zpi,zpj,zpk,zpl,zpm,zpn,zpo,zpp]; rfl) (Zc rfl rfl (fun h => by cases h) (fun _ => ?_))
                refine Zr rfl (by simp (maxSteps := 2000000) only [gs,zlr,reduceIte,reduceCtorEq,zpa,zpb,zpc,zpd,zpe,zpf,zpg,zph,zpi,zpj,zpk,zpl,zpm,zpn,zpo,zpp, hpk]; rfl) ?_
                exact Za rfl ⟨k, by omega, b5, w5, false, out4, last', rfl, hw5, hb5, by omega, rfl, rfl, j5, rfl, rfl, rfl, rfl, rfl, by omega, hla', hz2⟩
            · have d1 : decide (r5.2.2 = 0) = false := decide_eq_false he
              rw [if_neg (fun h => he h.1)] at hz
              have hz2 : eIn n u k last' b5 false out4 = z := by rw [← hz]; cases k <;> rw [eIn]; rw [if_neg (by simp)]
              refine Zr rfl (by simp (maxSteps := 2000000) only [gs,zlr,reduceIte,reduceCtorEq,zpa,zpb,zpc,zpd,zpe,zpf,zpg,zph,zpi,zpj,zpk,zpl,zpm,zpn,zpo,zpp, d1]; rfl) ?_
              refine Zr rfl (by simp (maxSteps := 2000000) only [gs,zlr,reduceIte,reduceCtorEq,zpa,zpb,zpc,zpd,zpe,zpf,zpg,zph,zpi,zpj,zpk,zpl,zpm,zpn,zpo,zpp]; rfl) (Zc rfl rfl (fun h => by cases h) (fun _ => ?_))
              refine Zr rfl (by simp (maxSteps := 2000000) only [gs,zlr,reduceIte,reduceCtorEq,zpa,zpb,zpc,zpd,zpe,zpf,zpg,zph,zpi,zpj,zpk,zpl,zpm,zpn,zpo,zpp, hpk]; rfl) ?_
              exact Za rfl ⟨k, by omega, b5, w5, false, out4, last', rfl, hw5, hb5, by omega, rfl, rfl, j5, rfl, rfl, rfl, rfl, rfl, by omega, hla', hz2⟩
  obtain ⟨u, h', h1, w', h2, rfl⟩ := key
  exact ⟨u, w', h2, h1⟩

end Go.Ab

/- adj.Read, SameEdges on the machine of values. -/
namespace Go.Ab
open Go
open Nat renaming reduceEqDiff → zpa, reduceLT → zpb, reduceAdd → zpc, reduceSub → zpd, reduceLeDiff → zpe, reduceMul → zpf
open Int renaming reduceToNat → zpg, reduceLT → zph, reduceLE → zpi, reduceEq → zpj, reduceNe → zpk, reduceBEq → zpl, reduceBNe → zpm, reduceAdd → zpn, reduceSub → zpo, reduceNeg → zpp
open List renaming replicate → zlr
set_option linter.unusedVariables false
set_option linter.unusedSimpArgs false
set_option maxRecDepth 10000

theorem acast_inj : ∀ {a b : List Nat}, (a.map fun (n : Nat) => (n : Int)) = b.map (fun (n : Nat) => (n : Int)) → a = b
  | [], [], _ => rfl
  | [], _ :: _, h => by cases h
  | _ :: _, [], h => by cases h
  | x :: a, y :: b, h => by
    simp only [List.map_cons, List.cons.injEq] at h
    rw [acast_inj h.2, Int.ofNat_inj.1 h.1]
theorem abeq (a b : List Nat) : ((a.map fun (n : Nat) => (n : Int)) == b.map fun (n : Nat) => (n : Int)) = decide (a = b) := by
  by_cases h : a = b
  · subst h; simp
  · rw [decide_eq_false h]
    exact beq_eq_false_iff_ne.2 fun e => h (acast_inj e)

theorem bequal_G {x y : List Nat} {w : U} (hw : isBa w y) : GF gtab fid_bytes_Equal [.list false 1 (un .u8 x), w] [] 0 = some (.bool (decide (x = y)), []) := by
  refine fn_bytes_Equal rfl ?_
  simp only [genvOf]
  have h := abeq x y
  rcases hw with rfl | ⟨rfl, rfl⟩
  · refine Zr rfl (by simp (maxSteps := 2000000) only [gs,zlr,reduceIte,reduceCtorEq,zpa,zpb,zpc,zpd,zpe,zpf,zpg,zph,zpi,zpj,zpk,zpl,zpm,zpn,zpo,zpp]; rfl) ?_
    exact Zr rfl (by simp (maxSteps := 2000000) only [gs,zlr,reduceIte,reduceCtorEq,zpa,zpb,zpc,zpd,zpe,zpf,zpg,zph,zpi,zpj,zpk,zpl,zpm,zpn,zpo,zpp, gbytesOf_un, h]; rfl) (Zq rfl ⟨_, rfl, rfl⟩)
  · have h0 : ((x.map fun (n : Nat) => (n : Int)) == []) = decide (x = []) := abeq x []
    refine Zr rfl (by simp (maxSteps := 2000000) only [gs,zlr,reduceIte,reduceCtorEq,zpa,zpb,zpc,zpd,zpe,zpf,zpg,zph,zpi,zpj,zpk,zpl,zpm,zpn,zpo,zpp]; rfl) ?_
    refine Zr rfl (by simp (maxSteps := 2000000) only [gs,zlr,reduceIte,reduceCtorEq,zpa,zpb,zpc,zpd,zpe,zpf,zpg,zph,zpi,zpj,zpk,zpl,zpm,zpn,zpo,zpp, gbytesOf_un]; rfl) (Zq rfl ⟨_, rfl, ?_⟩)
    rw [← h0]
    rfl

theorem same_E {w1 w2 : U} {A B : List Nd} (h1 : isEn w1 A) (h2 : isEn w2 B) (hl : A.length ≤ 100000) (hl2 : B.length ≤ 100000) : GF gtab fid_archipelagoref8_SameEdges [w1, w2] [] 0 = some (.bool (decide (A = B)), []) := by
  refine fn_archipelagoref8_SameEdges rfl ?_
  simp only [genvOf]
  have zz : ((0 : Int) != 0) = false := rfl
  rcases h1 with rfl | ⟨rfl, rfl⟩
  · rcases h2 with rfl | ⟨rfl, rfl⟩
    · by_cases hlen : A.length = B.length
      case neg =>
        have f1 : ((A.length : Int) != (B.length : Int)) = true := by rw [bne_iff_ne]; omega
        rw [show decide (A = B) = false from decide_eq_false (fun h => hlen (by rw [h]))]
        refine Zr rfl (by simp (maxSteps := 2000000) only [gs,zlr,reduceIte,reduceCtorEq,zpa,zpb,zpc,zpd,zpe,zpf,zpg,zph,zpi,zpj,zpk,zpl,zpm,zpn,zpo,zpp]; rfl) ?_
        refine Zr rfl (by simp (maxSteps := 2000000) only [gs,zlr,reduceIte,reduceCtorEq,zpa,zpb,zpc,zpd,zpe,zpf,zpg,zph,zpi,zpj,zpk,zpl,zpm,zpn,zpo,zpp, uen_length, f1]; rfl) (Zc rfl rfl (fun _ => ?_) (fun h => by cases h))
        exact Zr rfl (by simp (maxSteps := 2000000) only [gs,zlr,reduceIte,reduceCtorEq,zpa,zpb,zpc,zpd,zpe,zpf,zpg,zph,zpi,zpj,zpk,zpl,zpm,zpn,zpo,zpp]; rfl) (Zq rfl ⟨_, rfl, rfl⟩)
      have f1 : ((A.length : Int) != (B.length : Int)) = false := by rw [hlen]; simp
      refine Zr rfl (by simp (maxSteps := 2000000) only [gs,zlr,reduceIte,reduceCtorEq,zpa,zpb,zpc,zpd,zpe,zpf,zpg,zph,zpi,zpj,zpk,zpl,zpm,zpn,zpo,zpp]; rfl) ?_
      refine Zr rfl (by simp (maxSteps := 2000000) only [gs,zlr,reduceIte,reduceCtorEq,zpa,zpb,zpc,zpd,zpe,zpf,zpg,zph,zpi,zpj,zpk,zpl,zpm,zpn,zpo,zpp, uen_length, f1]; rfl) (Zc rfl rfl (fun h => by cases h) (fun _ => ?_))
      refine Zr rfl (by simp (maxSteps := 2000000) only [gs,zlr,reduceIte,reduceCtorEq,zpa,zpb,zpc,zpd,zpe,zpf,zpg,zph,zpi,zpj,zpk,zpl,zpm,zpn,zpo,zpp]; rfl) ?_
      refine Zw rfl (fun n env h => h = [] ∧ ∃ i : Nat, (∀ j, j < i → A[j]? = B[j]?) ∧ GEnv.get env 0 = .list false 2 (uen A) ∧ GEnv.get env 1 = .list false 2 (uen B) ∧ GEnv.get env 5 = .int .i64 (i : Int) ∧ n + i = A.length) A.length ⟨rfl, 0, fun j h => absurd h (by omega), rfl, rfl, rfl, rfl⟩ ?_
      rintro n env h ⟨rfl, i, heq, k0, k1, k5, hn⟩
      simp only [GEnv.keep, k0, k1, k5]
      refine Zr rfl (by simp (maxSteps := 2000000) only [gs,zlr,reduceIte,reduceCtorEq,zpa,zpb,zpc,zpd,zpe,zpf,zpg,zph,zpi,zpj,zpk,zpl,zpm,zpn,zpo,zpp, uen_length]; rfl) (Zp rfl rfl (fun hi => ?_) (fun hi => ?_))
      · have gx : A[i]? = some (A[i]'(by omega)) := List.getElem?_eq_getElem _
        have gy : B[i]? = some (B[i]'(by omega)) := List.getElem?_eq_getElem _
        generalize A[i]'(by omega) = d at gx
        generalize B[i]'(by omega) = e at gy
        have n0 : ((0 : Int) ≤ (i : Int)) = True := eq_true (by omega)
        have hinc := up64 (show i < 9223372036854775807 by omega)
        by_cases hde : d = e
        · subst hde
          have heq2 : ∀ j, j < i + 1 → A[j]? = B[j]? := fun j hj => by
            by_cases hji : j = i
            · subst hji; rw [gx, gy]
            · exact heq j (by omega)
          refine Zd rfl (by simp (maxSteps := 2000000) only [gs,gd,zlr,id,reduceIte,reduceCtorEq,zpa,zpb,zpc,zpd,zpe,zpf,zpg,zph,zpi,zpj,zpk,zpl,zpm,zpn,zpo,zpp, n0, uen_get gx, uen_get gy, beq_self_eq_true]; rfl) (Zc rfl rfl (fun h => by cases h) (fun _ => ?_))
          refine Zr rfl (by simp (maxSteps := 2000000) only [gs,zlr,reduceIte,reduceCtorEq,zpa,zpb,zpc,zpd,zpe,zpf,zpg,zph,zpi,zpj,zpk,zpl,zpm,zpn,zpo,zpp, hinc]; rfl) ?_
          exact Za rfl ⟨n - 1, by omega, rfl, i + 1, heq2, rfl, rfl, rfl, by omega⟩
        · rw [show decide (A = B) = false from decide_eq_false (fun h => hde (by rw [h, gy] at gx; exact (Option.some.inj gx).symm))]
          by_cases x1 : d.1 = e.1
          · have x2' : ((d.2 : Int) == (e.2 : Int)) = false := beq_eq_false_iff_ne.2 (fun h => hde (Prod.ext x1 (by omega)))
            refine Zd rfl (by simp (maxSteps := 2000000) only [gs,gd,zlr,id,reduceIte,reduceCtorEq,zpa,zpb,zpc,zpd,zpe,zpf,zpg,zph,zpi,zpj,zpk,zpl,zpm,zpn,zpo,zpp, n0, uen_get gx, uen_get gy, x1, x2', beq_self_eq_true]; rfl) (Zc rfl rfl (fun _ => ?_) (fun h => by cases h))
            exact Zr rfl (by simp (maxSteps := 2000000) only [gs,zlr,reduceIte,reduceCtorEq,zpa,zpb,zpc,zpd,zpe,zpf,zpg,zph,zpi,zpj,zpk,zpl,zpm,zpn,zpo,zpp]; rfl) (Zq rfl ⟨_, rfl, rfl⟩)
          · have x1' : ((d.1 : Int) == (e.1 : Int)) = false := beq_eq_false_iff_ne.2 (by omega)
            refine Zd rfl (by simp (maxSteps := 2000000) only [gs,gd,zlr,id,reduceIte,reduceCtorEq,zpa,zpb,zpc,zpd,zpe,zpf,zpg,zph,zpi,zpj,zpk,zpl,zpm,zpn,zpo,zpp, n0, uen_get gx, uen_get gy, x1', beq_self_eq_true]; rfl) (Zc rfl rfl (fun _ => ?_) (fun h => by cases h))
            exact Zr rfl (by simp (maxSteps := 2000000) only [gs,zlr,reduceIte,reduceCtorEq,zpa,zpb,zpc,zpd,zpe,zpf,zpg,zph,zpi,zpj,zpk,zpl,zpm,zpn,zpo,zpp]; rfl) (Zq rfl ⟨_, rfl, rfl⟩)
      · have : A = B := List.ext_getElem? fun j => by
          by_cases hj : j < i
          · exact heq j hj
          · rw [List.getElem?_eq_none (by omega), List.getElem?_eq_none (by omega)]
        rw [show decide (A = B) = true from decide_eq_true this]
        exact Zr rfl (by simp (maxSteps := 2000000) only [gs,zlr,reduceIte,reduceCtorEq,zpa,zpb,zpc,zpd,zpe,zpf,zpg,zph,zpi,zpj,zpk,zpl,zpm,zpn,zpo,zpp]; rfl) (Zq rfl ⟨_, rfl, rfl⟩)
    · cases A with
      | nil =>
        rw [show decide (([] : List Nd) = []) = true from rfl]
        refine Zr rfl (by simp (maxSteps := 2000000) only [gs,zlr,reduceIte,reduceCtorEq,zpa,zpb,zpc,zpd,zpe,zpf,zpg,zph,zpi,zpj,zpk,zpl,zpm,zpn,zpo,zpp]; rfl) ?_
        refine Zr rfl (by simp (maxSteps := 2000000) only [gs,zlr,reduceIte,reduceCtorEq,zpa,zpb,zpc,zpd,zpe,zpf,zpg,zph,zpi,zpj,zpk,zpl,zpm,zpn,zpo,zpp, uen_length, List.length_nil, zz]; rfl) (Zc rfl rfl (fun h => by cases h) (fun _ => ?_))
        refine Zr rfl (by simp (maxSteps := 2000000) only [gs,zlr,reduceIte,reduceCtorEq,zpa,zpb,zpc,zpd,zpe,zpf,zpg,zph,zpi,zpj,zpk,zpl,zpm,zpn,zpo,zpp]; rfl) ?_
        refine Zw rfl (fun n env h => h = [] ∧ GEnv.get env 0 = .list false 2 (uen []) ∧ GEnv.get env 1 = .nils ∧ GEnv.get env 5 = .int .i64 0) 0 ⟨rfl, rfl, rfl, rfl⟩ ?_
        rintro n env h ⟨rfl, k0, k1, k5⟩
        simp only [GEnv.keep, k0, k1, k5]
        refine Zr rfl (by simp (maxSteps := 2000000) only [gs,zlr,reduceIte,reduceCtorEq,zpa,zpb,zpc,zpd,zpe,zpf,zpg,zph,zpi,zpj,zpk,zpl,zpm,zpn,zpo,zpp, uen_length, List.length_nil]; rfl) (Zc rfl rfl (fun h => by cases h) (fun _ => ?_))
        exact Zr rfl (by simp (maxSteps := 2000000) only [gs,zlr,reduceIte,reduceCtorEq,zpa,zpb,zpc,zpd,zpe,zpf,zpg,zph,zpi,zpj,zpk,zpl,zpm,zpn,zpo,zpp]; rfl) (Zq rfl ⟨_, rfl, rfl⟩)
      | cons d A =>
        rw [show decide ((d :: A) = []) = false from rfl]
        have f1 : (((d :: A).length : Int) != 0) = true := by rw [bne_iff_ne]; simp only [List.length_cons]; omega
        refine Zr rfl (by simp (maxSteps := 2000000) only [gs,zlr,reduceIte,reduceCtorEq,zpa,zpb,zpc,zpd,zpe,zpf,zpg,zph,zpi,zpj,zpk,zpl,zpm,zpn,zpo,zpp]; rfl) ?_
        refine Zr rfl (by simp (maxSteps := 2000000) only [gs,zlr,reduceIte,reduceCtorEq,zpa,zpb,zpc,zpd,zpe,zpf,zpg,zph,zpi,zpj,zpk,zpl,zpm,zpn,zpo,zpp, uen_length, f1]; rfl) (Zc rfl rfl (fun _ => ?_) (fun h => by cases h))
        exact Zr rfl (by simp (maxSteps := 2000000) only [gs,zlr,reduceIte,reduceCtorEq,zpa,zpb,zpc,zpd,zpe,zpf,zpg,zph,zpi,zpj,zpk,zpl,zpm,zpn,zpo,zpp]; rfl) (Zq rfl ⟨_, rfl, rfl⟩)
  · rcases h2 with rfl | ⟨rfl, rfl⟩
    · cases B with
      | nil =>
        rw [show decide (([] : List Nd) = []) = true from rfl]
        refine Zr rfl (by simp (maxSteps := 2000000) only [gs,zlr,reduceIte,reduceCtorEq,zpa,zpb,zpc,zpd,zpe,zpf,zpg,zph,zpi,zpj,zpk,zpl,zpm,zpn,zpo,zpp]; rfl) ?_
        refine Zr rfl (by simp (maxSteps := 2000000) only [gs,zlr,reduceIte,reduceCtorEq,zpa,zpb,zpc,zpd,zpe,zpf,zpg,zph,zpi,zpj,zpk,zpl,zpm,zpn,zpo,zpp, uen_length, List.length_nil, zz]; rfl) (Zc rfl rfl (fun h => by cases h) (fun _ => ?_))
        refine Zr rfl (by simp (maxSteps := 2000000) only [gs,zlr,reduceIte,reduceCtorEq,zpa,zpb,zpc,zpd,zpe,zpf,zpg,zph,zpi,zpj,zpk,zpl,zpm,zpn,zpo,zpp]; rfl) ?_
        refine Zw rfl (fun n env h => h = [] ∧ GEnv.get env 0 = .nils ∧ GEnv.get env 1 = .list false 2 (uen []) ∧ GEnv.get env 5 = .int .i64 0) 0 ⟨rfl, rfl, rfl, rfl⟩ ?_
        rintro n env h ⟨rfl, k0, k1, k5⟩
        simp only [GEnv.keep, k0, k1, k5]
        refine Zr rfl (by simp (maxSteps := 2000000) only [gs,zlr,reduceIte,reduceCtorEq,zpa,zpb,zpc,zpd,zpe,zpf,zpg,zph,zpi,zpj,zpk,zpl,zpm,zpn,zpo,zpp]; rfl) (Zc rfl rfl (fun h => by cases h) (fun _ => ?_))
        exact Zr rfl (by simp (maxSteps := 2000000) only [gs,zlr,reduceIte,reduceCtorEq,zpa,zpb,zpc,zpd,zpe,zpf,zpg,zph,zpi,zpj,zpk,zpl,zpm,zpn,zpo,zpp]; rfl) (Zq rfl ⟨_, rfl, rfl⟩)
      | cons d B =>
        rw [show decide (([] : List Nd) = d :: B) = false from rfl]
        have f1 : ((0 : Int) != ((d :: B).length : Int)) = true := by rw [bne_iff_ne]; simp only [List.length_cons]; omega
        refine Zr rfl (by simp (maxSteps := 2000000) only [gs,zlr,reduceIte,reduceCtorEq,zpa,zpb,zpc,zpd,zpe,zpf,zpg,zph,zpi,zpj,zpk,zpl,zpm,zpn,zpo,zpp]; rfl) ?_
        refine Zr rfl (by simp (maxSteps := 2000000) only [gs,zlr,reduceIte,reduceCtorEq,zpa,zpb,zpc,zpd,zpe,zpf,zpg,zph,zpi,zpj,zpk,zpl,zpm,zpn,zpo,zpp, uen_length, f1]; rfl) (Zc rfl rfl (fun _ => ?_) (fun h => by cases h))
        exact Zr rfl (by simp (maxSteps := 2000000) only [gs,zlr,reduceIte,reduceCtorEq,zpa,zpb,zpc,zpd,zpe,zpf,zpg,zph,zpi,zpj,zpk,zpl,zpm,zpn,zpo,zpp]; rfl) (Zq rfl ⟨_, rfl, rfl⟩)
    · rw [show decide (([] : List Nd) = []) = true from rfl]
      refine Zr rfl (by simp (maxSteps := 2000000) only [gs,zlr,reduceIte,reduceCtorEq,zpa,zpb,zpc,zpd,zpe,zpf,zpg,zph,zpi,zpj,zpk,zpl,zpm,zpn,zpo,zpp]; rfl) ?_
      refine Zr rfl (by simp (maxSteps := 2000000) only [gs,zlr,reduceIte,reduceCtorEq,zpa,zpb,zpc,zpd,zpe,zpf,zpg,zph,zpi,zpj,zpk,zpl,zpm,zpn,zpo,zpp, zz]; rfl) (Zc rfl rfl (fun h => by cases h) (fun _ => ?_))
      refine Zr rfl (by simp (maxSteps := 2000000) only [gs,zlr,reduceIte,reduceCtorEq,zpa,zpb,zpc,zpd,zpe,zpf,zpg,zph,zpi,zpj,zpk,zpl,zpm,zpn,zpo,zpp]; rfl) ?_
      refine Zw rfl (fun n env h => h = [] ∧ GEnv.get env 0 = .nils ∧ GEnv.get env 1 = .nils ∧ GEnv.get env 5 = .int .i64 0) 0 ⟨rfl, rfl, rfl, rfl⟩ ?_
      rintro n env h ⟨rfl, k0, k1, k5⟩
      simp only [GEnv.keep, k0, k1, k5]
      refine Zr rfl (by simp (maxSteps := 2000000) only [gs,zlr,reduceIte,reduceCtorEq,zpa,zpb,zpc,zpd,zpe,zpf,zpg,zph,zpi,zpj,zpk,zpl,zpm,zpn,zpo,zpp]; rfl) (Zc rfl rfl (fun h => by cases h) (fun _ => ?_))
      exact Zr rfl (by simp (maxSteps := 2000000) only [gs,zlr,reduceIte,reduceCtorEq,zpa,zpb,zpc,zpd,zpe,zpf,zpg,zph,zpi,zpj,zpk,zpl,zpm,zpn,zpo,zpp]; rfl) (Zq rfl ⟨_, rfl, rfl⟩)

theorem AdjIs.read {n : Nat} {bs : List Nat} {l : List Nd} (h : AdjIs n bs l) (hl : bs.length ≤ 10000) : (eRead n bs).2.1 = true ∧ (eRead n bs).2.2 = l ∧ Strict l := by
  obtain ⟨G, a, b, c, d⟩ := h
  subst c
  have := eRead_good a (by rw [b]; exact d) (by omega)
  rw [this]
  exact ⟨rfl, b, by rw [← b]; exact GoodG_strict a⟩

/-- What Read says. -/
def ReadIs (n : Nat) (bs : List Nat) (u : U) : Prop := (∃ l v, AdjIs n bs l ∧ isEn v l ∧ l.length ≤ bs.length ∧ u = .tup [v, .int .i64 0]) ∨ ((¬ ∃ l, AdjIs n bs l) ∧ u = .tup [.nils, .int .i64 21])

theorem aread_R {w : U} {bs : List Nat} {n : Nat} (hw : isBa w bs) (hb : ∀ c ∈ bs, c < 256) (hl : bs.length ≤ 10000) (hn : n < 18446744073709551616) :
    ∃ u, ReadIs n bs u ∧ GF gtab fid_adj_Read [w, .int .u64 (n : Int)] [] 0 = some (u, []) := by
  have key : ∃ u h', GF gtab fid_adj_Read [w, .int .u64 (n : Int)] [] 0 = some (u, h') ∧ h' = [] ∧ ReadIs n bs u := by
    obtain ⟨u, w', hu, hG⟩ := edges_R hw hb hl hn
    have hrd : ∀ {l : List Nd}, AdjIs n bs l → (eRead n bs).2.1 = true ∧ (eRead n bs).2.2 = l ∧ Strict l := fun h => h.read hl
    obtain ⟨hfit, hlen⟩ := eRead_inv n bs
    generalize eRead n bs = Z at hu hG hrd hfit hlen
    obtain ⟨rest, ok, out⟩ := Z
    simp only at hu hG hrd hfit hlen
    have hP : ∀ {w : U}, isEn w out → (∃ G, GoodG 0 G ∧ gflat G = out ∧ GF gtab fid_adj_Put [w] [] 0 = some (.tup [.own 1 (un .u8 (genc G)), .int .i64 0], [])) ∨ (¬ Strict out ∧ GF gtab fid_adj_Put [w] [] 0 = some (.tup [.nils, .int .i64 23], [])) := fun h => aput_R h (by omega) (fun e he => ⟨(hfit e he).1, (hfit e he).2.1⟩)
    have hEq := fun (x : List Nat) => bequal_G (x := x) hw
    rcases hw with rfl | ⟨rfl, hbs0⟩
    · refine fnR_adj_Read rfl ?_
      simp only [genvOf]
      refine Zr rfl (by simp (maxSteps := 2000000) only [gs,zlr,reduceIte,reduceCtorEq,zpa,zpb,zpc,zpd,zpe,zpf,zpg,zph,zpi,zpj,zpk,zpl,zpm,zpn,zpo,zpp]; rfl) ?_
      refine Zr rfl (by simp (maxSteps := 2000000) only [gs,zlr,reduceIte,reduceCtorEq,zpa,zpb,zpc,zpd,zpe,zpf,zpg,zph,zpi,zpj,zpk,zpl,zpm,zpn,zpo,zpp]; rfl) ?_
      have hfin : ∀ {G : List Gr}, GoodG 0 G → gflat G = out → genc G = bs → ok = true → ∀ v, isEn v out → ReadIs n bs (.tup [v, .int .i64 0]) := fun {G} g1 g2 g3 g4 v g5 => .inl ⟨out, v, ⟨G, g1, g2, g3, fun e he => ⟨(hfit e he).2.2, (hfit e he).2.1⟩⟩, g5, hlen, rfl⟩
      have hno1 : ok = false → ReadIs n bs (.tup [.nils, .int .i64 21]) := fun h => .inr ⟨fun ⟨l, hl⟩ => absurd ((hrd hl).1.symm.trans h) (by simp), rfl⟩
      have hno2 : ¬ Strict out → ReadIs n bs (.tup [.nils, .int .i64 21]) := fun h => .inr ⟨fun ⟨l, hl⟩ => h (by rw [(hrd hl).2.1]; exact (hrd hl).2.2), rfl⟩
      have hno3 : ∀ {G : List Gr}, GoodG 0 G → gflat G = out → genc G ≠ bs → ReadIs n bs (.tup [.nils, .int .i64 21]) := fun {G} g1 g2 g3 => .inr ⟨fun ⟨l, hl⟩ => by
        obtain ⟨_, a, b⟩ := hrd hl
        obtain ⟨G', p, q, r, _⟩ := hl
        have : G = G' := good_one g1 p (by rw [g2, a, q])
        subst this
        exact g3 r, rfl⟩
      rcases hu with ⟨rfl, hu0⟩ | rfl
      · refine Zr rfl (by simp (maxSteps := 2000000) only [gs,zlr,reduceIte,reduceCtorEq,zpa,zpb,zpc,zpd,zpe,zpf,zpg,zph,zpi,zpj,zpk,zpl,zpm,zpn,zpo,zpp, gc_adj_reader_edges, hG]; rfl) ?_
        rcases hP (w := .nils) (.inr ⟨rfl, hu0⟩) with ⟨G, g1, g2, g3⟩ | ⟨g1, g3⟩
        · have hq := hEq (genc G)
          refine Zr rfl (by simp (maxSteps := 2000000) only [gs,zlr,reduceIte,reduceCtorEq,zpa,zpb,zpc,zpd,zpe,zpf,zpg,zph,zpi,zpj,zpk,zpl,zpm,zpn,zpo,zpp, gc_adj_Put, g3]; rfl) ?_
          cases ok with
          | false =>
            refine Zr rfl (by simp (maxSteps := 2000000) only [gs,zlr,reduceIte,reduceCtorEq,zpa,zpb,zpc,zpd,zpe,zpf,zpg,zph,zpi,zpj,zpk,zpl,zpm,zpn,zpo,zpp]; rfl) (Zc rfl rfl (fun _ => ?_) (fun h => by cases h))
            exact Zr rfl (by simp (maxSteps := 2000000) only [gs,zlr,reduceIte,reduceCtorEq,zpa,zpb,zpc,zpd,zpe,zpf,zpg,zph,zpi,zpj,zpk,zpl,zpm,zpn,zpo,zpp]; rfl) (Zq rfl ⟨_, rfl, _, _, rfl, rfl, hno1 rfl⟩)
          | true =>
            by_cases he : genc G = bs
            · rw [decide_eq_true he] at hq
              refine Zr rfl (by simp (maxSteps := 2000000) only [gs,zlr,reduceIte,reduceCtorEq,zpa,zpb,zpc,zpd,zpe,zpf,zpg,zph,zpi,zpj,zpk,zpl,zpm,zpn,zpo,zpp, snapLL_un, gc_bytes_Equal, hq]; rfl) (Zc rfl rfl (fun h => by cases h) (fun _ => ?_))
              exact Zr rfl (by simp (maxSteps := 2000000) only [gs,zlr,reduceIte,reduceCtorEq,zpa,zpb,zpc,zpd,zpe,zpf,zpg,zph,zpi,zpj,zpk,zpl,zpm,zpn,zpo,zpp]; rfl) (Zq rfl ⟨_, rfl, _, _, rfl, rfl, hfin g1 g2 he rfl _ (.inr ⟨rfl, hu0⟩)⟩)
            · rw [decide_eq_false he] at hq
              refine Zr rfl (by simp (maxSteps := 2000000) only [gs,zlr,reduceIte,reduceCtorEq,zpa,zpb,zpc,zpd,zpe,zpf,zpg,zph,zpi,zpj,zpk,zpl,zpm,zpn,zpo,zpp, snapLL_un, gc_bytes_Equal, hq]; rfl) (Zc rfl rfl (fun _ => ?_) (fun h => by cases h))
              exact Zr rfl (by simp (maxSteps := 2000000) only [gs,zlr,reduceIte,reduceCtorEq,zpa,zpb,zpc,zpd,zpe,zpf,zpg,zph,zpi,zpj,zpk,zpl,zpm,zpn,zpo,zpp]; rfl) (Zq rfl ⟨_, rfl, _, _, rfl, rfl, hno3 g1 g2 he⟩)
        · refine Zr rfl (by simp (maxSteps := 2000000) only [gs,zlr,reduceIte,reduceCtorEq,zpa,zpb,zpc,zpd,zpe,zpf,zpg,zph,zpi,zpj,zpk,zpl,zpm,zpn,zpo,zpp, gc_adj_Put, g3]; rfl) ?_
          cases ok with
          | false =>
            refine Zr rfl (by simp (maxSteps := 2000000) only [gs,zlr,reduceIte,reduceCtorEq,zpa,zpb,zpc,zpd,zpe,zpf,zpg,zph,zpi,zpj,zpk,zpl,zpm,zpn,zpo,zpp]; rfl) (Zc rfl rfl (fun _ => ?_) (fun h => by cases h))
            exact Zr rfl (by simp (maxSteps := 2000000) only [gs,zlr,reduceIte,reduceCtorEq,zpa,zpb,zpc,zpd,zpe,zpf,zpg,zph,zpi,zpj,zpk,zpl,zpm,zpn,zpo,zpp]; rfl) (Zq rfl ⟨_, rfl, _, _, rfl, rfl, hno1 rfl⟩)
          | true =>
            refine Zr rfl (by simp (maxSteps := 2000000) only [gs,zlr,reduceIte,reduceCtorEq,zpa,zpb,zpc,zpd,zpe,zpf,zpg,zph,zpi,zpj,zpk,zpl,zpm,zpn,zpo,zpp]; rfl) (Zc rfl rfl (fun _ => ?_) (fun h => by cases h))
            exact Zr rfl (by simp (maxSteps := 2000000) only [gs,zlr,reduceIte,reduceCtorEq,zpa,zpb,zpc,zpd,zpe,zpf,zpg,zph,zpi,zpj,zpk,zpl,zpm,zpn,zpo,zpp]; rfl) (Zq rfl ⟨_, rfl, _, _, rfl, rfl, hno2 g1⟩)
      · refine Zr rfl (by simp (maxSteps := 2000000) only [gs,zlr,reduceIte,reduceCtorEq,zpa,zpb,zpc,zpd,zpe,zpf,zpg,zph,zpi,zpj,zpk,zpl,zpm,zpn,zpo,zpp, gc_adj_reader_edges, hG]; rfl) ?_
        rcases hP (w := .list false 2 (uen out)) (.inl rfl) with ⟨G, g1, g2, g3⟩ | ⟨g1, g3⟩
        · have hq := hEq (genc G)
          refine Zr rfl (by simp (maxSteps := 2000000) only [gs,zlr,reduceIte,reduceCtorEq,zpa,zpb,zpc,zpd,zpe,zpf,zpg,zph,zpi,zpj,zpk,zpl,zpm,zpn,zpo,zpp, snapLL_uen, gc_adj_Put, g3]; rfl) ?_
          cases ok with
          | false =>
            refine Zr rfl (by simp (maxSteps := 2000000) only [gs,zlr,reduceIte,reduceCtorEq,zpa,zpb,zpc,zpd,zpe,zpf,zpg,zph,zpi,zpj,zpk,zpl,zpm,zpn,zpo,zpp]; rfl) (Zc rfl rfl (fun _ => ?_) (fun h => by cases h))
            exact Zr rfl (by simp (maxSteps := 2000000) only [gs,zlr,reduceIte,reduceCtorEq,zpa,zpb,zpc,zpd,zpe,zpf,zpg,zph,zpi,zpj,zpk,zpl,zpm,zpn,zpo,zpp]; rfl) (Zq rfl ⟨_, rfl, _, _, rfl, rfl, hno1 rfl⟩)
          | true =>
            by_cases he : genc G = bs
            · rw [decide_eq_true he] at hq
              refine Zr rfl (by simp (maxSteps := 2000000) only [gs,zlr,reduceIte,reduceCtorEq,zpa,zpb,zpc,zpd,zpe,zpf,zpg,zph,zpi,zpj,zpk,zpl,zpm,zpn,zpo,zpp, snapLL_un, gc_bytes_Equal, hq]; rfl) (Zc rfl rfl (fun h => by cases h) (fun _ => ?_))
              refine Zr rfl (by simp (maxSteps := 2000000) only [gs,zlr,reduceIte,reduceCtorEq,zpa,zpb,zpc,zpd,zpe,zpf,zpg,zph,zpi,zpj,zpk,zpl,zpm,zpn,zpo,zpp]; rfl) (Zq rfl ⟨_, rfl, ?_⟩)
              simp only [gfin, outs, U.out, U.handed, U.share, U.rf, GEnv.get, if_true, Nat.reduceEqDiff, if_false, rfLL_uen, Option.map_some]
              exact ⟨_, _, rfl, rfl, hfin g1 g2 he rfl _ (.inl rfl)⟩
            · rw [decide_eq_false he] at hq
              refine Zr rfl (by simp (maxSteps := 2000000) only [gs,zlr,reduceIte,reduceCtorEq,zpa,zpb,zpc,zpd,zpe,zpf,zpg,zph,zpi,zpj,zpk,zpl,zpm,zpn,zpo,zpp, snapLL_un, gc_bytes_Equal, hq]; rfl) (Zc rfl rfl (fun _ => ?_) (fun h => by cases h))
              exact Zr rfl (by simp (maxSteps := 2000000) only [gs,zlr,reduceIte,reduceCtorEq,zpa,zpb,zpc,zpd,zpe,zpf,zpg,zph,zpi,zpj,zpk,zpl,zpm,zpn,zpo,zpp]; rfl) (Zq rfl ⟨_, rfl, _, _, rfl, rfl, hno3 g1 g2 he⟩)
        · refine Zr rfl (by simp (maxSteps := 2000000) only [gs,zlr,reduceIte,reduceCtorEq,zpa,zpb,zpc,zpd,zpe,zpf,zpg,zph,zpi,zpj,zpk,zpl,zpm,zpn,zpo,zpp, snapLL_uen, gc_adj_Put, g3]; rfl) ?_
          cases ok with
          | false =>
            refine Zr rfl (by simp (maxSteps := 2000000) only [gs,zlr,reduceIte,reduceCtorEq,zpa,zpb,zpc,zpd,zpe,zpf,zpg,zph,zpi,zpj,zpk,zpl,zpm,zpn,zpo,zpp]; rfl) (Zc rfl rfl (fun _ => ?_) (fun h => by cases h))
            exact Zr rfl (by simp (maxSteps := 2000000) only [gs,zlr,reduceIte,reduceCtorEq,zpa,zpb,zpc,zpd,zpe,zpf,zpg,zph,zpi,zpj,zpk,zpl,zpm,zpn,zpo,zpp]; rfl) (Zq rfl ⟨_, rfl, _, _, rfl, rfl, hno1 rfl⟩)
          | true =>
            refine Zr rfl (by simp (maxSteps := 2000000) only [gs,zlr,reduceIte,reduceCtorEq,zpa,zpb,zpc,zpd,zpe,zpf,zpg,zph,zpi,zpj,zpk,zpl,zpm,zpn,zpo,zpp]; rfl) (Zc rfl rfl (fun _ => ?_) (fun h => by cases h))
            exact Zr rfl (by simp (maxSteps := 2000000) only [gs,zlr,reduceIte,reduceCtorEq,zpa,zpb,zpc,zpd,zpe,zpf,zpg,zph,zpi,zpj,zpk,zpl,zpm,zpn,zpo,zpp]; rfl) (Zq rfl ⟨_, rfl, _, _, rfl, rfl, hno2 g1⟩)
    · refine fnR_adj_Read rfl ?_
      simp only [genvOf]
      refine Zr rfl (by simp (maxSteps := 2000000) only [gs,zlr,reduceIte,reduceCtorEq,zpa,zpb,zpc,zpd,zpe,zpf,zpg,zph,zpi,zpj,zpk,zpl,zpm,zpn,zpo,zpp]; rfl) ?_
      refine Zr rfl (by simp (maxSteps := 2000000) only [gs,zlr,reduceIte,reduceCtorEq,zpa,zpb,zpc,zpd,zpe,zpf,zpg,zph,zpi,zpj,zpk,zpl,zpm,zpn,zpo,zpp]; rfl) ?_
      have hfin : ∀ {G : List Gr}, GoodG 0 G → gflat G = out → genc G = bs → ok = true → ∀ v, isEn v out → ReadIs n bs (.tup [v, .int .i64 0]) := fun {G} g1 g2 g3 g4 v g5 => .inl ⟨out, v, ⟨G, g1, g2, g3, fun e he => ⟨(hfit e he).2.2, (hfit e he).2.1⟩⟩, g5, hlen, rfl⟩
      have hno1 : ok = false → ReadIs n bs (.tup [.nils, .int .i64 21]) := fun h => .inr ⟨fun ⟨l, hl⟩ => absurd ((hrd hl).1.symm.trans h) (by simp), rfl⟩
      have hno2 : ¬ Strict out → ReadIs n bs (.tup [.nils, .int .i64 21]) := fun h => .inr ⟨fun ⟨l, hl⟩ => h (by rw [(hrd hl).2.1]; exact (hrd hl).2.2), rfl⟩
      have hno3 : ∀ {G : List Gr}, GoodG 0 G → gflat G = out → genc G ≠ bs → ReadIs n bs (.tup [.nils, .int .i64 21]) := fun {G} g1 g2 g3 => .inr ⟨fun ⟨l, hl⟩ => by
        obtain ⟨_, a, b⟩ := hrd hl
        obtain ⟨G', p, q, r, _⟩ := hl
        have : G = G' := good_one g1 p (by rw [g2, a, q])
        subst this
        exact g3 r, rfl⟩
      rcases hu with ⟨rfl, hu0⟩ | rfl
      · refine Zr rfl (by simp (maxSteps := 2000000) only [gs,zlr,reduceIte,reduceCtorEq,zpa,zpb,zpc,zpd,zpe,zpf,zpg,zph,zpi,zpj,zpk,zpl,zpm,zpn,zpo,zpp, gc_adj_reader_edges, hG]; rfl) ?_
        rcases hP (w := .nils) (.inr ⟨rfl, hu0⟩) with ⟨G, g1, g2, g3⟩ | ⟨g1, g3⟩
        · have hq := hEq (genc G)
          refine Zr rfl (by simp (maxSteps := 2000000) only [gs,zlr,reduceIte,reduceCtorEq,zpa,zpb,zpc,zpd,zpe,zpf,zpg,zph,zpi,zpj,zpk,zpl,zpm,zpn,zpo,zpp, gc_adj_Put, g3]; rfl) ?_
          cases ok with
          | false =>
            refine Zr rfl (by simp (maxSteps := 2000000) only [gs,zlr,reduceIte,reduceCtorEq,zpa,zpb,zpc,zpd,zpe,zpf,zpg,zph,zpi,zpj,zpk,zpl,zpm,zpn,zpo,zpp]; rfl) (Zc rfl rfl (fun _ => ?_) (fun h => by cases h))
            exact Zr rfl (by simp (maxSteps := 2000000) only [gs,zlr,reduceIte,reduceCtorEq,zpa,zpb,zpc,zpd,zpe,zpf,zpg,zph,zpi,zpj,zpk,zpl,zpm,zpn,zpo,zpp]; rfl) (Zq rfl ⟨_, rfl, _, _, rfl, rfl, hno1 rfl⟩)
          | true =>
            by_cases he : genc G = bs
            · rw [decide_eq_true he] at hq
              refine Zr rfl (by simp (maxSteps := 2000000) only [gs,zlr,reduceIte,reduceCtorEq,zpa,zpb,zpc,zpd,zpe,zpf,zpg,zph,zpi,zpj,zpk,zpl,zpm,zpn,zpo,zpp, snapLL_un, gc_bytes_Equal, hq]; rfl) (Zc rfl rfl (fun h => by cases h) (fun _ => ?_))
              exact Zr rfl (by simp (maxSteps := 2000000) only [gs,zlr,reduceIte,reduceCtorEq,zpa,zpb,zpc,zpd,zpe,zpf,zpg,zph,zpi,zpj,zpk,zpl,zpm,zpn,zpo,zpp]; rfl) (Zq rfl ⟨_, rfl, _, _, rfl, rfl, hfin g1 g2 he rfl _ (.inr ⟨rfl, hu0⟩)⟩)
            · rw [decide_eq_false he] at hq
              refine Zr rfl (by simp (maxSteps := 2000000) only [gs,zlr,reduceIte,reduceCtorEq,zpa,zpb,zpc,zpd,zpe,zpf,zpg,zph,zpi,zpj,zpk,zpl,zpm,zpn,zpo,zpp, snapLL_un, gc_bytes_Equal, hq]; rfl) (Zc rfl rfl (fun _ => ?_) (fun h => by cases h))
              exact Zr rfl (by simp (maxSteps := 2000000) only [gs,zlr,reduceIte,reduceCtorEq,zpa,zpb,zpc,zpd,zpe,zpf,zpg,zph,zpi,zpj,zpk,zpl,zpm,zpn,zpo,zpp]; rfl) (Zq rfl ⟨_, rfl, _, _, rfl, rfl, hno3 g1 g2 he⟩)
        · refine Zr rfl (by simp (maxSteps := 2000000) only [gs,zlr,reduceIte,reduceCtorEq,zpa,zpb,zpc,zpd,zpe,zpf,zpg,zph,zpi,zpj,zpk,zpl,zpm,zpn,zpo,zpp, gc_adj_Put, g3]; rfl) ?_
          cases ok with
          | false =>
            refine Zr rfl (by simp (maxSteps := 2000000) only [gs,zlr,reduceIte,reduceCtorEq,zpa,zpb,zpc,zpd,zpe,zpf,zpg,zph,zpi,zpj,zpk,zpl,zpm,zpn,zpo,zpp]; rfl) (Zc rfl rfl (fun _ => ?_) (fun h => by cases h))
            exact Zr rfl (by simp (maxSteps := 2000000) only [gs,zlr,reduceIte,reduceCtorEq,zpa,zpb,zpc,zpd,zpe,zpf,zpg,zph,zpi,zpj,zpk,zpl,zpm,zpn,zpo,zpp]; rfl) (Zq rfl ⟨_, rfl, _, _, rfl, rfl, hno1 rfl⟩)
          | true =>
            refine Zr rfl (by simp (maxSteps := 2000000) only [gs,zlr,reduceIte,reduceCtorEq,zpa,zpb,zpc,zpd,zpe,zpf,zpg,zph,zpi,zpj,zpk,zpl,zpm,zpn,zpo,zpp]; rfl) (Zc rfl rfl (fun _ => ?_) (fun h => by cases h))
            exact Zr rfl (by simp (maxSteps := 2000000) only [gs,zlr,reduceIte,reduceCtorEq,zpa,zpb,zpc,zpd,zpe,zpf,zpg,zph,zpi,zpj,zpk,zpl,zpm,zpn,zpo,zpp]; rfl) (Zq rfl ⟨_, rfl, _, _, rfl, rfl, hno2 g1⟩)
      · refine Zr rfl (by simp (maxSteps := 2000000) only [gs,zlr,reduceIte,reduceCtorEq,zpa,zpb,zpc,zpd,zpe,zpf,zpg,zph,zpi,zpj,zpk,zpl,zpm,zpn,zpo,zpp, gc_adj_reader_edges, hG]; rfl) ?_
        rcases hP (w := .list false 2 (uen out)) (.inl rfl) with ⟨G, g1, g2, g3⟩ | ⟨g1, g3⟩
        · have hq := hEq (genc G)
          refine Zr rfl (by simp (maxSteps := 2000000) only [gs,zlr,reduceIte,reduceCtorEq,zpa,zpb,zpc,zpd,zpe,zpf,zpg,zph,zpi,zpj,zpk,zpl,zpm,zpn,zpo,zpp, snapLL_uen, gc_adj_Put, g3]; rfl) ?_
          cases ok with
          | false =>
            refine Zr rfl (by simp (maxSteps := 2000000) only [gs,zlr,reduceIte,reduceCtorEq,zpa,zpb,zpc,zpd,zpe,zpf,zpg,zph,zpi,zpj,zpk,zpl,zpm,zpn,zpo,zpp]; rfl) (Zc rfl rfl (fun _ => ?_) (fun h => by cases h))
            exact Zr rfl (by simp (maxSteps := 2000000) only [gs,zlr,reduceIte,reduceCtorEq,zpa,zpb,zpc,zpd,zpe,zpf,zpg,zph,zpi,zpj,zpk,zpl,zpm,zpn,zpo,zpp]; rfl) (Zq rfl ⟨_, rfl, _, _, rfl, rfl, hno1 rfl⟩)
          | true =>
            by_cases he : genc G = bs
            · rw [decide_eq_true he] at hq
              refine Zr rfl (by simp (maxSteps := 2000000) only [gs,zlr,reduceIte,reduceCtorEq,zpa,zpb,zpc,zpd,zpe,zpf,zpg,zph,zpi,zpj,zpk,zpl,zpm,zpn,zpo,zpp, snapLL_un, gc_bytes_Equal, hq]; rfl) (Zc rfl rfl (fun h => by cases h) (fun _ => ?_))
              refine Zr rfl (by simp (maxSteps := 2000000) only [gs,zlr,reduceIte,reduceCtorEq,zpa,zpb,zpc,zpd,zpe,zpf,zpg,zph,zpi,zpj,zpk,zpl,zpm,zpn,zpo,zpp]; rfl) (Zq rfl ⟨_, rfl, ?_⟩)
              simp only [gfin, outs, U.out, U.handed, U.share, U.rf, GEnv.get, if_true, Nat.reduceEqDiff, if_false, rfLL_uen, Option.map_some]
              exact ⟨_, _, rfl, rfl, hfin g1 g2 he rfl _ (.inl rfl)⟩
            · rw [decide_eq_false he] at hq
              refine Zr rfl (by simp (maxSteps := 2000000) only [gs,zlr,reduceIte,reduceCtorEq,zpa,zpb,zpc,zpd,zpe,zpf,zpg,zph,zpi,zpj,zpk,zpl,zpm,zpn,zpo,zpp, snapLL_un, gc_bytes_Equal, hq]; rfl) (Zc rfl rfl (fun _ => ?_) (fun h => by cases h))
              exact Zr rfl (by simp (maxSteps := 2000000) only [gs,zlr,reduceIte,reduceCtorEq,zpa,zpb,zpc,zpd,zpe,zpf,zpg,zph,zpi,zpj,zpk,zpl,zpm,zpn,zpo,zpp]; rfl) (Zq rfl ⟨_, rfl, _, _, rfl, rfl, hno3 g1 g2 he⟩)
        · refine Zr rfl (by simp (maxSteps := 2000000) only [gs,zlr,reduceIte,reduceCtorEq,zpa,zpb,zpc,zpd,zpe,zpf,zpg,zph,zpi,zpj,zpk,zpl,zpm,zpn,zpo,zpp, snapLL_uen, gc_adj_Put, g3]; rfl) ?_
          cases ok with
          | false =>
            refine Zr rfl (by simp (maxSteps := 2000000) only [gs,zlr,reduceIte,reduceCtorEq,zpa,zpb,zpc,zpd,zpe,zpf,zpg,zph,zpi,zpj,zpk,zpl,zpm,zpn,zpo,zpp]; rfl) (Zc rfl rfl (fun _ => ?_) (fun h => by cases h))
            exact Zr rfl (by simp (maxSteps := 2000000) only [gs,zlr,reduceIte,reduceCtorEq,zpa,zpb,zpc,zpd,zpe,zpf,zpg,zph,zpi,zpj,zpk,zpl,zpm,zpn,zpo,zpp]; rfl) (Zq rfl ⟨_, rfl, _, _, rfl, rfl, hno1 rfl⟩)
          | true =>
            refine Zr rfl (by simp (maxSteps := 2000000) only [gs,zlr,reduceIte,reduceCtorEq,zpa,zpb,zpc,zpd,zpe,zpf,zpg,zph,zpi,zpj,zpk,zpl,zpm,zpn,zpo,zpp]; rfl) (Zc rfl rfl (fun _ => ?_) (fun h => by cases h))
            exact Zr rfl (by simp (maxSteps := 2000000) only [gs,zlr,reduceIte,reduceCtorEq,zpa,zpb,zpc,zpd,zpe,zpf,zpg,zph,zpi,zpj,zpk,zpl,zpm,zpn,zpo,zpp]; rfl) (Zq rfl ⟨_, rfl, _, _, rfl, rfl, hno2 g1⟩)
  obtain ⟨u, h', h1, rfl, h2⟩ := key
  exact ⟨u, h2, h1⟩

end Go.Ab
