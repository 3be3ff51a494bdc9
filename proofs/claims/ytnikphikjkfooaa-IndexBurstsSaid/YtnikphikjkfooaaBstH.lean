/- IdxJ, IdxK. -/
import Derived.Test.YtnikphikjkfooaaBstG
import Derived.Test.YtnikphikjkfooaaValN
import Derived.Test.YtnikphikjkfooaaBstC
import Derived.Test.YtnikphikjkfooaaArgA
namespace Go.Ab
open Go
open Nat renaming reduceEqDiff → zpa, reduceLT → zpb, reduceAdd → zpc, reduceSub → zpd, reduceLeDiff → zpe, reduceMul → zpf
open Int renaming reduceToNat → zpg, reduceLT → zph, reduceLE → zpi, reduceEq → zpj, reduceNe → zpk, reduceBEq → zpl, reduceBNe → zpm, reduceAdd → zpn, reduceSub → zpo, reduceNeg → zpp
open List renaming replicate → zlr
set_option linter.unusedVariables false
set_option linter.unusedSimpArgs false
set_option maxRecDepth 10000
theorem okN_of {R : List Row3} (h : RowsOk R) : ∀ n, n ≤ R.length → okN R n = true
 | 0, _ => rfl
 | n + 1, hn => by
  rw [okN, okN_of h n (by omega), Bool.true_and]
  have gx : R[n]? = some (R[n]'(by omega)) := List.getElem?_eq_getElem _
  unfold okAt
  rw [gx]
  obtain ⟨a, b, c, d, e⟩ := h n _ gx
  refine decide_eq_true ⟨a, b, ?_, d⟩
  by_cases h0 : n = 0
  ·rw [if_pos h0]; exact c
  ·rw [if_neg h0]
   have gy : R[n - 1]? = some (R[n - 1]'(by omega)) := List.getElem?_eq_getElem _
   rw [List.getD_eq_getElem?_getD, gy]
   exact e (n - 1) _ (by omega) gy
theorem rowOf_B {R : List Row3} {i : Nat} {r : Row3} (h : R[i]? = some r) (hr : 0 ≤ r.1 ∧ r.1 ≤ 4294967295 ∧ 0 ≤ r.2.1 ∧ r.2.1 ≤ 9223372036854775807 ∧ 0 ≤ r.2.2 ∧ r.2.2 < 4294967296) : rowOf (rowsB R R.length) i = r := by
 have hi := (List.getElem?_eq_some_iff.1 h).1
 have key : (rowsB R R.length).drop (16 * i) = rowB r ++ ((R.drop (i + 1)).map rowB).flatten := by
  have e : rowsB R R.length = rowsB R i ++ (rowB r ++ ((R.drop (i + 1)).map rowB).flatten) := by
   rw [← List.append_assoc, ← rowsB_succ h]
   unfold rowsB
   rw [← List.flatten_append, ← List.map_append, List.take_append_drop, List.take_of_length_le (Nat.le_refl _)]
  rw [e, List.drop_left' (rowsB_length i (by omega))]
 obtain ⟨x, y, z⟩ := r
 obtain ⟨h1, h2, h3, h4, h5, h6⟩ := hr
 simp only at h1 h2 h3 h4 h5 h6
 obtain ⟨a, rfl⟩ : ∃ q : Nat, x = (q : Int) := ⟨x.toNat, by omega⟩
 obtain ⟨b, rfl⟩ : ∃ q : Nat, y = (q : Int) := ⟨y.toNat, by omega⟩
 obtain ⟨c, rfl⟩ : ∃ q : Nat, z = (q : Int) := ⟨z.toNat, by omega⟩
 unfold rowOf
 rw [key]
 generalize ((R.drop (i + 1)).map rowB).flatten = s
 unfold rowB
 simp only [Int.toNat_natCast]
 have e : leB 4 a ++ leB 8 b ++ leB 4 c ++ s = leB 4 a ++ (leB 8 b ++ (leB 4 c ++ s)) := by simp
 have e12 : leB 4 a ++ leB 8 b ++ leB 4 c ++ s = (leB 4 a ++ leB 8 b) ++ (leB 4 c ++ s) := by simp
 have t1 : (leB 4 a ++ leB 8 b ++ leB 4 c ++ s).take 4 = leB 4 a := by rw [e]; exact List.take_left' (leB_length 4 a)
 have t2 : ((leB 4 a ++ leB 8 b ++ leB 4 c ++ s).drop 4).take 8 = leB 8 b := by rw [e, List.drop_left' (leB_length 4 a)]; exact List.take_left' (leB_length 8 b)
 have t3 : ((leB 4 a ++ leB 8 b ++ leB 4 c ++ s).drop 12).take 4 = leB 4 c := by
  rw [e12, List.drop_left' (by rw [List.length_append, leB_length, leB_length])]
  exact List.take_left' (leB_length 4 c)
 rw [t1, t2, t3, leN_leB 4 a (by omega), leN_leB 8 b (by omega), leN_leB 4 c (by omega), wrap_i64_nat (by omega)]
theorem rowsOf_B {R : List Row3} (hok : RowsOk R) (hs : SumsOk R) : rowsOf (rowsB R R.length) R.length = R := by
 refine List.ext_getElem? fun i => ?_
 by_cases hi : i < R.length
 ·have gx : R[i]? = some (R[i]'hi) := List.getElem?_eq_getElem _
  rw [rowsOf_get hi, gx]
  obtain ⟨a, b, c, d, _⟩ := hok i _ gx
  obtain ⟨e, f⟩ := hs _ (List.getElem_mem hi)
  rw [rowOf_B gx ⟨by omega, b, c, by omega, e, f⟩]
 ·rw [List.getElem?_eq_none (by rw [rowsOf_length]; omega), List.getElem?_eq_none (by omega)]
theorem rowsS_length (R : List Row3) : (rowsS R).length = 16 * R.length + 8 := by
 unfold rowsS
 rw [List.length_append, List.length_append, rowsB_length R.length (Nat.le_refl _)]
 rfl
theorem body_lt (R : List Row3) : ∀ b ∈ rowsB R R.length ++ ixMagic, b < 256 := fun b h => by
 rcases List.mem_append.1 h with h | h
 ·exact rowsB_lt R _ b h
 ·exact (show ∀ x ∈ ixMagic, x < 256 by decide) b h
theorem rowsS_lt (R : List Row3) : ∀ b ∈ rowsS R, b < 256 := fun b h => by
 unfold rowsS at h
 rcases List.mem_append.1 h with h | h
 ·exact body_lt R b h
 ·exact le4_lt _ b h
theorem rowsS_body (R : List Row3) : crcBody (rowsS R) = rowsB R R.length ++ ixMagic := by unfold rowsS; exact crcBody_le4 _ _
theorem rowsS_ok (R : List Row3) : crcOk (rowsS R) = true := by
 unfold rowsS
 rw [crcOk_le4 (body_lt R) (crcSum_lt (body_lt R)), beq_self_eq_true]
theorem ixTail_app {F y : List Nat} {bl : Nat} (hy : y.length = 16 * bl + 8) : ixTail (F ++ y) bl = y := by
 unfold ixTail
 rw [List.length_append, hy, Nat.add_sub_cancel]
 exact List.drop_left' rfl
theorem rdIx_put {R : List Row3} {F : List Nat} (hok : RowsOk R) (hs : SumsOk R) (hF : 24 ≤ F.length) (ho : offS R R.length = (F.length : Int)) : rdIx (F ++ rowsS R) R.length = .ok R := by
 have hl := rowsS_length R
 have hT : ixTail (F ++ rowsS R) R.length = rowsS R := ixTail_app hl
 have hb := rowsB_length (R := R) R.length (Nat.le_refl _)
 have hP : ixP (F ++ rowsS R) R.length = rowsB R R.length := by
  unfold ixP
  rw [hT, rowsS_body]
  exact List.take_left' hb
 unfold rdIx
 rw [if_neg (by rw [List.length_append, hl]; omega), hT, rowsS_ok, if_neg (by simp), rowsS_body, List.drop_left' hb, if_neg (fun h => h rfl), hP, rowsOf_B hok hs, if_pos]
 refine ⟨okN_of hok _ (Nat.le_refl _), ?_⟩
 rw [ho, List.length_append, hl, Nat.add_sub_cancel]
theorem rdIx_sum {F y : List Nat} {bl : Nat} (hy : y.length = 16 * bl + 8) (hF : 24 ≤ F.length) (h : crcOk y = false) : rdIx (F ++ y) bl = .bad 28 := by
 unfold rdIx
 rw [if_neg (by rw [List.length_append, hy]; omega), ixTail_app hy, if_pos h]
theorem rsame_G {u v : U} {R : List Row3} (hu : isRw u R) (hv : isRw v R) (hl : R.length ≤ 1099511627776) : GF gtab fid_archipelagoref18_SameRows [u, v] [] 0 = some (.bool true, []) := by
 rcases hu with rfl | ⟨rfl, rfl⟩
 ·rcases hv with rfl | ⟨rfl, rfl⟩
  ·refine fn_archipelagoref18_SameRows rfl ?_
   simp only [genvOf]
   have e0 : (((R.length : Nat) : Int) != ((R.length : Nat) : Int)) = false := bne_self_eq_false _
   refine Zr rfl (by simp (maxSteps := 2000000) only [gs,zlr,reduceIte,reduceCtorEq,zpa,zpb,zpc,zpd,zpe,zpf,zpg,zph,zpi,zpj,zpk,zpl,zpm,zpn,zpo,zpp]; rfl) ?_
   refine Zr rfl (by simp (maxSteps := 2000000) only [gs,zlr,reduceIte,reduceCtorEq,zpa,zpb,zpc,zpd,zpe,zpf,zpg,zph,zpi,zpj,zpk,zpl,zpm,zpn,zpo,zpp, ur_length, e0]; rfl) (Zc rfl rfl (fun h => by cases h) (fun _ => ?_))
   refine Zr rfl (by simp (maxSteps := 2000000) only [gs,zlr,reduceIte,reduceCtorEq,zpa,zpb,zpc,zpd,zpe,zpf,zpg,zph,zpi,zpj,zpk,zpl,zpm,zpn,zpo,zpp]; rfl) ?_
   refine Zw rfl (fun m env h => h = [] ∧ ∃ i : Nat, m + i = R.length ∧ GEnv.get env 0 = .list false 3 (ur R) ∧ GEnv.get env 1 = .list false 3 (ur R) ∧ GEnv.get env 5 = .int .i64 (i : Int)) R.length ⟨rfl, 0, by omega, rfl, rfl, rfl⟩ ?_
   rintro m env h ⟨rfl, i, hm, k0, k1, k5⟩
   simp only [GEnv.keep, k0, k1, k5]
   by_cases hi : i < R.length
   ·have g0 : ((i : Int) < ((R.length : Nat) : Int)) = True := eq_true (by omega)
    have n0 : ((0 : Int) ≤ (i : Int)) = True := eq_true (by omega)
    have gx : R[i]? = some (R[i]'hi) := List.getElem?_eq_getElem _
    generalize R[i]'hi = r at gx
    have w8 : IntKind.i64.wrap ((i : Int) + 1) = ((i + 1 : Nat) : Int) := wrap_i64_nat (n := i + 1) (by omega)
    refine Zr rfl (by simp (maxSteps := 2000000) only [gs,zlr,reduceIte,reduceCtorEq,zpa,zpb,zpc,zpd,zpe,zpf,zpg,zph,zpi,zpj,zpk,zpl,zpm,zpn,zpo,zpp, ur_length, g0]; rfl) (Zc rfl rfl (fun _ => ?_) (fun h => by cases h))
    refine Zd rfl (by simp (maxSteps := 2000000) only [gs,gd,zlr,id,reduceIte,reduceCtorEq,zpa,zpb,zpc,zpd,zpe,zpf,zpg,zph,zpi,zpj,zpk,zpl,zpm,zpn,zpo,zpp, n0, ur_get gx, Int.toNat_natCast, beq_self_eq_true]; rfl) (Zc rfl rfl (fun h => by cases h) (fun _ => ?_))
    refine Zr rfl (by simp (maxSteps := 2000000) only [gs,zlr,reduceIte,reduceCtorEq,zpa,zpb,zpc,zpd,zpe,zpf,zpg,zph,zpi,zpj,zpk,zpl,zpm,zpn,zpo,zpp, w8]; rfl) ?_
    exact Za rfl ⟨m - 1, by omega, rfl, i + 1, by omega, rfl, rfl, rfl⟩
   ·have g0 : ((i : Int) < ((R.length : Nat) : Int)) = False := eq_false (by omega)
    refine Zr rfl (by simp (maxSteps := 2000000) only [gs,zlr,reduceIte,reduceCtorEq,zpa,zpb,zpc,zpd,zpe,zpf,zpg,zph,zpi,zpj,zpk,zpl,zpm,zpn,zpo,zpp, ur_length, g0]; rfl) (Zc rfl rfl (fun h => by cases h) (fun _ => ?_))
    exact Zr rfl (by simp (maxSteps := 2000000) only [gs,zlr,reduceIte,reduceCtorEq,zpa,zpb,zpc,zpd,zpe,zpf,zpg,zph,zpi,zpj,zpk,zpl,zpm,zpn,zpo,zpp]; rfl) (Zq rfl ⟨_, rfl, rfl⟩)
  ·exact GF_run 60 (by kernel_rfl)
 ·rcases hv with rfl | ⟨rfl, _⟩
  ·exact GF_run 60 (by kernel_rfl)
  ·exact GF_run 60 (by kernel_rfl)
theorem un_zeros (k : IntKind) (n : Nat) : List.replicate n [U.int k 0] = un k (List.replicate n 0) := by simp [un]
def isR3 (u : U) (R : List Row3) : Prop := (u = .nils ∧ R = []) ∨ u = .own 3 (ur R) ∨ u = .list false 3 (ur R)
theorem rowsL_sums (l : List Nat) : SumsOk (rowsL l l.length) := fun r hr => by
 obtain ⟨i, hi⟩ := List.mem_iff_getElem?.1 hr
 rw [(rowsL_get hi).2]
 exact wrap_u32_rng _
theorem rowsL_off (l : List Nat) : ∀ j, j ≤ l.length → 24 ≤ offS (rowsL l l.length) j ∧ offS (rowsL l l.length) j ≤ 24 + 50 * (j : Int)
 | 0, _ => by simp [offS]
 | j + 1, hj => by
  have ih := rowsL_off l j (by omega)
  have gx : (rowsL l l.length)[j]? = some (rowAt l j) := by
   unfold rowsL
   rw [List.getElem?_map, List.getElem?_range (by omega)]; rfl
  rw [offS, List.getD_eq_getElem?_getD, gx]
  simp only [Option.getD_some, rowAt]
  omega
set_option maxHeartbeats 8000000 in
theorem indexBursts_G {l : List Nat} {at' m : Nat} (hl : ∀ x ∈ l, x < 65536) (ha : at' < 65536) (hm : m < 4294967296) :
  GF gtab fid_archipelagolaw19_IndexBursts [.list false 1 (un .u16 l), .int .u16 (at' : Int), .int .u32 (m : Int)] [] 0 = some (.bool true, []) := by
 refine fn_archipelagolaw19_IndexBursts rfl ?_
 simp only [genvOf]
 refine Zr rfl (by simp (maxSteps := 2000000) only [gs,zlr,reduceIte,reduceCtorEq,zpa,zpb,zpc,zpd,zpe,zpf,zpg,zph,zpi,zpj,zpk,zpl,zpm,zpn,zpo,zpp]; rfl) ?_
 refine Zr rfl (by simp (maxSteps := 2000000) only [gs,zlr,reduceIte,reduceCtorEq,zpa,zpb,zpc,zpd,zpe,zpf,zpg,zph,zpi,zpj,zpk,zpl,zpm,zpn,zpo,zpp, gc_archipelagolaw19_known, index_known2]; rfl) (Zc rfl rfl (fun h => by cases h) (fun _ => ?_))
 by_cases a1 : l.length ≤ 12
 case neg =>
  have g1 : ((l.length : Int) > 12) = True := eq_true (by omega)
  refine Zr rfl (by simp (maxSteps := 2000000) only [gs,zlr,reduceIte,reduceCtorEq,zpa,zpb,zpc,zpd,zpe,zpf,zpg,zph,zpi,zpj,zpk,zpl,zpm,zpn,zpo,zpp, un_length, g1]; rfl) (Zc rfl rfl (fun _ => ?_) (fun h => by cases h))
  exact Zr rfl (by simp (maxSteps := 2000000) only [gs,zlr,reduceIte,reduceCtorEq,zpa,zpb,zpc,zpd,zpe,zpf,zpg,zph,zpi,zpj,zpk,zpl,zpm,zpn,zpo,zpp]; rfl) (Zq rfl ⟨_, rfl, rfl⟩)
 have g1 : ((l.length : Int) > 12) = False := eq_false (by omega)
 have RW := rows_G hl (show l.length ≤ 60 by omega)
 have hof := rowsL_off l
 obtain ⟨R, hR⟩ : ∃ R, R = rowsL l l.length := ⟨_, rfl⟩
 have hRs : SumsOk R := by rw [hR]; exact rowsL_sums l
 have hRl : R.length = l.length := by rw [hR, rowsL_length]
 have hRo : RowsOk R := by rw [hR]; exact rowsL_ok (by omega)
 rw [← hR] at RW hof
 rw [← hRl] at hof a1
 obtain ⟨w0, hw0⟩ : ∃ w, w = (if l = [] then U.nils else .own 3 (ur R)) := ⟨_, rfl⟩
 rw [← hw0] at RW
 have hw : isR3 w0 R := by
  by_cases h : l = []
  ·rw [if_pos h] at hw0; exact .inl ⟨hw0, by rw [hR, h]; rfl⟩
  ·rw [if_neg h] at hw0; exact .inr (.inl hw0)
 clear hw0
 refine Zr rfl (by simp (maxSteps := 2000000) only [gs,zlr,reduceIte,reduceCtorEq,zpa,zpb,zpc,zpd,zpe,zpf,zpg,zph,zpi,zpj,zpk,zpl,zpm,zpn,zpo,zpp, un_length, g1]; rfl) (Zc rfl rfl (fun h => by cases h) (fun _ => ?_))
 refine Z_nrm 2 (Zj1 (fun env h => h = [] ∧ isR3 (GEnv.get env 7) R ∧ GEnv.get env 1 = .int .u16 (at' : Int) ∧ GEnv.get env 2 = .int .u32 (m : Int)) ?_ ?_)
 ·rcases hw with ⟨rfl, h0⟩ | rfl | rfl
  ·refine Zr rfl (by simp (maxSteps := 2000000) only [gs,zlr,reduceIte,reduceCtorEq,zpa,zpb,zpc,zpd,zpe,zpf,zpg,zph,zpi,zpj,zpk,zpl,zpm,zpn,zpo,zpp, snapLL_un, gc_archipelagolaw19_rows, RW]; rfl) ?_
   exact Za rfl ⟨rfl, .inl ⟨rfl, h0⟩, rfl, rfl⟩
  ·refine Zr rfl (by simp (maxSteps := 2000000) only [gs,zlr,reduceIte,reduceCtorEq,zpa,zpb,zpc,zpd,zpe,zpf,zpg,zph,zpi,zpj,zpk,zpl,zpm,zpn,zpo,zpp, snapLL_un, gc_archipelagolaw19_rows, RW]; rfl) ?_
   exact Za rfl ⟨rfl, .inr (.inl rfl), rfl, rfl⟩
  ·refine Zr rfl (by simp (maxSteps := 2000000) only [gs,zlr,reduceIte,reduceCtorEq,zpa,zpb,zpc,zpd,zpe,zpf,zpg,zph,zpi,zpj,zpk,zpl,zpm,zpn,zpo,zpp, snapLL_un, gc_archipelagolaw19_rows, RW]; rfl) ?_
   exact Za rfl ⟨rfl, .inr (.inr rfl), rfl, rfl⟩
 clear RW hw
 rintro env h ⟨rfl, hw, k1, k2⟩
 refine Zr rfl (by simp (maxSteps := 2000000) only [gs,zlr,reduceIte,reduceCtorEq,zpa,zpb,zpc,zpd,zpe,zpf,zpg,zph,zpi,zpj,zpk,zpl,zpm,zpn,zpo,zpp]; rfl) ?_
 refine Z_nrm 1 (Zj1 (fun env h => h = [] ∧ isR3 (GEnv.get env 7) R ∧ GEnv.get env 1 = .int .u16 (at' : Int) ∧ GEnv.get env 2 = .int .u32 (m : Int) ∧ GEnv.get env 8 = .int .i64 (offS R R.length - 24)) ?_ ?_)
 ·refine Zr rfl (by simp (maxSteps := 2000000) only [gs,zlr,reduceIte,reduceCtorEq,zpa,zpb,zpc,zpd,zpe,zpf,zpg,zph,zpi,zpj,zpk,zpl,zpm,zpn,zpo,zpp]; rfl) ?_
  refine Zw rfl (fun n env h => h = [] ∧ ∃ i : Nat, n + i = R.length ∧ isR3 (GEnv.get env 7) R ∧ GEnv.get env 1 = .int .u16 (at' : Int) ∧ GEnv.get env 2 = .int .u32 (m : Int) ∧ GEnv.get env 8 = .int .i64 (offS R i - 24) ∧ GEnv.get env 9 = .int .i64 (i : Int)) R.length ⟨rfl, 0, by omega, hw, k1, k2, rfl, rfl⟩ ?_
  clear hw k1 k2
  rintro n env h ⟨rfl, i, hn, hw, k1, k2, k8, k9⟩
  simp only [GEnv.keep, k1, k2, k8, k9]
  generalize GEnv.get env 7 = s7 at hw ⊢
  by_cases hi : i < R.length
  ·have g0 : ((i : Int) < ((R.length : Nat) : Int)) = True := eq_true (by omega)
   have n0 : ((0 : Int) ≤ (i : Int)) = True := eq_true (by omega)
   have gx : R[i]? = some (R[i]'hi) := List.getElem?_eq_getElem _
   have hd0 : (R.getD i (0, 0, 0)) = R[i]'hi := by rw [List.getD_eq_getElem?_getD, gx]; rfl
   generalize R[i]'hi = r at gx hd0
   have o1 := hof i (by omega)
   have o2 := hof (i + 1) (by omega)
   have hoff : offS R (i + 1) = offS R i + r.1 := by rw [offS, hd0]
   have w7 : IntKind.i64.wrap (offS R i - 24 + r.1) = offS R (i + 1) - 24 := by rw [hoff, wrap_i64 (by omega) (by omega)]; omega
   have w8 : IntKind.i64.wrap ((i : Int) + 1) = ((i + 1 : Nat) : Int) := wrap_i64_nat (n := i + 1) (by omega)
   rcases hw with ⟨rfl, h0⟩ | rfl | rfl
   ·rw [h0] at hi; exact absurd hi (by simp)
   ·refine Zr rfl (by simp (maxSteps := 2000000) only [gs,zlr,reduceIte,reduceCtorEq,zpa,zpb,zpc,zpd,zpe,zpf,zpg,zph,zpi,zpj,zpk,zpl,zpm,zpn,zpo,zpp, ur_length, g0]; rfl) (Zc rfl rfl (fun _ => ?_) (fun h => by cases h))
    refine Zr rfl (by simp (maxSteps := 2000000) only [gs,zlr,reduceIte,reduceCtorEq,zpa,zpb,zpc,zpd,zpe,zpf,zpg,zph,zpi,zpj,zpk,zpl,zpm,zpn,zpo,zpp, n0, ur_get gx, Int.toNat_natCast, w7]; rfl) ?_
    refine Zr rfl (by simp (maxSteps := 2000000) only [gs,zlr,reduceIte,reduceCtorEq,zpa,zpb,zpc,zpd,zpe,zpf,zpg,zph,zpi,zpj,zpk,zpl,zpm,zpn,zpo,zpp, w8]; rfl) ?_
    exact Za rfl ⟨n - 1, by omega, rfl, i + 1, by omega, .inr (.inr rfl), rfl, rfl, rfl, rfl⟩
   ·refine Zr rfl (by simp (maxSteps := 2000000) only [gs,zlr,reduceIte,reduceCtorEq,zpa,zpb,zpc,zpd,zpe,zpf,zpg,zph,zpi,zpj,zpk,zpl,zpm,zpn,zpo,zpp, ur_length, g0]; rfl) (Zc rfl rfl (fun _ => ?_) (fun h => by cases h))
    refine Zr rfl (by simp (maxSteps := 2000000) only [gs,zlr,reduceIte,reduceCtorEq,zpa,zpb,zpc,zpd,zpe,zpf,zpg,zph,zpi,zpj,zpk,zpl,zpm,zpn,zpo,zpp, n0, ur_get gx, Int.toNat_natCast, w7]; rfl) ?_
    refine Zr rfl (by simp (maxSteps := 2000000) only [gs,zlr,reduceIte,reduceCtorEq,zpa,zpb,zpc,zpd,zpe,zpf,zpg,zph,zpi,zpj,zpk,zpl,zpm,zpn,zpo,zpp, w8]; rfl) ?_
    exact Za rfl ⟨n - 1, by omega, rfl, i + 1, by omega, .inr (.inr rfl), rfl, rfl, rfl, rfl⟩
  ·have hie : R.length = i := by omega
   subst hie
   have g0 : (((R.length : Nat) : Int) < ((R.length : Nat) : Int)) = False := eq_false (by omega)
   rcases hw with ⟨rfl, h0⟩ | rfl | rfl
   ·have g00 : (((R.length : Nat) : Int) < 0) = False := eq_false (by omega)
    refine Zr rfl (by simp (maxSteps := 2000000) only [gs,zlr,reduceIte,reduceCtorEq,zpa,zpb,zpc,zpd,zpe,zpf,zpg,zph,zpi,zpj,zpk,zpl,zpm,zpn,zpo,zpp, g00]; rfl) (Zc rfl rfl (fun h => by cases h) (fun _ => ?_))
    exact Za rfl ⟨rfl, .inl ⟨rfl, h0⟩, rfl, rfl, rfl⟩
   ·refine Zr rfl (by simp (maxSteps := 2000000) only [gs,zlr,reduceIte,reduceCtorEq,zpa,zpb,zpc,zpd,zpe,zpf,zpg,zph,zpi,zpj,zpk,zpl,zpm,zpn,zpo,zpp, ur_length, g0]; rfl) (Zc rfl rfl (fun h => by cases h) (fun _ => ?_))
    exact Za rfl ⟨rfl, .inr (.inr rfl), rfl, rfl, rfl⟩
   ·refine Zr rfl (by simp (maxSteps := 2000000) only [gs,zlr,reduceIte,reduceCtorEq,zpa,zpb,zpc,zpd,zpe,zpf,zpg,zph,zpi,zpj,zpk,zpl,zpm,zpn,zpo,zpp, ur_length, g0]; rfl) (Zc rfl rfl (fun h => by cases h) (fun _ => ?_))
    exact Za rfl ⟨rfl, .inr (.inr rfl), rfl, rfl, rfl⟩
 clear hw k1 k2
 have oo := hof R.length (Nat.le_refl _)
 obtain ⟨z, hz⟩ : ∃ z : Nat, offS R R.length - 24 = (z : Int) := ⟨(offS R R.length - 24).toNat, by omega⟩
 rw [hz]
 rintro env h ⟨rfl, hw, k1, k2, k8⟩
 obtain ⟨L, hL⟩ : ∃ L, L = R.length := ⟨_, rfl⟩
 have hz0 : R = [] → (0 : Int) = (L : Int) := fun h => by rw [hL, h]; rfl
 refine Z_nrm 1 (Zj1 (fun env h => h = [.box [.int .u64 5, .int .i64 1, .int .i64 (L : Int)]] ∧ isRw (GEnv.get env 7) R ∧ GEnv.get env 1 = .int .u16 (at' : Int) ∧ GEnv.get env 2 = .int .u32 (m : Int) ∧ GEnv.get env 8 = .int .i64 (z : Int) ∧ GEnv.get env 10 = .ptr 0 0 0 0) ?_ ?_)
 ·rcases hw with ⟨k7, h0⟩ | k7 | k7
  ·have h00 := hz0 h0
   refine Zr rfl (by simp (maxSteps := 2000000) only [gs,zlr,reduceIte,reduceCtorEq,zpa,zpb,zpc,zpd,zpe,zpf,zpg,zph,zpi,zpj,zpk,zpl,zpm,zpn,zpo,zpp, k7]; rfl) ?_
   rw [h00]
   exact Za rfl ⟨rfl, .inr ⟨k7, h0⟩, k1, k2, k8, rfl⟩
  ·refine Zr rfl (by simp (maxSteps := 2000000) only [gs,zlr,reduceIte,reduceCtorEq,zpa,zpb,zpc,zpd,zpe,zpf,zpg,zph,zpi,zpj,zpk,zpl,zpm,zpn,zpo,zpp, k7, ur_length]; rfl) ?_
   rw [← hL]
   exact Za rfl ⟨rfl, .inl rfl, k1, k2, k8, rfl⟩
  ·refine Zr rfl (by simp (maxSteps := 2000000) only [gs,zlr,reduceIte,reduceCtorEq,zpa,zpb,zpc,zpd,zpe,zpf,zpg,zph,zpi,zpj,zpk,zpl,zpm,zpn,zpo,zpp, k7, ur_length]; rfl) ?_
   rw [← hL]
   exact Za rfl ⟨rfl, .inl k7, k1, k2, k8, rfl⟩
 clear hw k1 k2 k8
 rintro env h ⟨rfl, hw, k1, k2, k8, k10⟩
 have hLb : L ≤ 12 := by omega
 have hok : headOk ((5 : Nat) : Int) ((1 : Nat) : Int) (L : Int) := by unfold headOk; omega
 have PH : GF gtab fid_archipelagoref18_Put [.agg [.int .u64 5, .int .i64 1, .int .i64 (L : Int)]] [] 0 = some (.own 1 (un .u8 (headS 5 1 L)), []) := rhput_G (N := 5) (K := 1) (C := L) hok
 have hzb : z ≤ 600 := by omega
 have z0 : ((0 : Int) ≤ (z : Int)) = True := eq_true (by omega)
 have z1 : ((z : Int) * 1 ≤ (room : Int)) = True := eq_true (by unfold room; omega)
 have z2 : (24 + z ≤ room) = True := eq_true (by unfold room; omega)
 have hof2 : U.ofVs [V.int .u8 0] = [U.int .u8 0] := rfl
 obtain ⟨F, hF⟩ : ∃ F, F = headS 5 1 L ++ List.replicate z 0 := ⟨_, rfl⟩
 have hFl : F.length = 24 + z := by rw [hF, List.length_append, headS_length, List.length_replicate]
 have hFb : ∀ b ∈ F, b < 256 := fun b h => by
  rw [hF] at h
  rcases List.mem_append.1 h with h | h
  ·exact headS_lt _ _ _ b h
  ·have := List.eq_of_mem_replicate h; omega
 refine Zr rfl (by simp (maxSteps := 2000000) only [gs,zlr,reduceIte,reduceCtorEq,zpa,zpb,zpc,zpd,zpe,zpf,zpg,zph,zpi,zpj,zpk,zpl,zpm,zpn,zpo,zpp, k8, k10, gc_archipelagoref18_Put, PH, z0, z1, hof2, Int.toNat_natCast, un_zeros, un_length, headS_length, List.length_replicate, Nat.mul_one, z2, un_append]; rfl) ?_
 rw [← hF]
 have PT := put_w (w := GEnv.get env 7) hw (by omega) hRs
 rw [if_pos (okN_of hRo _ (Nat.le_refl _))] at PT
 refine Z_nrm 1 (Zj1 (fun env h => h = [.box [.int .u64 5, .int .i64 1, .int .i64 (L : Int)]] ∧ isRw (GEnv.get env 7) R ∧ GEnv.get env 1 = .int .u16 (at' : Int) ∧ GEnv.get env 2 = .int .u32 (m : Int) ∧ GEnv.get env 10 = .ptr 0 0 0 0 ∧ GEnv.get env 11 = .own 1 (un .u8 F) ∧ GEnv.get env 12 = .own 1 (un .u8 (rowsS R)) ∧ GEnv.get env 13 = .bool true) ?_ ?_)
 ·rcases hw with k7 | ⟨k7, h0⟩
  ·rw [k7] at PT
   refine Zr rfl (by simp (maxSteps := 2000000) only [gs,zlr,reduceIte,reduceCtorEq,zpa,zpb,zpc,zpd,zpe,zpf,zpg,zph,zpi,zpj,zpk,zpl,zpm,zpn,zpo,zpp, k7, snapLL_ur, gc_index_Put, PT]; rfl) ?_
   exact Za rfl ⟨rfl, .inl k7, k1, k2, k10, rfl, rfl, rfl⟩
  ·rw [k7] at PT
   refine Zr rfl (by simp (maxSteps := 2000000) only [gs,zlr,reduceIte,reduceCtorEq,zpa,zpb,zpc,zpd,zpe,zpf,zpg,zph,zpi,zpj,zpk,zpl,zpm,zpn,zpo,zpp, k7, gc_index_Put, PT]; rfl) ?_
   exact Za rfl ⟨rfl, .inr ⟨k7, h0⟩, k1, k2, k10, rfl, rfl, rfl⟩
 clear hw k1 k2 k8 k10 PT
 rintro env h ⟨rfl, hw, k1, k2, k10, k11, k12, k13⟩
 have hSl := rowsS_length R
 have b0 : IntKind.i64.wrap (16 * (L : Int)) = ((16 * L : Nat) : Int) := by rw [show 16 * (L : Int) = ((16 * L : Nat) : Int) by omega]; exact wrap_i64_nat (by omega)
 have b1 : IntKind.i64.wrap (((16 * L : Nat) : Int) + 8) = ((16 * L + 8 : Nat) : Int) := wrap_i64_nat (n := 16 * L + 8) (by omega)
 have b2 : (((16 * L + 8 : Nat) : Int) != ((16 * L + 8 : Nat) : Int)) = false := bne_self_eq_false _
 rw [← hL] at hSl
 refine Z_nrm 1 (Zj1 (fun env h => h = [.box [.int .u64 5, .int .i64 1, .int .i64 (L : Int)]] ∧ isRw (GEnv.get env 7) R ∧ GEnv.get env 1 = .int .u16 (at' : Int) ∧ GEnv.get env 2 = .int .u32 (m : Int) ∧ GEnv.get env 10 = .ptr 0 0 0 0 ∧ GEnv.get env 11 = .own 1 (un .u8 F) ∧ GEnv.get env 12 = .list false 1 (un .u8 (rowsS R))) ?_ ?_)
 ·rcases hw with k7 | ⟨k7, h0⟩
  ·refine Zr rfl (by simp (maxSteps := 2000000) only [gs,zlr,reduceIte,reduceCtorEq,zpa,zpb,zpc,zpd,zpe,zpf,zpg,zph,zpi,zpj,zpk,zpl,zpm,zpn,zpo,zpp, k7, k12, k13, un_length, hSl, ur_length, ← hL, b0, b1, b2]; rfl) (Zc rfl rfl (fun h => by cases h) (fun _ => ?_))
   exact Za rfl ⟨rfl, .inl k7, k1, k2, k10, k11, rfl⟩
  ·have hL0 := hz0 h0
   have b0' : IntKind.i64.wrap (16 * 0) = ((16 * L : Nat) : Int) := by rw [hL0]; exact b0
   refine Zr rfl (by simp (maxSteps := 2000000) only [gs,zlr,reduceIte,reduceCtorEq,zpa,zpb,zpc,zpd,zpe,zpf,zpg,zph,zpi,zpj,zpk,zpl,zpm,zpn,zpo,zpp, k7, k12, k13, un_length, hSl, b0', b1, b2]; rfl) (Zc rfl rfl (fun h => by cases h) (fun _ => ?_))
   exact Za rfl ⟨rfl, .inr ⟨k7, h0⟩, k1, k2, k10, k11, rfl⟩
 clear hw k1 k2 k10 k11 k12 k13
 rintro env h ⟨rfl, hw, k1, k2, k10, k11, k12⟩
 have wa : IntKind.i64.wrap ((at' : Nat) : Int) = ((at' : Nat) : Int) := wrap_i64_nat (by omega)
 have c0 : IntKind.i64.wrap (8 * ((16 * L + 8 : Nat) : Int)) = ((8 * (16 * L + 8) : Nat) : Int) := by rw [show 8 * ((16 * L + 8 : Nat) : Int) = ((8 * (16 * L + 8) : Nat) : Int) by omega]; exact wrap_i64_nat (by omega)
 have c1 : (((8 * (16 * L + 8) : Nat) : Int) = 0) = False := eq_false (by omega)
 have c2 : ((at' : Nat) : Int).tmod ((8 * (16 * L + 8) : Nat) : Int) = ((at' % (8 * (16 * L + 8)) : Nat) : Int) := rfl
 have hfl := Nat.mod_lt at' (show 0 < 8 * (16 * L + 8) by omega)
 obtain ⟨f, hf⟩ : ∃ f, f = at' % (8 * (16 * L + 8)) := ⟨_, rfl⟩
 rw [← hf] at c2 hfl
 have FL := rflip_G (bs := rowsS R) (f := (f : Int)) (m := m) (rowsS_lt R) (fun h => by rw [h] at hSl; simp at hSl) (by omega) (by omega) hm
 obtain ⟨y, hy⟩ : ∃ y, y = flips (rowsS R) (f : Int) m 32 := ⟨_, rfl⟩
 have hyl : y.length = 16 * L + 8 := by rw [hy, flips_length, hSl]
 have hyb : ∀ b ∈ y, b < 256 := by rw [hy]; exact flips_lt (rowsS_lt R) _ _ _
 have hcb := crc_burst (bs := rowsB R R.length ++ ixMagic) (body_lt R) (f := (f : Int)) (m := m) (by omega) (by
  have := rowsS_length R
  unfold rowsS at this
  rw [List.length_append] at this
  have h4 : (le4 (crcSum (rowsB R R.length ++ ixMagic))).length = 4 := rfl
  omega)
 have hS2 : rowsB R R.length ++ ixMagic ++ le4 (crcSum (rowsB R R.length ++ ixMagic)) = rowsS R := rfl
 rw [hS2, ← hy] at hcb
 rw [← hy] at FL
 have hbk : GF gtab fid_head_Blocks [hd ((5 : Nat) : Int) ((1 : Nat) : Int) (L : Int)] [] 0 = some (.int .i64 ((L : Nat) : Int), []) := by
  have := hblocks_G (N := 5) (K := 1) (C := L) hok
  rwa [Nat.div_one, Nat.add_sub_cancel] at this
 have hFyb : ∀ b ∈ F ++ y, b < 256 := fun b h => by
  rcases List.mem_append.1 h with h | h
  ·exact hFb b h
  ·exact hyb b h
 obtain ⟨v, hv, RD⟩ := iread_G (bs := F ++ y) (bl := L) hbk (by omega) hFyb (by rw [List.length_append, hFl, hyl]; omega)
 have RD : GF gtab fid_index_Read [.list false 1 (un .u8 (F ++ y)), .agg [.int .u64 5, .int .i64 1, .int .i64 (L : Int)]] [] 0 = some (v, []) := RD
 have d1 : ((24 + z + (16 * L + 8)) ≤ room) = True := eq_true (by unfold room; omega)
 have d2 : ((0 : Int) ≤ ((24 + z : Nat) : Int)) = True := eq_true (by omega)
 have d3 : (((24 + z : Nat) : Int) ≤ ((24 + z : Nat) : Int)) = True := eq_true (by omega)
 have d5 : (0 < 24 + z) = True := eq_true (by omega)
 have d6 : (((24 + z : Nat) : Int) - 0).toNat = 24 + z := by omega
 have d4 : (un .u8 F).take (24 + z) = un .u8 F := List.take_of_length_le (by rw [un_length, hFl]; omega)
 have hyeq : (((y.map fun (n : Nat) => (n : Int)) == (rowsS R).map fun (n : Nat) => (n : Int))) = decide (y = rowsS R) := hbeq y (rowsS R)
 refine Zr rfl (by simp (maxSteps := 2000000) only [gs,zlr,reduceIte,reduceCtorEq,zpa,zpb,zpc,zpd,zpe,zpf,zpg,zph,zpi,zpj,zpk,zpl,zpm,zpn,zpo,zpp, k1, k2, k12, wa, un_length, hSl, c0, c1, c2, snapLL_un, gc_archipelagoref1_Flip, FL]; rfl) ?_
 by_cases he : y = rowsS R
 ·rw [decide_eq_true he] at hyeq
  have hx : rdIx (F ++ y) L = .ok R := by rw [he, hL]; exact rdIx_put hRo hRs (by omega) (by rw [hFl]; omega)
  rw [hx] at hv
  obtain ⟨w, hw2, rfl⟩ := hv
  refine Z_nrm 1 (Zj1 (fun env h => h = [.box [.int .u64 5, .int .i64 1, .int .i64 (L : Int)]] ∧ isRw (GEnv.get env 7) R ∧ isRw (GEnv.get env 15) R ∧ GEnv.get env 16 = .int .i64 0 ∧ GEnv.get env 12 = .list false 1 (un .u8 (rowsS R)) ∧ GEnv.get env 14 = .list false 1 (un .u8 y)) ?_ ?_)
  ·rcases hw2 with rfl | ⟨rfl, h0⟩
   ·refine Zd rfl (by simp (maxSteps := 2000000) only [gs,gd,zlr,id,reduceIte,reduceCtorEq,zpa,zpb,zpc,zpd,zpe,zpf,zpg,zph,zpi,zpj,zpk,zpl,zpm,zpn,zpo,zpp, k10, k11, un_length, hFl, hyl, d1, d2, d3, d4, d5, d6, Nat.mul_one, un_append, snapLL_un, gc_index_Read, iq_index_Read, RD]; rfl) ?_
    exact Za rfl ⟨rfl, hw, .inl rfl, rfl, k12, rfl⟩
   ·refine Zd rfl (by simp (maxSteps := 2000000) only [gs,gd,zlr,id,reduceIte,reduceCtorEq,zpa,zpb,zpc,zpd,zpe,zpf,zpg,zph,zpi,zpj,zpk,zpl,zpm,zpn,zpo,zpp, k10, k11, un_length, hFl, hyl, d1, d2, d3, d4, d5, d6, Nat.mul_one, un_append, snapLL_un, gc_index_Read, iq_index_Read, RD]; rfl) ?_
    exact Za rfl ⟨rfl, hw, .inr ⟨rfl, h0⟩, rfl, k12, rfl⟩
  clear hw hw2 k1 k2 k10 k11 k12 RD
  rintro env h ⟨rfl, hw, hw2, k16, k12, k14⟩
  have SR := rsame_G hw2 hw (by omega)
  refine Zr rfl (by simp (maxSteps := 2000000) only [gs,zlr,reduceIte,reduceCtorEq,zpa,zpb,zpc,zpd,zpe,zpf,zpg,zph,zpi,zpj,zpk,zpl,zpm,zpn,zpo,zpp, k12, k14, gbytesOf_un, hyeq]; rfl) (Zc rfl rfl (fun _ => ?_) (fun h => by cases h))
  rcases hw with k7 | ⟨k7, h0⟩
  ·rcases hw2 with k15 | ⟨k15, h1⟩
   ·rw [k7, k15] at SR
    exact Zr rfl (by simp (maxSteps := 2000000) only [gs,zlr,reduceIte,reduceCtorEq,zpa,zpb,zpc,zpd,zpe,zpf,zpg,zph,zpi,zpj,zpk,zpl,zpm,zpn,zpo,zpp, k7, k15, k16, snapLL_ur, gc_archipelagoref18_SameRows, SR]; rfl) (Zq rfl ⟨_, rfl, rfl⟩)
   ·rw [k7, k15] at SR
    exact Zr rfl (by simp (maxSteps := 2000000) only [gs,zlr,reduceIte,reduceCtorEq,zpa,zpb,zpc,zpd,zpe,zpf,zpg,zph,zpi,zpj,zpk,zpl,zpm,zpn,zpo,zpp, k7, k15, k16, snapLL_ur, gc_archipelagoref18_SameRows, SR]; rfl) (Zq rfl ⟨_, rfl, rfl⟩)
  ·rcases hw2 with k15 | ⟨k15, h1⟩
   ·rw [k7, k15] at SR
    exact Zr rfl (by simp (maxSteps := 2000000) only [gs,zlr,reduceIte,reduceCtorEq,zpa,zpb,zpc,zpd,zpe,zpf,zpg,zph,zpi,zpj,zpk,zpl,zpm,zpn,zpo,zpp, k7, k15, k16, snapLL_ur, gc_archipelagoref18_SameRows, SR]; rfl) (Zq rfl ⟨_, rfl, rfl⟩)
   ·rw [k7, k15] at SR
    exact Zr rfl (by simp (maxSteps := 2000000) only [gs,zlr,reduceIte,reduceCtorEq,zpa,zpb,zpc,zpd,zpe,zpf,zpg,zph,zpi,zpj,zpk,zpl,zpm,zpn,zpo,zpp, k7, k15, k16, gc_archipelagoref18_SameRows, SR]; rfl) (Zq rfl ⟨_, rfl, rfl⟩)
 ·rw [decide_eq_false he] at hyeq hcb
  have hx : rdIx (F ++ y) L = .bad 28 := rdIx_sum hyl (by omega) hcb
  rw [hx] at hv
  have hv : v = .tup [.nils, .int .i64 28] := hv
  subst hv
  refine Zd rfl (by simp (maxSteps := 2000000) only [gs,gd,zlr,id,reduceIte,reduceCtorEq,zpa,zpb,zpc,zpd,zpe,zpf,zpg,zph,zpi,zpj,zpk,zpl,zpm,zpn,zpo,zpp, k10, k11, un_length, hFl, hyl, d1, d2, d3, d4, d5, d6, Nat.mul_one, un_append, snapLL_un, gc_index_Read, iq_index_Read, RD]; rfl) ?_
  refine Zr rfl (by simp (maxSteps := 2000000) only [gs,zlr,reduceIte,reduceCtorEq,zpa,zpb,zpc,zpd,zpe,zpf,zpg,zph,zpi,zpj,zpk,zpl,zpm,zpn,zpo,zpp, k12, gbytesOf_un, hyeq]; rfl) (Zc rfl rfl (fun h => by cases h) (fun _ => ?_))
  exact Zr rfl (by simp (maxSteps := 2000000) only [gs,zlr,reduceIte,reduceCtorEq,zpa,zpb,zpc,zpd,zpe,zpf,zpg,zph,zpi,zpj,zpk,zpl,zpm,zpn,zpo,zpp]; rfl) (Zq rfl ⟨_, rfl, rfl⟩)
theorem indexBursts_law (us : List U) (h : Ars [.one (.sl [.int .u16]), .one (.int .u16), .one (.int .u32)] us) : GF gtab fid_archipelagolaw19_IndexBursts us [] 0 = some (.bool true, []) := by
 obtain ⟨u0, _, rfl, h0, u1, _, rfl, h1, u2, _, rfl, h2, rfl⟩ := h
 obtain ⟨l, rfl, _, hl⟩ := Sh.nums rfl h0
 obtain ⟨a, rfl, ha⟩ := Sh.nat rfl h1
 obtain ⟨m, rfl, hm⟩ := Sh.nat rfl h2
 exact indexBursts_G (fun x hx => Nat.lt_succ_of_le (Int.ofNat_le.1 (hl x hx))) (Nat.lt_succ_of_le (Int.ofNat_le.1 ha)) (Nat.lt_succ_of_le (Int.ofNat_le.1 hm))
end Go.Ab
