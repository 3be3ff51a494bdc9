/- IdxJ, MendA, IdxL. -/
import Derived.Test.YtnikphikjkfooaaIrdG
import Derived.Test.YtnikphikjkfooaaValN
import Derived.Test.YtnikphikjkfooaaIrdD
import Derived.Test.YtnikphikjkfooaaArgA
namespace Go.Ab
open Go
open Nat renaming reduceEqDiff → zpa, reduceLT → zpb, reduceAdd → zpc, reduceSub → zpd, reduceLeDiff → zpe, reduceMul → zpf
open Int renaming reduceToNat → zpg, reduceLT → zph, reduceLE → zpi, reduceEq → zpj, reduceNe → zpk, reduceBEq → zpl, reduceBNe → zpm, reduceAdd → zpn, reduceSub → zpo, reduceNeg → zpp
open List renaming replicate → zlr
set_option linter.unusedVariables false
set_option linter.unusedSimpArgs false
set_option maxRecDepth 10000
theorem okN_of {R : List Row3} (h : RowsOk R) : ∀ n, n ≤ R.length → okN R n = true
 | 0, _ => rfl
 | n + 1, hn => by
  rw [okN, okN_of h n (by omega), Bool.true_and]
  have gx : R[n]? = some (R[n]'(by omega)) := List.getElem?_eq_getElem _
  unfold okAt
  rw [gx]
  obtain ⟨a, b, c, d, e⟩ := h n _ gx
  refine decide_eq_true ⟨a, b, ?_, d⟩
  by_cases h0 : n = 0
  ·rw [if_pos h0]; exact c
  ·rw [if_neg h0]
   have gy : R[n - 1]? = some (R[n - 1]'(by omega)) := List.getElem?_eq_getElem _
   rw [List.getD_eq_getElem?_getD, gy]
   exact e (n - 1) _ (by omega) gy
theorem rowsS_length (R : List Row3) : (rowsS R).length = 16 * R.length + 8 := by
 unfold rowsS
 rw [List.length_append, List.length_append, rowsB_length R.length (Nat.le_refl _)]
 rfl
theorem body_lt (R : List Row3) : ∀ b ∈ rowsB R R.length ++ ixMagic, b < 256 := fun b h => by
 rcases List.mem_append.1 h with h | h
 ·exact rowsB_lt R _ b h
 ·exact (show ∀ x ∈ ixMagic, x < 256 by decide) b h
theorem rowsS_lt (R : List Row3) : ∀ b ∈ rowsS R, b < 256 := fun b h => by
 unfold rowsS at h
 rcases List.mem_append.1 h with h | h
 ·exact body_lt R b h
 ·exact le4_lt _ b h
theorem rsame_G {u v : U} {R : List Row3} (hu : isRw u R) (hv : isRw v R) (hl : R.length ≤ 1099511627776) : GF gtab fid_archipelagoref18_SameRows [u, v] [] 0 = some (.bool true, []) := by
 rcases hu with rfl | ⟨rfl, rfl⟩
 ·rcases hv with rfl | ⟨rfl, rfl⟩
  ·refine fn_archipelagoref18_SameRows rfl ?_
   simp only [genvOf]
   have e0 : (((R.length : Nat) : Int) != ((R.length : Nat) : Int)) = false := bne_self_eq_false _
   refine Zr rfl (by simp (maxSteps := 2000000) only [gs,zlr,reduceIte,reduceCtorEq,zpa,zpb,zpc,zpd,zpe,zpf,zpg,zph,zpi,zpj,zpk,zpl,zpm,zpn,zpo,zpp]; rfl) ?_
   refine Zr rfl (by simp (maxSteps := 2000000) only [gs,zlr,reduceIte,reduceCtorEq,zpa,zpb,zpc,zpd,zpe,zpf,zpg,zph,zpi,zpj,zpk,zpl,zpm,zpn,zpo,zpp, ur_length, e0]; rfl) (Zc rfl rfl (fun h => by cases h) (fun _ => ?_))
   refine Zr rfl (by simp (maxSteps := 2000000) only [gs,zlr,reduceIte,reduceCtorEq,zpa,zpb,zpc,zpd,zpe,zpf,zpg,zph,zpi,zpj,zpk,zpl,zpm,zpn,zpo,zpp]; rfl) ?_
   refine Zw rfl (fun m env h => h = [] ∧ ∃ i : Nat, m + i = R.length ∧ GEnv.get env 0 = .list false 3 (ur R) ∧ GEnv.get env 1 = .list false 3 (ur R) ∧ GEnv.get env 5 = .int .i64 (i : Int)) R.length ⟨rfl, 0, by omega, rfl, rfl, rfl⟩ ?_
   rintro m env h ⟨rfl, i, hm, k0, k1, k5⟩
   simp only [GEnv.keep, k0, k1, k5]
   by_cases hi : i < R.length
   ·have g0 : ((i : Int) < ((R.length : Nat) : Int)) = True := eq_true (by omega)
    have n0 : ((0 : Int) ≤ (i : Int)) = True := eq_true (by omega)
    have gx : R[i]? = some (R[i]'hi) := List.getElem?_eq_getElem _
    generalize R[i]'hi = r at gx
    have w8 : IntKind.i64.wrap ((i : Int) + 1) = ((i + 1 : Nat) : Int) := wrap_i64_nat (n := i + 1) (by omega)
    refine Zr rfl (by simp (maxSteps := 2000000) only [gs,zlr,reduceIte,reduceCtorEq,zpa,zpb,zpc,zpd,zpe,zpf,zpg,zph,zpi,zpj,zpk,zpl,zpm,zpn,zpo,zpp, ur_length, g0]; rfl) (Zc rfl rfl (fun _ => ?_) (fun h => by cases h))
    refine Zd rfl (by simp (maxSteps := 2000000) only [gs,gd,zlr,id,reduceIte,reduceCtorEq,zpa,zpb,zpc,zpd,zpe,zpf,zpg,zph,zpi,zpj,zpk,zpl,zpm,zpn,zpo,zpp, n0, ur_get gx, Int.toNat_natCast, beq_self_eq_true]; rfl) (Zc rfl rfl (fun h => by cases h) (fun _ => ?_))
    refine Zr rfl (by simp (maxSteps := 2000000) only [gs,zlr,reduceIte,reduceCtorEq,zpa,zpb,zpc,zpd,zpe,zpf,zpg,zph,zpi,zpj,zpk,zpl,zpm,zpn,zpo,zpp, w8]; rfl) ?_
    exact Za rfl ⟨m - 1, by omega, rfl, i + 1, by omega, rfl, rfl, rfl⟩
   ·have g0 : ((i : Int) < ((R.length : Nat) : Int)) = False := eq_false (by omega)
    refine Zr rfl (by simp (maxSteps := 2000000) only [gs,zlr,reduceIte,reduceCtorEq,zpa,zpb,zpc,zpd,zpe,zpf,zpg,zph,zpi,zpj,zpk,zpl,zpm,zpn,zpo,zpp, ur_length, g0]; rfl) (Zc rfl rfl (fun h => by cases h) (fun _ => ?_))
    exact Zr rfl (by simp (maxSteps := 2000000) only [gs,zlr,reduceIte,reduceCtorEq,zpa,zpb,zpc,zpd,zpe,zpf,zpg,zph,zpi,zpj,zpk,zpl,zpm,zpn,zpo,zpp]; rfl) (Zq rfl ⟨_, rfl, rfl⟩)
  ·exact GF_run 60 (by kernel_rfl)
 ·rcases hv with rfl | ⟨rfl, _⟩
  ·exact GF_run 60 (by kernel_rfl)
  ·exact GF_run 60 (by kernel_rfl)
theorem un_zeros (k : IntKind) (n : Nat) : List.replicate n [U.int k 0] = un k (List.replicate n 0) := by simp [un]
def isR3 (u : U) (R : List Row3) : Prop := (u = .nils ∧ R = []) ∨ u = .own 3 (ur R) ∨ u = .list false 3 (ur R)
theorem rowsL_sums (l : List Nat) : SumsOk (rowsL l l.length) := fun r hr => by
 obtain ⟨i, hi⟩ := List.mem_iff_getElem?.1 hr
 rw [(rowsL_get hi).2]
 exact wrap_u32_rng _
theorem rowsL_off (l : List Nat) : ∀ j, j ≤ l.length → 24 ≤ offS (rowsL l l.length) j ∧ offS (rowsL l l.length) j ≤ 24 + 50 * (j : Int)
 | 0, _ => by simp [offS]
 | j + 1, hj => by
  have ih := rowsL_off l j (by omega)
  have gx : (rowsL l l.length)[j]? = some (rowAt l j) := by
   unfold rowsL
   rw [List.getElem?_map, List.getElem?_range (by omega)]; rfl
  rw [offS, List.getD_eq_getElem?_getD, gx]
  simp only [Option.getD_some, rowAt]
  omega
def put4 (a : List Nat) (i s : Nat) : List Nat := a.take i ++ leB 4 s ++ a.drop (i + 4)
theorem put4_lt {a : List Nat} {i s : Nat} (ha : ∀ c ∈ a, c < 256) : ∀ c ∈ put4 a i s, c < 256 := fun c h => by
 unfold put4 at h
 rcases List.mem_append.1 h with h | h
 ·rcases List.mem_append.1 h with h | h
  ·exact ha c (List.mem_of_mem_take h)
  ·exact leB_lt _ _ c h
 ·exact ha c (List.mem_of_mem_drop h)
theorem put4_length {a : List Nat} {i s : Nat} (h : i + 4 ≤ a.length) : (put4 a i s).length = a.length := by
 unfold put4
 simp only [List.length_append, List.length_take, List.length_drop, leB_length]
 omega
theorem put4_eq (a : List Nat) (i s : Nat) : a.take i ++ leB 4 s ++ a.drop (i + 4) = put4 a i s := rfl
theorem put4_20 (a : List Nat) (s : Nat) : a.take 20 ++ leB 4 s ++ a.drop 24 = put4 a 20 s := rfl
theorem blocks_any (n : Nat) (k c : Int) : ∃ bl : Nat, bl ≤ 4294967296 ∧ GF gtab fid_archipelagoref18_Blocks [hd n k c] [] 0 = some (.int .i64 (bl : Int), []) := by
 by_cases h : headOk n k c
 ·obtain ⟨h1, h2, h3, h4, h5⟩ := h
  obtain ⟨K, rfl⟩ : ∃ q : Nat, k = (q : Int) := ⟨k.toNat, by omega⟩
  obtain ⟨C, rfl⟩ : ∃ q : Nat, c = (q : Int) := ⟨c.toNat, by omega⟩
  exact ⟨(C + K - 1) / K, Nat.le_trans (Nat.div_le_self _ _) (by omega), rhblocks_G ⟨h1, h2, h3, h4, h5⟩⟩
 ·exact ⟨0, by omega, rhblocksNo_G h⟩
def MdSt (h : GH) (n : Nat) (tl : GH) : Prop := ∃ c : List Nat, c.length = n ∧ (∀ x ∈ c, x < 256) ∧ h = .arr (un .u8 c) 0 0 :: tl
set_option maxHeartbeats 8000000 in
theorem mend_R {bs : List Nat} (hb : ∀ c ∈ bs, c < 256) (hl : bs.length ≤ 10000) :
  ∃ w l, GF gtab fid_archipelagoseat_Mend [.list false 1 (un .u8 bs)] [] 0 = some (w, []) ∧ isBr w l ∧ (∀ c ∈ l, c < 256) ∧ l.length ≤ bs.length := by
 have key : ∃ u h', GF gtab fid_archipelagoseat_Mend [.list false 1 (un .u8 bs)] [] 0 = some (u, h') ∧ h' = [] ∧ ∃ l, isBr u l ∧ (∀ c ∈ l, c < 256) ∧ l.length ≤ bs.length := by
  refine fnR_archipelagoseat_Mend rfl ?_
  simp only [genvOf]
  refine Zr rfl (by simp (maxSteps := 2000000) only [gs,zlr,reduceIte,reduceCtorEq,zpa,zpb,zpc,zpd,zpe,zpf,zpg,zph,zpi,zpj,zpk,zpl,zpm,zpn,zpo,zpp]; rfl) ?_
  by_cases hne : bs = []
  ·subst hne
   have u0 : un .u8 [] = [] := rfl
   rw [u0]
   refine Zr rfl (by simp (maxSteps := 2000000) only [gs,zlr,reduceIte,reduceCtorEq,zpa,zpb,zpc,zpd,zpe,zpf,zpg,zph,zpi,zpj,zpk,zpl,zpm,zpn,zpo,zpp]; rfl) ?_
   refine Zr rfl (by simp (maxSteps := 2000000) only [gs,zlr,reduceIte,reduceCtorEq,zpa,zpb,zpc,zpd,zpe,zpf,zpg,zph,zpi,zpj,zpk,zpl,zpm,zpn,zpo,zpp]; rfl) (Zc rfl rfl (fun _ => ?_) (fun h => by cases h))
   exact Zr rfl (by simp (maxSteps := 2000000) only [gs,zlr,reduceIte,reduceCtorEq,zpa,zpb,zpc,zpd,zpe,zpf,zpg,zph,zpi,zpj,zpk,zpl,zpm,zpn,zpo,zpp]; rfl) (Zq rfl ⟨_, rfl, _, _, rfl, rfl, [], .inl ⟨rfl, rfl⟩, by simp, by simp⟩)
  have hpos := List.length_pos_iff.2 hne
  have hun : (un .u8 bs = []) = False := eq_false (by cases bs with
   | nil => exact absurd rfl hne
   | cons y ys => simp [un])
  have hr : (bs.length ≤ room) = True := eq_true (by unfold room; omega)
  have hfin : ∀ (c : List Nat) (tl : GH), c.length = bs.length → els (.arr (un .u8 c) 0 0 :: tl) 1 (.asl none 0 0 0 bs.length 1) = some (un .u8 c) := fun c tl hc => by
   have hle : (bs.length ≤ (un .u8 c).length) = True := eq_true (by rw [un_length]; omega)
   have hcut : cut (un .u8 c) 0 bs.length = un .u8 c := by rw [cut_un]; unfold cut; rw [List.drop_zero, List.take_of_length_le (by omega)]
   simp only [els, List.getElem?_cons_zero, Nat.zero_add, hle, Nat.le_refl, and_self, if_true, hcut]
  refine Zr rfl (by simp (maxSteps := 2000000) only [gs,zlr,reduceIte,reduceCtorEq,zpa,zpb,zpc,zpd,zpe,zpf,zpg,zph,zpi,zpj,zpk,zpl,zpm,zpn,zpo,zpp, hun, un_length, Nat.mul_one, hr]; rfl) ?_
  by_cases h32 : bs.length < 32
  ·have c1 : (((bs.length : Nat) : Int) < 32) = True := eq_true (by omega)
   refine Zr rfl (by simp (maxSteps := 2000000) only [gs,zlr,reduceIte,reduceCtorEq,zpa,zpb,zpc,zpd,zpe,zpf,zpg,zph,zpi,zpj,zpk,zpl,zpm,zpn,zpo,zpp, c1]; rfl) (Zc rfl rfl (fun _ => ?_) (fun h => by cases h))
   refine Zr rfl (by simp (maxSteps := 2000000) only [gs,zlr,reduceIte,reduceCtorEq,zpa,zpb,zpc,zpd,zpe,zpf,zpg,zph,zpi,zpj,zpk,zpl,zpm,zpn,zpo,zpp]; rfl) (Zq rfl ⟨_, rfl, ?_⟩)
   simp only [gfin, outs, U.out, U.handed, U.share, U.rf, hfin bs [] rfl, GEnv.get, if_true, Nat.reduceEqDiff, if_false, rfLL_un, Option.map_some]
   exact ⟨_, _, rfl, rfl, bs, .inr (.inr rfl), hb, Nat.le_refl _⟩
  have c1 : (((bs.length : Nat) : Int) < 32) = False := eq_false (by omega)
  refine Zr rfl (by simp (maxSteps := 2000000) only [gs,zlr,reduceIte,reduceCtorEq,zpa,zpb,zpc,zpd,zpe,zpf,zpg,zph,zpi,zpj,zpk,zpl,zpm,zpn,zpo,zpp, c1]; rfl) (Zc rfl rfl (fun h => by cases h) (fun _ => ?_))
  have a1 : ((20 : Int) ≤ ((bs.length : Nat) : Int)) = True := eq_true (by omega)
  have a2 : ((24 : Int) ≤ ((bs.length : Nat) : Int)) = True := eq_true (by omega)
  have a3 : (20 ≤ bs.length) = True := eq_true (by omega)
  have a4 : (24 ≤ bs.length) = True := eq_true (by omega)
  have tb : ∀ b ∈ bs.take 20, b < 256 := fun b h => hb b (List.mem_of_mem_take h)
  have RS := rsum_G tb (by rw [List.length_take]; omega)
  have hs := crcSum_lt tb
  have FX : GF gtab fid_archipelagoref1_Fixed [.int .u64 (crcSum (bs.take 20) : Nat), .int .i64 4] [] 0 = some (.own 1 (un .u8 (leB 4 (crcSum (bs.take 20)))), []) := fixed_G (n := 4) (by omega) (by omega) (by omega)
  have t4 : ∀ s, (leB 4 s).take 4 = leB 4 s := fun s => List.take_of_length_le (by rw [leB_length]; omega)
  refine Zd rfl (by simp (maxSteps := 2000000) only [gs,gd,zlr,id,reduceIte,reduceCtorEq,zpa,zpb,zpc,zpd,zpe,zpf,zpg,zph,zpi,zpj,zpk,zpl,zpm,zpn,zpo,zpp, un_length, a1, a2, a3, a4, List.drop_zero, un_drop, un_take, rfLL_un, snapLL_un, gc_archipelagoref1_Sum, iq_archipelagoref1_Sum, RS, conv_u64 hs, gc_archipelagoref1_Fixed, iq_archipelagoref1_Fixed, FX, leB_length, Nat.min_self, Nat.le_refl, t4, un_append, put4_20]; rfl) ?_
  obtain ⟨c, hc⟩ : ∃ c, c = put4 bs 20 (crcSum (bs.take 20)) := ⟨_, rfl⟩
  have hcl : c.length = bs.length := by rw [hc]; exact put4_length (by omega)
  have hcb : ∀ b ∈ c, b < 256 := by rw [hc]; exact put4_lt hb
  rw [← hc]
  clear hc RS FX tb hs
  have hcut2 : (un .u8 c).take bs.length = un .u8 c := List.take_of_length_le (by rw [un_length]; omega)
  have hru : ∃ (n : Nat) (k c' e : Int), (rdHead c).u = .tup [.agg [.int .u64 n, .int .i64 k, .int .i64 c'], .int .i64 e] := by
   cases rdHead c with
   | bad e => exact ⟨0, 0, 0, e, rfl⟩
   | ok n k c' => exact ⟨n, k, c', 0, rfl⟩
  obtain ⟨n, k, c', e, hru⟩ := hru
  have RR := rhread_G hcb (by omega)
  rw [hru] at RR
  refine Zr rfl (by simp (maxSteps := 2000000) only [gs,zlr,reduceIte,reduceCtorEq,zpa,zpb,zpc,zpd,zpe,zpf,zpg,zph,zpi,zpj,zpk,zpl,zpm,zpn,zpo,zpp, els, List.getElem?_cons_zero, hcl, un_length, List.drop_zero, Nat.zero_add, Nat.le_refl, hcut2, rfLL_un, snapLL_un, gc_archipelagoref18_Read, RR]; rfl) ?_
  by_cases he : e = 0
  case neg =>
   have ne : (e != 0) = true := bne_iff_ne.2 he
   refine Zr rfl (by simp (maxSteps := 2000000) only [gs,zlr,reduceIte,reduceCtorEq,zpa,zpb,zpc,zpd,zpe,zpf,zpg,zph,zpi,zpj,zpk,zpl,zpm,zpn,zpo,zpp, ne]; rfl) (Zc rfl rfl (fun _ => ?_) (fun h => by cases h))
   refine Zr rfl (by simp (maxSteps := 2000000) only [gs,zlr,reduceIte,reduceCtorEq,zpa,zpb,zpc,zpd,zpe,zpf,zpg,zph,zpi,zpj,zpk,zpl,zpm,zpn,zpo,zpp]; rfl) (Zq rfl ⟨_, rfl, ?_⟩)
   simp only [gfin, outs, U.out, U.handed, U.share, U.rf, hfin c _ hcl, GEnv.get, if_true, Nat.reduceEqDiff, if_false, rfLL_un, Option.map_some]
   exact ⟨_, _, rfl, rfl, c, .inr (.inr rfl), hcb, by omega⟩
  have ne : (e != 0) = false := by rw [he]; rfl
  obtain ⟨bl, hbl, BL⟩ := blocks_any n k c'
  unfold hd at BL
  have w1 : IntKind.i64.wrap (((bs.length : Nat) : Int) - 8) = ((bs.length : Nat) : Int) - 8 := wrap_i64 (by omega) (by omega)
  have w2 : IntKind.i64.wrap (16 * (bl : Int)) = ((16 * bl : Nat) : Int) := by rw [show 16 * (bl : Int) = ((16 * bl : Nat) : Int) by omega]; exact wrap_i64_nat (by omega)
  have w3 : IntKind.i64.wrap (((bs.length : Nat) : Int) - 8 - ((16 * bl : Nat) : Int)) = ((bs.length : Nat) : Int) - 8 - ((16 * bl : Nat) : Int) := wrap_i64 (by omega) (by omega)
  refine Zr rfl (by simp (maxSteps := 2000000) only [gs,zlr,reduceIte,reduceCtorEq,zpa,zpb,zpc,zpd,zpe,zpf,zpg,zph,zpi,zpj,zpk,zpl,zpm,zpn,zpo,zpp, ne]; rfl) (Zc rfl rfl (fun h => by cases h) (fun _ => ?_))
  refine Zr rfl (by simp (maxSteps := 2000000) only [gs,zlr,reduceIte,reduceCtorEq,zpa,zpb,zpc,zpd,zpe,zpf,zpg,zph,zpi,zpj,zpk,zpl,zpm,zpn,zpo,zpp, w1, gc_archipelagoref18_Blocks, BL, w2, w3]; rfl) ?_
  obtain ⟨fr, hfr⟩ : ∃ fr : Int, fr = ((bs.length : Nat) : Int) - 8 - ((16 * bl : Nat) : Int) := ⟨_, rfl⟩
  rw [← hfr]
  refine Zr rfl (by simp (maxSteps := 2000000) only [gs,zlr,reduceIte,reduceCtorEq,zpa,zpb,zpc,zpd,zpe,zpf,zpg,zph,zpi,zpj,zpk,zpl,zpm,zpn,zpo,zpp]; rfl) ?_
  refine Z_nrm 1 (Zj1 (fun env h => MdSt h bs.length [.box [.int .u64 n, .int .i64 k, .int .i64 c']] ∧ GEnv.get env 3 = .asl none 0 0 0 bs.length 1 ∧ GEnv.get env 6 = .int .i64 fr) ?_ ?_)
  ·refine Zr rfl (by simp (maxSteps := 2000000) only [gs,zlr,reduceIte,reduceCtorEq,zpa,zpb,zpc,zpd,zpe,zpf,zpg,zph,zpi,zpj,zpk,zpl,zpm,zpn,zpo,zpp]; rfl) ?_
   by_cases hf : fr < 24
   ·have g1 : (fr ≥ 24) = False := eq_false (by omega)
    refine Zw rfl (fun m env h => h = [.arr (un .u8 c) 0 0, .box [.int .u64 n, .int .i64 k, .int .i64 c']] ∧ GEnv.get env 3 = .asl none 0 0 0 bs.length 1 ∧ GEnv.get env 6 = .int .i64 fr ∧ GEnv.get env 8 = .int .i64 fr) 0 ⟨rfl, rfl, rfl, rfl⟩ ?_
    rintro m env h ⟨rfl, k3, k6, k8⟩
    simp only [GEnv.keep, k3, k6, k8]
    refine Zr rfl (by simp (maxSteps := 2000000) only [gs,zlr,reduceIte,reduceCtorEq,zpa,zpb,zpc,zpd,zpe,zpf,zpg,zph,zpi,zpj,zpk,zpl,zpm,zpn,zpo,zpp, g1]; rfl) (Zc rfl rfl (fun h => by cases h) (fun _ => ?_))
    exact Za rfl ⟨⟨c, hcl, hcb, rfl⟩, rfl, rfl⟩
   obtain ⟨q, rfl⟩ : ∃ q : Nat, fr = (q : Int) := ⟨fr.toNat, by omega⟩
   refine Zw rfl (fun m env h => ∃ j A : Nat, m + j = bl ∧ MdSt h bs.length [.box [.int .u64 n, .int .i64 k, .int .i64 c']] ∧ 24 ≤ A ∧ A ≤ q ∧ GEnv.get env 3 = .asl none 0 0 0 bs.length 1 ∧ GEnv.get env 6 = .int .i64 (q : Int) ∧ GEnv.get env 7 = .int .i64 (A : Int) ∧ GEnv.get env 8 = .int .i64 ((q + 16 * j : Nat) : Int)) bl ⟨0, 24, by omega, ⟨c, hcl, hcb, rfl⟩, by omega, by omega, rfl, rfl, rfl, rfl⟩ ?_
   rintro m env h ⟨j, A, hm, ⟨c1, hc1, hb1, rfl⟩, hA1, hA2, k3, k6, k7, k8⟩
   simp only [GEnv.keep, k3, k6, k7, k8]
   obtain ⟨I, hI⟩ : ∃ I, I = q + 16 * j := ⟨_, rfl⟩
   rw [← hI]
   have g1 : ((I : Int) ≥ 24) = True := eq_true (by omega)
   by_cases hj : j < bl
   case neg =>
    have g2 : ((I : Int) < ((bs.length : Nat) : Int) - 8) = False := eq_false (by omega)
    refine Zr rfl (by simp (maxSteps := 2000000) only [gs,zlr,reduceIte,reduceCtorEq,zpa,zpb,zpc,zpd,zpe,zpf,zpg,zph,zpi,zpj,zpk,zpl,zpm,zpn,zpo,zpp, g1, w1, g2]; rfl) (Zc rfl rfl (fun h => by cases h) (fun _ => ?_))
    exact Za rfl ⟨⟨c1, hc1, hb1, rfl⟩, rfl, rfl⟩
   have g2 : ((I : Int) < ((bs.length : Nat) : Int) - 8) = True := eq_true (by omega)
   have x4 : IntKind.i64.wrap ((I : Int) + 4) = ((I + 4 : Nat) : Int) := wrap_i64_nat (n := I + 4) (by omega)
   have x12 : IntKind.i64.wrap ((I : Int) + 12) = ((I + 12 : Nat) : Int) := wrap_i64_nat (n := I + 12) (by omega)
   have x16 : IntKind.i64.wrap ((I : Int) + 16) = ((I + 16 : Nat) : Int) := wrap_i64_nat (n := I + 16) (by omega)
   have b1 : ((0 : Int) ≤ (I : Int)) = True := eq_true (by omega)
   have b2 : ((I : Int) ≤ ((I + 4 : Nat) : Int)) = True := eq_true (by omega)
   have b3 : (((I + 4 : Nat) : Int) ≤ ((bs.length : Nat) : Int)) = True := eq_true (by omega)
   have b4 : (((I + 4 : Nat) : Int) - (I : Int)).toNat = 4 := by omega
   have b5 : (I + 4 ≤ bs.length) = True := eq_true (by omega)
   have db : ∀ a m, ∀ b ∈ (c1.drop a).take m, b < 256 := fun a m b h => hb1 b (List.mem_of_mem_drop (List.mem_of_mem_take h))
   have NB := number_G (bs := (c1.drop I).take 4) (db I 4) (by rw [List.length_take]; omega)
   have b6 := take4_lt (b := c1.drop I) fun b h => hb1 b (List.mem_of_mem_drop h)
   have v6 : IntKind.i64.wrap ((leN ((c1.drop I).take 4) : Nat) : Int) = ((leN ((c1.drop I).take 4) : Nat) : Int) := wrap_i64_nat (by omega)
   refine Zr rfl (by simp (maxSteps := 2000000) only [gs,zlr,reduceIte,reduceCtorEq,zpa,zpb,zpc,zpd,zpe,zpf,zpg,zph,zpi,zpj,zpk,zpl,zpm,zpn,zpo,zpp, g1, w1, g2]; rfl) (Zc rfl rfl (fun _ => ?_) (fun h => by cases h))
   refine Zr rfl (by simp (maxSteps := 2000000) only [gs,zlr,reduceIte,reduceCtorEq,zpa,zpb,zpc,zpd,zpe,zpf,zpg,zph,zpi,zpj,zpk,zpl,zpm,zpn,zpo,zpp, x4, b1, b2, b3, b4, Int.toNat_natCast, els, List.getElem?_cons_zero, hc1, un_length, Nat.zero_add, Nat.le_refl, b5, un_drop, un_take, rfLL_un, snapLL_un, gc_archipelagoref1_Number, NB, v6]; rfl) ?_
   generalize leN ((c1.drop I).take 4) = v at b6
   have y1 : IntKind.i64.wrap ((q : Int) - (A : Int)) = ((q - A : Nat) : Int) := by rw [wrap_i64 (by omega) (by omega)]; omega
   by_cases hv : v ≤ q - A
   case neg =>
    have g3 : ((v : Int) > ((q - A : Nat) : Int)) = True := eq_true (by omega)
    refine Zr rfl (by simp (maxSteps := 2000000) only [gs,zlr,reduceIte,reduceCtorEq,zpa,zpb,zpc,zpd,zpe,zpf,zpg,zph,zpi,zpj,zpk,zpl,zpm,zpn,zpo,zpp, y1, g3]; rfl) (Zc rfl rfl (fun _ => ?_) (fun h => by cases h))
    exact Za rfl ⟨⟨c1, hc1, hb1, rfl⟩, rfl, rfl⟩
   have g3 : ((v : Int) > ((q - A : Nat) : Int)) = False := eq_false (by omega)
   have y2 : IntKind.i64.wrap ((A : Int) + (v : Int)) = ((A + v : Nat) : Int) := by rw [show (A : Int) + (v : Int) = ((A + v : Nat) : Int) by omega]; exact wrap_i64_nat (by omega)
   have e1 : ((0 : Int) ≤ (A : Int)) = True := eq_true (by omega)
   have e2 : ((A : Int) ≤ ((A + v : Nat) : Int)) = True := eq_true (by omega)
   have e3 : (((A + v : Nat) : Int) ≤ ((bs.length : Nat) : Int)) = True := eq_true (by omega)
   have e4 : (((A + v : Nat) : Int) - (A : Int)).toNat = v := by omega
   have e5 : (A + v ≤ bs.length) = True := eq_true (by omega)
   have f1 : ((0 : Int) ≤ ((I + 12 : Nat) : Int)) = True := eq_true (by omega)
   have f2 : (((I + 12 : Nat) : Int) ≤ ((I + 16 : Nat) : Int)) = True := eq_true (by omega)
   have f3 : (((I + 16 : Nat) : Int) ≤ ((bs.length : Nat) : Int)) = True := eq_true (by omega)
   have f4 : (((I + 16 : Nat) : Int) - ((I + 12 : Nat) : Int)).toNat = 4 := by omega
   have f5 : (I + 12 + 4 ≤ bs.length) = True := eq_true (by omega)
   have RS := rsum_G (db A v) (by rw [List.length_take, List.length_drop]; omega)
   have hs := crcSum_lt (db A v)
   have FX : GF gtab fid_archipelagoref1_Fixed [.int .u64 (crcSum ((c1.drop A).take v) : Nat), .int .i64 4] [] 0 = some (.own 1 (un .u8 (leB 4 (crcSum ((c1.drop A).take v)))), []) := fixed_G (n := 4) (by omega) (by omega) (by omega)
   refine Zr rfl (by simp (maxSteps := 2000000) only [gs,zlr,reduceIte,reduceCtorEq,zpa,zpb,zpc,zpd,zpe,zpf,zpg,zph,zpi,zpj,zpk,zpl,zpm,zpn,zpo,zpp, y1, g3]; rfl) (Zc rfl rfl (fun h => by cases h) (fun _ => ?_))
   refine Zd rfl (by simp (maxSteps := 2000000) only [gs,gd,zlr,id,reduceIte,reduceCtorEq,zpa,zpb,zpc,zpd,zpe,zpf,zpg,zph,zpi,zpj,zpk,zpl,zpm,zpn,zpo,zpp, x12, x16, y2, e1, e2, e3, e4, e5, f1, f2, f3, f4, f5, Int.toNat_natCast, els, List.getElem?_cons_zero, hc1, un_length, Nat.zero_add, Nat.le_refl, un_drop, un_take, rfLL_un, snapLL_un, gc_archipelagoref1_Sum, iq_archipelagoref1_Sum, RS, conv_u64 hs, gc_archipelagoref1_Fixed, iq_archipelagoref1_Fixed, FX, leB_length, Nat.min_self, t4, un_append, put4_eq]; rfl) ?_
   refine Zr rfl (by simp (maxSteps := 2000000) only [gs,zlr,reduceIte,reduceCtorEq,zpa,zpb,zpc,zpd,zpe,zpf,zpg,zph,zpi,zpj,zpk,zpl,zpm,zpn,zpo,zpp, y2]; rfl) ?_
   refine Zr rfl (by simp (maxSteps := 2000000) only [gs,zlr,reduceIte,reduceCtorEq,zpa,zpb,zpc,zpd,zpe,zpf,zpg,zph,zpi,zpj,zpk,zpl,zpm,zpn,zpo,zpp, x16]; rfl) ?_
   refine Za rfl ⟨m - 1, by omega, j + 1, A + v, by omega, ⟨_, ?_, ?_, rfl⟩, by omega, by omega, rfl, rfl, rfl, ?_⟩
   ·rw [put4_length (by omega), hc1]
   ·exact put4_lt hb1
   ·show U.int .i64 ((I + 16 : Nat) : Int) = _
    rw [hI, show q + 16 * j + 16 = q + 16 * (j + 1) by omega]
  rintro env h ⟨⟨c1, hc1, hb1, rfl⟩, k3, k6⟩
  by_cases hf : fr < 24
  ·have g1 : (fr ≥ 24) = False := eq_false (by omega)
   refine Zr rfl (by simp (maxSteps := 2000000) only [gs,zlr,reduceIte,reduceCtorEq,zpa,zpb,zpc,zpd,zpe,zpf,zpg,zph,zpi,zpj,zpk,zpl,zpm,zpn,zpo,zpp, k6, g1]; rfl) (Zc rfl rfl (fun h => by cases h) (fun _ => ?_))
   refine Zr rfl (by simp (maxSteps := 2000000) only [gs,zlr,reduceIte,reduceCtorEq,zpa,zpb,zpc,zpd,zpe,zpf,zpg,zph,zpi,zpj,zpk,zpl,zpm,zpn,zpo,zpp, k3]; rfl) (Zq rfl ⟨_, rfl, ?_⟩)
   simp only [gfin, outs, U.out, U.handed, U.share, U.rf, hfin c1 _ hc1, GEnv.get, if_true, Nat.reduceEqDiff, if_false, rfLL_un, Option.map_some]
   exact ⟨_, _, rfl, rfl, c1, .inr (.inr rfl), hb1, by omega⟩
  obtain ⟨q, rfl⟩ : ∃ q : Nat, fr = (q : Int) := ⟨fr.toNat, by omega⟩
  have g1 : ((q : Int) ≥ 24) = True := eq_true (by omega)
  have z1 : IntKind.i64.wrap (((bs.length : Nat) : Int) - 4) = ((bs.length - 4 : Nat) : Int) := by rw [wrap_i64 (by omega) (by omega)]; omega
  have e1 : ((0 : Int) ≤ (q : Int)) = True := eq_true (by omega)
  have e2 : ((q : Int) ≤ ((bs.length - 4 : Nat) : Int)) = True := eq_true (by omega)
  have e3 : (((bs.length - 4 : Nat) : Int) ≤ ((bs.length : Nat) : Int)) = True := eq_true (by omega)
  have e4 : (((bs.length - 4 : Nat) : Int) - (q : Int)).toNat = bs.length - 4 - q := by omega
  have e5 : (q + (bs.length - 4 - q) ≤ bs.length) = True := eq_true (by omega)
  have f1 : ((0 : Int) ≤ ((bs.length - 4 : Nat) : Int)) = True := eq_true (by omega)
  have f3 : (((bs.length : Nat) : Int) ≤ ((bs.length : Nat) : Int)) = True := eq_true (by omega)
  have f4 : (((bs.length : Nat) : Int) - ((bs.length - 4 : Nat) : Int)).toNat = 4 := by omega
  have f5 : (bs.length - 4 + 4 ≤ bs.length) = True := eq_true (by omega)
  have db : ∀ a m, ∀ b ∈ (c1.drop a).take m, b < 256 := fun a m b h => hb1 b (List.mem_of_mem_drop (List.mem_of_mem_take h))
  have RS := rsum_G (db q (bs.length - 4 - q)) (by rw [List.length_take, List.length_drop]; omega)
  have hs := crcSum_lt (db q (bs.length - 4 - q))
  have FX : GF gtab fid_archipelagoref1_Fixed [.int .u64 (crcSum ((c1.drop q).take (bs.length - 4 - q)) : Nat), .int .i64 4] [] 0 = some (.own 1 (un .u8 (leB 4 (crcSum ((c1.drop q).take (bs.length - 4 - q))))), []) := fixed_G (n := 4) (by omega) (by omega) (by omega)
  refine Zr rfl (by simp (maxSteps := 2000000) only [gs,zlr,reduceIte,reduceCtorEq,zpa,zpb,zpc,zpd,zpe,zpf,zpg,zph,zpi,zpj,zpk,zpl,zpm,zpn,zpo,zpp, k6, g1]; rfl) (Zc rfl rfl (fun _ => ?_) (fun h => by cases h))
  refine Zd rfl (by simp (maxSteps := 2000000) only [gs,gd,zlr,id,reduceIte,reduceCtorEq,zpa,zpb,zpc,zpd,zpe,zpf,zpg,zph,zpi,zpj,zpk,zpl,zpm,zpn,zpo,zpp, k3, k6, z1, e1, e2, e3, e4, e5, f1, f3, f4, f5, Int.toNat_natCast, els, List.getElem?_cons_zero, hc1, un_length, Nat.zero_add, Nat.le_refl, un_drop, un_take, rfLL_un, snapLL_un, gc_archipelagoref1_Sum, iq_archipelagoref1_Sum, RS, conv_u64 hs, gc_archipelagoref1_Fixed, iq_archipelagoref1_Fixed, FX, leB_length, Nat.min_self, t4, un_append, put4_eq]; rfl) ?_
  refine Zr rfl (by simp (maxSteps := 2000000) only [gs,zlr,reduceIte,reduceCtorEq,zpa,zpb,zpc,zpd,zpe,zpf,zpg,zph,zpi,zpj,zpk,zpl,zpm,zpn,zpo,zpp, k3]; rfl) (Zq rfl ⟨_, rfl, ?_⟩)
  have hpl : (put4 c1 (bs.length - 4) (crcSum ((c1.drop q).take (bs.length - 4 - q)))).length = bs.length := by rw [put4_length (by omega), hc1]
  simp only [gfin, outs, U.out, U.handed, U.share, U.rf, hfin _ _ hpl, GEnv.get, if_true, Nat.reduceEqDiff, if_false, rfLL_un, Option.map_some]
  exact ⟨_, _, rfl, rfl, _, .inr (.inr rfl), put4_lt hb1, by omega⟩
 obtain ⟨u, h', h1, rfl, l, h2, h3, h4⟩ := key
 exact ⟨u, l, h1, h2, h3, h4⟩
theorem mendN_G : GF gtab fid_archipelagoseat_Mend [.nils] [] 0 = some (.nils, []) := GF_run 60 (by kernel_rfl)
theorem blocks_both (n : Nat) (k c : Int) : ∃ bl : Nat, bl ≤ 4294967296 ∧ GF gtab fid_head_Blocks [hd n k c] [] 0 = some (.int .i64 (bl : Int), []) ∧ GF gtab fid_archipelagoref18_Blocks [hd n k c] [] 0 = some (.int .i64 (bl : Int), []) := by
 by_cases h : headOk n k c
 ·obtain ⟨h1, h2, h3, h4, h5⟩ := h
  obtain ⟨K, rfl⟩ : ∃ q : Nat, k = (q : Int) := ⟨k.toNat, by omega⟩
  obtain ⟨C, rfl⟩ : ∃ q : Nat, c = (q : Int) := ⟨c.toNat, by omega⟩
  exact ⟨(C + K - 1) / K, Nat.le_trans (Nat.div_le_self _ _) (by omega), hblocks_G ⟨h1, h2, h3, h4, h5⟩, rhblocks_G ⟨h1, h2, h3, h4, h5⟩⟩
 ·exact ⟨0, by omega, hblocksNo_G h, rhblocksNo_G h⟩
def isBw (w : U) (bs : List Nat) : Prop := w = .list false 1 (un .u8 bs) ∨ (w = .nils ∧ bs = [])
theorem read_both {w : U} {bs : List Nat} (hw : isBw w bs) (hb : ∀ b ∈ bs, b < 256) (hl : bs.length ≤ 10000) (n : Nat) (k c : Int) :
  ∃ (p q : U) (e : Int) (R : List Row3), GF gtab fid_index_Read [w, .agg [.int .u64 n, .int .i64 k, .int .i64 c]] [] 0 = some (.tup [p, .int .i64 e], []) ∧ GF gtab fid_archipelagoref18_RowsRead [w, .agg [.int .u64 n, .int .i64 k, .int .i64 c]] [] 0 = some (.tup [q, .int .i64 e], []) ∧
   isRw p R ∧ isRw q R ∧ R.length ≤ 1099511627776 := by
 obtain ⟨bl, hbl, B1, B2⟩ := blocks_both n k c
 rcases hw with rfl | ⟨rfl, rfl⟩
 ·obtain ⟨v, hv, V⟩ := iread_G B1 hbl hb hl
  obtain ⟨u, hu, W⟩ := rread_G B2 hbl hb hl
  have hR : ∀ R, rdIx bs bl = .ok R → R.length ≤ 1099511627776 := fun R h => by
   unfold rdIx at h
   repeat' split at h
   all_goals cases h
   rw [rowsOf_length]; omega
  cases hr : rdIx bs bl with
  | bad e =>
   rw [hr] at hv hu
   have hv : v = .tup [.nils, .int .i64 e] := hv
   have hu : u = .tup [.nils, .int .i64 e] := hu
   subst hv; subst hu
   exact ⟨.nils, .nils, e, [], V, W, .inr ⟨rfl, rfl⟩, .inr ⟨rfl, rfl⟩, by simp⟩
  | ok R =>
   have h9 := hR R hr
   rw [hr] at hv hu
   obtain ⟨p, hp, rfl⟩ := hv
   obtain ⟨q, hq, rfl⟩ := hu
   exact ⟨p, q, 0, R, V, W, hp, hq, h9⟩
 ·exact ⟨.nils, .nils, 20, [], iread_short B1 hbl (by simp; omega) (.inr ⟨rfl, rfl⟩), rread_short B2 hbl (by simp; omega) (.inr ⟨rfl, rfl⟩), .inr ⟨rfl, rfl⟩, .inr ⟨rfl, rfl⟩, by simp⟩
theorem u64_nat (x : Int) : ∃ a : Nat, a < 18446744073709551616 ∧ IntKind.u64.wrap x = (a : Int) := by
 have h : 0 ≤ IntKind.u64.wrap x ∧ IntKind.u64.wrap x < 18446744073709551616 := by
  simp only [IntKind.wrap, show (2 : Int) ^ IntKind.u64.bits = 18446744073709551616 from rfl, show IntKind.u64.signed = false from rfl, Bool.false_and, Bool.false_eq_true, if_false]
  omega
 exact ⟨(IntKind.u64.wrap x).toNat, by omega, by omega⟩
def uh (l : List (Nat × Int × Int)) : List (List U) := l.map fun r => [.int .u64 r.1, .int .i64 r.2.1, .int .i64 r.2.2]
theorem uh_get {l : List (Nat × Int × Int)} {i : Nat} {r : Nat × Int × Int} (h : l[i]? = some r) : (uh l)[i]? = some [.int .u64 r.1, .int .i64 r.2.1, .int .i64 r.2.2] := by simp [uh, h]
theorem uh_length (l : List (Nat × Int × Int)) : (uh l).length = l.length := by simp [uh]
end Go.Ab
