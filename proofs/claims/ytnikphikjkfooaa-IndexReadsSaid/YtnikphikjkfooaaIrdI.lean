/- IdxM. -/
import Derived.Test.YtnikphikjkfooaaIrdH
import Derived.Test.YtnikphikjkfooaaArgA
import Derived.Test.YtnikphikjkfooaaValN
namespace Go.Ab
open Go
open Nat renaming reduceEqDiff → zpa, reduceLT → zpb, reduceAdd → zpc, reduceSub → zpd, reduceLeDiff → zpe, reduceMul → zpf
open Int renaming reduceToNat → zpg, reduceLT → zph, reduceLE → zpi, reduceEq → zpj, reduceNe → zpk, reduceBEq → zpl, reduceBNe → zpm, reduceAdd → zpn, reduceSub → zpo, reduceNeg → zpp
open List renaming replicate → zlr
set_option linter.unusedVariables false
set_option linter.unusedSimpArgs false
set_option maxRecDepth 10000
def IrA (raw more : List Nat) (how at' c : Nat) (mend : Bool) (env : GEnv) : Prop := GEnv.get env 0 = .list false 1 (un .u8 raw) ∧ GEnv.get env 3 = .int .u8 (how : Int) ∧ GEnv.get env 4 = .int .u16 (at' : Int) ∧ GEnv.get env 5 = .int .u8 (c : Int) ∧ GEnv.get env 6 = .list false 1 (un .u8 more) ∧ GEnv.get env 10 = .bool mend ∧ GEnv.get env 13 = .ptr 0 0 0 0
def IrB (what wh : Nat) (v : Int) (env : GEnv) : Prop := GEnv.get env 7 = .int .u8 (what : Int) ∧ GEnv.get env 8 = .int .u8 (wh : Int) ∧ GEnv.get env 9 = .int .i64 v
def isR4 (u : U) (R : List Row3) : Prop := (u = .nils ∧ R = []) ∨ (R ≠ [] ∧ (u = .own 3 (ur R) ∨ u = .list false 3 (ur R)))
def isRz (u : U) (R : List Row3) : Prop := (u = .nils ∧ R = []) ∨ (R ≠ [] ∧ u = .list false 3 (ur R))
theorem isRz.rw {u : U} {R : List Row3} (h : isRz u R) : isRw u R := by
 rcases h with ⟨h, h0⟩ | ⟨_, h⟩
 ·exact .inr ⟨h, h0⟩
 ·exact .inl h
def IrH (b0 b1 : GObj) (h : GH) : Prop := h[0]? = some b0 ∧ h[1]? = some b1 ∧ 2 ≤ h.length
theorem IrH.app {b0 b1 x : GObj} {h : GH} (k : IrH b0 b1 h) : IrH b0 b1 (h ++ [x]) := by
 obtain ⟨k0, k1, k3⟩ := k
 refine ⟨?_, ?_, by simp; omega⟩
 ·rw [List.getElem?_append_left (by omega)]; exact k0
 ·rw [List.getElem?_append_left (by omega)]; exact k1
def IrC (R R1 : List Row3) (xs : List U) (i : Nat) (env : GEnv) : Prop := isRz (GEnv.get env 23) R ∧ GEnv.get env 13 = .ptr 0 0 0 0 ∧ GEnv.get env 26 = .ptr 1 0 0 0 ∧ GEnv.get env 31 = .list false 3 (ur R1) ∧ GEnv.get env 164 = .own 1 (rowU xs) ∧ GEnv.get env 165 = .int .i64 4 ∧ GEnv.get env 166 = .int .i64 (i : Int)
def IrD (hs : List (Nat × Int × Int)) (x : U) (j : Nat) (env : GEnv) : Prop := GEnv.get env 37 = x ∧ GEnv.get env 182 = .own 3 (uh hs) ∧ GEnv.get env 183 = .int .i64 5 ∧ GEnv.get env 184 = .int .i64 (j : Int)
set_option maxHeartbeats 16000000 in
theorem indexReads_G {raw more l : List Nat} {hn how at' c what wh : Nat} {hk hc v : Int} {mend : Bool} (hraw : ∀ x ∈ raw, x < 256) (hmore : ∀ x ∈ more, x < 256) (hl : ∀ x ∈ l, x < 65536) (hhow : how < 256) (ha : at' < 65536) (hcc : c < 256) (hwh : wh < 256) :
  GF gtab fid_archipelagolaw19_IndexReads [.list false 1 (un .u8 raw), .list false 1 (un .u16 l), .agg [.int .u64 (hn : Int), .int .i64 hk, .int .i64 hc], .int .u8 (how : Int), .int .u16 (at' : Int), .int .u8 (c : Int), .list false 1 (un .u8 more), .int .u8 (what : Int), .int .u8 (wh : Int), .int .i64 v, .bool mend] [] 0 = some (.bool true, []) := by
 refine fn_archipelagolaw19_IndexReads rfl ?_
 simp only [genvOf]
 refine Zr rfl (by simp (maxSteps := 2000000) only [gs,zlr,reduceIte,reduceCtorEq,zpa,zpb,zpc,zpd,zpe,zpf,zpg,zph,zpi,zpj,zpk,zpl,zpm,zpn,zpo,zpp]; rfl) ?_
 refine Zr rfl (by simp (maxSteps := 2000000) only [gs,zlr,reduceIte,reduceCtorEq,zpa,zpb,zpc,zpd,zpe,zpf,zpg,zph,zpi,zpj,zpk,zpl,zpm,zpn,zpo,zpp, gc_archipelagolaw19_known, index_known2]; rfl) (Zc rfl rfl (fun h => by cases h) (fun _ => ?_))
 by_cases a0 : raw.length ≤ 100
 case neg =>
  have g0 : ((raw.length : Int) > 100) = True := eq_true (by omega)
  refine Zr rfl (by simp (maxSteps := 2000000) only [gs,zlr,reduceIte,reduceCtorEq,zpa,zpb,zpc,zpd,zpe,zpf,zpg,zph,zpi,zpj,zpk,zpl,zpm,zpn,zpo,zpp, un_length, g0, decide_true]; rfl) (Zc rfl rfl (fun _ => ?_) (fun h => by cases h))
  exact Zr rfl (by simp (maxSteps := 2000000) only [gs,zlr,reduceIte,reduceCtorEq,zpa,zpb,zpc,zpd,zpe,zpf,zpg,zph,zpi,zpj,zpk,zpl,zpm,zpn,zpo,zpp]; rfl) (Zq rfl ⟨_, rfl, rfl⟩)
 have g0 : ((raw.length : Int) > 100) = False := eq_false (by omega)
 by_cases a1 : l.length ≤ 12
 case neg =>
  have g1 : ((l.length : Int) > 12) = True := eq_true (by omega)
  refine Zr rfl (by simp (maxSteps := 2000000) only [gs,zlr,reduceIte,reduceCtorEq,zpa,zpb,zpc,zpd,zpe,zpf,zpg,zph,zpi,zpj,zpk,zpl,zpm,zpn,zpo,zpp, un_length, g0, g1, decide_true, decide_false]; rfl) (Zc rfl rfl (fun _ => ?_) (fun h => by cases h))
  exact Zr rfl (by simp (maxSteps := 2000000) only [gs,zlr,reduceIte,reduceCtorEq,zpa,zpb,zpc,zpd,zpe,zpf,zpg,zph,zpi,zpj,zpk,zpl,zpm,zpn,zpo,zpp]; rfl) (Zq rfl ⟨_, rfl, rfl⟩)
 have g1 : ((l.length : Int) > 12) = False := eq_false (by omega)
 by_cases a2 : more.length ≤ 20
 case neg =>
  have g2 : ((more.length : Int) > 20) = True := eq_true (by omega)
  refine Zr rfl (by simp (maxSteps := 2000000) only [gs,zlr,reduceIte,reduceCtorEq,zpa,zpb,zpc,zpd,zpe,zpf,zpg,zph,zpi,zpj,zpk,zpl,zpm,zpn,zpo,zpp, un_length, g0, g1, g2, decide_true, decide_false]; rfl) (Zc rfl rfl (fun _ => ?_) (fun h => by cases h))
  exact Zr rfl (by simp (maxSteps := 2000000) only [gs,zlr,reduceIte,reduceCtorEq,zpa,zpb,zpc,zpd,zpe,zpf,zpg,zph,zpi,zpj,zpk,zpl,zpm,zpn,zpo,zpp]; rfl) (Zq rfl ⟨_, rfl, rfl⟩)
 have g2 : ((more.length : Int) > 20) = False := eq_false (by omega)
 have RW := rows_G hl (show l.length ≤ 60 by omega)
 have hof := rowsL_off l
 obtain ⟨R, hR⟩ : ∃ R, R = rowsL l l.length := ⟨_, rfl⟩
 have hRs : SumsOk R := by rw [hR]; exact rowsL_sums l
 have hRl : R.length = l.length := by rw [hR, rowsL_length]
 have hRo : RowsOk R := by rw [hR]; exact rowsL_ok (by omega)
 rw [← hR] at RW hof
 rw [← hRl] at hof a1
 obtain ⟨w0, hw0⟩ : ∃ w, w = (if l = [] then U.nils else .own 3 (ur R)) := ⟨_, rfl⟩
 rw [← hw0] at RW
 have hw : isR4 w0 R := by
  by_cases h : l = []
  ·rw [if_pos h] at hw0; exact .inl ⟨hw0, by rw [hR, h]; rfl⟩
  ·rw [if_neg h] at hw0; exact .inr ⟨fun h2 => h (List.eq_nil_of_length_eq_zero (by rw [← hRl, h2]; rfl)), .inl hw0⟩
 clear hw0
 refine Zr rfl (by simp (maxSteps := 2000000) only [gs,zlr,reduceIte,reduceCtorEq,zpa,zpb,zpc,zpd,zpe,zpf,zpg,zph,zpi,zpj,zpk,zpl,zpm,zpn,zpo,zpp, un_length, g0, g1, g2, decide_false]; rfl) (Zc rfl rfl (fun h => by cases h) (fun _ => ?_))
 refine Z_nrm 2 (Zj1 (fun env h => h = [.box [.int .u64 (hn : Int), .int .i64 hk, .int .i64 hc]] ∧ isR4 (GEnv.get env 23) R ∧ IrA raw more how at' c mend env ∧ IrB what wh v env) ?_ ?_)
 ·rcases hw with ⟨rfl, h0⟩ | ⟨h0, rfl | rfl⟩
  ·refine Zr rfl (by simp (maxSteps := 2000000) only [gs,zlr,reduceIte,reduceCtorEq,zpa,zpb,zpc,zpd,zpe,zpf,zpg,zph,zpi,zpj,zpk,zpl,zpm,zpn,zpo,zpp, snapLL_un, gc_archipelagolaw19_rows, RW]; rfl) ?_
   exact Za rfl ⟨rfl, .inl ⟨rfl, h0⟩, ⟨rfl, rfl, rfl, rfl, rfl, rfl, rfl⟩, rfl, rfl, rfl⟩
  ·refine Zr rfl (by simp (maxSteps := 2000000) only [gs,zlr,reduceIte,reduceCtorEq,zpa,zpb,zpc,zpd,zpe,zpf,zpg,zph,zpi,zpj,zpk,zpl,zpm,zpn,zpo,zpp, snapLL_un, gc_archipelagolaw19_rows, RW]; rfl) ?_
   exact Za rfl ⟨rfl, .inr ⟨h0, .inl rfl⟩, ⟨rfl, rfl, rfl, rfl, rfl, rfl, rfl⟩, rfl, rfl, rfl⟩
  ·refine Zr rfl (by simp (maxSteps := 2000000) only [gs,zlr,reduceIte,reduceCtorEq,zpa,zpb,zpc,zpd,zpe,zpf,zpg,zph,zpi,zpj,zpk,zpl,zpm,zpn,zpo,zpp, snapLL_un, gc_archipelagolaw19_rows, RW]; rfl) ?_
   exact Za rfl ⟨rfl, .inr ⟨h0, .inr rfl⟩, ⟨rfl, rfl, rfl, rfl, rfl, rfl, rfl⟩, rfl, rfl, rfl⟩
 clear RW hw
 rintro env h ⟨rfl, hw, ⟨k0, k3, k4, k5, k6, k10, k13⟩, k7, k8, k9⟩
 refine Zr rfl (by simp (maxSteps := 2000000) only [gs,zlr,reduceIte,reduceCtorEq,zpa,zpb,zpc,zpd,zpe,zpf,zpg,zph,zpi,zpj,zpk,zpl,zpm,zpn,zpo,zpp]; rfl) ?_
 refine Z_nrm 1 (Zj1 (fun env h => h = [.box [.int .u64 (hn : Int), .int .i64 hk, .int .i64 hc]] ∧ isRz (GEnv.get env 23) R ∧ IrA raw more how at' c mend env ∧ IrB what wh v env ∧ GEnv.get env 24 = .int .i64 (offS R R.length - 24)) ?_ ?_)
 ·refine Zr rfl (by simp (maxSteps := 2000000) only [gs,zlr,reduceIte,reduceCtorEq,zpa,zpb,zpc,zpd,zpe,zpf,zpg,zph,zpi,zpj,zpk,zpl,zpm,zpn,zpo,zpp]; rfl) ?_
  refine Zw rfl (fun n env h => h = [.box [.int .u64 (hn : Int), .int .i64 hk, .int .i64 hc]] ∧ ∃ i : Nat, n + i = R.length ∧ isR4 (GEnv.get env 23) R ∧ IrA raw more how at' c mend env ∧ IrB what wh v env ∧ GEnv.get env 24 = .int .i64 (offS R i - 24) ∧ GEnv.get env 25 = .int .i64 (i : Int)) R.length ⟨rfl, 0, by omega, hw, ⟨k0, k3, k4, k5, k6, k10, k13⟩, ⟨k7, k8, k9⟩, rfl, rfl⟩ ?_
  clear hw k0 k3 k4 k5 k6 k7 k8 k9 k10 k13
  rintro n env h ⟨rfl, i, hn', hw, ⟨k0, k3, k4, k5, k6, k10, k13⟩, ⟨k7, k8, k9⟩, k24, k25⟩
  simp only [GEnv.keep, k0, k3, k4, k5, k6, k10, k13, k7, k8, k9, k24, k25]
  generalize GEnv.get env 23 = s7 at hw ⊢
  by_cases hi : i < R.length
  ·have g0 : ((i : Int) < ((R.length : Nat) : Int)) = True := eq_true (by omega)
   have n0 : ((0 : Int) ≤ (i : Int)) = True := eq_true (by omega)
   have gx : R[i]? = some (R[i]'hi) := List.getElem?_eq_getElem _
   have hd0 : (R.getD i (0, 0, 0)) = R[i]'hi := by rw [List.getD_eq_getElem?_getD, gx]; rfl
   generalize R[i]'hi = r at gx hd0
   have o1 := hof i (by omega)
   have o2 := hof (i + 1) (by omega)
   have hoff : offS R (i + 1) = offS R i + r.1 := by rw [offS, hd0]
   have w7 : IntKind.i64.wrap (offS R i - 24 + r.1) = offS R (i + 1) - 24 := by rw [hoff, wrap_i64 (by omega) (by omega)]; omega
   have w8 : IntKind.i64.wrap ((i : Int) + 1) = ((i + 1 : Nat) : Int) := wrap_i64_nat (n := i + 1) (by omega)
   rcases hw with ⟨rfl, h0⟩ | ⟨h0, rfl | rfl⟩
   ·rw [h0] at hi; exact absurd hi (by simp)
   ·refine Zr rfl (by simp (maxSteps := 2000000) only [gs,zlr,reduceIte,reduceCtorEq,zpa,zpb,zpc,zpd,zpe,zpf,zpg,zph,zpi,zpj,zpk,zpl,zpm,zpn,zpo,zpp, ur_length, g0]; rfl) (Zc rfl rfl (fun _ => ?_) (fun h => by cases h))
    refine Zr rfl (by simp (maxSteps := 2000000) only [gs,zlr,reduceIte,reduceCtorEq,zpa,zpb,zpc,zpd,zpe,zpf,zpg,zph,zpi,zpj,zpk,zpl,zpm,zpn,zpo,zpp, n0, ur_get gx, Int.toNat_natCast, w7]; rfl) ?_
    refine Zr rfl (by simp (maxSteps := 2000000) only [gs,zlr,reduceIte,reduceCtorEq,zpa,zpb,zpc,zpd,zpe,zpf,zpg,zph,zpi,zpj,zpk,zpl,zpm,zpn,zpo,zpp, w8]; rfl) ?_
    exact Za rfl ⟨n - 1, by omega, rfl, i + 1, by omega, .inr ⟨h0, .inr rfl⟩, ⟨rfl, rfl, rfl, rfl, rfl, rfl, rfl⟩, ⟨rfl, rfl, rfl⟩, rfl, rfl⟩
   ·refine Zr rfl (by simp (maxSteps := 2000000) only [gs,zlr,reduceIte,reduceCtorEq,zpa,zpb,zpc,zpd,zpe,zpf,zpg,zph,zpi,zpj,zpk,zpl,zpm,zpn,zpo,zpp, ur_length, g0]; rfl) (Zc rfl rfl (fun _ => ?_) (fun h => by cases h))
    refine Zr rfl (by simp (maxSteps := 2000000) only [gs,zlr,reduceIte,reduceCtorEq,zpa,zpb,zpc,zpd,zpe,zpf,zpg,zph,zpi,zpj,zpk,zpl,zpm,zpn,zpo,zpp, n0, ur_get gx, Int.toNat_natCast, w7]; rfl) ?_
    refine Zr rfl (by simp (maxSteps := 2000000) only [gs,zlr,reduceIte,reduceCtorEq,zpa,zpb,zpc,zpd,zpe,zpf,zpg,zph,zpi,zpj,zpk,zpl,zpm,zpn,zpo,zpp, w8]; rfl) ?_
    exact Za rfl ⟨n - 1, by omega, rfl, i + 1, by omega, .inr ⟨h0, .inr rfl⟩, ⟨rfl, rfl, rfl, rfl, rfl, rfl, rfl⟩, ⟨rfl, rfl, rfl⟩, rfl, rfl⟩
  ·have hie : R.length = i := by omega
   subst hie
   have g0 : (((R.length : Nat) : Int) < ((R.length : Nat) : Int)) = False := eq_false (by omega)
   rcases hw with ⟨rfl, h0⟩ | ⟨h0, rfl | rfl⟩
   ·have g00 : (((R.length : Nat) : Int) < 0) = False := eq_false (by omega)
    refine Zr rfl (by simp (maxSteps := 2000000) only [gs,zlr,reduceIte,reduceCtorEq,zpa,zpb,zpc,zpd,zpe,zpf,zpg,zph,zpi,zpj,zpk,zpl,zpm,zpn,zpo,zpp, g00]; rfl) (Zc rfl rfl (fun h => by cases h) (fun _ => ?_))
    exact Za rfl ⟨rfl, .inl ⟨rfl, h0⟩, ⟨rfl, rfl, rfl, rfl, rfl, rfl, rfl⟩, ⟨rfl, rfl, rfl⟩, rfl⟩
   ·refine Zr rfl (by simp (maxSteps := 2000000) only [gs,zlr,reduceIte,reduceCtorEq,zpa,zpb,zpc,zpd,zpe,zpf,zpg,zph,zpi,zpj,zpk,zpl,zpm,zpn,zpo,zpp, ur_length, g0]; rfl) (Zc rfl rfl (fun h => by cases h) (fun _ => ?_))
    exact Za rfl ⟨rfl, .inr ⟨h0, rfl⟩, ⟨rfl, rfl, rfl, rfl, rfl, rfl, rfl⟩, ⟨rfl, rfl, rfl⟩, rfl⟩
   ·refine Zr rfl (by simp (maxSteps := 2000000) only [gs,zlr,reduceIte,reduceCtorEq,zpa,zpb,zpc,zpd,zpe,zpf,zpg,zph,zpi,zpj,zpk,zpl,zpm,zpn,zpo,zpp, ur_length, g0]; rfl) (Zc rfl rfl (fun h => by cases h) (fun _ => ?_))
    exact Za rfl ⟨rfl, .inr ⟨h0, rfl⟩, ⟨rfl, rfl, rfl, rfl, rfl, rfl, rfl⟩, ⟨rfl, rfl, rfl⟩, rfl⟩
 clear hw k0 k3 k4 k5 k6 k7 k8 k9 k10 k13
 have oo := hof R.length (Nat.le_refl _)
 obtain ⟨z, hz⟩ : ∃ z : Nat, offS R R.length - 24 = (z : Int) := ⟨(offS R R.length - 24).toNat, by omega⟩
 rw [hz]
 obtain ⟨L, hL⟩ : ∃ L, L = R.length := ⟨_, rfl⟩
 have hz0 : R = [] → (0 : Int) = (L : Int) := fun h => by rw [hL, h]; rfl
 rintro env h ⟨rfl, hw, hA, hB, k24⟩
 obtain ⟨H, hH⟩ : ∃ H : GH, H = [.box [.int .u64 (hn : Int), .int .i64 hk, .int .i64 hc], .box [.int .u64 5, .int .i64 1, .int .i64 (L : Int)]] := ⟨_, rfl⟩
 refine Z_nrm 1 (Zj1 (fun env h => H = h ∧ isRz (GEnv.get env 23) R ∧ IrA raw more how at' c mend env ∧ IrB what wh v env ∧ GEnv.get env 24 = .int .i64 (z : Int) ∧ GEnv.get env 26 = .ptr 1 0 0 0) ?_ ?_)
 ·rcases hw with ⟨k23, h0⟩ | ⟨h0, k23⟩
  ·have h00 := hz0 h0
   refine Zr rfl (by simp (maxSteps := 2000000) only [gs,zlr,reduceIte,reduceCtorEq,zpa,zpb,zpc,zpd,zpe,zpf,zpg,zph,zpi,zpj,zpk,zpl,zpm,zpn,zpo,zpp, k23]; rfl) ?_
   rw [h00]
   exact Za rfl ⟨hH, .inl ⟨k23, h0⟩, hA, hB, k24, rfl⟩
  ·refine Zr rfl (by simp (maxSteps := 2000000) only [gs,zlr,reduceIte,reduceCtorEq,zpa,zpb,zpc,zpd,zpe,zpf,zpg,zph,zpi,zpj,zpk,zpl,zpm,zpn,zpo,zpp, k23, ur_length]; rfl) ?_
   rw [← hL]
   exact Za rfl ⟨hH, .inr ⟨h0, k23⟩, hA, hB, k24, rfl⟩
 clear hw hA hB k24
 rintro env h ⟨rfl, hw, hA, hB, k24, k26⟩
 have hLb : L ≤ 12 := by omega
 have hok : headOk ((5 : Nat) : Int) ((1 : Nat) : Int) (L : Int) := by unfold headOk; omega
 have PH : GF gtab fid_archipelagoref18_Put [.agg [.int .u64 5, .int .i64 1, .int .i64 (L : Int)]] [] 0 = some (.own 1 (un .u8 (headS 5 1 L)), []) := rhput_G (N := 5) (K := 1) (C := L) hok
 have hzb : z ≤ 600 := by omega
 have z0 : ((0 : Int) ≤ (z : Int)) = True := eq_true (by omega)
 have z1 : ((z : Int) * 1 ≤ (room : Int)) = True := eq_true (by unfold room; omega)
 have z2 : (24 + z ≤ room) = True := eq_true (by unfold room; omega)
 have hof2 : U.ofVs [V.int .u8 0] = [U.int .u8 0] := rfl
 obtain ⟨F, hF⟩ : ∃ F, F = headS 5 1 L ++ List.replicate z 0 := ⟨_, rfl⟩
 have hFl : F.length = 24 + z := by rw [hF, List.length_append, headS_length, List.length_replicate]
 have hFb : ∀ b ∈ F, b < 256 := fun b h => by
  rw [hF] at h
  rcases List.mem_append.1 h with h | h
  ·exact headS_lt _ _ _ b h
  ·have := List.eq_of_mem_replicate h; omega
 have hb1 : H[1]? = some (.box [.int .u64 5, .int .i64 1, .int .i64 (L : Int)]) := by rw [hH]; rfl
 have hb0 : H[0]? = some (.box [.int .u64 (hn : Int), .int .i64 hk, .int .i64 hc]) := by rw [hH]; rfl
 refine Zr rfl (by simp (maxSteps := 2000000) only [gs,zlr,reduceIte,reduceCtorEq,zpa,zpb,zpc,zpd,zpe,zpf,zpg,zph,zpi,zpj,zpk,zpl,zpm,zpn,zpo,zpp, k24, k26, hb1, gc_archipelagoref18_Put, PH, z0, z1, hof2, Int.toNat_natCast, un_zeros, un_length, headS_length, List.length_replicate, Nat.mul_one, z2, un_append]; rfl) ?_
 rw [← hF]
 have PT := rput_w (w := GEnv.get env 23) hw.rw (by omega) hRs
 rw [if_pos (okN_of hRo _ (Nat.le_refl _))] at PT
 refine Z_nrm 1 (Zj1 (fun env h => H = h ∧ isRz (GEnv.get env 23) R ∧ IrA raw more how at' c mend env ∧ IrB what wh v env ∧ GEnv.get env 26 = .ptr 1 0 0 0 ∧ GEnv.get env 27 = .own 1 (un .u8 F) ∧ GEnv.get env 28 = .own 1 (un .u8 (rowsS R))) ?_ ?_)
 ·rcases hw with ⟨k23, h0⟩ | ⟨h0, k23⟩
  ·rw [k23] at PT
   refine Zr rfl (by simp (maxSteps := 2000000) only [gs,zlr,reduceIte,reduceCtorEq,zpa,zpb,zpc,zpd,zpe,zpf,zpg,zph,zpi,zpj,zpk,zpl,zpm,zpn,zpo,zpp, k23, gc_archipelagoref18_RowsPut, PT]; rfl) ?_
   exact Za rfl ⟨rfl, .inl ⟨k23, h0⟩, hA, hB, k26, rfl, rfl⟩
  ·rw [k23] at PT
   refine Zr rfl (by simp (maxSteps := 2000000) only [gs,zlr,reduceIte,reduceCtorEq,zpa,zpb,zpc,zpd,zpe,zpf,zpg,zph,zpi,zpj,zpk,zpl,zpm,zpn,zpo,zpp, k23, snapLL_ur, gc_archipelagoref18_RowsPut, PT]; rfl) ?_
   exact Za rfl ⟨rfl, .inr ⟨h0, k23⟩, hA, hB, k26, rfl, rfl⟩
 clear hw hA hB k24 k26 PT
 rintro env h ⟨rfl, hw, hA, hB, k26, k27, k28⟩
 have hSl := rowsS_length R
 rw [← hL] at hSl
 obtain ⟨fl, hfl⟩ : ∃ fl, fl = F ++ rowsS R := ⟨_, rfl⟩
 have hfll : fl.length = 24 + z + (16 * L + 8) := by rw [hfl, List.length_append, hFl, hSl]
 have hflb : ∀ b ∈ fl, b < 256 := fun b h => by
  rw [hfl] at h
  rcases List.mem_append.1 h with h | h
  ·exact hFb b h
  ·exact rowsS_lt R b h
 have d1 : ((24 + z + (16 * L + 8)) ≤ room) = True := eq_true (by unfold room; omega)
 have d2 : ((0 : Int) ≤ ((24 + z : Nat) : Int)) = True := eq_true (by omega)
 have d3 : (((24 + z : Nat) : Int) ≤ ((24 + z : Nat) : Int)) = True := eq_true (by omega)
 have d5 : (0 < 24 + z) = True := eq_true (by omega)
 have d6 : (((24 + z : Nat) : Int) - 0).toNat = 24 + z := by omega
 have d4 : (un .u8 F).take (24 + z) = un .u8 F := List.take_of_length_le (by rw [un_length, hFl]; omega)
 refine Zr rfl (by simp (maxSteps := 2000000) only [gs,zlr,reduceIte,reduceCtorEq,zpa,zpb,zpc,zpd,zpe,zpf,zpg,zph,zpi,zpj,zpk,zpl,zpm,zpn,zpo,zpp, k27, k28, un_length, hFl, hSl, d1, d2, d3, d4, d5, d6, Nat.mul_one, un_append]; rfl) ?_
 rw [← hfl]
 obtain ⟨v63, hv63⟩ : ∃ x, bitsOf .and .i64 v 63 = some x := ⟨_, rfl⟩
 obtain ⟨u1, R1, B1, hu1, hl1, hs1⟩ := bent_R (w := GEnv.get env 23) (R := R) (what := what) (v := v63) (by rcases hw with ⟨k, h0⟩ | ⟨h0, k⟩; exact .inr ⟨k, h0⟩; exact .inl ⟨k, h0⟩) (by omega) hRs hwh
 refine Z_nrm 1 (Zj1 (fun env h => H = h ∧ isRz (GEnv.get env 23) R ∧ IrA raw more how at' c mend env ∧ GEnv.get env 26 = .ptr 1 0 0 0 ∧ GEnv.get env 27 = .list false 1 (un .u8 F) ∧ GEnv.get env 30 = .list false 1 (un .u8 fl) ∧ (GEnv.get env 31 = .own 3 (ur R1) ∨ GEnv.get env 31 = .list false 3 (ur R1))) ?_ ?_)
 ·obtain ⟨k7, k8, k9⟩ := hB
  rcases hw with ⟨k23, h0⟩ | ⟨h0, k23⟩
  ·rw [k23] at B1
   rcases hu1 with rfl | rfl
   ·refine Zr rfl (by simp (maxSteps := 2000000) only [gs,zlr,reduceIte,reduceCtorEq,zpa,zpb,zpc,zpd,zpe,zpf,zpg,zph,zpi,zpj,zpk,zpl,zpm,zpn,zpo,zpp, k23, k7, k8, k9, hv63, gc_archipelagolaw19_bent, B1]; rfl) ?_
    exact Za rfl ⟨rfl, .inl ⟨k23, h0⟩, hA, k26, rfl, rfl, .inr rfl⟩
   ·refine Zr rfl (by simp (maxSteps := 2000000) only [gs,zlr,reduceIte,reduceCtorEq,zpa,zpb,zpc,zpd,zpe,zpf,zpg,zph,zpi,zpj,zpk,zpl,zpm,zpn,zpo,zpp, k23, k7, k8, k9, hv63, gc_archipelagolaw19_bent, B1]; rfl) ?_
    exact Za rfl ⟨rfl, .inl ⟨k23, h0⟩, hA, k26, rfl, rfl, .inl rfl⟩
  ·rw [k23] at B1
   rcases hu1 with rfl | rfl
   ·refine Zr rfl (by simp (maxSteps := 2000000) only [gs,zlr,reduceIte,reduceCtorEq,zpa,zpb,zpc,zpd,zpe,zpf,zpg,zph,zpi,zpj,zpk,zpl,zpm,zpn,zpo,zpp, k23, k7, k8, k9, hv63, snapLL_ur, gc_archipelagolaw19_bent, B1]; rfl) ?_
    exact Za rfl ⟨rfl, .inr ⟨h0, k23⟩, hA, k26, rfl, rfl, .inr rfl⟩
   ·refine Zr rfl (by simp (maxSteps := 2000000) only [gs,zlr,reduceIte,reduceCtorEq,zpa,zpb,zpc,zpd,zpe,zpf,zpg,zph,zpi,zpj,zpk,zpl,zpm,zpn,zpo,zpp, k23, k7, k8, k9, hv63, snapLL_ur, gc_archipelagolaw19_bent, B1]; rfl) ?_
    exact Za rfl ⟨rfl, .inr ⟨h0, k23⟩, hA, k26, rfl, rfl, .inl rfl⟩
 clear hw hA hB k26 k27 k28 B1
 rintro env h ⟨rfl, hw, hA, k26, k27, k30, k31⟩
 refine Zr rfl (by simp (maxSteps := 2000000) only [gs,zlr,reduceIte,reduceCtorEq,zpa,zpb,zpc,zpd,zpe,zpf,zpg,zph,zpi,zpj,zpk,zpl,zpm,zpn,zpo,zpp, k27, un_length, hFl, Nat.mul_one, z2]; rfl) ?_
 refine Z_nrm 1 (Zj1 (fun env h => ∃ (O : List Nat), H = h ∧ (∀ x ∈ O, x < 256) ∧ O.length = 24 + z + 16 * R1.length ∧ isRz (GEnv.get env 23) R ∧ IrA raw more how at' c mend env ∧ GEnv.get env 26 = .ptr 1 0 0 0 ∧ GEnv.get env 30 = .list false 1 (un .u8 fl) ∧ GEnv.get env 31 = .list false 3 (ur R1) ∧ GEnv.get env 32 = .own 1 (un .u8 O)) ?_ ?_)
 ·obtain ⟨k0, k3, k4, k5, k6, k10, k13⟩ := hA
  refine Zr rfl (by simp (maxSteps := 2000000) only [gs,zlr,reduceIte,reduceCtorEq,zpa,zpb,zpc,zpd,zpe,zpf,zpg,zph,zpi,zpj,zpk,zpl,zpm,zpn,zpo,zpp]; rfl) ?_
  refine Zw rfl (fun n env h => ∃ (i : Nat) (O : List Nat), n + i = R1.length ∧ H = h ∧ (∀ x ∈ O, x < 256) ∧ O.length = 24 + z + 16 * i ∧ isRz (GEnv.get env 23) R ∧ IrA raw more how at' c mend env ∧ GEnv.get env 26 = .ptr 1 0 0 0 ∧ GEnv.get env 30 = .list false 1 (un .u8 fl) ∧ (GEnv.get env 31 = .own 3 (ur R1) ∨ GEnv.get env 31 = .list false 3 (ur R1)) ∧ GEnv.get env 32 = .own 1 (un .u8 O) ∧ GEnv.get env 33 = .int .i64 (i : Int)) R1.length ⟨0, F, by omega, rfl, hFb, by omega, hw, ⟨k0, k3, k4, k5, k6, k10, k13⟩, k26, k30, k31, rfl, rfl⟩ ?_
  clear hw k0 k3 k4 k5 k6 k10 k13 k26 k27 k30 k31
  rintro n env h ⟨i, O, hn', rfl, hOb, hOl, hw, ⟨k0, k3, k4, k5, k6, k10, k13⟩, k26, k30, k31, k32, k33⟩
  simp only [GEnv.keep, k0, k3, k4, k5, k6, k10, k13, k26, k30, k32, k33]
  generalize GEnv.get env 23 = s23 at hw ⊢
  generalize GEnv.get env 31 = s31 at k31 ⊢
  obtain ⟨M, hM⟩ : ∃ M, M = 24 + z + 16 * i := ⟨_, rfl⟩
  rw [← hM] at hOl
  by_cases hi : i < R1.length
  ·have g0 : ((i : Int) < ((R1.length : Nat) : Int)) = True := eq_true (by omega)
   have n0 : ((0 : Int) ≤ (i : Int)) = True := eq_true (by omega)
   have gx : R1[i]? = some (R1[i]'hi) := List.getElem?_eq_getElem _
   generalize R1[i]'hi = r at gx
   have w8 : IntKind.i64.wrap ((i : Int) + 1) = ((i + 1 : Nat) : Int) := wrap_i64_nat (n := i + 1) (by omega)
   obtain ⟨a, ha0, ea⟩ := u64_nat r.1
   obtain ⟨b, hb0', eb⟩ := u64_nat r.2.1
   obtain ⟨d, hd0, ed⟩ := u64_nat r.2.2
   have F1 : GF gtab fid_archipelagoref1_Fixed [.int .u64 (a : Nat), .int .i64 4] [] 0 = some (.own 1 (un .u8 (leB 4 a)), []) := fixed_G (n := 4) ha0 (by omega) (by omega)
   have F2 : GF gtab fid_archipelagoref1_Fixed [.int .u64 (b : Nat), .int .i64 8] [] 0 = some (.own 1 (un .u8 (leB 8 b)), []) := fixed_G (n := 8) hb0' (by omega) (by omega)
   have F3 : GF gtab fid_archipelagoref1_Fixed [.int .u64 (d : Nat), .int .i64 4] [] 0 = some (.own 1 (un .u8 (leB 4 d)), []) := fixed_G (n := 4) hd0 (by omega) (by omega)
   have r1 : (M + 4 ≤ room) = True := eq_true (by unfold room; omega)
   have r2 : (M + 4 + 8 ≤ room) = True := eq_true (by unfold room; omega)
   have r3 : (M + 4 + 8 + 4 ≤ room) = True := eq_true (by unfold room; omega)
   have hO4 : ∀ x ∈ O ++ leB 4 a ++ leB 8 b ++ leB 4 d, x < 256 := fun x h => by
    rcases List.mem_append.1 h with h | h
    ·rcases List.mem_append.1 h with h | h
     ·rcases List.mem_append.1 h with h | h
      ·exact hOb x h
      ·exact leB_lt _ _ x h
     ·exact leB_lt _ _ x h
    ·exact leB_lt _ _ x h
   rcases k31 with rfl | rfl
   all_goals
    refine Zr rfl (by simp (maxSteps := 2000000) only [gs,zlr,reduceIte,reduceCtorEq,zpa,zpb,zpc,zpd,zpe,zpf,zpg,zph,zpi,zpj,zpk,zpl,zpm,zpn,zpo,zpp, ur_length, g0]; rfl) (Zc rfl rfl (fun _ => ?_) (fun h => by cases h))
    refine Zd rfl (by simp (maxSteps := 2000000) only [gs,gd,zlr,id,reduceIte,reduceCtorEq,zpa,zpb,zpc,zpd,zpe,zpf,zpg,zph,zpi,zpj,zpk,zpl,zpm,zpn,zpo,zpp, n0, ur_get gx, Int.toNat_natCast, ea, eb, ed, gc_archipelagoref1_Fixed, iq_archipelagoref1_Fixed, F1, F2, F3, un_length, un_append, List.length_append, leB_length, hOl, Nat.mul_one, r1, r2, r3]; rfl) ?_
    refine Zr rfl (by simp (maxSteps := 2000000) only [gs,zlr,reduceIte,reduceCtorEq,zpa,zpb,zpc,zpd,zpe,zpf,zpg,zph,zpi,zpj,zpk,zpl,zpm,zpn,zpo,zpp, w8]; rfl) ?_
    exact Za rfl ⟨n - 1, by omega, i + 1, O ++ leB 4 a ++ leB 8 b ++ leB 4 d, by omega, rfl, hO4, by simp only [List.length_append, leB_length]; omega, hw, ⟨rfl, rfl, rfl, rfl, rfl, rfl, rfl⟩, rfl, rfl, .inr rfl, rfl, rfl⟩
  ·have hie : R1.length = i := by omega
   have g0 : ((i : Int) < ((R1.length : Nat) : Int)) = False := eq_false (by omega)
   rcases k31 with rfl | rfl
   all_goals
    refine Zr rfl (by simp (maxSteps := 2000000) only [gs,zlr,reduceIte,reduceCtorEq,zpa,zpb,zpc,zpd,zpe,zpf,zpg,zph,zpi,zpj,zpk,zpl,zpm,zpn,zpo,zpp, ur_length, g0]; rfl) (Zc rfl rfl (fun h => by cases h) (fun _ => ?_))
    exact Za rfl ⟨O, rfl, hOb, by omega, hw, ⟨rfl, rfl, rfl, rfl, rfl, rfl, rfl⟩, rfl, rfl, rfl, rfl⟩
 clear hw hA k26 k27 k30 k31
 rintro env h ⟨O, rfl, hOb, hOl, hw, hA, k26, k30, k31, k32⟩
 obtain ⟨L1, hL1⟩ : ∃ L1, L1 = R1.length := ⟨_, rfl⟩
 rw [← hL1] at hOl
 have hL1b : L1 ≤ 20 := by omega
 obtain ⟨M, hM⟩ : ∃ M, M = 24 + z + 16 * L1 := ⟨_, rfl⟩
 rw [← hM] at hOl
 have m1 : IntKind.i64.wrap (16 * (L1 : Int)) = ((16 * L1 : Nat) : Int) := by rw [show 16 * (L1 : Int) = ((16 * L1 : Nat) : Int) by omega]; exact wrap_i64_nat (by omega)
 have m2 : IntKind.i64.wrap ((M : Int) - ((16 * L1 : Nat) : Int)) = ((24 + z : Nat) : Int) := by rw [wrap_i64 (by omega) (by omega)]; omega
 refine Zr rfl (by simp (maxSteps := 2000000) only [gs,zlr,reduceIte,reduceCtorEq,zpa,zpb,zpc,zpd,zpe,zpf,zpg,zph,zpi,zpj,zpk,zpl,zpm,zpn,zpo,zpp, k31, k32, un_length, hOl, ur_length, ← hL1, m1, m2]; rfl) ?_
 obtain ⟨T, hT⟩ : ∃ T, T = (O.drop (24 + z)).take (16 * L1) := ⟨_, rfl⟩
 have hTl : T.length = 16 * L1 := by rw [hT, List.length_take, List.length_drop]; omega
 have hTb : ∀ x ∈ T, x < 256 := fun x h => by rw [hT] at h; exact hOb x (List.mem_of_mem_drop (List.mem_of_mem_take h))
 have hTM : ∀ x ∈ T ++ ixMagic, x < 256 := fun x h => by
  rcases List.mem_append.1 h with h | h
  ·exact hTb x h
  ·exact (show ∀ x ∈ ixMagic, x < 256 by decide) x h
 have hml : ixMagic.length = 4 := rfl
 have hTMl : (T ++ ixMagic).length = 16 * L1 + 4 := by rw [List.length_append, hTl, hml]
 have SE := rseal_G hTM (by omega)
 obtain ⟨S, hS⟩ : ∃ S, S = T ++ ixMagic ++ le4 (crcSum (T ++ ixMagic)) := ⟨_, rfl⟩
 have hSS : S.length = 16 * L1 + 8 := by rw [hS, List.length_append, hTMl]; rfl
 have hSb : ∀ x ∈ S, x < 256 := fun x h => by
  rw [hS] at h
  rcases List.mem_append.1 h with h | h
  ·exact hTM x h
  ·exact le4_lt _ x h
 rw [← hS] at SE
 obtain ⟨V, hV⟩ : ∃ V, V = (S.drop (16 * L1)).take 8 := ⟨_, rfl⟩
 have hVl : V.length = 8 := by rw [hV, List.length_take, List.length_drop]; omega
 have hVb : ∀ x ∈ V, x < 256 := fun x h => by rw [hV] at h; exact hSb x (List.mem_of_mem_drop (List.mem_of_mem_take h))
 have hVn : (un .u8 V = []) = False := eq_false (fun h => by have := congrArg List.length h; rw [un_length, hVl, List.length_nil] at this; omega)
 have q1 : ((0 : Int) ≤ ((24 + z : Nat) : Int)) = True := eq_true (by omega)
 have q2 : (((24 + z : Nat) : Int) ≤ ((M : Nat) : Int)) = True := eq_true (by omega)
 have q3 : (((M : Nat) : Int) ≤ ((M : Nat) : Int)) = True := eq_true (by omega)
 have q4 : (((M : Nat) : Int) - ((24 + z : Nat) : Int)).toNat = 16 * L1 := by omega
 have q5 : (24 + z + 16 * L1 ≤ M) = True := eq_true (by omega)
 have q6 : (16 * L1 ≤ room) = True := eq_true (by unfold room; omega)
 have q7 : (16 * L1 + 4 ≤ room) = True := eq_true (by unfold room; omega)
 have q8 : ((0 : Int) ≤ ((16 * L1 : Nat) : Int)) = True := eq_true (by omega)
 have q9 : (((16 * L1 : Nat) : Int) ≤ ((16 * L1 + 8 : Nat) : Int)) = True := eq_true (by omega)
 have qa : (((16 * L1 + 8 : Nat) : Int) ≤ ((16 * L1 + 8 : Nat) : Int)) = True := eq_true (by omega)
 have qb : (((16 * L1 + 8 : Nat) : Int) - ((16 * L1 : Nat) : Int)).toNat = 8 := by omega
 have qc : (M + 8 ≤ room) = True := eq_true (by unfold room; omega)
 have tO : O.take M = O := List.take_of_length_le (by omega)
 have e0 : ([[U.int .u8 88], [.int .u8 71], [.int .u8 84], [.int .u8 49]] : List (List U)) = un .u8 ixMagic := rfl
 refine Zr rfl (by simp (maxSteps := 2000000) only [gs,zlr,reduceIte,reduceCtorEq,zpa,zpb,zpc,zpd,zpe,zpf,zpg,zph,zpi,zpj,zpk,zpl,zpm,zpn,zpo,zpp, k31, k32, q1, q2, q3, q4, q5, q6, q7, q8, q9, qa, qb, qc, Int.toNat_natCast, els, Nat.zero_add, Nat.le_refl, hOl, un_length, un_drop, un_take, ← hT, hTl, e0, hml, un_append, List.length_append, Nat.mul_one, snapLL_un, gc_archipelagoref1_Seal, SE, ur_length, ← hL1, m1, hSS, ← hV, hVn, hVl, tO, eq_self]; rfl) ?_
 have hOVb : ∀ x ∈ O ++ V, x < 256 := fun x h => by
  rcases List.mem_append.1 h with h | h
  ·exact hOb x h
  ·exact hVb x h
 have hOVl : (O ++ V).length = M + 8 := by rw [List.length_append, hOl, hVl]
 obtain ⟨Od, hOd⟩ : ∃ Od, Od = O ++ V := ⟨_, rfl⟩
 rw [← hOd] at hOVb hOVl ⊢
 obtain ⟨k0, k3, k4, k5, k6, k10, k13⟩ := hA
 obtain ⟨w2, Z2, CH, hw2, hZb, hZl⟩ := change_R (bs := fl) (more := more) (how := how) (at' := at') (x := c) (fun h => by rw [h] at hfll; simp at hfll) hflb hmore hcc hhow ha (by omega) (by omega)
 refine Z_nrm 1 (Zj1 (fun env h => H = h ∧ isBr (GEnv.get env 35) Z2 ∧ isRz (GEnv.get env 23) R ∧ GEnv.get env 0 = .list false 1 (un .u8 raw) ∧ GEnv.get env 10 = .bool mend ∧ GEnv.get env 13 = .ptr 0 0 0 0 ∧ GEnv.get env 26 = .ptr 1 0 0 0 ∧ GEnv.get env 30 = .list false 1 (un .u8 fl) ∧ GEnv.get env 31 = .list false 3 (ur R1) ∧ GEnv.get env 32 = .own 1 (un .u8 Od)) ?_ ?_)
 ·rcases hw2 with ⟨rfl, h0⟩ | rfl | rfl
  ·refine Zr rfl (by simp (maxSteps := 2000000) only [gs,zlr,reduceIte,reduceCtorEq,zpa,zpb,zpc,zpd,zpe,zpf,zpg,zph,zpi,zpj,zpk,zpl,zpm,zpn,zpo,zpp, k30, k3, k4, k5, k6, snapLL_un, gc_archipelagoseat_Change, CH]; rfl) ?_
   exact Za rfl ⟨rfl, .inl ⟨rfl, h0⟩, hw, k0, k10, k13, k26, k30, k31, rfl⟩
  ·refine Zr rfl (by simp (maxSteps := 2000000) only [gs,zlr,reduceIte,reduceCtorEq,zpa,zpb,zpc,zpd,zpe,zpf,zpg,zph,zpi,zpj,zpk,zpl,zpm,zpn,zpo,zpp, k30, k3, k4, k5, k6, snapLL_un, gc_archipelagoseat_Change, CH]; rfl) ?_
   exact Za rfl ⟨rfl, .inr (.inl rfl), hw, k0, k10, k13, k26, k30, k31, rfl⟩
  ·refine Zr rfl (by simp (maxSteps := 2000000) only [gs,zlr,reduceIte,reduceCtorEq,zpa,zpb,zpc,zpd,zpe,zpf,zpg,zph,zpi,zpj,zpk,zpl,zpm,zpn,zpo,zpp, k30, k3, k4, k5, k6, snapLL_un, gc_archipelagoseat_Change, CH]; rfl) ?_
   exact Za rfl ⟨rfl, .inr (.inr rfl), hw, k0, k10, k13, k26, k30, k31, rfl⟩
 clear hw hw2 k0 k3 k4 k5 k6 k10 k13 k26 k30 k31 k32 CH
 rintro env h ⟨rfl, hz2, hw, k0, k10, k13, k26, k30, k31, k32⟩
 refine Z_nrm 1 (Zj1 (fun env h => H = h ∧ (∃ Z3, isBr (GEnv.get env 35) Z3 ∧ (∀ x ∈ Z3, x < 256) ∧ Z3.length ≤ 10000) ∧ isRz (GEnv.get env 23) R ∧ GEnv.get env 0 = .list false 1 (un .u8 raw) ∧ GEnv.get env 13 = .ptr 0 0 0 0 ∧ GEnv.get env 26 = .ptr 1 0 0 0 ∧ GEnv.get env 30 = .list false 1 (un .u8 fl) ∧ GEnv.get env 31 = .list false 3 (ur R1) ∧ GEnv.get env 32 = .own 1 (un .u8 Od)) ?_ ?_)
 ·cases mend with
  | false =>
   refine Zr rfl (by simp (maxSteps := 2000000) only [gs,zlr,reduceIte,reduceCtorEq,zpa,zpb,zpc,zpd,zpe,zpf,zpg,zph,zpi,zpj,zpk,zpl,zpm,zpn,zpo,zpp, k10]; rfl) (Zc rfl rfl (fun h => by cases h) (fun _ => ?_))
   exact Za rfl ⟨rfl, ⟨Z2, hz2, hZb, by omega⟩, hw, k0, k13, k26, k30, k31, k32⟩
  | true =>
   refine Zr rfl (by simp (maxSteps := 2000000) only [gs,zlr,reduceIte,reduceCtorEq,zpa,zpb,zpc,zpd,zpe,zpf,zpg,zph,zpi,zpj,zpk,zpl,zpm,zpn,zpo,zpp, k10]; rfl) (Zc rfl rfl (fun _ => ?_) (fun h => by cases h))
   rcases hz2 with ⟨k35, h0⟩ | k35 | k35
   ·refine Zr rfl (by simp (maxSteps := 2000000) only [gs,zlr,reduceIte,reduceCtorEq,zpa,zpb,zpc,zpd,zpe,zpf,zpg,zph,zpi,zpj,zpk,zpl,zpm,zpn,zpo,zpp, k35, gc_archipelagoseat_Mend, mendN_G]; rfl) ?_
    exact Za rfl ⟨rfl, ⟨[], .inl ⟨rfl, rfl⟩, by simp, by simp⟩, hw, k0, k13, k26, k30, k31, k32⟩
   all_goals
    obtain ⟨w3, Z3, MD, hw3, hZ3b, hZ3l⟩ := mend_R hZb (by omega)
    rcases hw3 with ⟨rfl, h0⟩ | rfl | rfl
    ·refine Zr rfl (by simp (maxSteps := 2000000) only [gs,zlr,reduceIte,reduceCtorEq,zpa,zpb,zpc,zpd,zpe,zpf,zpg,zph,zpi,zpj,zpk,zpl,zpm,zpn,zpo,zpp, k35, snapLL_un, gc_archipelagoseat_Mend, MD]; rfl) ?_
     exact Za rfl ⟨rfl, ⟨Z3, .inl ⟨rfl, h0⟩, hZ3b, by omega⟩, hw, k0, k13, k26, k30, k31, k32⟩
    ·refine Zr rfl (by simp (maxSteps := 2000000) only [gs,zlr,reduceIte,reduceCtorEq,zpa,zpb,zpc,zpd,zpe,zpf,zpg,zph,zpi,zpj,zpk,zpl,zpm,zpn,zpo,zpp, k35, snapLL_un, gc_archipelagoseat_Mend, MD]; rfl) ?_
     exact Za rfl ⟨rfl, ⟨Z3, .inr (.inl rfl), hZ3b, by omega⟩, hw, k0, k13, k26, k30, k31, k32⟩
    ·refine Zr rfl (by simp (maxSteps := 2000000) only [gs,zlr,reduceIte,reduceCtorEq,zpa,zpb,zpc,zpd,zpe,zpf,zpg,zph,zpi,zpj,zpk,zpl,zpm,zpn,zpo,zpp, k35, snapLL_un, gc_archipelagoseat_Mend, MD]; rfl) ?_
     exact Za rfl ⟨rfl, ⟨Z3, .inr (.inr rfl), hZ3b, by omega⟩, hw, k0, k13, k26, k30, k31, k32⟩
 clear hw hz2 k0 k10 k13 k26 k30 k31 k32
 rintro env h ⟨rfl, ⟨Z3, hz3, hZ3b, hZ3l⟩, hw, k0, k13, k26, k30, k31, k32⟩
 have four : ∀ (y : U), isBw y Z3 → ∀ (i : Nat) (x : U), [U.list false 1 (un .u8 raw), .list false 1 (un .u8 fl), .list false 1 (un .u8 Od), y][i]? = some x → ∃ bs, isBw x bs ∧ (∀ b ∈ bs, b < 256) ∧ bs.length ≤ 10000 := by
  intro y hy i x hx
  match i, hx with
  | 0, hx => cases hx; exact ⟨raw, .inl rfl, hraw, by omega⟩
  | 1, hx => cases hx; exact ⟨fl, .inl rfl, hflb, by omega⟩
  | 2, hx => cases hx; exact ⟨Od, .inl rfl, hOVb, by omega⟩
  | 3, hx => cases hx; exact ⟨Z3, hy, hZ3b, hZ3l⟩
  | j + 4, hx => cases hx
 obtain ⟨b0, hb0e⟩ : ∃ b, b = GObj.box [.int .u64 (hn : Int), .int .i64 hk, .int .i64 hc] := ⟨_, rfl⟩
 obtain ⟨b1, hb1e⟩ : ∃ b, b = GObj.box [.int .u64 5, .int .i64 1, .int .i64 (L : Int)] := ⟨_, rfl⟩
 have hH3 : IrH b0 b1 H := by
  rw [hH, hb0e, hb1e]
  exact ⟨rfl, rfl, by simp⟩
 refine Z_nrm 2 (Zj1 (fun env h => IrH b0 b1 h ∧ ∃ xs : List U, xs.length = 4 ∧ (∀ (i : Nat) (x : U), xs[i]? = some x → ∃ bs, isBw x bs ∧ (∀ b ∈ bs, b < 256) ∧ bs.length ≤ 10000) ∧ IrC R R1 xs 0 env) ?_ ?_)
 ·rcases hz3 with ⟨k35, h0⟩ | k35 | k35
  ·refine Zr rfl (by simp (maxSteps := 2000000) only [gs,zlr,reduceIte,reduceCtorEq,zpa,zpb,zpc,zpd,zpe,zpf,zpg,zph,zpi,zpj,zpk,zpl,zpm,zpn,zpo,zpp, k0, k30, k32, k35]; rfl) ?_
   exact Za rfl ⟨hH3, [.list false 1 (un .u8 raw), .list false 1 (un .u8 fl), .list false 1 (un .u8 Od), .nils], rfl, four _ (.inr ⟨rfl, h0⟩), hw, k13, k26, k31, rfl, rfl, rfl⟩
  ·refine Zr rfl (by simp (maxSteps := 2000000) only [gs,zlr,reduceIte,reduceCtorEq,zpa,zpb,zpc,zpd,zpe,zpf,zpg,zph,zpi,zpj,zpk,zpl,zpm,zpn,zpo,zpp, k0, k30, k32, k35]; rfl) ?_
   exact Za rfl ⟨hH3, [.list false 1 (un .u8 raw), .list false 1 (un .u8 fl), .list false 1 (un .u8 Od), .list false 1 (un .u8 Z3)], rfl, four _ (.inl rfl), hw, k13, k26, k31, rfl, rfl, rfl⟩
  ·refine Zr rfl (by simp (maxSteps := 2000000) only [gs,zlr,reduceIte,reduceCtorEq,zpa,zpb,zpc,zpd,zpe,zpf,zpg,zph,zpi,zpj,zpk,zpl,zpm,zpn,zpo,zpp, k0, k30, k32, k35]; rfl) ?_
   exact Za rfl ⟨hH3, [.list false 1 (un .u8 raw), .list false 1 (un .u8 fl), .list false 1 (un .u8 Od), .list false 1 (un .u8 Z3)], rfl, four _ (.inl rfl), hw, k13, k26, k31, rfl, rfl, rfl⟩
 clear hw hz3 k0 k13 k26 k30 k31 k32
 rintro env h ⟨hHH, xs, hx4, hxs, hw, k13, k26, k31, k164, k165, k166⟩
 refine Zw rfl (fun m env h => ∃ i : Nat, m + i = 4 ∧ IrH b0 b1 h ∧ IrC R R1 xs i env) 4 ⟨0, rfl, hHH, hw, k13, k26, k31, k164, k165, k166⟩ ?_
 clear hw k13 k26 k31 k164 k165 k166 hHH
 rintro m env h ⟨i, hm, hHH, hw, k13, k26, k31, k164, k165, k166⟩
 simp only [GEnv.keep, k13, k26, k31, k164, k165, k166]
 refine Zr rfl (by simp (maxSteps := 2000000) only [gs,zlr,reduceIte,reduceCtorEq,zpa,zpb,zpc,zpd,zpe,zpf,zpg,zph,zpi,zpj,zpk,zpl,zpm,zpn,zpo,zpp]; rfl) (Zp rfl rfl (fun hi => ?_) (fun hi => ?_))
 ·have gx : xs[i]? = some (xs[i]'(by omega)) := List.getElem?_eq_getElem _
  generalize xs[i]'(by omega) = x at gx
  obtain ⟨bs, hx, hbs, hbl⟩ := hxs i x gx
  have n0 : ((0 : Int) ≤ (i : Int)) = True := eq_true (by omega)
  have hinc := up64 (show i < 9223372036854775807 by omega)
  have RG := rowU_get gx
  refine Z_nrm 4 (Zj1 (fun env h => IrH b0 b1 h ∧ GEnv.get env 37 = x ∧ IrC R R1 xs i env) ?_ ?_)
  ·rcases hx with rfl | ⟨rfl, h0⟩
   all_goals
    refine Zr rfl (by simp (maxSteps := 2000000) only [gs,zlr,reduceIte,reduceCtorEq,zpa,zpb,zpc,zpd,zpe,zpf,zpg,zph,zpi,zpj,zpk,zpl,zpm,zpn,zpo,zpp, n0, RG]; rfl) ?_
    exact Za rfl ⟨hHH, rfl, hw, rfl, rfl, rfl, rfl, rfl, rfl⟩
  clear hw k13 k26 k31 k164 k165 k166 hHH
  rintro env h ⟨hHH, k37, hw, k13, k26, k31, k164, k165, k166⟩
  have wL : IntKind.i64.wrap ((L : Int) + 1) = ((L + 1 : Nat) : Int) := wrap_i64_nat (n := L + 1) (by omega)
  obtain ⟨hs, hhs⟩ : ∃ hs : List (Nat × Int × Int), hs = [(5, 1, (L : Int)), (hn, hk, hc), (5, 2, (L : Int)), (5, 1, ((L + 1 : Nat) : Int)), (5, 1, (L1 : Int))] := ⟨_, rfl⟩
  have hhu : [[U.int .u64 5, .int .i64 1, .int .i64 (L : Int)], [.int .u64 (hn : Int), .int .i64 hk, .int .i64 hc], [.int .u64 5, .int .i64 2, .int .i64 (L : Int)], [.int .u64 5, .int .i64 1, .int .i64 ((L + 1 : Nat) : Int)], [.int .u64 5, .int .i64 1, .int .i64 (L1 : Int)]] = uh hs := by rw [hhs]; rfl
  have hhl : hs.length = 5 := by rw [hhs]; rfl
  refine Z_nrm 1 (Zj1 (fun env h => IrH b0 b1 h ∧ IrC R R1 xs i env ∧ IrD hs x 0 env) ?_ ?_)
  ·obtain ⟨e0, e1, e3⟩ := hHH
   have e0' := e0
   have e1' := e1
   rw [hb0e] at e0'
   rw [hb1e] at e1'
   rcases hw with ⟨k23, h0⟩ | ⟨h0, k23⟩
   ·have h00 := hz0 h0
    have wL0 : IntKind.i64.wrap 1 = ((L + 1 : Nat) : Int) := by rw [← wL, ← h00]; rfl
    have hhu0 : [[U.int .u64 5, .int .i64 1, .int .i64 (L : Int)], [.int .u64 (hn : Int), .int .i64 hk, .int .i64 hc], [.int .u64 5, .int .i64 2, .int .i64 0], [.int .u64 5, .int .i64 1, .int .i64 ((L + 1 : Nat) : Int)], [.int .u64 5, .int .i64 1, .int .i64 (L1 : Int)]] = uh hs := by rw [h00]; exact hhu
    refine Zr rfl (by simp (maxSteps := 2000000) only [gs,zlr,reduceIte,reduceCtorEq,zpa,zpb,zpc,zpd,zpe,zpf,zpg,zph,zpi,zpj,zpk,zpl,zpm,zpn,zpo,zpp, k23, k13, k26, k31, e0', e1', ur_length, ← hL1, wL0, hhu0, uh_length, hhl]; rfl) ?_
    exact Za rfl ⟨⟨e0, e1, e3⟩, ⟨.inl ⟨k23, h0⟩, k13, k26, k31, k164, k165, k166⟩, k37, rfl, rfl, rfl⟩
   ·refine Zr rfl (by simp (maxSteps := 2000000) only [gs,zlr,reduceIte,reduceCtorEq,zpa,zpb,zpc,zpd,zpe,zpf,zpg,zph,zpi,zpj,zpk,zpl,zpm,zpn,zpo,zpp, k23, k13, k26, k31, e0', e1', ur_length, ← hL, ← hL1, wL, hhu, uh_length, hhl]; rfl) ?_
    exact Za rfl ⟨⟨e0, e1, e3⟩, ⟨.inr ⟨h0, k23⟩, k13, k26, k31, k164, k165, k166⟩, k37, rfl, rfl, rfl⟩
  clear hw k13 k26 k31 k164 k165 k166 hHH k37
  rintro env h ⟨hHH, ⟨hw, k13, k26, k31, k164, k165, k166⟩, k37, k182, k183, k184⟩
  refine Zj1 (fun env h => IrH b0 b1 h ∧ IrC R R1 xs i env) ?_ ?_
  ·refine Zw rfl (fun q env h => ∃ j : Nat, q + j = 5 ∧ IrH b0 b1 h ∧ IrC R R1 xs i env ∧ IrD hs x j env) 5 ⟨0, rfl, hHH, ⟨hw, k13, k26, k31, k164, k165, k166⟩, k37, k182, k183, k184⟩ ?_
   clear hw k13 k26 k31 k164 k165 k166 hHH k37 k182 k183 k184
   rintro q env h ⟨j, hq, hHH, ⟨hw, k13, k26, k31, k164, k165, k166⟩, k37, k182, k183, k184⟩
   simp only [GEnv.keep, k13, k26, k31, k164, k165, k166, k37, k182, k183, k184]
   refine Zr rfl (by simp (maxSteps := 2000000) only [gs,zlr,reduceIte,reduceCtorEq,zpa,zpb,zpc,zpd,zpe,zpf,zpg,zph,zpi,zpj,zpk,zpl,zpm,zpn,zpo,zpp]; rfl) (Zp rfl rfl (fun hj => ?_) (fun hj => ?_))
   ·have gy : hs[j]? = some (hs[j]'(by omega)) := List.getElem?_eq_getElem _
    generalize hs[j]'(by omega) = y at gy
    have m0 : ((0 : Int) ≤ (j : Int)) = True := eq_true (by omega)
    have hjnc := up64 (show j < 9223372036854775807 by omega)
    have UG := uh_get gy
    refine Z_nrm 4 (Zj1 (fun env h => ∃ N : Nat, IrH b0 b1 h ∧ h[N]? = some (.box [.int .u64 y.1, .int .i64 y.2.1, .int .i64 y.2.2]) ∧ GEnv.get env 39 = .ptr N 0 0 0 ∧ IrC R R1 xs i env ∧ IrD hs x j env) ?_ ?_)
    ·have ge : ∀ z : GObj, (h ++ [z])[h.length]? = some z := fun z => by simp
     have gs' : ∀ z w : GObj, (h ++ [z]).set h.length w = h ++ [w] := fun z w => by simp
     refine Zr rfl (by simp (maxSteps := 2000000) only [gs,zlr,reduceIte,reduceCtorEq,zpa,zpb,zpc,zpd,zpe,zpf,zpg,zph,zpi,zpj,zpk,zpl,zpm,zpn,zpo,zpp, m0, UG, ge, gs']; rfl) ?_
     exact Za rfl ⟨h.length, hHH.app, ge _, rfl, ⟨hw, rfl, rfl, rfl, rfl, rfl, rfl⟩, rfl, rfl, rfl, rfl⟩
    clear hw k13 k26 k31 k164 k165 k166 hHH k37 k182 k183 k184
    rintro env h ⟨N, hHH, hN, k39, ⟨hw, k13, k26, k31, k164, k165, k166⟩, k37, k182, k183, k184⟩
    obtain ⟨pp, qq, e, Rr, V, W, hp, hqq, hRr⟩ := read_both hx hbs hbl y.1 y.2.1 y.2.2
    refine Z_nrm 1 (Zj1 (fun env h => IrH b0 b1 h ∧ h[N]? = some (.box [.int .u64 y.1, .int .i64 y.2.1, .int .i64 y.2.2]) ∧ GEnv.get env 39 = .ptr N 0 0 0 ∧ GEnv.get env 40 = pp ∧ GEnv.get env 41 = .int .i64 e ∧ IrC R R1 xs i env ∧ IrD hs x j env) ?_ ?_)
    ·rcases hx with rfl | ⟨rfl, h0⟩
     all_goals
      rcases hp with rfl | ⟨rfl, h1⟩
      all_goals
       refine Zr rfl (by simp (maxSteps := 2000000) only [gs,zlr,reduceIte,reduceCtorEq,zpa,zpb,zpc,zpd,zpe,zpf,zpg,zph,zpi,zpj,zpk,zpl,zpm,zpn,zpo,zpp, k37, k39, hN, snapLL_un, gc_index_Read, V]; rfl) ?_
       exact Za rfl ⟨hHH, hN, k39, rfl, rfl, ⟨hw, k13, k26, k31, k164, k165, k166⟩, k37, k182, k183, k184⟩
    clear hw k13 k26 k31 k164 k165 k166 hHH k37 k182 k183 k184 k39 hN V
    rintro env h ⟨hHH, hN, k39, k40, k41, ⟨hw, k13, k26, k31, k164, k165, k166⟩, k37, k182, k183, k184⟩
    refine Z_nrm 1 (Zj1 (fun env h => IrH b0 b1 h ∧ GEnv.get env 40 = pp ∧ GEnv.get env 41 = .int .i64 e ∧ GEnv.get env 42 = qq ∧ GEnv.get env 43 = .int .i64 e ∧ IrC R R1 xs i env ∧ IrD hs x j env) ?_ ?_)
    ·rcases hx with rfl | ⟨rfl, h0⟩
     all_goals
      rcases hqq with rfl | ⟨rfl, h1⟩
      all_goals
       refine Zr rfl (by simp (maxSteps := 2000000) only [gs,zlr,reduceIte,reduceCtorEq,zpa,zpb,zpc,zpd,zpe,zpf,zpg,zph,zpi,zpj,zpk,zpl,zpm,zpn,zpo,zpp, k37, k39, hN, snapLL_un, gc_archipelagoref18_RowsRead, W]; rfl) ?_
       exact Za rfl ⟨hHH, k40, k41, rfl, rfl, ⟨hw, k13, k26, k31, k164, k165, k166⟩, k37, k182, k183, k184⟩
    clear hw k13 k26 k31 k164 k165 k166 hHH k37 k182 k183 k184 k39 hN W k40 k41
    rintro env h ⟨hHH, k40, k41, k42, k43, ⟨hw, k13, k26, k31, k164, k165, k166⟩, k37, k182, k183, k184⟩
    have SR := rsame_G hp hqq hRr
    have ne : (e != e) = false := bne_self_eq_false e
    rcases hp with rfl | ⟨rfl, h1⟩
    all_goals
     rcases hqq with rfl | ⟨rfl, h2⟩
     all_goals
      refine Zr rfl (by simp (maxSteps := 2000000) only [gs,zlr,reduceIte,reduceCtorEq,zpa,zpb,zpc,zpd,zpe,zpf,zpg,zph,zpi,zpj,zpk,zpl,zpm,zpn,zpo,zpp, k40, k41, k42, k43, ne, snapLL_ur, gc_archipelagoref18_SameRows, SR]; rfl) (Zc rfl rfl (fun h => by cases h) (fun _ => ?_))
      refine Zr rfl (by simp (maxSteps := 2000000) only [gs,zlr,reduceIte,reduceCtorEq,zpa,zpb,zpc,zpd,zpe,zpf,zpg,zph,zpi,zpj,zpk,zpl,zpm,zpn,zpo,zpp, k184, hjnc]; rfl) ?_
      exact Za rfl ⟨q - 1, by omega, j + 1, by omega, hHH, ⟨hw, k13, k26, k31, k164, k165, k166⟩, k37, k182, k183, rfl⟩
   ·exact Za rfl ⟨hHH, hw, rfl, rfl, rfl, rfl, rfl, rfl⟩
  clear hw k13 k26 k31 k164 k165 k166 hHH k37 k182 k183 k184
  rintro env h ⟨hHH, hw, k13, k26, k31, k164, k165, k166⟩
  refine Zr rfl (by simp (maxSteps := 2000000) only [gs,zlr,reduceIte,reduceCtorEq,zpa,zpb,zpc,zpd,zpe,zpf,zpg,zph,zpi,zpj,zpk,zpl,zpm,zpn,zpo,zpp, k166, hinc]; rfl) ?_
  exact Za rfl ⟨m - 1, by omega, i + 1, by omega, hHH, hw, k13, k26, k31, k164, k165, rfl⟩
 ·exact Zr rfl (by simp (maxSteps := 2000000) only [gs,zlr,reduceIte,reduceCtorEq,zpa,zpb,zpc,zpd,zpe,zpf,zpg,zph,zpi,zpj,zpk,zpl,zpm,zpn,zpo,zpp]; rfl) (Zq rfl ⟨_, rfl, rfl⟩)
theorem indexReads_law (us : List U) (h : Ars [.one (.sl [.int .u8]), .one (.sl [.int .u16]), .agg [.int .u64, .int .i64, .int .i64], .one (.int .u8), .one (.int .u16), .one (.int .u8), .one (.sl [.int .u8]), .one (.int .u8), .one (.int .u8), .one (.int .i64), .one .bool] us) : GF gtab fid_archipelagolaw19_IndexReads us [] 0 = some (.bool true, []) := by
 obtain ⟨u0, _, rfl, h0, u1, _, rfl, h1, u2, _, rfl, h2, u3, _, rfl, h3, u4, _, rfl, h4, u5, _, rfl, h5, u6, _, rfl, h6, u7, _, rfl, h7, u8, _, rfl, h8, u9, _, rfl, h9, u10, _, rfl, h10, rfl⟩ := h
 obtain ⟨raw, rfl, _, hraw⟩ := Sh.nums rfl h0
 obtain ⟨l, rfl, _, hl⟩ := Sh.nums rfl h1
 obtain ⟨_, rfl, h2⟩ := h2
 simp only [Sh.fitsL] at h2
 obtain ⟨_, _, rfl, hn, _, _, rfl, hk, _, _, rfl, hc, rfl⟩ := h2
 obtain ⟨n, rfl, _⟩ := Sh.nat rfl hn
 simp only [Sh.fits] at hk hc
 obtain ⟨k, rfl, _⟩ := hk
 obtain ⟨c, rfl, _⟩ := hc
 obtain ⟨how, rfl, hhow⟩ := Sh.nat rfl h3
 obtain ⟨a, rfl, ha⟩ := Sh.nat rfl h4
 obtain ⟨x, rfl, hx⟩ := Sh.nat rfl h5
 obtain ⟨more, rfl, _, hmore⟩ := Sh.nums rfl h6
 obtain ⟨what, rfl, _⟩ := Sh.nat rfl h7
 obtain ⟨wh, rfl, hwh⟩ := Sh.nat rfl h8
 simp only [Ar.fits, Sh.fits] at h9 h10
 obtain ⟨v, rfl, _⟩ := h9
 obtain ⟨m, rfl⟩ := h10
 exact indexReads_G (fun x hx => Nat.lt_succ_of_le (Int.ofNat_le.1 (hraw x hx))) (fun x hx => Nat.lt_succ_of_le (Int.ofNat_le.1 (hmore x hx))) (fun x hx => Nat.lt_succ_of_le (Int.ofNat_le.1 (hl x hx))) (Nat.lt_succ_of_le (Int.ofNat_le.1 hhow)) (Nat.lt_succ_of_le (Int.ofNat_le.1 ha)) (Nat.lt_succ_of_le (Int.ofNat_le.1 hx)) (Nat.lt_succ_of_le (Int.ofNat_le.1 hwh))
end Go.Ab
