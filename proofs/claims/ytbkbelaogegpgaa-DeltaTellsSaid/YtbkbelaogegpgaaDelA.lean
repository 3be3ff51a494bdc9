/- Edges, events: which may be, which is ahead, on the machine of values. -/
import Derived.Test.YtbkbelaogegpgaaDelP
import Derived.Test.YtbkbelaogegpgaaHistP
import Derived.Test.YtbkbelaogegpgaaValN
import Derived.KernelRfl
namespace Go.Ab
open Go
open Nat renaming reduceEqDiff → zpa, reduceLT → zpb, reduceAdd → zpc, reduceSub → zpd, reduceLeDiff → zpe, reduceMul → zpf
open Int renaming reduceToNat → zpg, reduceLT → zph, reduceLE → zpi, reduceEq → zpj, reduceNe → zpk, reduceBEq → zpl, reduceBNe → zpm, reduceAdd → zpn, reduceSub → zpo, reduceNeg → zpp
open List renaming replicate → zlr
set_option linter.unusedVariables false
set_option linter.unusedSimpArgs false
set_option maxRecDepth 10000
theorem isNaN32_G (a : Int) : GF gtab fid_cmp_isNaN_uint32 [.int .u32 a] [] 0 = some (.bool false, []) := by
 refine fn_cmp_isNaN_uint32 rfl ?_
 simp only [genvOf]
 refine Zr rfl (by simp (maxSteps := 2000000) only [gs,zlr,reduceIte,reduceCtorEq,zpa,zpb,zpc,zpd,zpe,zpf,zpg,zph,zpi,zpj,zpk,zpl,zpm,zpn,zpo,zpp]; rfl) ?_
 exact Zr rfl (by simp (maxSteps := 2000000) only [gs,zlr,reduceIte,reduceCtorEq,zpa,zpb,zpc,zpd,zpe,zpf,zpg,zph,zpi,zpj,zpk,zpl,zpm,zpn,zpo,zpp, bne_self_eq_false]; rfl) (Zq rfl ⟨_, rfl, rfl⟩)
def cmpI (a b : Int) : Int := if a < b then -1 else if a > b then 1 else 0
theorem cmp32_G (a b : Int) : GF gtab fid_cmp_Compare_uint32 [.int .u32 a, .int .u32 b] [] 0 = some (.int .i64 (cmpI a b), []) := by
 refine fn_cmp_Compare_uint32 rfl ?_
 simp only [genvOf]
 refine Zr rfl (by simp (maxSteps := 2000000) only [gs,zlr,reduceIte,reduceCtorEq,zpa,zpb,zpc,zpd,zpe,zpf,zpg,zph,zpi,zpj,zpk,zpl,zpm,zpn,zpo,zpp]; rfl) ?_
 refine Zr rfl (by simp (maxSteps := 2000000) only [gs,zlr,reduceIte,reduceCtorEq,zpa,zpb,zpc,zpd,zpe,zpf,zpg,zph,zpi,zpj,zpk,zpl,zpm,zpn,zpo,zpp, gc_cmp_isNaN_uint32, isNaN32_G]; rfl) ?_
 refine Zr rfl (by simp (maxSteps := 2000000) only [gs,zlr,reduceIte,reduceCtorEq,zpa,zpb,zpc,zpd,zpe,zpf,zpg,zph,zpi,zpj,zpk,zpl,zpm,zpn,zpo,zpp, gc_cmp_isNaN_uint32, isNaN32_G]; rfl) ?_
 refine Zr rfl (by simp (maxSteps := 2000000) only [gs,zlr,reduceIte,reduceCtorEq,zpa,zpb,zpc,zpd,zpe,zpf,zpg,zph,zpi,zpj,zpk,zpl,zpm,zpn,zpo,zpp]; rfl) (Zc rfl rfl (fun h => by cases h) (fun _ => ?_))
 refine Zr rfl (by simp (maxSteps := 2000000) only [gs,zlr,reduceIte,reduceCtorEq,zpa,zpb,zpc,zpd,zpe,zpf,zpg,zph,zpi,zpj,zpk,zpl,zpm,zpn,zpo,zpp]; rfl) (Zc rfl rfl (fun h => by cases h) (fun _ => ?_))
 refine Zr rfl (by simp (maxSteps := 2000000) only [gs,zlr,reduceIte,reduceCtorEq,zpa,zpb,zpc,zpd,zpe,zpf,zpg,zph,zpi,zpj,zpk,zpl,zpm,zpn,zpo,zpp]; rfl) (Zp rfl rfl (fun h0 => ?_) (fun h0 => ?_))
 ·refine Zr rfl (by simp only [gs,zlr,reduceIte,reduceCtorEq,zpa,zpb,zpc,zpd,zpe,zpf,zpg,zph,zpi,zpj,zpk,zpl,zpm,zpn,zpo,zpp]; rfl) (Zq rfl ⟨_, rfl, ?_⟩)
  rw [cmpI, if_pos h0]; rfl
 refine Zr rfl (by simp (maxSteps := 2000000) only [gs,zlr,reduceIte,reduceCtorEq,zpa,zpb,zpc,zpd,zpe,zpf,zpg,zph,zpi,zpj,zpk,zpl,zpm,zpn,zpo,zpp]; rfl) (Zp rfl rfl (fun h => ?_) (fun h => ?_))
 ·refine Zr rfl (by simp only [gs,zlr,reduceIte,reduceCtorEq,zpa,zpb,zpc,zpd,zpe,zpf,zpg,zph,zpi,zpj,zpk,zpl,zpm,zpn,zpo,zpp]; rfl) (Zq rfl ⟨_, rfl, ?_⟩)
  rw [cmpI, if_neg h0, if_pos h]; rfl
 ·refine Zr rfl (by simp only [gs,zlr,reduceIte,reduceCtorEq,zpa,zpb,zpc,zpd,zpe,zpf,zpg,zph,zpi,zpj,zpk,zpl,zpm,zpn,zpo,zpp]; rfl) (Zq rfl ⟨_, rfl, ?_⟩)
  rw [cmpI, if_neg h0, if_neg h]; rfl
theorem isNaN64_G (a : Int) : GF gtab fid_cmp_isNaN_int64 [.int .i64 a] [] 0 = some (.bool false, []) := by
 refine fn_cmp_isNaN_int64 rfl ?_
 simp only [genvOf]
 refine Zr rfl (by simp (maxSteps := 2000000) only [gs,zlr,reduceIte,reduceCtorEq,zpa,zpb,zpc,zpd,zpe,zpf,zpg,zph,zpi,zpj,zpk,zpl,zpm,zpn,zpo,zpp]; rfl) ?_
 exact Zr rfl (by simp (maxSteps := 2000000) only [gs,zlr,reduceIte,reduceCtorEq,zpa,zpb,zpc,zpd,zpe,zpf,zpg,zph,zpi,zpj,zpk,zpl,zpm,zpn,zpo,zpp, bne_self_eq_false]; rfl) (Zq rfl ⟨_, rfl, rfl⟩)
theorem cmp64_G (a b : Int) : GF gtab fid_cmp_Compare_int64 [.int .i64 a, .int .i64 b] [] 0 = some (.int .i64 (cmpI a b), []) := by
 refine fn_cmp_Compare_int64 rfl ?_
 simp only [genvOf]
 refine Zr rfl (by simp (maxSteps := 2000000) only [gs,zlr,reduceIte,reduceCtorEq,zpa,zpb,zpc,zpd,zpe,zpf,zpg,zph,zpi,zpj,zpk,zpl,zpm,zpn,zpo,zpp]; rfl) ?_
 refine Zr rfl (by simp (maxSteps := 2000000) only [gs,zlr,reduceIte,reduceCtorEq,zpa,zpb,zpc,zpd,zpe,zpf,zpg,zph,zpi,zpj,zpk,zpl,zpm,zpn,zpo,zpp, gc_cmp_isNaN_int64, isNaN64_G]; rfl) ?_
 refine Zr rfl (by simp (maxSteps := 2000000) only [gs,zlr,reduceIte,reduceCtorEq,zpa,zpb,zpc,zpd,zpe,zpf,zpg,zph,zpi,zpj,zpk,zpl,zpm,zpn,zpo,zpp, gc_cmp_isNaN_int64, isNaN64_G]; rfl) ?_
 refine Zr rfl (by simp (maxSteps := 2000000) only [gs,zlr,reduceIte,reduceCtorEq,zpa,zpb,zpc,zpd,zpe,zpf,zpg,zph,zpi,zpj,zpk,zpl,zpm,zpn,zpo,zpp]; rfl) (Zc rfl rfl (fun h => by cases h) (fun _ => ?_))
 refine Zr rfl (by simp (maxSteps := 2000000) only [gs,zlr,reduceIte,reduceCtorEq,zpa,zpb,zpc,zpd,zpe,zpf,zpg,zph,zpi,zpj,zpk,zpl,zpm,zpn,zpo,zpp]; rfl) (Zc rfl rfl (fun h => by cases h) (fun _ => ?_))
 refine Zr rfl (by simp (maxSteps := 2000000) only [gs,zlr,reduceIte,reduceCtorEq,zpa,zpb,zpc,zpd,zpe,zpf,zpg,zph,zpi,zpj,zpk,zpl,zpm,zpn,zpo,zpp]; rfl) (Zp rfl rfl (fun h0 => ?_) (fun h0 => ?_))
 ·refine Zr rfl (by simp only [gs,zlr,reduceIte,reduceCtorEq,zpa,zpb,zpc,zpd,zpe,zpf,zpg,zph,zpi,zpj,zpk,zpl,zpm,zpn,zpo,zpp]; rfl) (Zq rfl ⟨_, rfl, ?_⟩)
  rw [cmpI, if_pos h0]; rfl
 refine Zr rfl (by simp (maxSteps := 2000000) only [gs,zlr,reduceIte,reduceCtorEq,zpa,zpb,zpc,zpd,zpe,zpf,zpg,zph,zpi,zpj,zpk,zpl,zpm,zpn,zpo,zpp]; rfl) (Zp rfl rfl (fun h => ?_) (fun h => ?_))
 ·refine Zr rfl (by simp only [gs,zlr,reduceIte,reduceCtorEq,zpa,zpb,zpc,zpd,zpe,zpf,zpg,zph,zpi,zpj,zpk,zpl,zpm,zpn,zpo,zpp]; rfl) (Zq rfl ⟨_, rfl, ?_⟩)
  rw [cmpI, if_neg h0, if_pos h]; rfl
 ·refine Zr rfl (by simp only [gs,zlr,reduceIte,reduceCtorEq,zpa,zpb,zpc,zpd,zpe,zpf,zpg,zph,zpi,zpj,zpk,zpl,zpm,zpn,zpo,zpp]; rfl) (Zq rfl ⟨_, rfl, ?_⟩)
  rw [cmpI, if_neg h0, if_neg h]; rfl
theorem or2_G (a b : Int) : GF gtab fid_cmp_Or_int [.list false 1 [[.int .i64 a], [.int .i64 b]]] [] 0 = some (.int .i64 (if a ≠ 0 then a else b), []) := by
 refine fn_cmp_Or_int rfl ?_
 simp only [genvOf]
 refine Zr rfl (by simp (maxSteps := 2000000) only [gs,zlr,reduceIte,reduceCtorEq,zpa,zpb,zpc,zpd,zpe,zpf,zpg,zph,zpi,zpj,zpk,zpl,zpm,zpn,zpo,zpp]; rfl) ?_
 refine Zr rfl (by simp (maxSteps := 2000000) only [gs,zlr,reduceIte,reduceCtorEq,zpa,zpb,zpc,zpd,zpe,zpf,zpg,zph,zpi,zpj,zpk,zpl,zpm,zpn,zpo,zpp]; rfl) ?_
 refine Zr rfl (by simp (maxSteps := 2000000) only [gs,zlr,reduceIte,reduceCtorEq,zpa,zpb,zpc,zpd,zpe,zpf,zpg,zph,zpi,zpj,zpk,zpl,zpm,zpn,zpo,zpp]; rfl) ?_
 refine Zw rfl (fun n env h => h = [] ∧ ∃ i, GEnv.get env 3 = .int .i64 0 ∧ GEnv.get env 6 = .list false 1 [[.int .i64 a], [.int .i64 b]] ∧ GEnv.get env 7 = .int .i64 2 ∧ GEnv.get env 8 = .int .i64 (i : Nat) ∧ n + i = 2 ∧ (0 < i → a = 0) ∧ (1 < i → b = 0)) 2 ⟨rfl, 0, rfl, rfl, rfl, rfl, rfl, by omega, by omega⟩ ?_
 rintro n env h ⟨rfl, i, k3, k6, k7, k8, hn, ha, hb⟩
 simp only [GEnv.keep, k3, k6, k7, k8]
 match i, hn with
 | 0, hn =>
  refine Zr rfl (by simp (maxSteps := 2000000) only [gs,zlr,reduceIte,reduceCtorEq,zpa,zpb,zpc,zpd,zpe,zpf,zpg,zph,zpi,zpj,zpk,zpl,zpm,zpn,zpo,zpp]; rfl) (Zc rfl rfl (fun _ => ?_) (fun h => by cases h))
  refine Zr rfl (by simp (maxSteps := 2000000) only [gs,zlr,reduceIte,reduceCtorEq,zpa,zpb,zpc,zpd,zpe,zpf,zpg,zph,zpi,zpj,zpk,zpl,zpm,zpn,zpo,zpp]; rfl) ?_
  cases h0 : (a != 0) with
  | true =>
   refine Zr rfl (by simp (maxSteps := 2000000) only [gs,zlr,reduceIte,reduceCtorEq,zpa,zpb,zpc,zpd,zpe,zpf,zpg,zph,zpi,zpj,zpk,zpl,zpm,zpn,zpo,zpp, h0]; rfl) (Zc rfl rfl (fun _ => ?_) (fun h => by cases h))
   refine Zr rfl (by simp only [gs,zlr,reduceIte,reduceCtorEq,zpa,zpb,zpc,zpd,zpe,zpf,zpg,zph,zpi,zpj,zpk,zpl,zpm,zpn,zpo,zpp]; rfl) (Zq rfl ⟨_, rfl, ?_⟩)
   rw [if_pos (by simpa using h0)]; rfl
  | false =>
   refine Zr rfl (by simp (maxSteps := 2000000) only [gs,zlr,reduceIte,reduceCtorEq,zpa,zpb,zpc,zpd,zpe,zpf,zpg,zph,zpi,zpj,zpk,zpl,zpm,zpn,zpo,zpp, h0]; rfl) (Zc rfl rfl (fun h => by cases h) (fun _ => ?_))
   refine Zr rfl (by simp (maxSteps := 2000000) only [gs,zlr,reduceIte,reduceCtorEq,zpa,zpb,zpc,zpd,zpe,zpf,zpg,zph,zpi,zpj,zpk,zpl,zpm,zpn,zpo,zpp]; rfl) ?_
   exact Za rfl ⟨1, by omega, rfl, 1, rfl, rfl, rfl, rfl, rfl, fun _ => by simpa using h0, by omega⟩
 | 1, hn =>
  have ha := ha (by omega)
  subst ha
  refine Zr rfl (by simp (maxSteps := 2000000) only [gs,zlr,reduceIte,reduceCtorEq,zpa,zpb,zpc,zpd,zpe,zpf,zpg,zph,zpi,zpj,zpk,zpl,zpm,zpn,zpo,zpp]; rfl) (Zc rfl rfl (fun _ => ?_) (fun h => by cases h))
  refine Zr rfl (by simp (maxSteps := 2000000) only [gs,zlr,reduceIte,reduceCtorEq,zpa,zpb,zpc,zpd,zpe,zpf,zpg,zph,zpi,zpj,zpk,zpl,zpm,zpn,zpo,zpp]; rfl) ?_
  cases h0 : (b != 0) with
  | true =>
   refine Zr rfl (by simp (maxSteps := 2000000) only [gs,zlr,reduceIte,reduceCtorEq,zpa,zpb,zpc,zpd,zpe,zpf,zpg,zph,zpi,zpj,zpk,zpl,zpm,zpn,zpo,zpp, h0]; rfl) (Zc rfl rfl (fun _ => ?_) (fun h => by cases h))
   refine Zr rfl (by simp only [gs,zlr,reduceIte,reduceCtorEq,zpa,zpb,zpc,zpd,zpe,zpf,zpg,zph,zpi,zpj,zpk,zpl,zpm,zpn,zpo,zpp]; rfl) (Zq rfl ⟨_, rfl, rfl⟩)
  | false =>
   refine Zr rfl (by simp (maxSteps := 2000000) only [gs,zlr,reduceIte,reduceCtorEq,zpa,zpb,zpc,zpd,zpe,zpf,zpg,zph,zpi,zpj,zpk,zpl,zpm,zpn,zpo,zpp, h0]; rfl) (Zc rfl rfl (fun h => by cases h) (fun _ => ?_))
   refine Zr rfl (by simp (maxSteps := 2000000) only [gs,zlr,reduceIte,reduceCtorEq,zpa,zpb,zpc,zpd,zpe,zpf,zpg,zph,zpi,zpj,zpk,zpl,zpm,zpn,zpo,zpp]; rfl) ?_
   exact Za rfl ⟨0, by omega, rfl, 2, rfl, rfl, rfl, rfl, rfl, fun _ => rfl, fun _ => by simpa using h0⟩
 | 2, hn =>
  have ha := ha (by omega)
  have hb := hb (by omega)
  subst ha hb
  refine Zr rfl (by simp (maxSteps := 2000000) only [gs,zlr,reduceIte,reduceCtorEq,zpa,zpb,zpc,zpd,zpe,zpf,zpg,zph,zpi,zpj,zpk,zpl,zpm,zpn,zpo,zpp]; rfl) (Zc rfl rfl (fun h => by cases h) (fun _ => ?_))
  exact Zr rfl (by simp (maxSteps := 2000000) only [gs,zlr,reduceIte,reduceCtorEq,zpa,zpb,zpc,zpd,zpe,zpf,zpg,zph,zpi,zpj,zpk,zpl,zpm,zpn,zpo,zpp]; rfl) (Zq rfl ⟨_, rfl, rfl⟩)
def cmpE (a b c d : Int) : Int := if cmpI a c ≠ 0 then cmpI a c else cmpI b d
theorem compare_G (a b c d : Int) : GF gtab fid_edge_compare [.agg [.int .u32 a, .int .u32 b], .agg [.int .u32 c, .int .u32 d]] [] 0 = some (.int .i64 (cmpE a b c d), []) := by
 refine fn_edge_compare rfl ?_
 simp only [genvOf]
 refine Zr rfl (by simp (maxSteps := 2000000) only [gs,zlr,reduceIte,reduceCtorEq,zpa,zpb,zpc,zpd,zpe,zpf,zpg,zph,zpi,zpj,zpk,zpl,zpm,zpn,zpo,zpp]; rfl) ?_
 exact Zd rfl (by simp (maxSteps := 2000000) only [gs,gd,zlr,id,reduceIte,reduceCtorEq,zpa,zpb,zpc,zpd,zpe,zpf,zpg,zph,zpi,zpj,zpk,zpl,zpm,zpn,zpo,zpp, gc_cmp_Compare_uint32, iq_cmp_Compare_uint32, cmp32_G, gc_cmp_Or_int, iq_cmp_Or_int, or2_G]; rfl) (Zq rfl ⟨_, rfl, rfl⟩)
def less (a b c d : Int) : Bool := decide (cmpE a b c d < 0)
theorem less_iff {a b c d : Int} : less a b c d = decide (a < c ∨ a = c ∧ b < d) := by
 unfold less cmpE cmpI
 rw [decide_eq_decide]
 by_cases h1 : a < c
 ·simp [h1]
 ·by_cases h2 : a > c
  ·simp [h1, h2]; omega
  ·have : a = c := by omega
   subst this
   by_cases h3 : b < d
   ·simp [h3]
   ·by_cases h4 : b > d
    ·simp [h3, h4]
    ·simp [h3, h4]
theorem wrap_u64_in {n : Int} (h : 0 ≤ n ∧ n ≤ 18446744073709551615) : IntKind.u64.wrap n = n := by
 obtain ⟨m, rfl⟩ : ∃ m : Nat, n = (m : Int) := ⟨n.toNat, by omega⟩
 rw [wrap_u64_nat, Nat.mod_eq_of_lt (by omega)]
theorem right_G {u v n : Int} (hv : 0 ≤ v ∧ v ≤ 4294967295) : GF gtab fid_edge_Right [.agg [.int .u32 u, .int .u32 v], .int .u64 n] [] 0 = some (.bool (decide (u < v) && decide (v < n)), []) := by
 refine fn_edge_Right rfl ?_
 simp only [genvOf]
 have hw := wrap_u64_in (n := v) (by omega)
 cases h0 : decide (u < v) with
 | true =>
  refine Zr rfl (by simp (maxSteps := 2000000) only [gs,zlr,reduceIte,reduceCtorEq,zpa,zpb,zpc,zpd,zpe,zpf,zpg,zph,zpi,zpj,zpk,zpl,zpm,zpn,zpo,zpp]; rfl) ?_
  exact Zr rfl (by simp (maxSteps := 2000000) only [gs,zlr,reduceIte,reduceCtorEq,zpa,zpb,zpc,zpd,zpe,zpf,zpg,zph,zpi,zpj,zpk,zpl,zpm,zpn,zpo,zpp, h0, hw]; rfl) (Zq rfl ⟨_, rfl, rfl⟩)
 | false =>
  refine Zr rfl (by simp (maxSteps := 2000000) only [gs,zlr,reduceIte,reduceCtorEq,zpa,zpb,zpc,zpd,zpe,zpf,zpg,zph,zpi,zpj,zpk,zpl,zpm,zpn,zpo,zpp]; rfl) ?_
  exact Zr rfl (by simp (maxSteps := 2000000) only [gs,zlr,reduceIte,reduceCtorEq,zpa,zpb,zpc,zpd,zpe,zpf,zpg,zph,zpi,zpj,zpk,zpl,zpm,zpn,zpo,zpp, h0, hw]; rfl) (Zq rfl ⟨_, rfl, rfl⟩)
theorem right8_G {u v n : Int} (hv : 0 ≤ v ∧ v ≤ 4294967295) : GF gtab fid_archipelagoref8_Right [.agg [.int .u32 u, .int .u32 v], .int .u64 n] [] 0 = some (.bool (decide (u < v) && decide (v < n)), []) := by
 refine fn_archipelagoref8_Right rfl ?_
 simp only [genvOf]
 have hw := wrap_u64_in (n := v) (by omega)
 cases h0 : decide (u < v) with
 | true =>
  refine Zr rfl (by simp (maxSteps := 2000000) only [gs,zlr,reduceIte,reduceCtorEq,zpa,zpb,zpc,zpd,zpe,zpf,zpg,zph,zpi,zpj,zpk,zpl,zpm,zpn,zpo,zpp]; rfl) ?_
  exact Zr rfl (by simp (maxSteps := 2000000) only [gs,zlr,reduceIte,reduceCtorEq,zpa,zpb,zpc,zpd,zpe,zpf,zpg,zph,zpi,zpj,zpk,zpl,zpm,zpn,zpo,zpp, h0, hw]; rfl) (Zq rfl ⟨_, rfl, rfl⟩)
 | false =>
  refine Zr rfl (by simp (maxSteps := 2000000) only [gs,zlr,reduceIte,reduceCtorEq,zpa,zpb,zpc,zpd,zpe,zpf,zpg,zph,zpi,zpj,zpk,zpl,zpm,zpn,zpo,zpp]; rfl) ?_
  exact Zr rfl (by simp (maxSteps := 2000000) only [gs,zlr,reduceIte,reduceCtorEq,zpa,zpb,zpc,zpd,zpe,zpf,zpg,zph,zpi,zpj,zpk,zpl,zpm,zpn,zpo,zpp, h0, hw]; rfl) (Zq rfl ⟨_, rfl, rfl⟩)
def before (t a b t' c d : Int) : Bool := decide (t < t' ∨ t = t' ∧ less a b c d = true)
abbrev uev (t a b : Int) (x : Bool) : U := .agg [.int .i64 t, .int .u32 a, .int .u32 b, .bool x]
theorem before_or {t a b t' c d : Int} : decide ((if cmpI t t' ≠ 0 then cmpI t t' else cmpE a b c d) < 0) = before t a b t' c d := by
 unfold before
 rw [decide_eq_decide]
 unfold cmpI
 by_cases h1 : t < t'
 ·simp [h1]
 ·by_cases h2 : t > t'
  ·simp [h1, h2]; omega
  ·have : t = t' := by omega
   subst this
   simp [less]
theorem before_G (t a b t' c d : Int) (x y : Bool) : GF gtab fid_edge_Before [uev t a b x, uev t' c d y] [] 0 = some (.bool (before t a b t' c d), []) := by
 refine fn_edge_Before rfl ?_
 simp only [genvOf]
 refine Zr rfl (by simp (maxSteps := 2000000) only [gs,zlr,reduceIte,reduceCtorEq,zpa,zpb,zpc,zpd,zpe,zpf,zpg,zph,zpi,zpj,zpk,zpl,zpm,zpn,zpo,zpp]; rfl) ?_
 exact Zd rfl (by simp (maxSteps := 2000000) only [gs,gd,zlr,id,reduceIte,reduceCtorEq,zpa,zpb,zpc,zpd,zpe,zpf,zpg,zph,zpi,zpj,zpk,zpl,zpm,zpn,zpo,zpp, gc_cmp_Compare_int64, iq_cmp_Compare_int64, cmp64_G, gc_edge_compare, iq_edge_compare, compare_G, gc_cmp_Or_int, iq_cmp_Or_int, or2_G, before_or]; rfl) (Zq rfl ⟨_, rfl, rfl⟩)
theorem before_lt {a b : Ev} : before a.1 a.2.1 a.2.2.1 b.1 b.2.1 b.2.2.1 = decide (ltV a b) := by
 unfold before
 refine decide_eq_decide.2 ?_
 rw [less_iff]
 unfold ltV ltE edOf
 simp
theorem before_H (a b : Ev) : GF gtab fid_edge_Before [.agg [.int .i64 a.1, .int .u32 a.2.1, .int .u32 a.2.2.1, .bool a.2.2.2], .agg [.int .i64 b.1, .int .u32 b.2.1, .int .u32 b.2.2.1, .bool b.2.2.2]] [] 0 = some (.bool (decide (ltV a b)), []) := by
 have := before_G a.1 a.2.1 a.2.2.1 b.1 b.2.1 b.2.2.1 a.2.2.2 b.2.2.2
 rw [before_lt] at this
 exact this
theorem before8_H (a b : Ev) : GF gtab fid_archipelagoref8_Before [.agg [.int .i64 a.1, .int .u32 a.2.1, .int .u32 a.2.2.1, .bool a.2.2.2], .agg [.int .i64 b.1, .int .u32 b.2.1, .int .u32 b.2.2.1, .bool b.2.2.2]] [] 0 = some (.bool (decide (ltV a b)), []) := by
 have := hbefore_G a.1 a.2.1 a.2.2.1 a.2.2.2 b.1 b.2.1 b.2.2.1 b.2.2.2
 rw [befE_lt] at this
 exact this
end Go.Ab
namespace Go.Ab
open Go
open Nat renaming reduceEqDiff → zpa, reduceLT → zpb, reduceAdd → zpc, reduceSub → zpd, reduceLeDiff → zpe, reduceMul → zpf
open Int renaming reduceToNat → zpg, reduceLT → zph, reduceLE → zpi, reduceEq → zpj, reduceNe → zpk, reduceBEq → zpl, reduceBNe → zpm, reduceAdd → zpn, reduceSub → zpo, reduceNeg → zpp
open List renaming replicate → zlr
set_option linter.unusedVariables false
set_option linter.unusedSimpArgs false
set_option maxRecDepth 10000
theorem dapp_eq {h : GH} {x : GObj} : (h ++ [x])[h.length]? = some x := by simp
theorem dapp_set {h : GH} {x y : GObj} : (h ++ [x]).set h.length y = h ++ [y] := by simp
def dBad (l : List Ev) (i : Nat) (e : Ev) : Prop := e.1 < 0 ∨ e.1 > 4611686018427387903 ∨ e.2.1 ≥ e.2.2.1 ∨ ∃ d, 0 < i ∧ l[i - 1]? = some d ∧ ¬ ltV d e
set_option maxHeartbeats 1000000 in
theorem dright_R {w : U} {l : List Ev} {first : Int} (hw : isVa w l) (hl : l.length ≤ 1000) : ∃ b : Bool, (b = true ↔ RightD first l) ∧ GF gtab fid_delta_right [.int .i64 first, w] [] 0 = some (.bool b, []) := by
 have key : ∃ u h', GF gtab fid_delta_right [.int .i64 first, w] [] 0 = some (u, h') ∧ h' = [] ∧ ∃ b : Bool, u = .bool b ∧ (b = true ↔ RightD first l) := by
  refine fnR_delta_right rfl ?_
  simp only [genvOf]
  rcases hw with rfl | ⟨rfl, rfl⟩
  ·refine Zr rfl (by simp (maxSteps := 2000000) only [gs,zlr,reduceIte,reduceCtorEq,zpa,zpb,zpc,zpd,zpe,zpf,zpg,zph,zpi,zpj,zpk,zpl,zpm,zpn,zpo,zpp]; rfl) ?_
   refine Zr rfl (by simp (maxSteps := 2000000) only [gs,zlr,reduceIte,reduceCtorEq,zpa,zpb,zpc,zpd,zpe,zpf,zpg,zph,zpi,zpj,zpk,zpl,zpm,zpn,zpo,zpp, uvs_length]; rfl) ?_
   refine Zw rfl (fun n env h => ∃ i : Nat, (∀ (j : Nat) (e : Ev), j < i → l[j]? = some e → ¬ dBad l j e) ∧ GEnv.get env 0 = .int .i64 first ∧ GEnv.get env 1 = .list false 4 (uvs l) ∧ GEnv.get env 7 = .list false 4 (uvs l) ∧ GEnv.get env 8 = .int .i64 ((l.length : Nat) : Int) ∧ GEnv.get env 9 = .int .i64 ((i : Nat) : Int) ∧ n + i = l.length) l.length ⟨0, fun j e h => absurd h (by omega), rfl, rfl, rfl, rfl, rfl, by omega⟩ ?_
   rintro n env h ⟨i, hok, k0, k1, k7, k8, k9, hn⟩
   simp only [GEnv.keep, k0, k1, k7, k8, k9]
   refine Zr rfl (by simp (maxSteps := 2000000) only [gs,zlr,reduceIte,reduceCtorEq,zpa,zpb,zpc,zpd,zpe,zpf,zpg,zph,zpi,zpj,zpk,zpl,zpm,zpn,zpo,zpp]; rfl) (Zp rfl rfl (fun hi => ?_) (fun hi => ?_))
   ·have gx : l[i]? = some (l[i]'(by omega)) := List.getElem?_eq_getElem _
    generalize l[i]'(by omega) = e at gx
    have n0 : ((0 : Int) ≤ (i : Int)) = True := eq_true (by omega)
    have hinc : IntKind.i64.wrap ((i : Int) + 1) = ((i + 1 : Nat) : Int) := up64 (by omega)
    have hbad : dBad l i e → ¬ RightD first l := fun hb hR => by
     obtain ⟨r1, r2, r3⟩ := hR
     have := r1 e (List.mem_of_getElem? gx)
     rcases hb with h | h | h | ⟨d, h1, h2, h3⟩
     ·omega
     ·omega
     ·omega
     ·have hd := List.getElem?_eq_some_iff.1 h2
      have he := List.getElem?_eq_some_iff.1 gx
      have := List.pairwise_iff_getElem.1 r2 (i - 1) i hd.1 he.1 (by omega)
      rw [hd.2, he.2] at this
      exact h3 this
    refine Zr rfl (by simp (maxSteps := 2000000) only [gs,zlr,reduceIte,reduceCtorEq,zpa,zpb,zpc,zpd,zpe,zpf,zpg,zph,zpi,zpj,zpk,zpl,zpm,zpn,zpo,zpp, n0, uvs_get gx, dapp_eq, dapp_set]; rfl) ?_
    refine Zj rfl (fun env h => (∃ b, (b = true ↔ dBad l i e) ∧ GEnv.get env 44 = .bool b) ∧ GEnv.get env 0 = .int .i64 first ∧ GEnv.get env 1 = .list false 4 (uvs l) ∧ GEnv.get env 7 = .list false 4 (uvs l) ∧ GEnv.get env 8 = .int .i64 ((l.length : Nat) : Int) ∧ GEnv.get env 9 = .int .i64 ((i : Nat) : Int)) ?_ ?_
    ·by_cases a1 : e.1 < 0
     ·have f1 := eq_true a1
      refine Zd rfl (by simp (maxSteps := 2000000) only [gs,gd,zlr,id,reduceIte,reduceCtorEq,zpa,zpb,zpc,zpd,zpe,zpf,zpg,zph,zpi,zpj,zpk,zpl,zpm,zpn,zpo,zpp, dapp_eq, f1, decide_true]; rfl) ?_
      exact Za rfl ⟨⟨true, ⟨fun _ => .inl a1, fun _ => rfl⟩, rfl⟩, rfl, rfl, rfl, rfl, rfl⟩
     have f1 := eq_false a1
     by_cases a2 : e.1 > 4611686018427387903
     ·have f2 := eq_true a2
      refine Zd rfl (by simp (maxSteps := 2000000) only [gs,gd,zlr,id,reduceIte,reduceCtorEq,zpa,zpb,zpc,zpd,zpe,zpf,zpg,zph,zpi,zpj,zpk,zpl,zpm,zpn,zpo,zpp, dapp_eq, f1, f2, decide_true, decide_false]; rfl) ?_
      exact Za rfl ⟨⟨true, ⟨fun _ => .inr (.inl a2), fun _ => rfl⟩, rfl⟩, rfl, rfl, rfl, rfl, rfl⟩
     have f2 := eq_false a2
     by_cases a3 : e.2.1 ≥ e.2.2.1
     ·have f3 := eq_true a3
      refine Zd rfl (by simp (maxSteps := 2000000) only [gs,gd,zlr,id,reduceIte,reduceCtorEq,zpa,zpb,zpc,zpd,zpe,zpf,zpg,zph,zpi,zpj,zpk,zpl,zpm,zpn,zpo,zpp, dapp_eq, f1, f2, f3, decide_true, decide_false]; rfl) ?_
      exact Za rfl ⟨⟨true, ⟨fun _ => .inr (.inr (.inl a3)), fun _ => rfl⟩, rfl⟩, rfl, rfl, rfl, rfl, rfl⟩
     have f3 := eq_false a3
     by_cases hi0 : i = 0
     ·have g0 : ((i : Int) > 0) = False := eq_false (by omega)
      refine Zd rfl (by simp (maxSteps := 2000000) only [gs,gd,zlr,id,reduceIte,reduceCtorEq,zpa,zpb,zpc,zpd,zpe,zpf,zpg,zph,zpi,zpj,zpk,zpl,zpm,zpn,zpo,zpp, dapp_eq, f1, f2, f3, g0, decide_true, decide_false]; rfl) ?_
      exact Za rfl ⟨⟨false, ⟨fun h => (by cases h), fun h => by
       rcases h with h | h | h | ⟨d, h, _⟩
       ·exact absurd h a1
       ·exact absurd h a2
       ·exact absurd h a3
       ·omega⟩, rfl⟩, rfl, rfl, rfl, rfl, rfl⟩
     ·have g1 : ((i : Int) > 0) = True := eq_true (by omega)
      have ws : IntKind.i64.wrap ((i : Int) - 1) = ((i - 1 : Nat) : Int) := by rw [wrap_i64 (by omega) (by omega)]; omega
      have n1 : ((0 : Int) ≤ ((i - 1 : Nat) : Int)) = True := eq_true (by omega)
      have gp : l[i - 1]? = some (l[i - 1]'(by omega)) := List.getElem?_eq_getElem _
      generalize l[i - 1]'(by omega) = d at gp
      have BE := before_H d e
      by_cases a4 : ltV d e
      ·rw [decide_eq_true a4] at BE
       refine Zd rfl (by simp (maxSteps := 2000000) only [gs,gd,zlr,id,reduceIte,reduceCtorEq,zpa,zpb,zpc,zpd,zpe,zpf,zpg,zph,zpi,zpj,zpk,zpl,zpm,zpn,zpo,zpp, dapp_eq, f1, f2, f3, g1, ws, n1, uvs_get gp, gc_edge_Before, iq_edge_Before, BE, decide_true, decide_false]; rfl) ?_
       exact Za rfl ⟨⟨false, ⟨fun h => (by cases h), fun h => by
        rcases h with h | h | h | ⟨d', _, h1, h2⟩
        ·exact absurd h a1
        ·exact absurd h a2
        ·exact absurd h a3
        ·rw [gp] at h1; cases h1; exact absurd a4 h2⟩, rfl⟩, rfl, rfl, rfl, rfl, rfl⟩
      ·rw [decide_eq_false a4] at BE
       refine Zd rfl (by simp (maxSteps := 2000000) only [gs,gd,zlr,id,reduceIte,reduceCtorEq,zpa,zpb,zpc,zpd,zpe,zpf,zpg,zph,zpi,zpj,zpk,zpl,zpm,zpn,zpo,zpp, dapp_eq, f1, f2, f3, g1, ws, n1, uvs_get gp, gc_edge_Before, iq_edge_Before, BE, decide_true, decide_false]; rfl) ?_
       exact Za rfl ⟨⟨true, ⟨fun _ => .inr (.inr (.inr ⟨d, by omega, gp, a4⟩)), fun _ => rfl⟩, rfl⟩, rfl, rfl, rfl, rfl, rfl⟩
    rintro env h ⟨⟨b, hb, k44⟩, k0, k1, k7, k8, k9⟩
    cases b with
    | true =>
     refine Zc rfl (x := true) k44 (fun _ => ?_) (fun h => by cases h)
     exact Zr rfl (by simp (maxSteps := 2000000) only [gs,zlr,reduceIte,reduceCtorEq,zpa,zpb,zpc,zpd,zpe,zpf,zpg,zph,zpi,zpj,zpk,zpl,zpm,zpn,zpo,zpp]; rfl) (Zq rfl ⟨_, rfl, _, _, rfl, rfl, false, rfl, ⟨fun h => (by cases h), fun h => absurd h (hbad (hb.1 rfl))⟩⟩)
    | false =>
     refine Zc rfl (x := false) k44 (fun h => by cases h) (fun _ => ?_)
     refine Zr rfl (by simp (maxSteps := 2000000) only [gs,zlr,reduceIte,reduceCtorEq,zpa,zpb,zpc,zpd,zpe,zpf,zpg,zph,zpi,zpj,zpk,zpl,zpm,zpn,zpo,zpp, k9, hinc]; rfl) ?_
     refine Za rfl ⟨n - 1, by omega, i + 1, fun j d hj hd => ?_, by simp [GEnv.get, k0], by simp [GEnv.get, k1], by simp [GEnv.get, k7], by simp [GEnv.get, k8], by simp [GEnv.get], by omega⟩
     by_cases hji : j = i
     ·subst hji; rw [gx] at hd; cases hd
      intro h; have := hb.2 h; cases this
     ·exact hok j d (by omega) hd
   ·have hil : i = l.length := by omega
    have hgood : (∀ e ∈ l, 0 ≤ e.1 ∧ e.1 ≤ 4611686018427387903 ∧ e.2.1 < e.2.2.1) ∧ RisV l := by
     refine ⟨fun e he => ?_, ris_adj (R := ltV) (fun h k => ltV_trans h k) fun j x y hx hy => ?_⟩
     ·obtain ⟨j, hj⟩ := List.mem_iff_getElem?.1 he
      have := hok j e (by have := (List.getElem?_eq_some_iff.1 hj).1; omega) hj
      refine ⟨?_, ?_, ?_⟩
      ·by_cases h : 0 ≤ e.1
       ·exact h
       ·exact absurd (.inl (by omega)) this
      ·by_cases h : e.1 ≤ 4611686018427387903
       ·exact h
       ·exact absurd (.inr (.inl (by omega))) this
      ·by_cases h : e.2.1 < e.2.2.1
       ·exact h
       ·exact absurd (.inr (.inr (.inl (by omega)))) this
     ·have := hok (j + 1) y (by have := (List.getElem?_eq_some_iff.1 hy).1; omega) hy
      by_cases h : ltV x y
      ·exact h
      ·exact absurd (.inr (.inr (.inr ⟨x, by omega, by simpa using hx, h⟩))) this
    cases l with
    | nil =>
     exact Zr rfl (by simp (maxSteps := 2000000) only [gs,zlr,reduceIte,reduceCtorEq,zpa,zpb,zpc,zpd,zpe,zpf,zpg,zph,zpi,zpj,zpk,zpl,zpm,zpn,zpo,zpp, uvs_length, List.length_nil, beq_self_eq_true]; rfl) (Zq rfl ⟨_, rfl, _, _, rfl, rfl, true, rfl, ⟨fun _ => ⟨hgood.1, hgood.2, fun e r h => (by cases h)⟩, fun _ => rfl⟩⟩)
    | cons e r =>
     have z1 : ((((e :: r).length : Nat) : Int) == 0) = false := beq_eq_false_iff_ne.2 (by simp only [List.length_cons]; omega)
     have g0 : (uvs (e :: r))[0]? = some [.int .i64 e.1, .int .u32 e.2.1, .int .u32 e.2.2.1, .bool e.2.2.2] := rfl
     by_cases hf : e.1 = first
     ·have f1 : (e.1 == first) = true := beq_iff_eq.2 hf
      exact Zr rfl (by simp (maxSteps := 2000000) only [gs,zlr,reduceIte,reduceCtorEq,zpa,zpb,zpc,zpd,zpe,zpf,zpg,zph,zpi,zpj,zpk,zpl,zpm,zpn,zpo,zpp, uvs_length, z1, g0, f1]; rfl) (Zq rfl ⟨_, rfl, _, _, rfl, rfl, true, rfl, ⟨fun _ => ⟨hgood.1, hgood.2, fun e' r' h => by rw [List.cons.injEq] at h; rw [← h.1]; exact hf⟩, fun _ => rfl⟩⟩)
     ·have f1 : (e.1 == first) = false := beq_eq_false_iff_ne.2 hf
      exact Zr rfl (by simp (maxSteps := 2000000) only [gs,zlr,reduceIte,reduceCtorEq,zpa,zpb,zpc,zpd,zpe,zpf,zpg,zph,zpi,zpj,zpk,zpl,zpm,zpn,zpo,zpp, uvs_length, z1, g0, f1]; rfl) (Zq rfl ⟨_, rfl, _, _, rfl, rfl, false, rfl, ⟨fun h => (by cases h), fun h => absurd (h.2.2 e r rfl) hf⟩⟩)
  ·refine Zr rfl (by simp (maxSteps := 2000000) only [gs,zlr,reduceIte,reduceCtorEq,zpa,zpb,zpc,zpd,zpe,zpf,zpg,zph,zpi,zpj,zpk,zpl,zpm,zpn,zpo,zpp]; rfl) ?_
   refine Zr rfl (by simp (maxSteps := 2000000) only [gs,zlr,reduceIte,reduceCtorEq,zpa,zpb,zpc,zpd,zpe,zpf,zpg,zph,zpi,zpj,zpk,zpl,zpm,zpn,zpo,zpp]; rfl) ?_
   refine Zw rfl (fun n env h => GEnv.get env 0 = .int .i64 first ∧ GEnv.get env 1 = .nils ∧ GEnv.get env 7 = .nils ∧ GEnv.get env 8 = .int .i64 0 ∧ GEnv.get env 9 = .int .i64 0) 0 ⟨rfl, rfl, rfl, rfl, rfl⟩ ?_
   rintro n env h ⟨k0, k1, k7, k8, k9⟩
   simp only [GEnv.keep, k0, k1, k7, k8, k9]
   refine Zr rfl (by simp (maxSteps := 2000000) only [gs,zlr,reduceIte,reduceCtorEq,zpa,zpb,zpc,zpd,zpe,zpf,zpg,zph,zpi,zpj,zpk,zpl,zpm,zpn,zpo,zpp]; rfl) (Zc rfl rfl (fun h => by cases h) (fun _ => ?_))
   exact Zr rfl (by simp (maxSteps := 2000000) only [gs,zlr,reduceIte,reduceCtorEq,zpa,zpb,zpc,zpd,zpe,zpf,zpg,zph,zpi,zpj,zpk,zpl,zpm,zpn,zpo,zpp]; rfl) (Zq rfl ⟨_, rfl, _, _, rfl, rfl, true, rfl, ⟨fun _ => ⟨fun e he => absurd he (by simp), .nil, fun e r h => (by cases h)⟩, fun _ => rfl⟩⟩)
 obtain ⟨u, h', h1, rfl, b, rfl, h2⟩ := key
 exact ⟨b, h2, h1⟩
end Go.Ab
namespace Go.Ab
open Go
open Nat renaming reduceEqDiff → zpa, reduceLT → zpb, reduceAdd → zpc, reduceSub → zpd, reduceLeDiff → zpe, reduceMul → zpf
open Int renaming reduceToNat → zpg, reduceLT → zph, reduceLE → zpi, reduceEq → zpj, reduceNe → zpk, reduceBEq → zpl, reduceBNe → zpm, reduceAdd → zpn, reduceSub → zpo, reduceNeg → zpp
open List renaming replicate → zlr
set_option linter.unusedVariables false
set_option linter.unusedSimpArgs false
set_option maxRecDepth 10000
theorem Zj2 {T : GTab} {fl : Fl} {lo : Nat} {env : GEnv} {h : GH} {Q : GEnv → GH → Prop} {ic : IC} {ks' : List K} (P : GEnv → GH → Prop) (k1 : Z T fl lo (.c ic :: .again P :: ks') env h Q) (k2 : ∀ env h, P env h → Z T fl lo ks' env h Q) : Z T fl lo (.c ic :: ks') env h Q := by
 unfold Z at k1 k2 ⊢
 simp only [post] at k1 ⊢
 refine k1.mono fun e env' h' m => ?_
 cases e with
 | norm => exact k2 _ _ m
 | exit j => exact m
 | ret => exact m
theorem WrV.arlt {h : GH} {o p : Nat} {a : Option Nat} {l : List Bool} (w : WrV h o a l) (e : a = some p) : p < h.length := by
 rcases w with ⟨rfl, _, _⟩ | ⟨q, _, _, _, rfl, _, _, _, k⟩
 ·cases e
 ·cases e; exact get_lt k
theorem WrV.app {h : GH} {o : Nat} {a : Option Nat} {l : List Bool} {x : GObj} (w : WrV h o a l) : WrV (h ++ [x]) o a l :=
 w.other fun p hp => app_lt (by
  rcases hp with rfl | hp
  ·exact w.lt
  ·exact w.arlt hp)
theorem Kpw.off {o p : Nat} {a b : Option Nat} {h h' : GH} (k : Kpw o a b h h') (hp : p < h.length) (ha : a ≠ some p) : b ≠ some p := by
 rcases k.ar with e | ⟨q, e, hq⟩
 ·rw [e]; exact ha
 ·rw [e]; intro h; cases h; omega
def wBox (T U V : Int) (A any : Bool) : GObj := .box [.ptr 0 0 0 0, .int .i64 T, .int .u32 U, .int .u32 V, .bool A, .bool any]
set_option maxHeartbeats 2000000 in
theorem dwput_G {h : GH} {a : Option Nat} {B : List Bool} {last e : Ev} {any : Bool} (w : WrV h 0 a B) (kb : h[1]? = some (wBox last.1 last.2.1 last.2.2.1 last.2.2.2 any)) (ha : a ≠ some 1) (hl : B.length + 1000 ≤ 1099511627776) (hd : DNext last any e) :
  ∃ h' a', GF gtab fid_delta_writer_put [.ptr 1 0 0 0, .agg [.int .i64 e.1, .int .u32 e.2.1, .int .u32 e.2.2.1, .bool e.2.2.2]] h 0 = some (.tup [], h') ∧ WrV h' 0 a' (B ++ dbits last any e) ∧ h'[1]? = some (wBox e.1 e.2.1 e.2.2.1 e.2.2.2 true) ∧ a' ≠ some 1 := by
 have key : ∃ u h', GF gtab fid_delta_writer_put [.ptr 1 0 0 0, .agg [.int .i64 e.1, .int .u32 e.2.1, .int .u32 e.2.2.1, .bool e.2.2.2]] h 0 = some (u, h') ∧ u = .tup [] ∧ ∃ a', WrV h' 0 a' (B ++ dbits last any e) ∧ h'[1]? = some (wBox e.1 e.2.1 e.2.2.1 e.2.2.2 true) ∧ a' ≠ some 1 := by
  have hgap := hd.gap
  have hu := hd.u
  have hv := hd.v
  have hbits : dbits last any e = gbits (dgap last e) ++ ([e.2.2.2] ++ (gbits (du last any e) ++ gbits (dv last any e))) := rfl
  rw [hbits]
  have d1 := gbits_le (v := dgap last e) (by omega)
  have d2 := gbits_le (v := du last any e) (by omega)
  have d3 := gbits_le (v := dv last any e) (by omega)
  have hl1 := get_lt kb
  obtain ⟨T, U, V, A⟩ := e
  obtain ⟨T0, U0, V0, A0⟩ := last
  obtain ⟨⟨b1, b2, b3⟩, ⟨b4, b5, b6⟩, ⟨b7, b8, b9, b10⟩, b11, b12⟩ := hd
  simp only at b1 b2 b3 b4 b5 b6 b7 b8 b9 b10 b11 b12 kb ⊢
  obtain ⟨U, rfl⟩ : ∃ n : Nat, U = (n : Int) := ⟨U.toNat, by omega⟩
  obtain ⟨V, rfl⟩ : ∃ n : Nat, V = (n : Int) := ⟨V.toNat, by omega⟩
  obtain ⟨U0, rfl⟩ : ∃ n : Nat, U0 = (n : Int) := ⟨U0.toNat, by omega⟩
  obtain ⟨V0, rfl⟩ : ∃ n : Nat, V0 = (n : Int) := ⟨V0.toNat, by omega⟩
  have hsame : dsame (T0, (U0 : Int), (V0 : Int), A0) any (T, (U : Int), (V : Int), A) = (any && decide (T = T0)) := rfl
  have hdu : du (T0, (U0 : Int), (V0 : Int), A0) any (T, (U : Int), (V : Int), A) = if (any && decide (T = T0)) = true then U + 1 - U0 else U + 1 := by
   unfold du; rw [hsame]; simp only; split <;> omega
  have hdv : dv (T0, (U0 : Int), (V0 : Int), A0) any (T, (U : Int), (V : Int), A) = if (any && decide (T = T0)) = true ∧ U = U0 then V - V0 else V - U := by
   unfold dv; rw [hsame]; simp only [Int.ofNat_inj]; split <;> omega
  have hdg : dgap (T0, (U0 : Int), (V0 : Int), A0) (T, (U : Int), (V : Int), A) = (T - T0 + 1).toNat := rfl
  generalize dgap (T0, (U0 : Int), (V0 : Int), A0) (T, (U : Int), (V : Int), A) = g at *
  generalize du (T0, (U0 : Int), (V0 : Int), A0) any (T, (U : Int), (V : Int), A) = uu at *
  generalize dv (T0, (U0 : Int), (V0 : Int), A0) any (T, (U : Int), (V : Int), A) = vv at *
  have f1 : IntKind.i64.wrap (T - T0) = ((g - 1 : Nat) : Int) := by rw [wrap_i64 (by omega) (by omega)]; omega
  have f2 : IntKind.u64.wrap ((g - 1 : Nat) : Int) = ((g - 1 : Nat) : Int) := by rw [wrap_u64_nat, Nat.mod_eq_of_lt (by omega)]
  have f3 : IntKind.u64.wrap (((g - 1 : Nat) : Int) + 1) = ((g : Nat) : Int) := by
   rw [show ((g - 1 : Nat) : Int) + 1 = ((g : Nat) : Int) by omega, wrap_u64_nat, Nat.mod_eq_of_lt (by omega)]
  have c1 : IntKind.u64.wrap ((U : Nat) : Int) = ((U : Nat) : Int) := by rw [wrap_u64_nat, Nat.mod_eq_of_lt (by omega)]
  have c2 : IntKind.u64.wrap (((U : Nat) : Int) + 1) = ((U + 1 : Nat) : Int) := by
   rw [show ((U : Nat) : Int) + 1 = ((U + 1 : Nat) : Int) by omega, wrap_u64_nat, Nat.mod_eq_of_lt (by omega)]
  have c3 : IntKind.u32.wrap (((V : Nat) : Int) - ((U : Nat) : Int)) = ((V - U : Nat) : Int) := by
   rw [show ((V : Nat) : Int) - ((U : Nat) : Int) = ((V - U : Nat) : Int) by omega, wrap_u32_nat, Nat.mod_eq_of_lt (by omega)]
  have c4 : IntKind.u64.wrap ((V - U : Nat) : Int) = ((V - U : Nat) : Int) := by rw [wrap_u64_nat, Nat.mod_eq_of_lt (by omega)]
  have c5 : IntKind.u64.wrap ((U0 : Nat) : Int) = ((U0 : Nat) : Int) := by rw [wrap_u64_nat, Nat.mod_eq_of_lt (by omega)]
  unfold wBox at kb
  have hn1 : 1 ≠ h.length := by omega
  have ge0 : ∀ x : GObj, (h ++ [x])[1]? = h[1]? := fun x => app_lt hl1
  obtain ⟨h2, a2, G1, w2, kp1⟩ := gput_G (lo := 0) (v := g) (w.app (x := .box [.int .i64 T, .int .u32 (U : Int), .int .u32 (V : Int), .bool A])) (Nat.zero_le _) (fun _ _ => Nat.zero_le _) (Nat.zero_le _) (by omega) (by omega)
  have hna : a ≠ some h.length := fun e => by have := w.arlt e; omega
  have hlen1 : (h ++ [GObj.box [.int .i64 T, .int .u32 (U : Int), .int .u32 (V : Int), .bool A]]).length = h.length + 1 := by simp
  have k21 := kp1.same 1 (by rw [hlen1]; omega) (by omega) ha
  rw [ge0, kb] at k21
  have k2n := kp1.same h.length (by rw [hlen1]; omega) (by omega) hna
  rw [dapp_eq] at k2n
  have a21 := kp1.off (p := 1) (by rw [hlen1]; omega) ha
  have a2n := kp1.off (p := h.length) (by rw [hlen1]; omega) hna
  have hl2 := kp1.len
  rw [hlen1] at hl2
  have hsg : A.toNat < 18446744073709551616 := by cases A <;> decide
  obtain ⟨h3, a3, G2, w3, kp2⟩ := wput_G (lo := 0) (v := A.toNat) (n := 1) w2 (Nat.zero_le _) (fun _ _ => Nat.zero_le _) (Nat.zero_le _) hsg (by rw [List.length_append]; omega)
  have htop : top A.toNat (clamp 1) = [A] := by cases A <;> rfl
  rw [htop] at w3
  have k31 := kp2.same 1 (by omega) (by omega) a21
  rw [k21] at k31
  have k3n := kp2.same h.length (by omega) (by omega) a2n
  rw [k2n] at k3n
  have a31 := kp2.off (p := 1) (by omega) a21
  have a3n := kp2.off (p := h.length) (by omega) a2n
  have hl3 := kp2.len
  refine fnR_delta_writer_put rfl ?_
  simp only [genvOf]
  refine Zr rfl (by simp (maxSteps := 2000000) only [gs,zlr,reduceIte,reduceCtorEq,zpa,zpb,zpc,zpd,zpe,zpf,zpg,zph,zpi,zpj,zpk,zpl,zpm,zpn,zpo,zpp]; rfl) ?_
  refine Zd rfl (by simp (maxSteps := 2000000) only [gs,gd,zlr,id,reduceIte,reduceCtorEq,zpa,zpb,zpc,zpd,zpe,zpf,zpg,zph,zpi,zpj,zpk,zpl,zpm,zpn,zpo,zpp, kb, ge0, dapp_eq, f1, f2, f3, gc_gamma_Put, iq_gamma_Put, G1]; rfl) ?_
  refine Zr rfl (by simp (maxSteps := 2000000) only [gs,zlr,reduceIte,reduceCtorEq,zpa,zpb,zpc,zpd,zpe,zpf,zpg,zph,zpi,zpj,zpk,zpl,zpm,zpn,zpo,zpp]; rfl) ?_
  refine Z_nrm 1 (Zj2 (fun env h' => h' = h2 ∧ GEnv.get env 0 = .ptr 1 0 0 0 ∧ GEnv.get env 3 = .ptr h.length 0 0 0 ∧ GEnv.get env 4 = .int .u64 ((A.toNat : Nat) : Int)) ?_ ?_)
  ·cases A with
   | true =>
    refine Zr rfl (by simp (maxSteps := 2000000) only [gs,zlr,reduceIte,reduceCtorEq,zpa,zpb,zpc,zpd,zpe,zpf,zpg,zph,zpi,zpj,zpk,zpl,zpm,zpn,zpo,zpp, k2n]; rfl) (Zc rfl rfl (fun _ => ?_) (fun h => by cases h))
    refine Zr rfl (by simp (maxSteps := 2000000) only [gs,zlr,reduceIte,reduceCtorEq,zpa,zpb,zpc,zpd,zpe,zpf,zpg,zph,zpi,zpj,zpk,zpl,zpm,zpn,zpo,zpp]; rfl) ?_
    exact Za rfl ⟨rfl, rfl, rfl, rfl⟩
   | false =>
    refine Zr rfl (by simp (maxSteps := 2000000) only [gs,zlr,reduceIte,reduceCtorEq,zpa,zpb,zpc,zpd,zpe,zpf,zpg,zph,zpi,zpj,zpk,zpl,zpm,zpn,zpo,zpp, k2n]; rfl) (Zc rfl rfl (fun h => by cases h) (fun _ => ?_))
    exact Za rfl ⟨rfl, rfl, rfl, rfl⟩
  rintro env h' ⟨rfl, k0, k3, k4⟩
  refine Zr rfl (by simp (maxSteps := 2000000) only [gs,zlr,reduceIte,reduceCtorEq,zpa,zpb,zpc,zpd,zpe,zpf,zpg,zph,zpi,zpj,zpk,zpl,zpm,zpn,zpo,zpp, k0, k4, k21, gc_bits_Writer_Put, G2]; rfl) ?_
  refine Zd rfl (by simp (maxSteps := 2000000) only [gs,gd,zlr,id,reduceIte,reduceCtorEq,zpa,zpb,zpc,zpd,zpe,zpf,zpg,zph,zpi,zpj,zpk,zpl,zpm,zpn,zpo,zpp, k0, k3, k31, k3n, c1, c2, c3, c4, dapp_eq, dapp_set, Nat.zero_le]; rfl) ?_
  have k41 : (h3 ++ [GObj.box [.int .u32 (U0 : Int), .int .u32 (V0 : Int)]])[1]? = some (.box [.ptr 0 0 0 0, .int .i64 T0, .int .u32 (U0 : Int), .int .u32 (V0 : Int), .bool A0, .bool any]) := by rw [app_lt (by omega), k31]
  have k4n : (h3 ++ [GObj.box [.int .u32 (U0 : Int), .int .u32 (V0 : Int)]])[h.length]? = some (.box [.int .i64 T, .int .u32 (U : Int), .int .u32 (V : Int), .bool A]) := by rw [app_lt (by omega), k3n]
  refine Z_nrm 1 (Zj2 (fun env h' => h' = h3 ++ [GObj.box [.int .u32 (U0 : Int), .int .u32 (V0 : Int)]] ∧ GEnv.get env 0 = .ptr 1 0 0 0 ∧ GEnv.get env 3 = .ptr h.length 0 0 0 ∧ GEnv.get env 5 = .int .u64 ((uu : Nat) : Int) ∧ GEnv.get env 6 = .int .u64 ((vv : Nat) : Int)) ?_ ?_)
  ·cases any with
   | false =>
    rw [if_neg (by simp)] at hdu
    rw [if_neg (by simp)] at hdv
    refine Zd rfl (by simp (maxSteps := 2000000) only [gs,gd,zlr,id,reduceIte,reduceCtorEq,zpa,zpb,zpc,zpd,zpe,zpf,zpg,zph,zpi,zpj,zpk,zpl,zpm,zpn,zpo,zpp, k0, k41]; rfl) (Zc rfl rfl (fun h => by cases h) (fun _ => ?_))
    exact Za rfl ⟨rfl, by simp [GEnv.get, k0], by simp [GEnv.get, k3], by simp [GEnv.get, hdu], by simp [GEnv.get, hdv]⟩
   | true =>
    by_cases hT : T = T0
    ·subst hT
     rw [if_pos (by simp)] at hdu
     have c6 : IntKind.u64.wrap (((U + 1 : Nat) : Int) - ((U0 : Nat) : Int)) = ((uu : Nat) : Int) := by
      have := b12 rfl rfl
      rw [show ((U + 1 : Nat) : Int) - ((U0 : Nat) : Int) = ((uu : Nat) : Int) by omega, wrap_u64_nat, Nat.mod_eq_of_lt (by omega)]
     refine Zd rfl (by simp (maxSteps := 2000000) only [gs,gd,zlr,id,reduceIte,reduceCtorEq,zpa,zpb,zpc,zpd,zpe,zpf,zpg,zph,zpi,zpj,zpk,zpl,zpm,zpn,zpo,zpp, k0, k3, k41, k4n, beq_self_eq_true]; rfl) (Zc rfl rfl (fun _ => ?_) (fun h => by cases h))
     refine Zr rfl (by simp (maxSteps := 2000000) only [gs,zlr,reduceIte,reduceCtorEq,zpa,zpb,zpc,zpd,zpe,zpf,zpg,zph,zpi,zpj,zpk,zpl,zpm,zpn,zpo,zpp, dapp_eq, c5, c6]; rfl) ?_
     by_cases hU : U = U0
     ·rw [if_pos ⟨by simp, hU⟩] at hdv
      have hbU : (((U : Nat) : Int) == ((U0 : Nat) : Int)) = true := by rw [hU]; exact beq_self_eq_true _
      have c7 : IntKind.u32.wrap (((V : Nat) : Int) - ((V0 : Nat) : Int)) = ((vv : Nat) : Int) := by
       have := (b12 rfl rfl).2 (by rw [hU])
       rw [show ((V : Nat) : Int) - ((V0 : Nat) : Int) = ((vv : Nat) : Int) by omega, wrap_u32_nat, Nat.mod_eq_of_lt (by omega)]
      have c8 : IntKind.u64.wrap ((vv : Nat) : Int) = ((vv : Nat) : Int) := by rw [wrap_u64_nat, Nat.mod_eq_of_lt (by omega)]
      refine Zr rfl (by simp (maxSteps := 2000000) only [gs,zlr,reduceIte,reduceCtorEq,zpa,zpb,zpc,zpd,zpe,zpf,zpg,zph,zpi,zpj,zpk,zpl,zpm,zpn,zpo,zpp, k3, k4n, dapp_eq, hbU]; rfl) (Zc rfl rfl (fun _ => ?_) (fun h => by cases h))
      refine Zr rfl (by simp (maxSteps := 2000000) only [gs,zlr,reduceIte,reduceCtorEq,zpa,zpb,zpc,zpd,zpe,zpf,zpg,zph,zpi,zpj,zpk,zpl,zpm,zpn,zpo,zpp, k3, k4n, dapp_eq, c7, c8]; rfl) ?_
      exact Za rfl ⟨rfl, by simp [GEnv.get, k0], by simp [GEnv.get, k3], by simp [GEnv.get], by simp [GEnv.get]⟩
     ·rw [if_neg (fun h => hU h.2)] at hdv
      have hbU : (((U : Nat) : Int) == ((U0 : Nat) : Int)) = false := beq_eq_false_iff_ne.2 (by omega)
      refine Zr rfl (by simp (maxSteps := 2000000) only [gs,zlr,reduceIte,reduceCtorEq,zpa,zpb,zpc,zpd,zpe,zpf,zpg,zph,zpi,zpj,zpk,zpl,zpm,zpn,zpo,zpp, k3, k4n, dapp_eq, hbU]; rfl) (Zc rfl rfl (fun h => by cases h) (fun _ => ?_))
      exact Za rfl ⟨rfl, by simp [GEnv.get, k0], by simp [GEnv.get, k3], by simp [GEnv.get], by simp [GEnv.get, hdv]⟩
    ·rw [if_neg (by simp [hT])] at hdu
     rw [if_neg (by simp [hT])] at hdv
     have hbT : (T == T0) = false := beq_eq_false_iff_ne.2 hT
     refine Zd rfl (by simp (maxSteps := 2000000) only [gs,gd,zlr,id,reduceIte,reduceCtorEq,zpa,zpb,zpc,zpd,zpe,zpf,zpg,zph,zpi,zpj,zpk,zpl,zpm,zpn,zpo,zpp, k0, k3, k41, k4n, hbT]; rfl) (Zc rfl rfl (fun h => by cases h) (fun _ => ?_))
     exact Za rfl ⟨rfl, by simp [GEnv.get, k0], by simp [GEnv.get, k3], by simp [GEnv.get, hdu], by simp [GEnv.get, hdv]⟩
  rintro env h' ⟨rfl, k0, k3, k5, k6⟩
  have hlen3 : (h3 ++ [GObj.box [.int .u32 (U0 : Int), .int .u32 (V0 : Int)]]).length = h3.length + 1 := by simp
  obtain ⟨h5, a5, G3, w5, kp3⟩ := gput_G (lo := 0) (v := uu) (w3.app (x := .box [.int .u32 (U0 : Int), .int .u32 (V0 : Int)])) (Nat.zero_le _) (fun _ _ => Nat.zero_le _) (Nat.zero_le _) (by omega) (by simp only [List.length_append, List.length_singleton]; omega)
  have k51 := kp3.same 1 (by rw [hlen3]; omega) (by omega) a31
  rw [k41] at k51
  have k5n := kp3.same h.length (by rw [hlen3]; omega) (by omega) a3n
  rw [k4n] at k5n
  have a51 := kp3.off (p := 1) (by rw [hlen3]; omega) a31
  have a5n := kp3.off (p := h.length) (by rw [hlen3]; omega) a3n
  have hl5 := kp3.len
  rw [hlen3] at hl5
  obtain ⟨h6, a6, G4, w6, kp4⟩ := gput_G (lo := 0) (v := vv) w5 (Nat.zero_le _) (fun _ _ => Nat.zero_le _) (Nat.zero_le _) (by omega) (by simp only [List.length_append, List.length_singleton]; omega)
  have k61 := kp4.same 1 (by omega) (by omega) a51
  rw [k51] at k61
  have k6n := kp4.same h.length (by omega) (by omega) a5n
  rw [k5n] at k6n
  have a61 := kp4.off (p := 1) (by omega) a51
  have hl6 := get_lt k61
  refine Zr rfl (by simp (maxSteps := 2000000) only [gs,zlr,reduceIte,reduceCtorEq,zpa,zpb,zpc,zpd,zpe,zpf,zpg,zph,zpi,zpj,zpk,zpl,zpm,zpn,zpo,zpp, k0, k5, k41, gc_gamma_Put, G3]; rfl) ?_
  refine Zr rfl (by simp (maxSteps := 2000000) only [gs,zlr,reduceIte,reduceCtorEq,zpa,zpb,zpc,zpd,zpe,zpf,zpg,zph,zpi,zpj,zpk,zpl,zpm,zpn,zpo,zpp, k0, k6, k51, gc_gamma_Put, G4]; rfl) ?_
  have hset : ∀ x : GObj, (h6.set 1 x)[1]? = some x := fun x => set_eq hl6
  have hss : ∀ x y : GObj, (h6.set 1 x).set 1 y = h6.set 1 y := fun x y => List.set_set ..
  refine Zr rfl (by simp (maxSteps := 2000000) only [gs,zlr,reduceIte,reduceCtorEq,zpa,zpb,zpc,zpd,zpe,zpf,zpg,zph,zpi,zpj,zpk,zpl,zpm,zpn,zpo,zpp, k0, k3, k61, k6n, hset, hss]; rfl) (Zq rfl ⟨_, rfl, _, _, rfl, rfl, a6, ?_, ?_, a61⟩)
  ·have := w6.other (h' := h6.set 1 (wBox T U V A true)) fun p hp => set_ne (by
    rcases hp with rfl | hp
    ·omega
    ·rintro rfl; exact a61 hp)
   simp only [List.append_assoc] at this
   exact this
  ·exact hset _
 obtain ⟨u, h', h1, rfl, a', h2, h3, h4⟩ := key
 exact ⟨h', a', h1, h2, h3, h4⟩
theorem wbytes_all {h : GH} {o : Nat} {a : Option Nat} {l : List Bool} (w : WrV h o a l) (hl : l.length ≤ 1099511627776) : ∃ bs, Packed bs l ∧ ∀ lo, GF gtab fid_bits_Writer_Bytes [.ptr o 0 0 0] h lo = some (.own 1 (un .u8 bs), h) := by
 obtain ⟨bs, h1, _⟩ := wbytes_G (lo := 0) w hl
 refine ⟨bs, h1, fun lo => ?_⟩
 obtain ⟨bs', h2, h3⟩ := wbytes_G (lo := lo) w hl
 have : bs = bs' := PackedN.unique h1 h2
 rw [this]; exact h3
theorem dput_R {w : U} {l : List Ev} {first : Int} (hw : isVa w l) (hl : l.length ≤ 1000) (ho : EvOk l) :
  (∃ bs, RightD first l ∧ Packed bs (db first l) ∧ GF gtab fid_delta_Put [.int .i64 first, w] [] 0 = some (.tup [.own 1 (un .u8 bs), .int .i64 0], [])) ∨ (¬ RightD first l ∧ GF gtab fid_delta_Put [.int .i64 first, w] [] 0 = some (.tup [.nils, .int .i64 23], [])) := by
 have key : ∃ u h', GF gtab fid_delta_Put [.int .i64 first, w] [] 0 = some (u, h') ∧ h' = [] ∧ ((∃ bs, RightD first l ∧ Packed bs (db first l) ∧ u = .tup [.own 1 (un .u8 bs), .int .i64 0]) ∨ (¬ RightD first l ∧ u = .tup [.nils, .int .i64 23])) := by
  obtain ⟨b, hb, hG⟩ := dright_R (first := first) hw hl
  have hN : ∀ lo, GF gtab fid_bits_NewWriter [] [] lo = some (.ptr 0 0 0 0, [GObj.box [.nils, .int .i64 0]]) := fun lo => newWriter_G (h := []) (lo := lo)
  refine fnR_delta_Put rfl ?_
  simp only [genvOf]
  rcases hw with rfl | ⟨rfl, rfl⟩
  ·refine Zr rfl (by simp (maxSteps := 2000000) only [gs,zlr,reduceIte,reduceCtorEq,zpa,zpb,zpc,zpd,zpe,zpf,zpg,zph,zpi,zpj,zpk,zpl,zpm,zpn,zpo,zpp]; rfl) ?_
   cases b with
   | false =>
    refine Zr rfl (by simp (maxSteps := 2000000) only [gs,zlr,reduceIte,reduceCtorEq,zpa,zpb,zpc,zpd,zpe,zpf,zpg,zph,zpi,zpj,zpk,zpl,zpm,zpn,zpo,zpp, snapLL_uvs, gc_delta_right, hG]; rfl) (Zc rfl rfl (fun _ => ?_) (fun h => by cases h))
    exact Zr rfl (by simp (maxSteps := 2000000) only [gs,zlr,reduceIte,reduceCtorEq,zpa,zpb,zpc,zpd,zpe,zpf,zpg,zph,zpi,zpj,zpk,zpl,zpm,zpn,zpo,zpp]; rfl) (Zq rfl ⟨_, rfl, _, _, rfl, rfl, .inr ⟨fun hs => absurd (hb.2 hs) (by simp), rfl⟩⟩)
   | true =>
    have hR := hb.1 rfl
    have hch := hR.chain ho
    refine Zr rfl (by simp (maxSteps := 2000000) only [gs,zlr,reduceIte,reduceCtorEq,zpa,zpb,zpc,zpd,zpe,zpf,zpg,zph,zpi,zpj,zpk,zpl,zpm,zpn,zpo,zpp, snapLL_uvs, gc_delta_right, hG]; rfl) (Zc rfl rfl (fun h => by cases h) (fun _ => ?_))
    refine Zr rfl (by simp (maxSteps := 2000000) only [gs,zlr,reduceIte,reduceCtorEq,zpa,zpb,zpc,zpd,zpe,zpf,zpg,zph,zpi,zpj,zpk,zpl,zpm,zpn,zpo,zpp, gc_bits_NewWriter, hN]; rfl) ?_
    refine Zr rfl (by simp (maxSteps := 2000000) only [gs,zlr,reduceIte,reduceCtorEq,zpa,zpb,zpc,zpd,zpe,zpf,zpg,zph,zpi,zpj,zpk,zpl,zpm,zpn,zpo,zpp, uvs_length]; rfl) ?_
    refine Zw rfl (fun n env h => ∃ (i : Nat) (a : Option Nat) (B : List Bool) (last : Ev) (any : Bool), n + i = l.length ∧ WrV h 0 a B ∧ h[1]? = some (wBox last.1 last.2.1 last.2.2.1 last.2.2.2 any) ∧ a ≠ some 1 ∧ B.length ≤ 400 * i ∧ B ++ dall last any (l.drop i) = db first l ∧ DCh last any (l.drop i) ∧ GEnv.get env 6 = .ptr 1 0 0 0 ∧ GEnv.get env 18 = .list false 4 (uvs l) ∧ GEnv.get env 19 = .int .i64 ((l.length : Nat) : Int) ∧ GEnv.get env 20 = .int .i64 ((i : Nat) : Int)) l.length ⟨0, none, [], ev0 first, false, rfl, .inl ⟨rfl, rfl, rfl⟩, rfl, by simp, by simp, rfl, hch, rfl, rfl, rfl, rfl⟩ ?_
    rintro n env h ⟨i, a, B, last, any, hn, hw, hk, ha, hB, hbits, hc, k6, k18, k19, k20⟩
    simp only [GEnv.keep, k6, k18, k19, k20]
    refine Zr rfl (by simp (maxSteps := 2000000) only [gs,zlr,reduceIte,reduceCtorEq,zpa,zpb,zpc,zpd,zpe,zpf,zpg,zph,zpi,zpj,zpk,zpl,zpm,zpn,zpo,zpp]; rfl) (Zp rfl rfl (fun hi => ?_) (fun hi => ?_))
    ·have gx : l[i]? = some (l[i]'(by omega)) := List.getElem?_eq_getElem _
     have hdr : l.drop i = l[i]'(by omega) :: l.drop (i + 1) := List.drop_eq_getElem_cons (by omega)
     generalize l[i]'(by omega) = e at gx hdr
     rw [hdr] at hbits hc
     have n0 : ((0 : Int) ≤ (i : Int)) = True := eq_true (by omega)
     have hinc : IntKind.i64.wrap ((i : Int) + 1) = ((i + 1 : Nat) : Int) := up64 (by omega)
     obtain ⟨h', a', P, w', k', a1⟩ := dwput_G (hw.app (x := .box [.int .i64 e.1, .int .u32 e.2.1, .int .u32 e.2.2.1, .bool e.2.2.2])) (by rw [app_lt (get_lt hk)]; exact hk) ha (by omega) hc.1
     have hdl := dbits_le hc.1
     refine Zr rfl (by simp (maxSteps := 2000000) only [gs,zlr,reduceIte,reduceCtorEq,zpa,zpb,zpc,zpd,zpe,zpf,zpg,zph,zpi,zpj,zpk,zpl,zpm,zpn,zpo,zpp, n0, uvs_get gx, dapp_eq, dapp_set]; rfl) ?_
     refine Zr rfl (by simp (maxSteps := 2000000) only [gs,zlr,reduceIte,reduceCtorEq,zpa,zpb,zpc,zpd,zpe,zpf,zpg,zph,zpi,zpj,zpk,zpl,zpm,zpn,zpo,zpp, dapp_eq, gc_delta_writer_put, P]; rfl) ?_
     refine Zr rfl (by simp (maxSteps := 2000000) only [gs,zlr,reduceIte,reduceCtorEq,zpa,zpb,zpc,zpd,zpe,zpf,zpg,zph,zpi,zpj,zpk,zpl,zpm,zpn,zpo,zpp, hinc]; rfl) ?_
     exact Za rfl ⟨n - 1, by omega, i + 1, a', B ++ dbits last any e, e, true, by omega, w', k', a1, by rw [List.length_append]; omega, by rw [List.append_assoc]; exact hbits, hc.2, rfl, rfl, rfl, rfl⟩
    ·have hil : i = l.length := by omega
     rw [hil, List.drop_length] at hbits
     simp only [dall, List.append_nil] at hbits
     obtain ⟨bs, hpk, hby⟩ := wbytes_all hw (by omega)
     unfold wBox at hk
     refine Zr rfl (by simp (maxSteps := 2000000) only [gs,zlr,reduceIte,reduceCtorEq,zpa,zpb,zpc,zpd,zpe,zpf,zpg,zph,zpi,zpj,zpk,zpl,zpm,zpn,zpo,zpp, hk, gc_bits_Writer_Bytes, hby]; rfl) (Zq rfl ⟨_, rfl, ?_⟩)
     simp only [gfin, outs, U.out, U.handed, GEnv.get, if_true, Nat.reduceEqDiff, if_false, rfLL_un, Option.map_some]
     exact ⟨_, _, rfl, rfl, .inl ⟨bs, hR, by rw [← hbits]; exact hpk, rfl⟩⟩
  ·refine Zr rfl (by simp (maxSteps := 2000000) only [gs,zlr,reduceIte,reduceCtorEq,zpa,zpb,zpc,zpd,zpe,zpf,zpg,zph,zpi,zpj,zpk,zpl,zpm,zpn,zpo,zpp]; rfl) ?_
   cases b with
   | false => exact absurd (hb.2 ⟨fun e he => absurd he (by simp), .nil, fun e r h => (by cases h)⟩) (by simp)
   | true =>
    have hR := hb.1 rfl
    obtain ⟨bs, hpk, hby⟩ := wbytes_all (h := [GObj.box [.nils, .int .i64 0], GObj.box [.ptr 0 0 0 0, .int .i64 first, .int .u32 0, .int .u32 0, .bool false, .bool false]]) (o := 0) (a := none) (l := []) (.inl ⟨rfl, rfl, rfl⟩) (by simp)
    refine Zr rfl (by simp (maxSteps := 2000000) only [gs,zlr,reduceIte,reduceCtorEq,zpa,zpb,zpc,zpd,zpe,zpf,zpg,zph,zpi,zpj,zpk,zpl,zpm,zpn,zpo,zpp, gc_delta_right, hG]; rfl) (Zc rfl rfl (fun h => by cases h) (fun _ => ?_))
    refine Zr rfl (by simp (maxSteps := 2000000) only [gs,zlr,reduceIte,reduceCtorEq,zpa,zpb,zpc,zpd,zpe,zpf,zpg,zph,zpi,zpj,zpk,zpl,zpm,zpn,zpo,zpp, gc_bits_NewWriter, hN]; rfl) ?_
    refine Zr rfl (by simp (maxSteps := 2000000) only [gs,zlr,reduceIte,reduceCtorEq,zpa,zpb,zpc,zpd,zpe,zpf,zpg,zph,zpi,zpj,zpk,zpl,zpm,zpn,zpo,zpp]; rfl) ?_
    refine Zw rfl (fun n env h => h = [GObj.box [.nils, .int .i64 0], GObj.box [.ptr 0 0 0 0, .int .i64 first, .int .u32 0, .int .u32 0, .bool false, .bool false]] ∧ GEnv.get env 6 = .ptr 1 0 0 0 ∧ GEnv.get env 18 = .nils ∧ GEnv.get env 19 = .int .i64 0 ∧ GEnv.get env 20 = .int .i64 0) 0 ⟨rfl, rfl, rfl, rfl, rfl⟩ ?_
    rintro n env h ⟨rfl, k6, k18, k19, k20⟩
    simp only [GEnv.keep, k6, k18, k19, k20]
    refine Zr rfl (by simp (maxSteps := 2000000) only [gs,zlr,reduceIte,reduceCtorEq,zpa,zpb,zpc,zpd,zpe,zpf,zpg,zph,zpi,zpj,zpk,zpl,zpm,zpn,zpo,zpp]; rfl) (Zc rfl rfl (fun h => by cases h) (fun _ => ?_))
    refine Zr rfl (by simp (maxSteps := 2000000) only [gs,zlr,reduceIte,reduceCtorEq,zpa,zpb,zpc,zpd,zpe,zpf,zpg,zph,zpi,zpj,zpk,zpl,zpm,zpn,zpo,zpp, gc_bits_Writer_Bytes, hby]; rfl) (Zq rfl ⟨_, rfl, ?_⟩)
    simp only [gfin, outs, U.out, U.handed, GEnv.get, if_true, Nat.reduceEqDiff, if_false, rfLL_un, Option.map_some]
    exact ⟨_, _, rfl, rfl, .inl ⟨bs, hR, hpk, rfl⟩⟩
 obtain ⟨u, h', h1, rfl, h2 | h2⟩ := key
 ·obtain ⟨bs, a, b, rfl⟩ := h2
  exact .inl ⟨bs, a, b, h1⟩
 ·obtain ⟨a, rfl⟩ := h2
  exact .inr ⟨a, h1⟩
end Go.Ab
