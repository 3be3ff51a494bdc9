/- Same, Copy, Last of histories on the machine of values. -/
import Derived.Test.YtdhoihialekgmaaHistP
import Derived.Test.YtdhoihialekgmaaValN
namespace Go.Ab
open Go
open Nat renaming reduceEqDiff → zpa, reduceLT → zpb, reduceAdd → zpc, reduceSub → zpd, reduceLeDiff → zpe, reduceMul → zpf
open Int renaming reduceToNat → zpg, reduceLT → zph, reduceLE → zpi, reduceEq → zpj, reduceNe → zpk, reduceBEq → zpl, reduceBNe → zpm, reduceAdd → zpn, reduceSub → zpo, reduceNeg → zpp
open List renaming replicate → zlr
set_option linter.unusedVariables false
set_option linter.unusedSimpArgs false
set_option maxRecDepth 10000
set_option maxHeartbeats 1000000 in
theorem equalEv_G {w1 w2 : U} {A B : List Ev} (h1 : isVa w1 A) (h2 : isVa w2 B) (hl : A.length ≤ 1000) (hl2 : B.length ≤ 1000) : GF gtab fid_slices_Equal_api_Event_api_Event [w1, w2] [] 0 = some (.bool (decide (A = B)), []) := by
 refine fn_slices_Equal_api_Event_api_Event rfl ?_
 simp only [genvOf]
 have zz : ((0 : Int) != 0) = false := rfl
 rcases h1 with rfl | ⟨rfl, rfl⟩
 ·rcases h2 with rfl | ⟨rfl, rfl⟩
  ·by_cases hlen : A.length = B.length
   case neg =>
    have f1 : ((A.length : Int) != (B.length : Int)) = true := by rw [bne_iff_ne]; omega
    rw [show decide (A = B) = false from decide_eq_false (fun h => hlen (by rw [h]))]
    refine Zr rfl (by simp (maxSteps := 2000000) only [gs,zlr,reduceIte,reduceCtorEq,zpa,zpb,zpc,zpd,zpe,zpf,zpg,zph,zpi,zpj,zpk,zpl,zpm,zpn,zpo,zpp]; rfl) ?_
    refine Zr rfl (by simp (maxSteps := 2000000) only [gs,zlr,reduceIte,reduceCtorEq,zpa,zpb,zpc,zpd,zpe,zpf,zpg,zph,zpi,zpj,zpk,zpl,zpm,zpn,zpo,zpp, uvs_length, f1]; rfl) (Zc rfl rfl (fun _ => ?_) (fun h => by cases h))
    exact Zr rfl (by simp (maxSteps := 2000000) only [gs,zlr,reduceIte,reduceCtorEq,zpa,zpb,zpc,zpd,zpe,zpf,zpg,zph,zpi,zpj,zpk,zpl,zpm,zpn,zpo,zpp]; rfl) (Zq rfl ⟨_, rfl, rfl⟩)
   have f1 : ((A.length : Int) != (B.length : Int)) = false := by rw [hlen]; simp
   refine Zr rfl (by simp (maxSteps := 2000000) only [gs,zlr,reduceIte,reduceCtorEq,zpa,zpb,zpc,zpd,zpe,zpf,zpg,zph,zpi,zpj,zpk,zpl,zpm,zpn,zpo,zpp]; rfl) ?_
   refine Zr rfl (by simp (maxSteps := 2000000) only [gs,zlr,reduceIte,reduceCtorEq,zpa,zpb,zpc,zpd,zpe,zpf,zpg,zph,zpi,zpj,zpk,zpl,zpm,zpn,zpo,zpp, uvs_length, f1]; rfl) (Zc rfl rfl (fun h => by cases h) (fun _ => ?_))
   refine Zr rfl (by simp (maxSteps := 2000000) only [gs,zlr,reduceIte,reduceCtorEq,zpa,zpb,zpc,zpd,zpe,zpf,zpg,zph,zpi,zpj,zpk,zpl,zpm,zpn,zpo,zpp, uvs_length]; rfl) ?_
   refine Zw rfl (fun n env h => h = [] ∧ ∃ i : Nat, (∀ j, j < i → A[j]? = B[j]?) ∧ GEnv.get env 0 = .list false 4 (uvs A) ∧ GEnv.get env 1 = .list false 4 (uvs B) ∧ GEnv.get env 12 = .int .i64 (A.length : Int) ∧ GEnv.get env 13 = .int .i64 (i : Int) ∧ n + i = A.length) A.length ⟨rfl, 0, fun j h => absurd h (by omega), rfl, rfl, rfl, rfl, rfl⟩ ?_
   rintro n env h ⟨rfl, i, heq, k0, k1, k12, k5, hn⟩
   simp only [GEnv.keep, k0, k1, k12, k5]
   refine Zr rfl (by simp (maxSteps := 2000000) only [gs,zlr,reduceIte,reduceCtorEq,zpa,zpb,zpc,zpd,zpe,zpf,zpg,zph,zpi,zpj,zpk,zpl,zpm,zpn,zpo,zpp]; rfl) (Zp rfl rfl (fun hi => ?_) (fun hi => ?_))
   ·have gx : A[i]? = some (A[i]'(by omega)) := List.getElem?_eq_getElem _
    have gy : B[i]? = some (B[i]'(by omega)) := List.getElem?_eq_getElem _
    generalize A[i]'(by omega) = d at gx
    generalize B[i]'(by omega) = e at gy
    have n0 : ((0 : Int) ≤ (i : Int)) = True := eq_true (by omega)
    have hinc := up64 (show i < 9223372036854775807 by omega)
    refine Zr rfl (by simp (maxSteps := 2000000) only [gs,zlr,reduceIte,reduceCtorEq,zpa,zpb,zpc,zpd,zpe,zpf,zpg,zph,zpi,zpj,zpk,zpl,zpm,zpn,zpo,zpp]; rfl) ?_
    by_cases hde : d = e
    ·subst hde
     have heq2 : ∀ j, j < i + 1 → A[j]? = B[j]? := fun j hj => by
      by_cases hji : j = i
      ·subst hji; rw [gx, gy]
      ·exact heq j (by omega)
     refine Zd rfl (by simp (maxSteps := 2000000) only [gs,gd,zlr,id,reduceIte,reduceCtorEq,zpa,zpb,zpc,zpd,zpe,zpf,zpg,zph,zpi,zpj,zpk,zpl,zpm,zpn,zpo,zpp, n0, uvs_get gx, uvs_get gy, beq_self_eq_true]; rfl) (Zc rfl rfl (fun h => by cases h) (fun _ => ?_))
     refine Zr rfl (by simp (maxSteps := 2000000) only [gs,zlr,reduceIte,reduceCtorEq,zpa,zpb,zpc,zpd,zpe,zpf,zpg,zph,zpi,zpj,zpk,zpl,zpm,zpn,zpo,zpp, hinc]; rfl) ?_
     exact Za rfl ⟨n - 1, by omega, rfl, i + 1, heq2, rfl, rfl, rfl, rfl, by omega⟩
    ·rw [show decide (A = B) = false from decide_eq_false (fun h => hde (by rw [h, gy] at gx; exact (Option.some.inj gx).symm))]
     by_cases x1 : d.1 = e.1
     ·by_cases x2 : d.2.1 = e.2.1
      ·by_cases x3 : d.2.2.1 = e.2.2.1
       ·have x4 : (d.2.2.2 == e.2.2.2) = false := beq_eq_false_iff_ne.2 (fun h => hde (Prod.ext x1 (Prod.ext x2 (Prod.ext x3 h))))
        refine Zd rfl (by simp (maxSteps := 2000000) only [gs,gd,zlr,id,reduceIte,reduceCtorEq,zpa,zpb,zpc,zpd,zpe,zpf,zpg,zph,zpi,zpj,zpk,zpl,zpm,zpn,zpo,zpp, n0, uvs_get gx, uvs_get gy, x1, x2, x3, x4, beq_self_eq_true]; rfl) (Zc rfl rfl (fun _ => ?_) (fun h => by cases h))
        exact Zr rfl (by simp (maxSteps := 2000000) only [gs,zlr,reduceIte,reduceCtorEq,zpa,zpb,zpc,zpd,zpe,zpf,zpg,zph,zpi,zpj,zpk,zpl,zpm,zpn,zpo,zpp]; rfl) (Zq rfl ⟨_, rfl, rfl⟩)
       ·have x3' : (d.2.2.1 == e.2.2.1) = false := beq_eq_false_iff_ne.2 x3
        refine Zd rfl (by simp (maxSteps := 2000000) only [gs,gd,zlr,id,reduceIte,reduceCtorEq,zpa,zpb,zpc,zpd,zpe,zpf,zpg,zph,zpi,zpj,zpk,zpl,zpm,zpn,zpo,zpp, n0, uvs_get gx, uvs_get gy, x1, x2, x3', beq_self_eq_true]; rfl) (Zc rfl rfl (fun _ => ?_) (fun h => by cases h))
        exact Zr rfl (by simp (maxSteps := 2000000) only [gs,zlr,reduceIte,reduceCtorEq,zpa,zpb,zpc,zpd,zpe,zpf,zpg,zph,zpi,zpj,zpk,zpl,zpm,zpn,zpo,zpp]; rfl) (Zq rfl ⟨_, rfl, rfl⟩)
      ·have x2' : (d.2.1 == e.2.1) = false := beq_eq_false_iff_ne.2 x2
       refine Zd rfl (by simp (maxSteps := 2000000) only [gs,gd,zlr,id,reduceIte,reduceCtorEq,zpa,zpb,zpc,zpd,zpe,zpf,zpg,zph,zpi,zpj,zpk,zpl,zpm,zpn,zpo,zpp, n0, uvs_get gx, uvs_get gy, x1, x2', beq_self_eq_true]; rfl) (Zc rfl rfl (fun _ => ?_) (fun h => by cases h))
       exact Zr rfl (by simp (maxSteps := 2000000) only [gs,zlr,reduceIte,reduceCtorEq,zpa,zpb,zpc,zpd,zpe,zpf,zpg,zph,zpi,zpj,zpk,zpl,zpm,zpn,zpo,zpp]; rfl) (Zq rfl ⟨_, rfl, rfl⟩)
     ·have x1' : (d.1 == e.1) = false := beq_eq_false_iff_ne.2 x1
      refine Zd rfl (by simp (maxSteps := 2000000) only [gs,gd,zlr,id,reduceIte,reduceCtorEq,zpa,zpb,zpc,zpd,zpe,zpf,zpg,zph,zpi,zpj,zpk,zpl,zpm,zpn,zpo,zpp, n0, uvs_get gx, uvs_get gy, x1', beq_self_eq_true]; rfl) (Zc rfl rfl (fun _ => ?_) (fun h => by cases h))
      exact Zr rfl (by simp (maxSteps := 2000000) only [gs,zlr,reduceIte,reduceCtorEq,zpa,zpb,zpc,zpd,zpe,zpf,zpg,zph,zpi,zpj,zpk,zpl,zpm,zpn,zpo,zpp]; rfl) (Zq rfl ⟨_, rfl, rfl⟩)
   ·have hiA : i = A.length := by omega
    subst hiA
    have : A = B := List.ext_getElem? fun j => by
     by_cases hj : j < A.length
     ·exact heq j hj
     ·rw [List.getElem?_eq_none (by omega), List.getElem?_eq_none (by omega)]
    rw [show decide (A = B) = true from decide_eq_true this]
    exact Zr rfl (by simp (maxSteps := 2000000) only [gs,zlr,reduceIte,reduceCtorEq,zpa,zpb,zpc,zpd,zpe,zpf,zpg,zph,zpi,zpj,zpk,zpl,zpm,zpn,zpo,zpp]; rfl) (Zq rfl ⟨_, rfl, rfl⟩)
  ·cases A with
   | nil =>
    refine Zr rfl (by simp (maxSteps := 2000000) only [gs,zlr,reduceIte,reduceCtorEq,zpa,zpb,zpc,zpd,zpe,zpf,zpg,zph,zpi,zpj,zpk,zpl,zpm,zpn,zpo,zpp]; rfl) ?_
    refine Zr rfl (by simp (maxSteps := 2000000) only [gs,zlr,reduceIte,reduceCtorEq,zpa,zpb,zpc,zpd,zpe,zpf,zpg,zph,zpi,zpj,zpk,zpl,zpm,zpn,zpo,zpp, uvs_length, List.length_nil, Int.natCast_zero, zz]; rfl) (Zc rfl rfl (fun h => by cases h) (fun _ => ?_))
    refine Zr rfl (by simp (maxSteps := 2000000) only [gs,zlr,reduceIte,reduceCtorEq,zpa,zpb,zpc,zpd,zpe,zpf,zpg,zph,zpi,zpj,zpk,zpl,zpm,zpn,zpo,zpp, uvs_length, List.length_nil, Int.natCast_zero]; rfl) ?_
    refine Zw rfl (fun n env h => h = [] ∧ GEnv.get env 0 = .list false 4 (uvs []) ∧ GEnv.get env 1 = .nils ∧ GEnv.get env 12 = .int .i64 0 ∧ GEnv.get env 13 = .int .i64 0) 0 ⟨rfl, rfl, rfl, rfl, rfl⟩ ?_
    rintro n env h ⟨rfl, k0, k1, k12, k5⟩
    simp only [GEnv.keep, k0, k1, k12, k5]
    refine Zr rfl (by simp (maxSteps := 2000000) only [gs,zlr,reduceIte,reduceCtorEq,zpa,zpb,zpc,zpd,zpe,zpf,zpg,zph,zpi,zpj,zpk,zpl,zpm,zpn,zpo,zpp, uvs_length, List.length_nil, Int.natCast_zero]; rfl) (Zc rfl rfl (fun h => by cases h) (fun _ => ?_))
    exact Zr rfl (by simp (maxSteps := 2000000) only [gs,zlr,reduceIte,reduceCtorEq,zpa,zpb,zpc,zpd,zpe,zpf,zpg,zph,zpi,zpj,zpk,zpl,zpm,zpn,zpo,zpp]; rfl) (Zq rfl ⟨_, rfl, rfl⟩)
   | cons d A =>
    have f1 : (((d :: A).length : Int) != 0) = true := by rw [bne_iff_ne]; simp only [List.length_cons]; omega
    rw [decide_eq_false (by simp)]
    refine Zr rfl (by simp (maxSteps := 2000000) only [gs,zlr,reduceIte,reduceCtorEq,zpa,zpb,zpc,zpd,zpe,zpf,zpg,zph,zpi,zpj,zpk,zpl,zpm,zpn,zpo,zpp]; rfl) ?_
    refine Zr rfl (by simp (maxSteps := 2000000) only [gs,zlr,reduceIte,reduceCtorEq,zpa,zpb,zpc,zpd,zpe,zpf,zpg,zph,zpi,zpj,zpk,zpl,zpm,zpn,zpo,zpp, uvs_length, f1]; rfl) (Zc rfl rfl (fun _ => ?_) (fun h => by cases h))
    exact Zr rfl (by simp (maxSteps := 2000000) only [gs,zlr,reduceIte,reduceCtorEq,zpa,zpb,zpc,zpd,zpe,zpf,zpg,zph,zpi,zpj,zpk,zpl,zpm,zpn,zpo,zpp]; rfl) (Zq rfl ⟨_, rfl, rfl⟩)
 ·rcases h2 with rfl | ⟨rfl, rfl⟩
  ·cases B with
   | nil =>
    refine Zr rfl (by simp (maxSteps := 2000000) only [gs,zlr,reduceIte,reduceCtorEq,zpa,zpb,zpc,zpd,zpe,zpf,zpg,zph,zpi,zpj,zpk,zpl,zpm,zpn,zpo,zpp]; rfl) ?_
    refine Zr rfl (by simp (maxSteps := 2000000) only [gs,zlr,reduceIte,reduceCtorEq,zpa,zpb,zpc,zpd,zpe,zpf,zpg,zph,zpi,zpj,zpk,zpl,zpm,zpn,zpo,zpp, uvs_length, List.length_nil, Int.natCast_zero, zz]; rfl) (Zc rfl rfl (fun h => by cases h) (fun _ => ?_))
    refine Zr rfl (by simp (maxSteps := 2000000) only [gs,zlr,reduceIte,reduceCtorEq,zpa,zpb,zpc,zpd,zpe,zpf,zpg,zph,zpi,zpj,zpk,zpl,zpm,zpn,zpo,zpp]; rfl) ?_
    refine Zw rfl (fun n env h => h = [] ∧ GEnv.get env 0 = .nils ∧ GEnv.get env 1 = .list false 4 (uvs []) ∧ GEnv.get env 12 = .int .i64 0 ∧ GEnv.get env 13 = .int .i64 0) 0 ⟨rfl, rfl, rfl, rfl, rfl⟩ ?_
    rintro n env h ⟨rfl, k0, k1, k12, k5⟩
    simp only [GEnv.keep, k0, k1, k12, k5]
    refine Zr rfl (by simp (maxSteps := 2000000) only [gs,zlr,reduceIte,reduceCtorEq,zpa,zpb,zpc,zpd,zpe,zpf,zpg,zph,zpi,zpj,zpk,zpl,zpm,zpn,zpo,zpp]; rfl) (Zc rfl rfl (fun h => by cases h) (fun _ => ?_))
    exact Zr rfl (by simp (maxSteps := 2000000) only [gs,zlr,reduceIte,reduceCtorEq,zpa,zpb,zpc,zpd,zpe,zpf,zpg,zph,zpi,zpj,zpk,zpl,zpm,zpn,zpo,zpp]; rfl) (Zq rfl ⟨_, rfl, rfl⟩)
   | cons d B =>
    have f1 : ((0 : Int) != ((d :: B).length : Int)) = true := by rw [bne_iff_ne]; simp only [List.length_cons]; omega
    rw [decide_eq_false (by simp)]
    refine Zr rfl (by simp (maxSteps := 2000000) only [gs,zlr,reduceIte,reduceCtorEq,zpa,zpb,zpc,zpd,zpe,zpf,zpg,zph,zpi,zpj,zpk,zpl,zpm,zpn,zpo,zpp]; rfl) ?_
    refine Zr rfl (by simp (maxSteps := 2000000) only [gs,zlr,reduceIte,reduceCtorEq,zpa,zpb,zpc,zpd,zpe,zpf,zpg,zph,zpi,zpj,zpk,zpl,zpm,zpn,zpo,zpp, uvs_length, f1]; rfl) (Zc rfl rfl (fun _ => ?_) (fun h => by cases h))
    exact Zr rfl (by simp (maxSteps := 2000000) only [gs,zlr,reduceIte,reduceCtorEq,zpa,zpb,zpc,zpd,zpe,zpf,zpg,zph,zpi,zpj,zpk,zpl,zpm,zpn,zpo,zpp]; rfl) (Zq rfl ⟨_, rfl, rfl⟩)
  ·refine Zr rfl (by simp (maxSteps := 2000000) only [gs,zlr,reduceIte,reduceCtorEq,zpa,zpb,zpc,zpd,zpe,zpf,zpg,zph,zpi,zpj,zpk,zpl,zpm,zpn,zpo,zpp]; rfl) ?_
   refine Zr rfl (by simp (maxSteps := 2000000) only [gs,zlr,reduceIte,reduceCtorEq,zpa,zpb,zpc,zpd,zpe,zpf,zpg,zph,zpi,zpj,zpk,zpl,zpm,zpn,zpo,zpp]; rfl) (Zc rfl rfl (fun h => by cases h) (fun _ => ?_))
   refine Zr rfl (by simp (maxSteps := 2000000) only [gs,zlr,reduceIte,reduceCtorEq,zpa,zpb,zpc,zpd,zpe,zpf,zpg,zph,zpi,zpj,zpk,zpl,zpm,zpn,zpo,zpp]; rfl) ?_
   refine Zw rfl (fun n env h => h = [] ∧ GEnv.get env 0 = .nils ∧ GEnv.get env 1 = .nils ∧ GEnv.get env 12 = .int .i64 0 ∧ GEnv.get env 13 = .int .i64 0) 0 ⟨rfl, rfl, rfl, rfl, rfl⟩ ?_
   rintro n env h ⟨rfl, k0, k1, k12, k5⟩
   simp only [GEnv.keep, k0, k1, k12, k5]
   refine Zr rfl (by simp (maxSteps := 2000000) only [gs,zlr,reduceIte,reduceCtorEq,zpa,zpb,zpc,zpd,zpe,zpf,zpg,zph,zpi,zpj,zpk,zpl,zpm,zpn,zpo,zpp]; rfl) (Zc rfl rfl (fun h => by cases h) (fun _ => ?_))
   exact Zr rfl (by simp (maxSteps := 2000000) only [gs,zlr,reduceIte,reduceCtorEq,zpa,zpb,zpc,zpd,zpe,zpf,zpg,zph,zpi,zpj,zpk,zpl,zpm,zpn,zpo,zpp]; rfl) (Zq rfl ⟨_, rfl, rfl⟩)
set_option maxHeartbeats 1000000 in
theorem sameEv_G {w1 w2 : U} {A B : List Ev} (h1 : isVa w1 A) (h2 : isVa w2 B) (hl : A.length ≤ 1000) (hl2 : B.length ≤ 1000) : GF gtab fid_archipelagoref8_SameEvents [w1, w2] [] 0 = some (.bool (decide (A = B)), []) := by
 refine fn_archipelagoref8_SameEvents rfl ?_
 simp only [genvOf]
 have zz : ((0 : Int) != 0) = false := rfl
 rcases h1 with rfl | ⟨rfl, rfl⟩
 ·rcases h2 with rfl | ⟨rfl, rfl⟩
  ·by_cases hlen : A.length = B.length
   case neg =>
    have f1 : ((A.length : Int) != (B.length : Int)) = true := by rw [bne_iff_ne]; omega
    rw [show decide (A = B) = false from decide_eq_false (fun h => hlen (by rw [h]))]
    refine Zr rfl (by simp (maxSteps := 2000000) only [gs,zlr,reduceIte,reduceCtorEq,zpa,zpb,zpc,zpd,zpe,zpf,zpg,zph,zpi,zpj,zpk,zpl,zpm,zpn,zpo,zpp]; rfl) ?_
    refine Zr rfl (by simp (maxSteps := 2000000) only [gs,zlr,reduceIte,reduceCtorEq,zpa,zpb,zpc,zpd,zpe,zpf,zpg,zph,zpi,zpj,zpk,zpl,zpm,zpn,zpo,zpp, uvs_length, f1]; rfl) (Zc rfl rfl (fun _ => ?_) (fun h => by cases h))
    exact Zr rfl (by simp (maxSteps := 2000000) only [gs,zlr,reduceIte,reduceCtorEq,zpa,zpb,zpc,zpd,zpe,zpf,zpg,zph,zpi,zpj,zpk,zpl,zpm,zpn,zpo,zpp]; rfl) (Zq rfl ⟨_, rfl, rfl⟩)
   have f1 : ((A.length : Int) != (B.length : Int)) = false := by rw [hlen]; simp
   refine Zr rfl (by simp (maxSteps := 2000000) only [gs,zlr,reduceIte,reduceCtorEq,zpa,zpb,zpc,zpd,zpe,zpf,zpg,zph,zpi,zpj,zpk,zpl,zpm,zpn,zpo,zpp]; rfl) ?_
   refine Zr rfl (by simp (maxSteps := 2000000) only [gs,zlr,reduceIte,reduceCtorEq,zpa,zpb,zpc,zpd,zpe,zpf,zpg,zph,zpi,zpj,zpk,zpl,zpm,zpn,zpo,zpp, uvs_length, f1]; rfl) (Zc rfl rfl (fun h => by cases h) (fun _ => ?_))
   refine Zr rfl (by simp (maxSteps := 2000000) only [gs,zlr,reduceIte,reduceCtorEq,zpa,zpb,zpc,zpd,zpe,zpf,zpg,zph,zpi,zpj,zpk,zpl,zpm,zpn,zpo,zpp]; rfl) ?_
   refine Zw rfl (fun n env h => h = [] ∧ ∃ i : Nat, (∀ j, j < i → A[j]? = B[j]?) ∧ GEnv.get env 0 = .list false 4 (uvs A) ∧ GEnv.get env 1 = .list false 4 (uvs B) ∧ GEnv.get env 5 = .int .i64 (i : Int) ∧ n + i = A.length) A.length ⟨rfl, 0, fun j h => absurd h (by omega), rfl, rfl, rfl, rfl⟩ ?_
   rintro n env h ⟨rfl, i, heq, k0, k1, k5, hn⟩
   simp only [GEnv.keep, k0, k1, k5]
   refine Zr rfl (by simp (maxSteps := 2000000) only [gs,zlr,reduceIte,reduceCtorEq,zpa,zpb,zpc,zpd,zpe,zpf,zpg,zph,zpi,zpj,zpk,zpl,zpm,zpn,zpo,zpp, uvs_length]; rfl) (Zp rfl rfl (fun hi => ?_) (fun hi => ?_))
   ·have gx : A[i]? = some (A[i]'(by omega)) := List.getElem?_eq_getElem _
    have gy : B[i]? = some (B[i]'(by omega)) := List.getElem?_eq_getElem _
    generalize A[i]'(by omega) = d at gx
    generalize B[i]'(by omega) = e at gy
    have n0 : ((0 : Int) ≤ (i : Int)) = True := eq_true (by omega)
    have hinc := up64 (show i < 9223372036854775807 by omega)
    skip
    by_cases hde : d = e
    ·subst hde
     have heq2 : ∀ j, j < i + 1 → A[j]? = B[j]? := fun j hj => by
      by_cases hji : j = i
      ·subst hji; rw [gx, gy]
      ·exact heq j (by omega)
     refine Zd rfl (by simp (maxSteps := 2000000) only [gs,gd,zlr,id,reduceIte,reduceCtorEq,zpa,zpb,zpc,zpd,zpe,zpf,zpg,zph,zpi,zpj,zpk,zpl,zpm,zpn,zpo,zpp, n0, uvs_get gx, uvs_get gy, beq_self_eq_true]; rfl) (Zc rfl rfl (fun h => by cases h) (fun _ => ?_))
     refine Zr rfl (by simp (maxSteps := 2000000) only [gs,zlr,reduceIte,reduceCtorEq,zpa,zpb,zpc,zpd,zpe,zpf,zpg,zph,zpi,zpj,zpk,zpl,zpm,zpn,zpo,zpp, hinc]; rfl) ?_
     exact Za rfl ⟨n - 1, by omega, rfl, i + 1, heq2, rfl, rfl, rfl, by omega⟩
    ·rw [show decide (A = B) = false from decide_eq_false (fun h => hde (by rw [h, gy] at gx; exact (Option.some.inj gx).symm))]
     by_cases x1 : d.1 = e.1
     ·by_cases x2 : d.2.1 = e.2.1
      ·by_cases x3 : d.2.2.1 = e.2.2.1
       ·have x4 : (d.2.2.2 == e.2.2.2) = false := beq_eq_false_iff_ne.2 (fun h => hde (Prod.ext x1 (Prod.ext x2 (Prod.ext x3 h))))
        refine Zd rfl (by simp (maxSteps := 2000000) only [gs,gd,zlr,id,reduceIte,reduceCtorEq,zpa,zpb,zpc,zpd,zpe,zpf,zpg,zph,zpi,zpj,zpk,zpl,zpm,zpn,zpo,zpp, n0, uvs_get gx, uvs_get gy, x1, x2, x3, x4, beq_self_eq_true]; rfl) (Zc rfl rfl (fun _ => ?_) (fun h => by cases h))
        exact Zr rfl (by simp (maxSteps := 2000000) only [gs,zlr,reduceIte,reduceCtorEq,zpa,zpb,zpc,zpd,zpe,zpf,zpg,zph,zpi,zpj,zpk,zpl,zpm,zpn,zpo,zpp]; rfl) (Zq rfl ⟨_, rfl, rfl⟩)
       ·have x3' : (d.2.2.1 == e.2.2.1) = false := beq_eq_false_iff_ne.2 x3
        refine Zd rfl (by simp (maxSteps := 2000000) only [gs,gd,zlr,id,reduceIte,reduceCtorEq,zpa,zpb,zpc,zpd,zpe,zpf,zpg,zph,zpi,zpj,zpk,zpl,zpm,zpn,zpo,zpp, n0, uvs_get gx, uvs_get gy, x1, x2, x3', beq_self_eq_true]; rfl) (Zc rfl rfl (fun _ => ?_) (fun h => by cases h))
        exact Zr rfl (by simp (maxSteps := 2000000) only [gs,zlr,reduceIte,reduceCtorEq,zpa,zpb,zpc,zpd,zpe,zpf,zpg,zph,zpi,zpj,zpk,zpl,zpm,zpn,zpo,zpp]; rfl) (Zq rfl ⟨_, rfl, rfl⟩)
      ·have x2' : (d.2.1 == e.2.1) = false := beq_eq_false_iff_ne.2 x2
       refine Zd rfl (by simp (maxSteps := 2000000) only [gs,gd,zlr,id,reduceIte,reduceCtorEq,zpa,zpb,zpc,zpd,zpe,zpf,zpg,zph,zpi,zpj,zpk,zpl,zpm,zpn,zpo,zpp, n0, uvs_get gx, uvs_get gy, x1, x2', beq_self_eq_true]; rfl) (Zc rfl rfl (fun _ => ?_) (fun h => by cases h))
       exact Zr rfl (by simp (maxSteps := 2000000) only [gs,zlr,reduceIte,reduceCtorEq,zpa,zpb,zpc,zpd,zpe,zpf,zpg,zph,zpi,zpj,zpk,zpl,zpm,zpn,zpo,zpp]; rfl) (Zq rfl ⟨_, rfl, rfl⟩)
     ·have x1' : (d.1 == e.1) = false := beq_eq_false_iff_ne.2 x1
      refine Zd rfl (by simp (maxSteps := 2000000) only [gs,gd,zlr,id,reduceIte,reduceCtorEq,zpa,zpb,zpc,zpd,zpe,zpf,zpg,zph,zpi,zpj,zpk,zpl,zpm,zpn,zpo,zpp, n0, uvs_get gx, uvs_get gy, x1', beq_self_eq_true]; rfl) (Zc rfl rfl (fun _ => ?_) (fun h => by cases h))
      exact Zr rfl (by simp (maxSteps := 2000000) only [gs,zlr,reduceIte,reduceCtorEq,zpa,zpb,zpc,zpd,zpe,zpf,zpg,zph,zpi,zpj,zpk,zpl,zpm,zpn,zpo,zpp]; rfl) (Zq rfl ⟨_, rfl, rfl⟩)
   ·have hiA : i = A.length := by omega
    subst hiA
    have : A = B := List.ext_getElem? fun j => by
     by_cases hj : j < A.length
     ·exact heq j hj
     ·rw [List.getElem?_eq_none (by omega), List.getElem?_eq_none (by omega)]
    rw [show decide (A = B) = true from decide_eq_true this]
    exact Zr rfl (by simp (maxSteps := 2000000) only [gs,zlr,reduceIte,reduceCtorEq,zpa,zpb,zpc,zpd,zpe,zpf,zpg,zph,zpi,zpj,zpk,zpl,zpm,zpn,zpo,zpp]; rfl) (Zq rfl ⟨_, rfl, rfl⟩)
  ·cases A with
   | nil =>
    refine Zr rfl (by simp (maxSteps := 2000000) only [gs,zlr,reduceIte,reduceCtorEq,zpa,zpb,zpc,zpd,zpe,zpf,zpg,zph,zpi,zpj,zpk,zpl,zpm,zpn,zpo,zpp]; rfl) ?_
    refine Zr rfl (by simp (maxSteps := 2000000) only [gs,zlr,reduceIte,reduceCtorEq,zpa,zpb,zpc,zpd,zpe,zpf,zpg,zph,zpi,zpj,zpk,zpl,zpm,zpn,zpo,zpp, uvs_length, List.length_nil, Int.natCast_zero, zz]; rfl) (Zc rfl rfl (fun h => by cases h) (fun _ => ?_))
    refine Zr rfl (by simp (maxSteps := 2000000) only [gs,zlr,reduceIte,reduceCtorEq,zpa,zpb,zpc,zpd,zpe,zpf,zpg,zph,zpi,zpj,zpk,zpl,zpm,zpn,zpo,zpp, uvs_length, List.length_nil, Int.natCast_zero]; rfl) ?_
    refine Zw rfl (fun n env h => h = [] ∧ GEnv.get env 0 = .list false 4 (uvs []) ∧ GEnv.get env 1 = .nils ∧ GEnv.get env 5 = .int .i64 0) 0 ⟨rfl, rfl, rfl, rfl⟩ ?_
    rintro n env h ⟨rfl, k0, k1, k5⟩
    simp only [GEnv.keep, k0, k1, k5]
    refine Zr rfl (by simp (maxSteps := 2000000) only [gs,zlr,reduceIte,reduceCtorEq,zpa,zpb,zpc,zpd,zpe,zpf,zpg,zph,zpi,zpj,zpk,zpl,zpm,zpn,zpo,zpp, uvs_length, List.length_nil, Int.natCast_zero]; rfl) (Zc rfl rfl (fun h => by cases h) (fun _ => ?_))
    exact Zr rfl (by simp (maxSteps := 2000000) only [gs,zlr,reduceIte,reduceCtorEq,zpa,zpb,zpc,zpd,zpe,zpf,zpg,zph,zpi,zpj,zpk,zpl,zpm,zpn,zpo,zpp]; rfl) (Zq rfl ⟨_, rfl, rfl⟩)
   | cons d A =>
    have f1 : (((d :: A).length : Int) != 0) = true := by rw [bne_iff_ne]; simp only [List.length_cons]; omega
    rw [decide_eq_false (by simp)]
    refine Zr rfl (by simp (maxSteps := 2000000) only [gs,zlr,reduceIte,reduceCtorEq,zpa,zpb,zpc,zpd,zpe,zpf,zpg,zph,zpi,zpj,zpk,zpl,zpm,zpn,zpo,zpp]; rfl) ?_
    refine Zr rfl (by simp (maxSteps := 2000000) only [gs,zlr,reduceIte,reduceCtorEq,zpa,zpb,zpc,zpd,zpe,zpf,zpg,zph,zpi,zpj,zpk,zpl,zpm,zpn,zpo,zpp, uvs_length, f1]; rfl) (Zc rfl rfl (fun _ => ?_) (fun h => by cases h))
    exact Zr rfl (by simp (maxSteps := 2000000) only [gs,zlr,reduceIte,reduceCtorEq,zpa,zpb,zpc,zpd,zpe,zpf,zpg,zph,zpi,zpj,zpk,zpl,zpm,zpn,zpo,zpp]; rfl) (Zq rfl ⟨_, rfl, rfl⟩)
 ·rcases h2 with rfl | ⟨rfl, rfl⟩
  ·cases B with
   | nil =>
    refine Zr rfl (by simp (maxSteps := 2000000) only [gs,zlr,reduceIte,reduceCtorEq,zpa,zpb,zpc,zpd,zpe,zpf,zpg,zph,zpi,zpj,zpk,zpl,zpm,zpn,zpo,zpp]; rfl) ?_
    refine Zr rfl (by simp (maxSteps := 2000000) only [gs,zlr,reduceIte,reduceCtorEq,zpa,zpb,zpc,zpd,zpe,zpf,zpg,zph,zpi,zpj,zpk,zpl,zpm,zpn,zpo,zpp, uvs_length, List.length_nil, Int.natCast_zero, zz]; rfl) (Zc rfl rfl (fun h => by cases h) (fun _ => ?_))
    refine Zr rfl (by simp (maxSteps := 2000000) only [gs,zlr,reduceIte,reduceCtorEq,zpa,zpb,zpc,zpd,zpe,zpf,zpg,zph,zpi,zpj,zpk,zpl,zpm,zpn,zpo,zpp]; rfl) ?_
    refine Zw rfl (fun n env h => h = [] ∧ GEnv.get env 0 = .nils ∧ GEnv.get env 1 = .list false 4 (uvs []) ∧ GEnv.get env 5 = .int .i64 0) 0 ⟨rfl, rfl, rfl, rfl⟩ ?_
    rintro n env h ⟨rfl, k0, k1, k5⟩
    simp only [GEnv.keep, k0, k1, k5]
    refine Zr rfl (by simp (maxSteps := 2000000) only [gs,zlr,reduceIte,reduceCtorEq,zpa,zpb,zpc,zpd,zpe,zpf,zpg,zph,zpi,zpj,zpk,zpl,zpm,zpn,zpo,zpp]; rfl) (Zc rfl rfl (fun h => by cases h) (fun _ => ?_))
    exact Zr rfl (by simp (maxSteps := 2000000) only [gs,zlr,reduceIte,reduceCtorEq,zpa,zpb,zpc,zpd,zpe,zpf,zpg,zph,zpi,zpj,zpk,zpl,zpm,zpn,zpo,zpp]; rfl) (Zq rfl ⟨_, rfl, rfl⟩)
   | cons d B =>
    have f1 : ((0 : Int) != ((d :: B).length : Int)) = true := by rw [bne_iff_ne]; simp only [List.length_cons]; omega
    rw [decide_eq_false (by simp)]
    refine Zr rfl (by simp (maxSteps := 2000000) only [gs,zlr,reduceIte,reduceCtorEq,zpa,zpb,zpc,zpd,zpe,zpf,zpg,zph,zpi,zpj,zpk,zpl,zpm,zpn,zpo,zpp]; rfl) ?_
    refine Zr rfl (by simp (maxSteps := 2000000) only [gs,zlr,reduceIte,reduceCtorEq,zpa,zpb,zpc,zpd,zpe,zpf,zpg,zph,zpi,zpj,zpk,zpl,zpm,zpn,zpo,zpp, uvs_length, f1]; rfl) (Zc rfl rfl (fun _ => ?_) (fun h => by cases h))
    exact Zr rfl (by simp (maxSteps := 2000000) only [gs,zlr,reduceIte,reduceCtorEq,zpa,zpb,zpc,zpd,zpe,zpf,zpg,zph,zpi,zpj,zpk,zpl,zpm,zpn,zpo,zpp]; rfl) (Zq rfl ⟨_, rfl, rfl⟩)
  ·refine Zr rfl (by simp (maxSteps := 2000000) only [gs,zlr,reduceIte,reduceCtorEq,zpa,zpb,zpc,zpd,zpe,zpf,zpg,zph,zpi,zpj,zpk,zpl,zpm,zpn,zpo,zpp]; rfl) ?_
   refine Zr rfl (by simp (maxSteps := 2000000) only [gs,zlr,reduceIte,reduceCtorEq,zpa,zpb,zpc,zpd,zpe,zpf,zpg,zph,zpi,zpj,zpk,zpl,zpm,zpn,zpo,zpp]; rfl) (Zc rfl rfl (fun h => by cases h) (fun _ => ?_))
   refine Zr rfl (by simp (maxSteps := 2000000) only [gs,zlr,reduceIte,reduceCtorEq,zpa,zpb,zpc,zpd,zpe,zpf,zpg,zph,zpi,zpj,zpk,zpl,zpm,zpn,zpo,zpp]; rfl) ?_
   refine Zw rfl (fun n env h => h = [] ∧ GEnv.get env 0 = .nils ∧ GEnv.get env 1 = .nils ∧ GEnv.get env 5 = .int .i64 0) 0 ⟨rfl, rfl, rfl, rfl⟩ ?_
   rintro n env h ⟨rfl, k0, k1, k5⟩
   simp only [GEnv.keep, k0, k1, k5]
   refine Zr rfl (by simp (maxSteps := 2000000) only [gs,zlr,reduceIte,reduceCtorEq,zpa,zpb,zpc,zpd,zpe,zpf,zpg,zph,zpi,zpj,zpk,zpl,zpm,zpn,zpo,zpp]; rfl) (Zc rfl rfl (fun h => by cases h) (fun _ => ?_))
   exact Zr rfl (by simp (maxSteps := 2000000) only [gs,zlr,reduceIte,reduceCtorEq,zpa,zpb,zpc,zpd,zpe,zpf,zpg,zph,zpi,zpj,zpk,zpl,zpm,zpn,zpo,zpp]; rfl) (Zq rfl ⟨_, rfl, rfl⟩)
theorem same_G {N1 N2 : Int} {w1 w2 : U} {A B : List Ev} (h1 : isVa w1 A) (h2 : isVa w2 B) (hl : A.length ≤ 1000) (hl2 : B.length ≤ 1000) : GF gtab fid_history_Same [.agg [.int .u64 N1, w1], .agg [.int .u64 N2, w2]] [] 0 = some (.bool (decide (N1 = N2) && decide (A = B)), []) := by
 have SE := equalEv_G h1 h2 hl hl2
 refine fn_history_Same rfl ?_
 simp only [genvOf]
 by_cases hN : N1 = N2
 ·rw [decide_eq_true hN, Bool.true_and]
  rcases h1 with rfl | ⟨rfl, rfl⟩ <;> rcases h2 with rfl | ⟨rfl, rfl⟩
  all_goals
   refine Zr rfl (by simp (maxSteps := 2000000) only [gs,zlr,reduceIte,reduceCtorEq,zpa,zpb,zpc,zpd,zpe,zpf,zpg,zph,zpi,zpj,zpk,zpl,zpm,zpn,zpo,zpp]; rfl) ?_
   exact Zr rfl (by simp (maxSteps := 2000000) only [gs,zlr,reduceIte,reduceCtorEq,zpa,zpb,zpc,zpd,zpe,zpf,zpg,zph,zpi,zpj,zpk,zpl,zpm,zpn,zpo,zpp, hN, beq_self_eq_true, gc_slices_Equal_api_Event_api_Event, snapLL_uvs, SE]; rfl) (Zq rfl ⟨_, rfl, rfl⟩)
 ·have f1 : (N1 == N2) = false := beq_eq_false_iff_ne.2 hN
  rw [decide_eq_false hN, Bool.false_and]
  rcases h1 with rfl | ⟨rfl, rfl⟩ <;> rcases h2 with rfl | ⟨rfl, rfl⟩
  all_goals
   refine Zr rfl (by simp (maxSteps := 2000000) only [gs,zlr,reduceIte,reduceCtorEq,zpa,zpb,zpc,zpd,zpe,zpf,zpg,zph,zpi,zpj,zpk,zpl,zpm,zpn,zpo,zpp]; rfl) ?_
   exact Zr rfl (by simp (maxSteps := 2000000) only [gs,zlr,reduceIte,reduceCtorEq,zpa,zpb,zpc,zpd,zpe,zpf,zpg,zph,zpi,zpj,zpk,zpl,zpm,zpn,zpo,zpp, f1]; rfl) (Zq rfl ⟨_, rfl, rfl⟩)
theorem rsame_G {N1 N2 : Int} {w1 w2 : U} {A B : List Ev} (h1 : isVa w1 A) (h2 : isVa w2 B) (hl : A.length ≤ 1000) (hl2 : B.length ≤ 1000) : GF gtab fid_archipelagoref8_Same [.agg [.int .u64 N1, w1], .agg [.int .u64 N2, w2]] [] 0 = some (.bool (decide (N1 = N2) && decide (A = B)), []) := by
 have SE := sameEv_G h1 h2 hl hl2
 refine fn_archipelagoref8_Same rfl ?_
 simp only [genvOf]
 by_cases hN : N1 = N2
 ·rw [decide_eq_true hN, Bool.true_and]
  rcases h1 with rfl | ⟨rfl, rfl⟩ <;> rcases h2 with rfl | ⟨rfl, rfl⟩
  all_goals
   refine Zr rfl (by simp (maxSteps := 2000000) only [gs,zlr,reduceIte,reduceCtorEq,zpa,zpb,zpc,zpd,zpe,zpf,zpg,zph,zpi,zpj,zpk,zpl,zpm,zpn,zpo,zpp]; rfl) ?_
   exact Zr rfl (by simp (maxSteps := 2000000) only [gs,zlr,reduceIte,reduceCtorEq,zpa,zpb,zpc,zpd,zpe,zpf,zpg,zph,zpi,zpj,zpk,zpl,zpm,zpn,zpo,zpp, hN, beq_self_eq_true, gc_archipelagoref8_SameEvents, snapLL_uvs, SE]; rfl) (Zq rfl ⟨_, rfl, rfl⟩)
 ·have f1 : (N1 == N2) = false := beq_eq_false_iff_ne.2 hN
  rw [decide_eq_false hN, Bool.false_and]
  rcases h1 with rfl | ⟨rfl, rfl⟩ <;> rcases h2 with rfl | ⟨rfl, rfl⟩
  all_goals
   refine Zr rfl (by simp (maxSteps := 2000000) only [gs,zlr,reduceIte,reduceCtorEq,zpa,zpb,zpc,zpd,zpe,zpf,zpg,zph,zpi,zpj,zpk,zpl,zpm,zpn,zpo,zpp]; rfl) ?_
   exact Zr rfl (by simp (maxSteps := 2000000) only [gs,zlr,reduceIte,reduceCtorEq,zpa,zpb,zpc,zpd,zpe,zpf,zpg,zph,zpi,zpj,zpk,zpl,zpm,zpn,zpo,zpp, f1]; rfl) (Zq rfl ⟨_, rfl, rfl⟩)
def lastT (evs : List Ev) : Int := if evs = [] then -1 else (evs.getD (evs.length - 1) (0, 0, 0, false)).1
theorem last_G {N : Int} {w : U} {evs : List Ev} (hw : isVa w evs) (hl : evs.length ≤ 1000) : GF gtab fid_history_Last [.agg [.int .u64 N, w]] [] 0 = some (.int .i64 (lastT evs), []) := by
 refine fn_history_Last rfl ?_
 simp only [genvOf]
 rcases hw with rfl | ⟨rfl, rfl⟩
 ·by_cases h0 : evs = []
  ·subst h0
   refine Zr rfl (by simp (maxSteps := 2000000) only [gs,zlr,reduceIte,reduceCtorEq,zpa,zpb,zpc,zpd,zpe,zpf,zpg,zph,zpi,zpj,zpk,zpl,zpm,zpn,zpo,zpp]; rfl) ?_
   refine Zr rfl (by simp (maxSteps := 2000000) only [gs,zlr,reduceIte,reduceCtorEq,zpa,zpb,zpc,zpd,zpe,zpf,zpg,zph,zpi,zpj,zpk,zpl,zpm,zpn,zpo,zpp, uvs_length, List.length_nil, Int.natCast_zero, beq_self_eq_true]; rfl) (Zc rfl rfl (fun _ => ?_) (fun h => by cases h))
   exact Zr rfl (by simp (maxSteps := 2000000) only [gs,zlr,reduceIte,reduceCtorEq,zpa,zpb,zpc,zpd,zpe,zpf,zpg,zph,zpi,zpj,zpk,zpl,zpm,zpn,zpo,zpp]; rfl) (Zq rfl ⟨_, rfl, rfl⟩)
  ·have hpos : 0 < evs.length := List.length_pos_iff.2 h0
   have f1 : ((evs.length : Int) == 0) = false := beq_eq_false_iff_ne.2 (by omega)
   have gp : evs[evs.length - 1]? = some (evs[evs.length - 1]'(by omega)) := List.getElem?_eq_getElem _
   have e : lastT evs = (evs[evs.length - 1]'(by omega)).1 := by rw [lastT, if_neg h0, List.getD_eq_getElem?_getD, gp]; rfl
   rw [e]
   generalize evs[evs.length - 1]'(by omega) = d at gp
   have ws : IntKind.i64.wrap ((evs.length : Int) - 1) = ((evs.length - 1 : Nat) : Int) := by rw [wrap_i64 (by omega) (by omega)]; omega
   have n1 : ((0 : Int) ≤ ((evs.length - 1 : Nat) : Int)) = True := eq_true (by omega)
   refine Zr rfl (by simp (maxSteps := 2000000) only [gs,zlr,reduceIte,reduceCtorEq,zpa,zpb,zpc,zpd,zpe,zpf,zpg,zph,zpi,zpj,zpk,zpl,zpm,zpn,zpo,zpp]; rfl) ?_
   refine Zr rfl (by simp (maxSteps := 2000000) only [gs,zlr,reduceIte,reduceCtorEq,zpa,zpb,zpc,zpd,zpe,zpf,zpg,zph,zpi,zpj,zpk,zpl,zpm,zpn,zpo,zpp, uvs_length, f1]; rfl) (Zc rfl rfl (fun h => by cases h) (fun _ => ?_))
   exact Zr rfl (by simp (maxSteps := 2000000) only [gs,zlr,reduceIte,reduceCtorEq,zpa,zpb,zpc,zpd,zpe,zpf,zpg,zph,zpi,zpj,zpk,zpl,zpm,zpn,zpo,zpp, uvs_length, ws, n1, uvs_get gp]; rfl) (Zq rfl ⟨_, rfl, rfl⟩)
 ·refine Zr rfl (by simp (maxSteps := 2000000) only [gs,zlr,reduceIte,reduceCtorEq,zpa,zpb,zpc,zpd,zpe,zpf,zpg,zph,zpi,zpj,zpk,zpl,zpm,zpn,zpo,zpp]; rfl) ?_
  refine Zr rfl (by simp (maxSteps := 2000000) only [gs,zlr,reduceIte,reduceCtorEq,zpa,zpb,zpc,zpd,zpe,zpf,zpg,zph,zpi,zpj,zpk,zpl,zpm,zpn,zpo,zpp]; rfl) (Zc rfl rfl (fun _ => ?_) (fun h => by cases h))
  exact Zr rfl (by simp (maxSteps := 2000000) only [gs,zlr,reduceIte,reduceCtorEq,zpa,zpb,zpc,zpd,zpe,zpf,zpg,zph,zpi,zpj,zpk,zpl,zpm,zpn,zpo,zpp]; rfl) (Zq rfl ⟨_, rfl, rfl⟩)
end Go.Ab
