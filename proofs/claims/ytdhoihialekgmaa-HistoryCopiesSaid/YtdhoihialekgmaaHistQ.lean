/- Find, Has, Rising, Turn on the machine of values: what they come to. -/
import Derived.Test.YtdhoihialekgmaaHistP
import Derived.Test.YtdhoihialekgmaaValN
namespace Go.Ab
open Go
open Nat renaming reduceEqDiff → zpa, reduceLT → zpb, reduceAdd → zpc, reduceSub → zpd, reduceLeDiff → zpe, reduceMul → zpf
open Int renaming reduceToNat → zpg, reduceLT → zph, reduceLE → zpi, reduceEq → zpj, reduceNe → zpk, reduceBEq → zpl, reduceBNe → zpm, reduceAdd → zpn, reduceSub → zpo, reduceNeg → zpp
open List renaming replicate → zlr
set_option linter.unusedVariables false
set_option linter.unusedSimpArgs false
set_option maxRecDepth 10000
theorem find_R {w : U} {l : List Ed} {e : Ed} (hw : isEa w l) (hl : l.length ≤ 1000) : ∃ r : Int, ((r = -1 ∧ e ∉ l) ∨ (∃ q : Nat, r = (q : Int) ∧ l[q]? = some e)) ∧ GF gtab fid_archipelagoref8_Find [w, .agg [.int .u32 e.1, .int .u32 e.2]] [] 0 = some (.int .i64 r, []) := by
 have key : ∃ u h', GF gtab fid_archipelagoref8_Find [w, .agg [.int .u32 e.1, .int .u32 e.2]] [] 0 = some (u, h') ∧ ∃ r : Int, u = .int .i64 r ∧ h' = [] ∧ ((r = -1 ∧ e ∉ l) ∨ (∃ q : Nat, r = (q : Int) ∧ l[q]? = some e)) := by
  refine fnR_archipelagoref8_Find rfl ?_
  simp only [genvOf]
  rcases hw with rfl | ⟨rfl, rfl⟩
  ·refine Zr rfl (by simp (maxSteps := 2000000) only [gs,zlr,reduceIte,reduceCtorEq,zpa,zpb,zpc,zpd,zpe,zpf,zpg,zph,zpi,zpj,zpk,zpl,zpm,zpn,zpo,zpp]; rfl) ?_
   refine Zr rfl (by simp (maxSteps := 2000000) only [gs,zlr,reduceIte,reduceCtorEq,zpa,zpb,zpc,zpd,zpe,zpf,zpg,zph,zpi,zpj,zpk,zpl,zpm,zpn,zpo,zpp]; rfl) ?_
   refine Zw rfl (fun n env h => h = [.box [.int .u32 e.1, .int .u32 e.2]] ∧ ∃ i : Nat, (∀ j, j < i → l[j]? ≠ some e) ∧ GEnv.get env 0 = .list false 2 (ues l) ∧ GEnv.get env 3 = .ptr 0 0 0 0 ∧ GEnv.get env 5 = .int .i64 (i : Int) ∧ n + i = l.length) l.length ⟨rfl, 0, fun j h => absurd h (by omega), rfl, rfl, rfl, rfl⟩ ?_
   rintro n env h ⟨rfl, i, hno, k0, k3, k5, hn⟩
   simp only [GEnv.keep, k0, k3, k5]
   refine Zr rfl (by simp (maxSteps := 2000000) only [gs,zlr,reduceIte,reduceCtorEq,zpa,zpb,zpc,zpd,zpe,zpf,zpg,zph,zpi,zpj,zpk,zpl,zpm,zpn,zpo,zpp, ues_length]; rfl) (Zp rfl rfl (fun hi => ?_) (fun hi => ?_))
   ·have gx : l[i]? = some (l[i]'(by omega)) := List.getElem?_eq_getElem _
    generalize l[i]'(by omega) = x at gx
    have n0 : ((0 : Int) ≤ (i : Int)) = True := eq_true (by omega)
    have hinc := up64 (show i < 9223372036854775807 by omega)
    by_cases hx : x.1 = e.1 ∧ x.2 = e.2
    ·have hxe : x = e := Prod.ext hx.1 hx.2
     obtain ⟨x1, x2⟩ := hx
     refine Zd rfl (by simp (maxSteps := 2000000) only [gs,gd,zlr,id,reduceIte,reduceCtorEq,zpa,zpb,zpc,zpd,zpe,zpf,zpg,zph,zpi,zpj,zpk,zpl,zpm,zpn,zpo,zpp, n0, ues_get gx, x1, x2, beq_self_eq_true]; rfl) (Zc rfl rfl (fun _ => ?_) (fun h => by cases h))
     exact Zr rfl (by simp (maxSteps := 2000000) only [gs,zlr,reduceIte,reduceCtorEq,zpa,zpb,zpc,zpd,zpe,zpf,zpg,zph,zpi,zpj,zpk,zpl,zpm,zpn,zpo,zpp]; rfl) (Zq rfl ⟨_, rfl, _, _, rfl, (i : Int), rfl, rfl, .inr ⟨i, rfl, by rw [gx, hxe]⟩⟩)
    ·have hno2 : ∀ j, j < i + 1 → l[j]? ≠ some e := fun j hj => by
      by_cases hji : j = i
      ·subst hji; rw [gx]; intro h; cases h; exact hx ⟨rfl, rfl⟩
      ·exact hno j (by omega)
     by_cases x1 : x.1 = e.1
     ·have x2 : (x.2 == e.2) = false := beq_eq_false_iff_ne.2 (fun h => hx ⟨x1, h⟩)
      refine Zd rfl (by simp (maxSteps := 2000000) only [gs,gd,zlr,id,reduceIte,reduceCtorEq,zpa,zpb,zpc,zpd,zpe,zpf,zpg,zph,zpi,zpj,zpk,zpl,zpm,zpn,zpo,zpp, n0, ues_get gx, x1, x2, beq_self_eq_true]; rfl) (Zc rfl rfl (fun h => by cases h) (fun _ => ?_))
      refine Zr rfl (by simp (maxSteps := 2000000) only [gs,zlr,reduceIte,reduceCtorEq,zpa,zpb,zpc,zpd,zpe,zpf,zpg,zph,zpi,zpj,zpk,zpl,zpm,zpn,zpo,zpp, hinc]; rfl) ?_
      exact Za rfl ⟨n - 1, by omega, rfl, i + 1, hno2, rfl, rfl, rfl, by omega⟩
     ·have x1' : (x.1 == e.1) = false := beq_eq_false_iff_ne.2 x1
      refine Zd rfl (by simp (maxSteps := 2000000) only [gs,gd,zlr,id,reduceIte,reduceCtorEq,zpa,zpb,zpc,zpd,zpe,zpf,zpg,zph,zpi,zpj,zpk,zpl,zpm,zpn,zpo,zpp, n0, ues_get gx, x1']; rfl) (Zc rfl rfl (fun h => by cases h) (fun _ => ?_))
      refine Zr rfl (by simp (maxSteps := 2000000) only [gs,zlr,reduceIte,reduceCtorEq,zpa,zpb,zpc,zpd,zpe,zpf,zpg,zph,zpi,zpj,zpk,zpl,zpm,zpn,zpo,zpp, hinc]; rfl) ?_
      exact Za rfl ⟨n - 1, by omega, rfl, i + 1, hno2, rfl, rfl, rfl, by omega⟩
   ·exact Zr rfl (by simp (maxSteps := 2000000) only [gs,zlr,reduceIte,reduceCtorEq,zpa,zpb,zpc,zpd,zpe,zpf,zpg,zph,zpi,zpj,zpk,zpl,zpm,zpn,zpo,zpp]; rfl) (Zq rfl ⟨_, rfl, _, _, rfl, -1, rfl, rfl, .inl ⟨rfl, fun hm => by
     obtain ⟨j, hj⟩ := List.mem_iff_getElem?.1 hm
     exact hno j (by have := (List.getElem?_eq_some_iff.1 hj).1; omega) hj⟩⟩)
  ·refine Zr rfl (by simp (maxSteps := 2000000) only [gs,zlr,reduceIte,reduceCtorEq,zpa,zpb,zpc,zpd,zpe,zpf,zpg,zph,zpi,zpj,zpk,zpl,zpm,zpn,zpo,zpp]; rfl) ?_
   refine Zr rfl (by simp (maxSteps := 2000000) only [gs,zlr,reduceIte,reduceCtorEq,zpa,zpb,zpc,zpd,zpe,zpf,zpg,zph,zpi,zpj,zpk,zpl,zpm,zpn,zpo,zpp]; rfl) ?_
   refine Zw rfl (fun n env h => h = [.box [.int .u32 e.1, .int .u32 e.2]] ∧ GEnv.get env 0 = .nils ∧ GEnv.get env 3 = .ptr 0 0 0 0 ∧ GEnv.get env 5 = .int .i64 0) 0 ⟨rfl, rfl, rfl, rfl⟩ ?_
   rintro n env h ⟨rfl, k0, k3, k5⟩
   simp only [GEnv.keep, k0, k3, k5]
   refine Zr rfl (by simp (maxSteps := 2000000) only [gs,zlr,reduceIte,reduceCtorEq,zpa,zpb,zpc,zpd,zpe,zpf,zpg,zph,zpi,zpj,zpk,zpl,zpm,zpn,zpo,zpp]; rfl) (Zc rfl rfl (fun h => by cases h) (fun _ => ?_))
   exact Zr rfl (by simp (maxSteps := 2000000) only [gs,zlr,reduceIte,reduceCtorEq,zpa,zpb,zpc,zpd,zpe,zpf,zpg,zph,zpi,zpj,zpk,zpl,zpm,zpn,zpo,zpp]; rfl) (Zq rfl ⟨_, rfl, _, _, rfl, -1, rfl, rfl, .inl ⟨rfl, by simp⟩⟩)
 obtain ⟨u, h', h1, r, rfl, rfl, h2⟩ := key
 exact ⟨r, h2, h1⟩
theorem rising_R {w : U} {l : List Ed} (hw : isEa w l) (hl : l.length ≤ 1000) : ∃ b : Bool, (b = true ↔ RisE l) ∧ GF gtab fid_archipelagoref8_Rising [w] [] 0 = some (.bool b, []) := by
 have key : ∃ u h', GF gtab fid_archipelagoref8_Rising [w] [] 0 = some (u, h') ∧ ∃ b : Bool, u = .bool b ∧ h' = [] ∧ (b = true ↔ RisE l) := by
  refine fnR_archipelagoref8_Rising rfl ?_
  simp only [genvOf]
  rcases hw with rfl | ⟨rfl, rfl⟩
  ·refine Zr rfl (by simp (maxSteps := 2000000) only [gs,zlr,reduceIte,reduceCtorEq,zpa,zpb,zpc,zpd,zpe,zpf,zpg,zph,zpi,zpj,zpk,zpl,zpm,zpn,zpo,zpp]; rfl) ?_
   refine Zr rfl (by simp (maxSteps := 2000000) only [gs,zlr,reduceIte,reduceCtorEq,zpa,zpb,zpc,zpd,zpe,zpf,zpg,zph,zpi,zpj,zpk,zpl,zpm,zpn,zpo,zpp]; rfl) ?_
   refine Zw rfl (fun n env h => h = [] ∧ ∃ i : Nat, (∀ (j : Nat) (x y : Ed), j < i → l[j]? = some x → l[j + 1]? = some y → ltE x y) ∧ GEnv.get env 0 = .list false 2 (ues l) ∧ GEnv.get env 3 = .int .i64 ((i + 1 : Nat) : Int) ∧ n + i = l.length) l.length ⟨rfl, 0, fun j x y h => absurd h (by omega), rfl, rfl, rfl⟩ ?_
   rintro n env h ⟨rfl, i, hadj, k0, k3, hn⟩
   simp only [GEnv.keep, k0, k3]
   refine Zr rfl (by simp (maxSteps := 2000000) only [gs,zlr,reduceIte,reduceCtorEq,zpa,zpb,zpc,zpd,zpe,zpf,zpg,zph,zpi,zpj,zpk,zpl,zpm,zpn,zpo,zpp, ues_length]; rfl) (Zp rfl rfl (fun hi => ?_) (fun hi => ?_))
   ·have gx : l[i]? = some (l[i]'(by omega)) := List.getElem?_eq_getElem _
    have gy : l[i + 1]? = some (l[i + 1]'(by omega)) := List.getElem?_eq_getElem _
    generalize l[i]'(by omega) = x at gx
    generalize l[i + 1]'(by omega) = y at gy
    have n0 : ((0 : Int) ≤ (i : Int)) = True := eq_true (by omega)
    have n1 : ((0 : Int) ≤ ((i + 1 : Nat) : Int)) = True := eq_true (by omega)
    have ws : IntKind.i64.wrap (((i + 1 : Nat) : Int) - 1) = (i : Int) := by rw [wrap_i64 (by omega) (by omega)]; omega
    have hinc : IntKind.i64.wrap (((i + 1 : Nat) : Int) + 1) = ((i + 1 + 1 : Nat) : Int) := up64 (by omega)
    cases hb : lessE x.1 x.2 y.1 y.2 with
    | true =>
     refine Zd rfl (by simp (maxSteps := 2000000) only [gs,gd,zlr,id,reduceIte,reduceCtorEq,zpa,zpb,zpc,zpd,zpe,zpf,zpg,zph,zpi,zpj,zpk,zpl,zpm,zpn,zpo,zpp, ws, n0, n1, ues_get gx, ues_get gy, gc_archipelagoref8_Less, iq_archipelagoref8_Less, hless_G, hb]; rfl) (Zc rfl rfl (fun h => by cases h) (fun _ => ?_))
     refine Zr rfl (by simp (maxSteps := 2000000) only [gs,zlr,reduceIte,reduceCtorEq,zpa,zpb,zpc,zpd,zpe,zpf,zpg,zph,zpi,zpj,zpk,zpl,zpm,zpn,zpo,zpp, hinc]; rfl) ?_
     refine Za rfl ⟨n - 1, by omega, rfl, i + 1, fun j x' y' hj hx hy => ?_, rfl, rfl, by omega⟩
     by_cases hji : j = i
     ·subst hji; rw [gx] at hx; rw [gy] at hy; cases hx; cases hy
      rw [lessE_lt] at hb; exact of_decide_eq_true hb
     ·exact hadj j x' y' (by omega) hx hy
    | false =>
     refine Zd rfl (by simp (maxSteps := 2000000) only [gs,gd,zlr,id,reduceIte,reduceCtorEq,zpa,zpb,zpc,zpd,zpe,zpf,zpg,zph,zpi,zpj,zpk,zpl,zpm,zpn,zpo,zpp, ws, n0, n1, ues_get gx, ues_get gy, gc_archipelagoref8_Less, iq_archipelagoref8_Less, hless_G, hb]; rfl) (Zc rfl rfl (fun _ => ?_) (fun h => by cases h))
     exact Zr rfl (by simp (maxSteps := 2000000) only [gs,zlr,reduceIte,reduceCtorEq,zpa,zpb,zpc,zpd,zpe,zpf,zpg,zph,zpi,zpj,zpk,zpl,zpm,zpn,zpo,zpp]; rfl) (Zq rfl ⟨_, rfl, _, _, rfl, false, rfl, rfl, ⟨fun h => absurd h (by simp), fun h => by
      rw [lessE_lt] at hb
      have hb := of_decide_eq_false hb
      have := List.pairwise_iff_getElem.1 h i (i + 1) (List.getElem?_eq_some_iff.1 gx).1 (List.getElem?_eq_some_iff.1 gy).1 (by omega)
      rw [(List.getElem?_eq_some_iff.1 gx).2, (List.getElem?_eq_some_iff.1 gy).2] at this
      exact absurd this hb⟩⟩)
   ·exact Zr rfl (by simp (maxSteps := 2000000) only [gs,zlr,reduceIte,reduceCtorEq,zpa,zpb,zpc,zpd,zpe,zpf,zpg,zph,zpi,zpj,zpk,zpl,zpm,zpn,zpo,zpp]; rfl) (Zq rfl ⟨_, rfl, _, _, rfl, true, rfl, rfl, ⟨fun _ => ris_adj (R := ltE) ltE_trans fun j x y hx hy => hadj j x y (by have := (List.getElem?_eq_some_iff.1 hy).1; omega) hx hy, fun _ => rfl⟩⟩)
  ·refine Zr rfl (by simp (maxSteps := 2000000) only [gs,zlr,reduceIte,reduceCtorEq,zpa,zpb,zpc,zpd,zpe,zpf,zpg,zph,zpi,zpj,zpk,zpl,zpm,zpn,zpo,zpp]; rfl) ?_
   refine Zr rfl (by simp (maxSteps := 2000000) only [gs,zlr,reduceIte,reduceCtorEq,zpa,zpb,zpc,zpd,zpe,zpf,zpg,zph,zpi,zpj,zpk,zpl,zpm,zpn,zpo,zpp]; rfl) ?_
   refine Zw rfl (fun n env h => h = [] ∧ GEnv.get env 0 = .nils ∧ GEnv.get env 3 = .int .i64 1) 0 ⟨rfl, rfl, rfl⟩ ?_
   rintro n env h ⟨rfl, k0, k3⟩
   simp only [GEnv.keep, k0, k3]
   refine Zr rfl (by simp (maxSteps := 2000000) only [gs,zlr,reduceIte,reduceCtorEq,zpa,zpb,zpc,zpd,zpe,zpf,zpg,zph,zpi,zpj,zpk,zpl,zpm,zpn,zpo,zpp]; rfl) (Zc rfl rfl (fun h => by cases h) (fun _ => ?_))
   exact Zr rfl (by simp (maxSteps := 2000000) only [gs,zlr,reduceIte,reduceCtorEq,zpa,zpb,zpc,zpd,zpe,zpf,zpg,zph,zpi,zpj,zpk,zpl,zpm,zpn,zpo,zpp]; rfl) (Zq rfl ⟨_, rfl, _, _, rfl, true, rfl, rfl, ⟨fun _ => List.Pairwise.nil, fun _ => rfl⟩⟩)
 obtain ⟨u, h', h1, b, rfl, rfl, h2⟩ := key
 exact ⟨b, h2, h1⟩
theorem has_R {w : U} {l : List Ed} {e : Ed} (hw : isEa w l) (hl : l.length ≤ 1000) : GF gtab fid_archipelagoref8_Has [w, .agg [.int .u32 e.1, .int .u32 e.2]] [] 0 = some (.bool (decide (e ∈ l)), []) := by
 obtain ⟨r, hr, F⟩ := find_R (e := e) hw hl
 have hd : decide (e ∈ l) = decide (r ≥ 0) := by
  rcases hr with ⟨h1, h2⟩ | ⟨q, h1, h2⟩
  ·rw [decide_eq_false h2, decide_eq_false (by omega)]
  ·rw [decide_eq_true (List.mem_of_getElem? h2), decide_eq_true (by omega)]
 rw [hd]
 refine fn_archipelagoref8_Has rfl ?_
 simp only [genvOf]
 rcases hw with rfl | ⟨rfl, rfl⟩
 ·refine Zr rfl (by simp (maxSteps := 2000000) only [gs,zlr,reduceIte,reduceCtorEq,zpa,zpb,zpc,zpd,zpe,zpf,zpg,zph,zpi,zpj,zpk,zpl,zpm,zpn,zpo,zpp]; rfl) ?_
  exact Zr rfl (by simp (maxSteps := 2000000) only [gs,zlr,reduceIte,reduceCtorEq,zpa,zpb,zpc,zpd,zpe,zpf,zpg,zph,zpi,zpj,zpk,zpl,zpm,zpn,zpo,zpp, gc_archipelagoref8_Find, snapLL_ues, F]; rfl) (Zq rfl ⟨_, rfl, rfl⟩)
 ·refine Zr rfl (by simp (maxSteps := 2000000) only [gs,zlr,reduceIte,reduceCtorEq,zpa,zpb,zpc,zpd,zpe,zpf,zpg,zph,zpi,zpj,zpk,zpl,zpm,zpn,zpo,zpp]; rfl) ?_
  exact Zr rfl (by simp (maxSteps := 2000000) only [gs,zlr,reduceIte,reduceCtorEq,zpa,zpb,zpc,zpd,zpe,zpf,zpg,zph,zpi,zpj,zpk,zpl,zpm,zpn,zpo,zpp, gc_archipelagoref8_Find, F]; rfl) (Zq rfl ⟨_, rfl, rfl⟩)
def TurnR (l : List Ed) (e : Ev) (b : Bool) (l' : List Ed) : Prop := (b = true ↔ (RisE l ∧ (e.2.2.2 = true ↔ edOf e ∉ l))) ∧ (b = true → RisE l' ∧ ∀ x, x ∈ l' ↔ (if x = edOf e then e.2.2.2 = true else x ∈ l))
set_option maxHeartbeats 1000000 in
theorem turn_R {w : U} {l : List Ed} {e : Ev} (hw : isEa w l) (hl : l.length ≤ 500) : ∃ (v : U) (b : Bool) (l' : List Ed), GF gtab fid_archipelagoref8_Turn [w, .agg [.int .i64 e.1, .int .u32 e.2.1, .int .u32 e.2.2.1, .bool e.2.2.2]] [] 0 = some (.tup [v, .bool b], []) ∧ isE v l' ∧ l'.length ≤ l.length + 1 ∧ TurnR l e b l' := by
 obtain ⟨r, hr, F⟩ := find_R (e := (e.2.1, e.2.2.1)) hw (by omega)
 obtain ⟨rb, hrb, RB⟩ := rising_R hw (by omega)
 have badr : rb = false → TurnR l e false [] := fun h => ⟨⟨fun h => (by cases h), fun hh => absurd (hrb.2 hh.1) (by rw [h]; simp)⟩, fun h => (by cases h)⟩
 have bad : (e.2.2.2 = true ↔ edOf e ∈ l) → TurnR l e false [] := fun h => ⟨⟨fun h => (by cases h), fun hh => by
  by_cases hm : edOf e ∈ l
  ·exact absurd hm (hh.2.1 (h.2 hm))
  ·exact absurd (h.1 (hh.2.2 hm)) hm⟩, fun h => (by cases h)⟩
 have key : ∃ u h', GF gtab fid_archipelagoref8_Turn [w, .agg [.int .i64 e.1, .int .u32 e.2.1, .int .u32 e.2.2.1, .bool e.2.2.2]] [] 0 = some (u, h') ∧ ∃ (v : U) (b : Bool) (l' : List Ed), u = .tup [v, .bool b] ∧ h' = [] ∧ isE v l' ∧ l'.length ≤ l.length + 1 ∧ TurnR l e b l' := by
  refine fnR_archipelagoref8_Turn rfl ?_
  simp only [genvOf]
  have one_e : ([[U.int .u32 e.2.1, .int .u32 e.2.2.1]] : List (List U)) = ues [(e.2.1, e.2.2.1)] := rfl
  have z0 : (0 ≤ room) = True := eq_true (by unfold room; omega)
  have z8 : (8 ≤ room) = True := eq_true (by unfold room; omega)
  have z81 : (1 * 8 ≤ room) = True := eq_true (by unfold room; omega)
  rcases hw with rfl | ⟨rfl, rfl⟩
  ·have WR : ∀ {q : Nat}, q ≤ l.length → IntKind.i64.wrap ((q : Int) + 1) = ((q + 1 : Nat) : Int) := fun hq => up64 (by omega)
   cases rb with
   | false =>
    refine Zr rfl (by simp (maxSteps := 2000000) only [gs,zlr,reduceIte,reduceCtorEq,zpa,zpb,zpc,zpd,zpe,zpf,zpg,zph,zpi,zpj,zpk,zpl,zpm,zpn,zpo,zpp]; rfl) ?_
    refine Zr rfl (by simp (maxSteps := 2000000) only [gs,zlr,reduceIte,reduceCtorEq,zpa,zpb,zpc,zpd,zpe,zpf,zpg,zph,zpi,zpj,zpk,zpl,zpm,zpn,zpo,zpp, gc_archipelagoref8_Find, snapLL_ues, F]; rfl) ?_
    refine Zr rfl (by simp (maxSteps := 2000000) only [gs,zlr,reduceIte,reduceCtorEq,zpa,zpb,zpc,zpd,zpe,zpf,zpg,zph,zpi,zpj,zpk,zpl,zpm,zpn,zpo,zpp, gc_archipelagoref8_Rising, snapLL_ues, RB]; rfl) (Zc rfl rfl (fun _ => ?_) (fun h => by cases h))
    exact Zr rfl (by simp (maxSteps := 2000000) only [gs,zlr,reduceIte,reduceCtorEq,zpa,zpb,zpc,zpd,zpe,zpf,zpg,zph,zpi,zpj,zpk,zpl,zpm,zpn,zpo,zpp]; rfl) (Zq rfl ⟨_, rfl, _, _, rfl, .nils, false, [], rfl, rfl, .inr (.inr ⟨rfl, rfl⟩), by simp, badr rfl⟩)
   | true =>
    have hris : RisE l := hrb.1 rfl
    by_cases hge : r ≥ 0
    ·have f1 := eq_true hge
     cases hx : e.2.2.2 with
     | true =>
      refine Zr rfl (by simp (maxSteps := 2000000) only [gs,zlr,reduceIte,reduceCtorEq,zpa,zpb,zpc,zpd,zpe,zpf,zpg,zph,zpi,zpj,zpk,zpl,zpm,zpn,zpo,zpp]; rfl) ?_
      refine Zr rfl (by simp (maxSteps := 2000000) only [gs,zlr,reduceIte,reduceCtorEq,zpa,zpb,zpc,zpd,zpe,zpf,zpg,zph,zpi,zpj,zpk,zpl,zpm,zpn,zpo,zpp, gc_archipelagoref8_Find, snapLL_ues, F]; rfl) ?_
      refine Zr rfl (by simp (maxSteps := 2000000) only [gs,zlr,reduceIte,reduceCtorEq,zpa,zpb,zpc,zpd,zpe,zpf,zpg,zph,zpi,zpj,zpk,zpl,zpm,zpn,zpo,zpp, gc_archipelagoref8_Rising, snapLL_ues, RB, hx, f1]; rfl) (Zc rfl rfl (fun _ => ?_) (fun h => by cases h))
      exact Zr rfl (by simp (maxSteps := 2000000) only [gs,zlr,reduceIte,reduceCtorEq,zpa,zpb,zpc,zpd,zpe,zpf,zpg,zph,zpi,zpj,zpk,zpl,zpm,zpn,zpo,zpp]; rfl) (Zq rfl ⟨_, rfl, _, _, rfl, .nils, false, [], rfl, rfl, .inr (.inr ⟨rfl, rfl⟩), by simp, bad ⟨fun _ => by
       rcases hr with ⟨h1, _⟩ | ⟨q, _, h1⟩
       ·omega
       ·exact List.mem_of_getElem? h1, fun _ => hx⟩⟩)
     | false =>
      obtain ⟨q, rfl, hq⟩ : ∃ q : Nat, r = (q : Int) ∧ l[q]? = some (e.2.1, e.2.2.1) := by
       rcases hr with ⟨h1, _⟩ | h1
       ·omega
       ·exact h1
      have hql : q < l.length := (List.getElem?_eq_some_iff.1 hq).1
      have TR : TurnR l e true (l.take q ++ l.drop (q + 1)) := ⟨⟨fun _ => ⟨hris, by rw [hx]; exact ⟨fun h => absurd h (by simp), fun h => absurd (List.mem_of_getElem? hq) h⟩⟩, fun _ => rfl⟩, fun _ => ⟨pw_remove hris, fun x => by
       rw [mem_remove hris hq]
       by_cases hxe : x = edOf e
       ·rw [if_pos hxe, hx]; simp [hxe, edOf]
       ·rw [if_neg hxe]; exact ⟨fun h => h.1, fun h => ⟨h, hxe⟩⟩⟩⟩
      have q0 : ((0 : Int) ≤ (q : Int)) = True := eq_true (by omega)
      have q1 : ((q : Int) ≤ (l.length : Int)) = True := eq_true (by omega)
      have q2 : ((q : Int) - 0).toNat = q := by omega
      have p0 : ((0 : Int) ≤ ((q + 1 : Nat) : Int)) = True := eq_true (by omega)
      have p1 : (((q + 1 : Nat) : Int) ≤ (l.length : Int)) = True := eq_true (by omega)
      have p2 : (((q + 1 : Nat) : Int)).toNat = q + 1 := by omega
      have p3 : ((l.length : Int) - ((q + 1 : Nat) : Int)).toNat = l.length - (q + 1) := by omega
      have p4 : ((l.length : Int) ≤ (l.length : Int)) = True := eq_true (by omega)
      have tl : (l.take q).length = q := by rw [List.length_take]; omega
      have dl : ((l.drop (q + 1)).take (l.length - (q + 1))) = l.drop (q + 1) := List.take_of_length_le (by rw [List.length_drop]; omega)
      have dll : (l.drop (q + 1)).length = l.length - (q + 1) := by rw [List.length_drop]
      have r1 : (q * 8 ≤ room) = True := eq_true (by unfold room; omega)
      have r2 : ((q + (l.length - (q + 1))) * 8 ≤ room) = True := eq_true (by unfold room; omega)
      refine Zr rfl (by simp (maxSteps := 2000000) only [gs,zlr,reduceIte,reduceCtorEq,zpa,zpb,zpc,zpd,zpe,zpf,zpg,zph,zpi,zpj,zpk,zpl,zpm,zpn,zpo,zpp]; rfl) ?_
      refine Zr rfl (by simp (maxSteps := 2000000) only [gs,zlr,reduceIte,reduceCtorEq,zpa,zpb,zpc,zpd,zpe,zpf,zpg,zph,zpi,zpj,zpk,zpl,zpm,zpn,zpo,zpp, gc_archipelagoref8_Find, snapLL_ues, F]; rfl) ?_
      refine Zr rfl (by simp (maxSteps := 2000000) only [gs,zlr,reduceIte,reduceCtorEq,zpa,zpb,zpc,zpd,zpe,zpf,zpg,zph,zpi,zpj,zpk,zpl,zpm,zpn,zpo,zpp, gc_archipelagoref8_Rising, snapLL_ues, RB, hx, f1]; rfl) (Zc rfl rfl (fun h => by cases h) (fun _ => ?_))
      refine Zr rfl (by simp (maxSteps := 2000000) only [gs,zlr,reduceIte,reduceCtorEq,zpa,zpb,zpc,zpd,zpe,zpf,zpg,zph,zpi,zpj,zpk,zpl,zpm,zpn,zpo,zpp, hx]; rfl) (Zc rfl rfl (fun _ => ?_) (fun h => by cases h))
      refine Zd rfl (by simp (maxSteps := 2000000) only [gs,gd,zlr,id,reduceIte,reduceCtorEq,zpa,zpb,zpc,zpd,zpe,zpf,zpg,zph,zpi,zpj,zpk,zpl,zpm,zpn,zpo,zpp, ues_length, q0, q1, q2, ues_take, tl, r1, WR (Nat.le_of_lt hql), p0, p1, p2, p3, p4, ues_drop, dl, dll, r2, ues_append]; rfl) (Zq rfl ⟨_, rfl, _, _, (by simp only [gfin, outs, U.out, U.handed, U.share, U.rf, GEnv.get, if_true, Nat.reduceEqDiff, if_false, rfLL_ues, Option.map_some]; rfl), .own 2 (ues (l.take q ++ l.drop (q + 1))), true, _, rfl, rfl, .inr (.inl rfl), by rw [List.length_append, tl, dll]; omega, TR⟩)
    ·have f1 := eq_false hge
     have hnm : edOf e ∉ l := by
      rcases hr with ⟨_, h1⟩ | ⟨q, h1, _⟩
      ·exact h1
      ·omega
     cases hx : e.2.2.2 with
     | false =>
      refine Zr rfl (by simp (maxSteps := 2000000) only [gs,zlr,reduceIte,reduceCtorEq,zpa,zpb,zpc,zpd,zpe,zpf,zpg,zph,zpi,zpj,zpk,zpl,zpm,zpn,zpo,zpp]; rfl) ?_
      refine Zr rfl (by simp (maxSteps := 2000000) only [gs,zlr,reduceIte,reduceCtorEq,zpa,zpb,zpc,zpd,zpe,zpf,zpg,zph,zpi,zpj,zpk,zpl,zpm,zpn,zpo,zpp, gc_archipelagoref8_Find, snapLL_ues, F]; rfl) ?_
      refine Zr rfl (by simp (maxSteps := 2000000) only [gs,zlr,reduceIte,reduceCtorEq,zpa,zpb,zpc,zpd,zpe,zpf,zpg,zph,zpi,zpj,zpk,zpl,zpm,zpn,zpo,zpp, gc_archipelagoref8_Rising, snapLL_ues, RB, hx, f1]; rfl) (Zc rfl rfl (fun _ => ?_) (fun h => by cases h))
      exact Zr rfl (by simp (maxSteps := 2000000) only [gs,zlr,reduceIte,reduceCtorEq,zpa,zpb,zpc,zpd,zpe,zpf,zpg,zph,zpi,zpj,zpk,zpl,zpm,zpn,zpo,zpp]; rfl) (Zq rfl ⟨_, rfl, _, _, rfl, .nils, false, [], rfl, rfl, .inr (.inr ⟨rfl, rfl⟩), by simp, bad ⟨fun h => absurd (hx.symm.trans h) (by simp), fun h => absurd h hnm⟩⟩)
     | true =>
      refine Zr rfl (by simp (maxSteps := 2000000) only [gs,zlr,reduceIte,reduceCtorEq,zpa,zpb,zpc,zpd,zpe,zpf,zpg,zph,zpi,zpj,zpk,zpl,zpm,zpn,zpo,zpp]; rfl) ?_
      refine Zr rfl (by simp (maxSteps := 2000000) only [gs,zlr,reduceIte,reduceCtorEq,zpa,zpb,zpc,zpd,zpe,zpf,zpg,zph,zpi,zpj,zpk,zpl,zpm,zpn,zpo,zpp, gc_archipelagoref8_Find, snapLL_ues, F]; rfl) ?_
      refine Zr rfl (by simp (maxSteps := 2000000) only [gs,zlr,reduceIte,reduceCtorEq,zpa,zpb,zpc,zpd,zpe,zpf,zpg,zph,zpi,zpj,zpk,zpl,zpm,zpn,zpo,zpp, gc_archipelagoref8_Rising, snapLL_ues, RB, hx, f1]; rfl) (Zc rfl rfl (fun h => by cases h) (fun _ => ?_))
      refine Zr rfl (by simp (maxSteps := 2000000) only [gs,zlr,reduceIte,reduceCtorEq,zpa,zpb,zpc,zpd,zpe,zpf,zpg,zph,zpi,zpj,zpk,zpl,zpm,zpn,zpo,zpp, hx]; rfl) (Zc rfl rfl (fun h => by cases h) (fun _ => ?_))
      refine Zr rfl (by simp (maxSteps := 2000000) only [gs,zlr,reduceIte,reduceCtorEq,zpa,zpb,zpc,zpd,zpe,zpf,zpg,zph,zpi,zpj,zpk,zpl,zpm,zpn,zpo,zpp]; rfl) ?_
      refine Zw rfl (fun n env h => h = [.box [.int .i64 e.1, .int .u32 e.2.1, .int .u32 e.2.2.1, .bool true]] ∧ ∃ i : Nat, (∀ (j : Nat) (y : Ed), j < i → l[j]? = some y → ltE y (edOf e)) ∧ GEnv.get env 0 = .list false 2 (ues l) ∧ GEnv.get env 3 = .ptr 0 0 0 0 ∧ GEnv.get env 6 = .int .i64 (i : Int) ∧ n + i = l.length) l.length ⟨rfl, 0, fun j y h => absurd h (by omega), rfl, rfl, rfl, rfl⟩ ?_
      rintro n env h ⟨rfl, i, hlo, k0, k3, k6, hn⟩
      simp only [GEnv.keep, k0, k3, k6]
      have q0 : ((0 : Int) ≤ (i : Int)) = True := eq_true (by omega)
      have q1 : ((i : Int) ≤ (l.length : Int)) = True := eq_true (by omega)
      have q2 : ((i : Int) - 0).toNat = i := by omega
      have p2 : ((i : Int)).toNat = i := by omega
      have p3 : ((l.length : Int) - (i : Int)).toNat = l.length - i := by omega
      have p4 : ((l.length : Int) ≤ (l.length : Int)) = True := eq_true (by omega)
      have tl : (l.take i).length = i := by rw [List.length_take]; omega
      have dl : ((l.drop i).take (l.length - i)) = l.drop i := List.take_of_length_le (by rw [List.length_drop]; omega)
      have dll : (l.drop i).length = l.length - i := by rw [List.length_drop]
      have r1 : (i * 8 ≤ room) = True := eq_true (by unfold room; omega)
      have r2 : ((i + 1) * 8 ≤ room) = True := eq_true (by unfold room; omega)
      have r3 : ((i + 1 + (l.length - i)) * 8 ≤ room) = True := eq_true (by unfold room; omega)
      have tl1 : (l.take i ++ [(e.2.1, e.2.2.1)]).length = i + 1 := by rw [List.length_append, tl]; rfl
      have one1 : ([(e.2.1, e.2.2.1)] : List Ed).length = 1 := rfl
      have TR : (∀ y, l[i]? = some y → ltE (edOf e) y) → TurnR l e true (l.take i ++ [(e.2.1, e.2.2.1)] ++ l.drop i) := fun h2 => ⟨⟨fun _ => ⟨hris, by rw [hx]; exact ⟨fun _ => hnm, fun _ => rfl⟩⟩, fun _ => rfl⟩, fun _ => ⟨pw_insert (R := ltE) ltE_trans hris (by omega) (fun y h0 hy => hlo (i - 1) y (by omega) hy) h2, fun x => by
       rw [mem_insert]
       by_cases hxe : x = edOf e
       ·rw [if_pos hxe, hx]; simp [hxe, edOf]
       ·rw [if_neg hxe]; exact ⟨fun h => by rcases h with h | h; exact h; exact absurd h hxe, fun h => .inl h⟩⟩⟩
      by_cases hi : i < l.length
      ·have g1 : ((i : Int) < (l.length : Int)) = True := eq_true (by omega)
       have gx : l[i]? = some (l[i]'hi) := List.getElem?_eq_getElem _
       generalize l[i]'hi = y at gx
       cases hb : lessE y.1 y.2 e.2.1 e.2.2.1 with
       | true =>
        refine Zd rfl (by simp (maxSteps := 2000000) only [gs,gd,zlr,id,reduceIte,reduceCtorEq,zpa,zpb,zpc,zpd,zpe,zpf,zpg,zph,zpi,zpj,zpk,zpl,zpm,zpn,zpo,zpp, ues_length, g1, q0, ues_get gx, gc_archipelagoref8_Less, iq_archipelagoref8_Less, hless_G, hb]; rfl) (Zc rfl rfl (fun _ => ?_) (fun h => by cases h))
        refine Zr rfl (by simp (maxSteps := 2000000) only [gs,zlr,reduceIte,reduceCtorEq,zpa,zpb,zpc,zpd,zpe,zpf,zpg,zph,zpi,zpj,zpk,zpl,zpm,zpn,zpo,zpp, up64 (show i < 9223372036854775807 by omega)]; rfl) ?_
        refine Za rfl ⟨n - 1, by omega, rfl, i + 1, fun j y' hj hy => ?_, rfl, rfl, rfl, by omega⟩
        by_cases hji : j = i
        ·subst hji; rw [gx] at hy; cases hy; exact of_decide_eq_true hb
        ·exact hlo j y' (by omega) hy
       | false =>
        have TR := TR (fun y' hy => by
         rw [gx] at hy; cases hy
         exact ltE_total (of_decide_eq_false hb) (fun h => hnm (h ▸ List.mem_of_getElem? gx)))
        refine Zd rfl (by simp (maxSteps := 2000000) only [gs,gd,zlr,id,reduceIte,reduceCtorEq,zpa,zpb,zpc,zpd,zpe,zpf,zpg,zph,zpi,zpj,zpk,zpl,zpm,zpn,zpo,zpp, ues_length, g1, q0, ues_get gx, gc_archipelagoref8_Less, iq_archipelagoref8_Less, hless_G, hb]; rfl) (Zc rfl rfl (fun h => by cases h) (fun _ => ?_))
        refine Zd rfl (by simp (maxSteps := 2000000) only [gs,gd,zlr,id,reduceIte,reduceCtorEq,zpa,zpb,zpc,zpd,zpe,zpf,zpg,zph,zpi,zpj,zpk,zpl,zpm,zpn,zpo,zpp, ues_length, q0, q1, q2, p2, p3, p4, ues_take, tl, r1, one_e, ues_append, tl1, one1, r2, ues_drop, dl, dll, r3]; rfl) (Zq rfl ⟨_, rfl, _, _, (by simp only [gfin, outs, U.out, U.handed, U.share, U.rf, GEnv.get, if_true, Nat.reduceEqDiff, if_false, rfLL_ues, Option.map_some]; rfl), .own 2 (ues (l.take i ++ [(e.2.1, e.2.2.1)] ++ l.drop i)), true, _, rfl, rfl, .inr (.inl rfl), by rw [List.length_append, tl1, dll]; omega, TR⟩)
      ·have g1 : ((i : Int) < (l.length : Int)) = False := eq_false (by omega)
       have TR := TR (fun y' hy => absurd (List.getElem?_eq_some_iff.1 hy).1 (by omega))
       refine Zd rfl (by simp (maxSteps := 2000000) only [gs,gd,zlr,id,reduceIte,reduceCtorEq,zpa,zpb,zpc,zpd,zpe,zpf,zpg,zph,zpi,zpj,zpk,zpl,zpm,zpn,zpo,zpp, ues_length, g1]; rfl) (Zc rfl rfl (fun h => by cases h) (fun _ => ?_))
       refine Zd rfl (by simp (maxSteps := 2000000) only [gs,gd,zlr,id,reduceIte,reduceCtorEq,zpa,zpb,zpc,zpd,zpe,zpf,zpg,zph,zpi,zpj,zpk,zpl,zpm,zpn,zpo,zpp, ues_length, q0, q1, q2, p2, p3, p4, ues_take, tl, r1, one_e, ues_append, tl1, one1, r2, ues_drop, dl, dll, r3]; rfl) (Zq rfl ⟨_, rfl, _, _, (by simp only [gfin, outs, U.out, U.handed, U.share, U.rf, GEnv.get, if_true, Nat.reduceEqDiff, if_false, rfLL_ues, Option.map_some]; rfl), .own 2 (ues (l.take i ++ [(e.2.1, e.2.2.1)] ++ l.drop i)), true, _, rfl, rfl, .inr (.inl rfl), by rw [List.length_append, tl1, dll]; omega, TR⟩)
  ·have hr1 : r = -1 := by
    rcases hr with ⟨h, _⟩ | ⟨q, h1, h2⟩
    ·exact h
    ·simp at h2
   subst hr1
   have fm : ((-1 : Int) ≥ 0) = False := eq_false (by omega)
   cases rb with
   | false =>
    refine Zr rfl (by simp (maxSteps := 2000000) only [gs,zlr,reduceIte,reduceCtorEq,zpa,zpb,zpc,zpd,zpe,zpf,zpg,zph,zpi,zpj,zpk,zpl,zpm,zpn,zpo,zpp]; rfl) ?_
    refine Zr rfl (by simp (maxSteps := 2000000) only [gs,zlr,reduceIte,reduceCtorEq,zpa,zpb,zpc,zpd,zpe,zpf,zpg,zph,zpi,zpj,zpk,zpl,zpm,zpn,zpo,zpp, gc_archipelagoref8_Find, F]; rfl) ?_
    refine Zr rfl (by simp (maxSteps := 2000000) only [gs,zlr,reduceIte,reduceCtorEq,zpa,zpb,zpc,zpd,zpe,zpf,zpg,zph,zpi,zpj,zpk,zpl,zpm,zpn,zpo,zpp, gc_archipelagoref8_Rising, RB]; rfl) (Zc rfl rfl (fun _ => ?_) (fun h => by cases h))
    exact Zr rfl (by simp (maxSteps := 2000000) only [gs,zlr,reduceIte,reduceCtorEq,zpa,zpb,zpc,zpd,zpe,zpf,zpg,zph,zpi,zpj,zpk,zpl,zpm,zpn,zpo,zpp]; rfl) (Zq rfl ⟨_, rfl, _, _, rfl, .nils, false, [], rfl, rfl, .inr (.inr ⟨rfl, rfl⟩), by simp, badr rfl⟩)
   | true =>
    cases hx : e.2.2.2 with
    | false =>
     refine Zr rfl (by simp (maxSteps := 2000000) only [gs,zlr,reduceIte,reduceCtorEq,zpa,zpb,zpc,zpd,zpe,zpf,zpg,zph,zpi,zpj,zpk,zpl,zpm,zpn,zpo,zpp]; rfl) ?_
     refine Zr rfl (by simp (maxSteps := 2000000) only [gs,zlr,reduceIte,reduceCtorEq,zpa,zpb,zpc,zpd,zpe,zpf,zpg,zph,zpi,zpj,zpk,zpl,zpm,zpn,zpo,zpp, gc_archipelagoref8_Find, F]; rfl) ?_
     refine Zr rfl (by simp (maxSteps := 2000000) only [gs,zlr,reduceIte,reduceCtorEq,zpa,zpb,zpc,zpd,zpe,zpf,zpg,zph,zpi,zpj,zpk,zpl,zpm,zpn,zpo,zpp, gc_archipelagoref8_Rising, RB, hx, fm]; rfl) (Zc rfl rfl (fun _ => ?_) (fun h => by cases h))
     exact Zr rfl (by simp (maxSteps := 2000000) only [gs,zlr,reduceIte,reduceCtorEq,zpa,zpb,zpc,zpd,zpe,zpf,zpg,zph,zpi,zpj,zpk,zpl,zpm,zpn,zpo,zpp]; rfl) (Zq rfl ⟨_, rfl, _, _, rfl, .nils, false, [], rfl, rfl, .inr (.inr ⟨rfl, rfl⟩), by simp, bad ⟨fun h => absurd (hx.symm.trans h) (by simp), fun h => absurd h (by simp)⟩⟩)
    | true =>
     refine Zr rfl (by simp (maxSteps := 2000000) only [gs,zlr,reduceIte,reduceCtorEq,zpa,zpb,zpc,zpd,zpe,zpf,zpg,zph,zpi,zpj,zpk,zpl,zpm,zpn,zpo,zpp]; rfl) ?_
     refine Zr rfl (by simp (maxSteps := 2000000) only [gs,zlr,reduceIte,reduceCtorEq,zpa,zpb,zpc,zpd,zpe,zpf,zpg,zph,zpi,zpj,zpk,zpl,zpm,zpn,zpo,zpp, gc_archipelagoref8_Find, F]; rfl) ?_
     refine Zr rfl (by simp (maxSteps := 2000000) only [gs,zlr,reduceIte,reduceCtorEq,zpa,zpb,zpc,zpd,zpe,zpf,zpg,zph,zpi,zpj,zpk,zpl,zpm,zpn,zpo,zpp, gc_archipelagoref8_Rising, RB, hx, fm]; rfl) (Zc rfl rfl (fun h => by cases h) (fun _ => ?_))
     refine Zr rfl (by simp (maxSteps := 2000000) only [gs,zlr,reduceIte,reduceCtorEq,zpa,zpb,zpc,zpd,zpe,zpf,zpg,zph,zpi,zpj,zpk,zpl,zpm,zpn,zpo,zpp, hx]; rfl) (Zc rfl rfl (fun h => by cases h) (fun _ => ?_))
     refine Zr rfl (by simp (maxSteps := 2000000) only [gs,zlr,reduceIte,reduceCtorEq,zpa,zpb,zpc,zpd,zpe,zpf,zpg,zph,zpi,zpj,zpk,zpl,zpm,zpn,zpo,zpp]; rfl) ?_
     refine Zw rfl (fun n env h => h = [.box [.int .i64 e.1, .int .u32 e.2.1, .int .u32 e.2.2.1, .bool true]] ∧ GEnv.get env 0 = .nils ∧ GEnv.get env 3 = .ptr 0 0 0 0 ∧ GEnv.get env 6 = .int .i64 0) 0 ⟨rfl, rfl, rfl, rfl⟩ ?_
     rintro n env h ⟨rfl, k0, k3, k6⟩
     simp only [GEnv.keep, k0, k3, k6]
     refine Zd rfl (by simp (maxSteps := 2000000) only [gs,gd,zlr,id,reduceIte,reduceCtorEq,zpa,zpb,zpc,zpd,zpe,zpf,zpg,zph,zpi,zpj,zpk,zpl,zpm,zpn,zpo,zpp]; rfl) (Zc rfl rfl (fun h => by cases h) (fun _ => ?_))
     refine Zd rfl (by simp (maxSteps := 2000000) only [gs,gd,zlr,id,reduceIte,reduceCtorEq,zpa,zpb,zpc,zpd,zpe,zpf,zpg,zph,zpi,zpj,zpk,zpl,zpm,zpn,zpo,zpp, z0, z8, z81, one_e]; rfl) (Zq rfl ⟨_, rfl, _, _, (by simp only [gfin, outs, U.out, U.handed, U.share, U.rf, GEnv.get, if_true, Nat.reduceEqDiff, if_false, rfLL_ues, Option.map_some]; rfl), .own 2 (ues [(e.2.1, e.2.2.1)]), true, _, rfl, rfl, .inr (.inl rfl), by simp, ⟨⟨fun _ => ⟨List.Pairwise.nil, by rw [hx]; simp⟩, fun _ => rfl⟩, fun _ => ⟨List.pairwise_singleton _ _, fun x => by
      by_cases hxe : x = edOf e
      ·rw [if_pos hxe, hx]; simp [hxe, edOf]
      ·rw [if_neg hxe]; simpa [edOf] using hxe⟩⟩⟩)
 obtain ⟨u, h', h1, v, b, l', rfl, rfl, h2, h3, h4⟩ := key
 exact ⟨v, b, l', h1, h2, h3, h4⟩
end Go.Ab
