/- Small functions of histories on the machine of values: edges, events in order. -/
import Derived.Test.YtdhoihialekgmaaGt
import Derived.Test.YtdhoihialekgmaaValN
import Derived.Test.YtdhoihialekgmaaBitPure
namespace Go.Ab
open Go
open Nat renaming reduceEqDiff → zpa, reduceLT → zpb, reduceAdd → zpc, reduceSub → zpd, reduceLeDiff → zpe, reduceMul → zpf
open Int renaming reduceToNat → zpg, reduceLT → zph, reduceLE → zpi, reduceEq → zpj, reduceNe → zpk, reduceBEq → zpl, reduceBNe → zpm, reduceAdd → zpn, reduceSub → zpo, reduceNeg → zpp
open List renaming replicate → zlr
set_option linter.unusedVariables false
set_option linter.unusedSimpArgs false
set_option maxRecDepth 10000
abbrev Ev := Int × Int × Int × Bool
abbrev Ed := Int × Int
def uvs (l : List Ev) : List (List U) := l.map fun e => [.int .i64 e.1, .int .u32 e.2.1, .int .u32 e.2.2.1, .bool e.2.2.2]
def ues (l : List Ed) : List (List U) := l.map fun e => [.int .u32 e.1, .int .u32 e.2]
def uv (e : Ev) : U := .agg [.int .i64 e.1, .int .u32 e.2.1, .int .u32 e.2.2.1, .bool e.2.2.2]
def ued (e : Ed) : U := .agg [.int .u32 e.1, .int .u32 e.2]
theorem uvs_length (l : List Ev) : (uvs l).length = l.length := by simp [uvs]
theorem ues_length (l : List Ed) : (ues l).length = l.length := by simp [ues]
theorem uvs_get {l : List Ev} {i : Nat} {e : Ev} (h : l[i]? = some e) : (uvs l)[i]? = some [.int .i64 e.1, .int .u32 e.2.1, .int .u32 e.2.2.1, .bool e.2.2.2] := by simp [uvs, h]
theorem ues_get {l : List Ed} {i : Nat} {e : Ed} (h : l[i]? = some e) : (ues l)[i]? = some [.int .u32 e.1, .int .u32 e.2] := by simp [ues, h]
theorem uvs_append {a b : List Ev} : uvs a ++ uvs b = uvs (a ++ b) := by simp [uvs]
theorem ues_append {a b : List Ed} : ues a ++ ues b = ues (a ++ b) := by simp [ues]
theorem uvs_one {t a b : Int} {x : Bool} : [[U.int .i64 t, .int .u32 a, .int .u32 b, .bool x]] = uvs [(t, a, b, x)] := rfl
theorem ues_one {a b : Int} : [[U.int .u32 a, .int .u32 b]] = ues [(a, b)] := rfl
theorem uvs_take {l : List Ev} {n : Nat} : (uvs l).take n = uvs (l.take n) := by simp [uvs]
theorem uvs_drop {l : List Ev} {n : Nat} : (uvs l).drop n = uvs (l.drop n) := by simp [uvs]
theorem ues_take {l : List Ed} {n : Nat} : (ues l).take n = ues (l.take n) := by simp [ues]
theorem ues_drop {l : List Ed} {n : Nat} : (ues l).drop n = ues (l.drop n) := by simp [ues]
theorem snapLL_uvs {h : GH} {l : List Ev} : snapLL h (uvs l) = some (uvs l, false) := snapLL_map (fun x => by simp [snapL, U.snap]) l
theorem snapLL_ues {h : GH} {l : List Ed} : snapLL h (ues l) = some (ues l, false) := snapLL_map (fun x => by simp [snapL, U.snap]) l
theorem rfLL_uvs {l : List Ev} : rfLL (uvs l) = true := rfLL_map (fun x => by simp [rfL, U.rf]) l
theorem rfLL_ues {l : List Ed} : rfLL (ues l) = true := rfLL_map (fun x => by simp [rfL, U.rf]) l
def lessE (a b c d : Int) : Bool := decide (a < c ∨ a = c ∧ b < d)
def befE (t a b t' c d : Int) : Bool := decide (t < t' ∨ t = t' ∧ (a < c ∨ a = c ∧ b < d))
theorem hless_G (a b c d : Int) : GF gtab fid_archipelagoref8_Less [.agg [.int .u32 a, .int .u32 b], .agg [.int .u32 c, .int .u32 d]] [] 0 = some (.bool (lessE a b c d), []) := by
 refine fn_archipelagoref8_Less rfl ?_
 simp only [genvOf]
 refine Zr rfl (by simp (maxSteps := 2000000) only [gs,zlr,reduceIte,reduceCtorEq,zpa,zpb,zpc,zpd,zpe,zpf,zpg,zph,zpi,zpj,zpk,zpl,zpm,zpn,zpo,zpp]; rfl) ?_
 unfold lessE
 by_cases h1 : a < c
 ·have e : decide (a < c ∨ a = c ∧ b < d) = true := decide_eq_true (.inl h1)
  rw [e]
  have f1 := eq_true h1
  exact Zr rfl (by simp (maxSteps := 2000000) only [gs,zlr,reduceIte,reduceCtorEq,zpa,zpb,zpc,zpd,zpe,zpf,zpg,zph,zpi,zpj,zpk,zpl,zpm,zpn,zpo,zpp, f1]; rfl) (Zq rfl ⟨_, rfl, rfl⟩)
 ·have f1 := eq_false h1
  by_cases h2 : a = c
  ·have e : decide (a < c ∨ a = c ∧ b < d) = decide (b < d) := by simp [h1, h2]
   rw [e]
   subst h2
   exact Zr rfl (by simp (maxSteps := 2000000) only [gs,zlr,reduceIte,reduceCtorEq,zpa,zpb,zpc,zpd,zpe,zpf,zpg,zph,zpi,zpj,zpk,zpl,zpm,zpn,zpo,zpp, f1, beq_self_eq_true]; rfl) (Zq rfl ⟨_, rfl, rfl⟩)
  ·have e : decide (a < c ∨ a = c ∧ b < d) = false := decide_eq_false (by omega)
   rw [e]
   have f2 : (a == c) = false := beq_eq_false_iff_ne.2 h2
   exact Zr rfl (by simp (maxSteps := 2000000) only [gs,zlr,reduceIte,reduceCtorEq,zpa,zpb,zpc,zpd,zpe,zpf,zpg,zph,zpi,zpj,zpk,zpl,zpm,zpn,zpo,zpp, f1, f2]; rfl) (Zq rfl ⟨_, rfl, rfl⟩)
theorem hbefore_G (t a b : Int) (x : Bool) (t' c d : Int) (y : Bool) : GF gtab fid_archipelagoref8_Before [.agg [.int .i64 t, .int .u32 a, .int .u32 b, .bool x], .agg [.int .i64 t', .int .u32 c, .int .u32 d, .bool y]] [] 0 = some (.bool (befE t a b t' c d), []) := by
 refine fn_archipelagoref8_Before rfl ?_
 simp only [genvOf]
 refine Zr rfl (by simp (maxSteps := 2000000) only [gs,zlr,reduceIte,reduceCtorEq,zpa,zpb,zpc,zpd,zpe,zpf,zpg,zph,zpi,zpj,zpk,zpl,zpm,zpn,zpo,zpp]; rfl) ?_
 unfold befE
 by_cases h1 : t < t'
 ·have e : decide (t < t' ∨ t = t' ∧ (a < c ∨ a = c ∧ b < d)) = true := decide_eq_true (.inl h1)
  rw [e]
  have f1 := eq_true h1
  exact Zr rfl (by simp (maxSteps := 2000000) only [gs,zlr,reduceIte,reduceCtorEq,zpa,zpb,zpc,zpd,zpe,zpf,zpg,zph,zpi,zpj,zpk,zpl,zpm,zpn,zpo,zpp, f1]; rfl) (Zq rfl ⟨_, rfl, rfl⟩)
 ·have f1 := eq_false h1
  by_cases h2 : t = t'
  ·have e : decide (t < t' ∨ t = t' ∧ (a < c ∨ a = c ∧ b < d)) = lessE a b c d := by simp [h1, h2, lessE]
   rw [e]
   subst h2
   exact Zr rfl (by simp (maxSteps := 2000000) only [gs,zlr,reduceIte,reduceCtorEq,zpa,zpb,zpc,zpd,zpe,zpf,zpg,zph,zpi,zpj,zpk,zpl,zpm,zpn,zpo,zpp, f1, beq_self_eq_true, gc_archipelagoref8_Less, hless_G]; rfl) (Zq rfl ⟨_, rfl, rfl⟩)
  ·have e : decide (t < t' ∨ t = t' ∧ (a < c ∨ a = c ∧ b < d)) = false := decide_eq_false (by omega)
   rw [e]
   have f2 : (t == t') = false := beq_eq_false_iff_ne.2 h2
   exact Zr rfl (by simp (maxSteps := 2000000) only [gs,zlr,reduceIte,reduceCtorEq,zpa,zpb,zpc,zpd,zpe,zpf,zpg,zph,zpi,zpj,zpk,zpl,zpm,zpn,zpo,zpp, f1, f2]; rfl) (Zq rfl ⟨_, rfl, rfl⟩)
def isV (w : U) (l : List Ev) : Prop := w = .list false 4 (uvs l) ∨ w = .own 4 (uvs l) ∨ (w = .nils ∧ l = [])
def isE (w : U) (l : List Ed) : Prop := w = .list false 2 (ues l) ∨ w = .own 2 (ues l) ∨ (w = .nils ∧ l = [])
def isVa (w : U) (l : List Ev) : Prop := w = .list false 4 (uvs l) ∨ (w = .nils ∧ l = [])
def isEa (w : U) (l : List Ed) : Prop := w = .list false 2 (ues l) ∨ (w = .nils ∧ l = [])
def SortT (l : List Ev) : Prop := ∀ (i j : Nat) (d e : Ev), i ≤ j → l[i]? = some d → l[j]? = some e → d.1 ≤ e.1
theorem sort_insert {l : List Ev} {e : Ev} {k : Nat} (hs : SortT l) (hk : k ≤ l.length) (h1 : ∀ (j : Nat) (d : Ev), k ≤ j → l[j]? = some d → e.1 ≤ d.1) (h2 : ∀ d : Ev, 0 < k → l[k - 1]? = some d → d.1 ≤ e.1) : SortT (l.take k ++ [e] ++ l.drop k) := by
 have get : ∀ i : Nat, (l.take k ++ [e] ++ l.drop k)[i]? = if i < k then l[i]? else if i = k then some e else l[i - 1]? := fun i => by
  by_cases c1 : i < k
  ·rw [if_pos c1, List.append_assoc, List.getElem?_append_left (by rw [List.length_take]; omega), List.getElem?_take, if_pos c1]
  ·rw [if_neg c1, List.append_assoc, List.getElem?_append_right (by rw [List.length_take]; omega), List.length_take, Nat.min_eq_left hk]
   by_cases c2 : i = k
   ·rw [if_pos c2, c2, Nat.sub_self]; rfl
   ·rw [if_neg c2, List.getElem?_append_right (by simp; omega), List.length_singleton, List.getElem?_drop]
    congr 1; omega
 have lo : ∀ (j : Nat) (d : Ev), j < k → l[j]? = some d → d.1 ≤ e.1 := fun j d hj hd => by
  have gk : l[k - 1]? = some (l[k - 1]'(by omega)) := List.getElem?_eq_getElem _
  exact Int.le_trans (hs j (k - 1) d _ (by omega) hd gk) (h2 _ (by omega) gk)
 intro i j d d' hij hd hd'
 rw [get] at hd hd'
 split at hd
 ·split at hd'
  ·exact hs i j d d' hij hd hd'
  ·split at hd'
   ·cases hd'; exact lo i d (by omega) hd
   ·exact hs i (j - 1) d d' (by omega) hd hd'
 ·split at hd
  ·cases hd
   split at hd'
   ·omega
   ·split at hd'
    ·cases hd'; exact Int.le_refl _
    ·exact h1 (j - 1) d' (by omega) hd'
  ·split at hd'
   ·omega
   ·split at hd'
    ·omega
    ·exact hs (i - 1) (j - 1) d d' (by omega) hd hd'
end Go.Ab
