/- HistoryCopies: a copy is the same, and stays. -/
import Derived.Test.YtdhoihialekgmaaHistU
import Derived.Test.YtdhoihialekgmaaHistR
import Derived.Test.YtdhoihialekgmaaArgA
import Derived.Test.YtdhoihialekgmaaValN
import Derived.KernelRfl
namespace Go.Ab
open Go
open Nat renaming reduceEqDiff → zpa, reduceLT → zpb, reduceAdd → zpc, reduceSub → zpd, reduceLeDiff → zpe, reduceMul → zpf
open Int renaming reduceToNat → zpg, reduceLT → zph, reduceLE → zpi, reduceEq → zpj, reduceNe → zpk, reduceBEq → zpl, reduceBNe → zpm, reduceAdd → zpn, reduceSub → zpo, reduceNeg → zpp
open List renaming replicate → zlr
set_option linter.unusedVariables false
set_option linter.unusedSimpArgs false
set_option maxRecDepth 10000
theorem known9_Z : GF gtab fid_archipelagolaw9_known [] [] 0 = some (.bool true, []) := GF_run 300 (by kernel_rfl)
theorem zapp_eq {h : GH} {x : GObj} : (h ++ [x])[h.length]? = some x := by simp
theorem zapp_set {h : GH} {x y : GObj} : (h ++ [x]).set h.length y = h ++ [y] := by simp
theorem uvs_ne {evs : List Ev} (h : evs ≠ []) : (uvs evs).isEmpty = false := by
 cases evs with
 | nil => exact absurd rfl h
 | cons e r => rfl
theorem scalLL_uvs : ∀ (l : List Ev), scalLL (uvs l) = true
 | [] => rfl
 | e :: r => by
  show (scalL _ && scalLL (uvs r)) = true
  rw [scalLL_uvs r]; rfl
theorem get_ltZ {h : GH} {o : Nat} {x : GObj} (e : h[o]? = some x) : o < h.length := (List.getElem?_eq_some_iff.1 e).1
def cpB (N : Int) (p n : Nat) : GObj := .box [.int .u64 N, .asl none p 0 0 n 4]
theorem copyL_G {N : Int} {evs : List Ev} {h : GH} {w : U} (hw : w = .list false 4 (uvs evs) ∨ ∃ p, w = .asl none p 0 0 evs.length 4 ∧ h[p]? = some (.arr (uvs evs) 0 0)) (hne : evs ≠ []) (hl : evs.length ≤ 1000) {lo : Nat} (hlo : lo ≤ h.length) :
  GF gtab fid_history_Copy [.agg [.int .u64 N, w]] h lo = some (.agg [.int .u64 N, .asl none (h.length + 2) 0 0 evs.length 4], h ++ [cpB N (h.length + 2) evs.length, cpB N (h.length + 2) evs.length, .arr (uvs evs) 0 0]) := by
 have r1 : (evs.length * 24 ≤ room) = True := eq_true (by unfold room; omega)
 have g1 : ∀ a b : GObj, (h ++ [a] ++ [b])[h.length]? = some a := fun a b => by simp
 have g2 : ∀ a b : GObj, (h ++ [a] ++ [b]).length = h.length + 2 := fun a b => by simp
 have g3 : ∀ a : GObj, (h ++ [a]).length = h.length + 1 := fun a => by simp
 have s1 : ∀ a b c x : GObj, (h ++ [a] ++ [b] ++ [c]).set h.length x = h ++ [x] ++ [b] ++ [c] := fun a b c x => by simp
 have s2 : ∀ a b c x : GObj, (h ++ [a] ++ [b] ++ [c]).set (h.length + 1) x = h ++ [a] ++ [x] ++ [c] := fun a b c x => by simp
 have g4 : ∀ a b c : GObj, (h ++ [a] ++ [b] ++ [c])[h.length]? = some a := fun a b c => by simp
 have g5 : ∀ a b c : GObj, (h ++ [a] ++ [b] ++ [c])[h.length + 1]? = some b := fun a b c => by simp
 have t1 : ∀ a b : GObj, (h ++ [a] ++ [b]).set (h.length + 1) = fun x => h ++ [a] ++ [x] := fun a b => by funext x; simp
 have i0 : (lo ≤ h.length) = True := eq_true hlo
 have i1 : (lo ≤ h.length + 1) = True := eq_true (by omega)
 have fin : ∀ a b c : GObj, h ++ [a] ++ [b] ++ [c] = h ++ [a, b, c] := fun a b c => by simp
 have se : (uvs evs).isEmpty = false := uvs_ne hne
 refine fn_history_Copy rfl ?_
 simp only [genvOf]
 rcases hw with rfl | ⟨p, rfl, hp⟩
 ·refine Zr rfl (by simp (maxSteps := 2000000) only [gs,zlr,reduceIte,reduceCtorEq,zpa,zpb,zpc,zpd,zpe,zpf,zpg,zph,zpi,zpj,zpk,zpl,zpm,zpn,zpo,zpp, g3]; rfl) ?_
  refine Zr rfl (by simp (maxSteps := 2000000) only [gs,zlr,reduceIte,reduceCtorEq,zpa,zpb,zpc,zpd,zpe,zpf,zpg,zph,zpi,zpj,zpk,zpl,zpm,zpn,zpo,zpp, g1, g2, g4, s1, i0, i1, gc_slices_Clone_api_Event_api_Event, mk_slices_Clone_api_Event_api_Event, uvs_length, r1, se, scalLL_uvs]; rfl) ?_
  refine Zr rfl (by simp (maxSteps := 2000000) only [gs,zlr,reduceIte,reduceCtorEq,zpa,zpb,zpc,zpd,zpe,zpf,zpg,zph,zpi,zpj,zpk,zpl,zpm,zpn,zpo,zpp, g4, g5, s2, i0, i1]; rfl) (Zq rfl ⟨_, (by simp (maxSteps := 2000000) only [gres, gload, GEnv.get, if_true, if_false, Nat.reduceEqDiff, g5, gof, cut, shares, U.share, U.handed, lay, List.drop_zero, List.take_succ_cons, List.take_zero]; rfl), ?_⟩)
  simp only [gfin, gofRes, fin]
  rfl
 ·have hp2 := get_ltZ hp
  have q1 : ∀ a b : GObj, (h ++ [a] ++ [b])[p]? = some (.arr (uvs evs) 0 0) := fun a b => by rw [List.getElem?_append_left (by simp; omega), List.getElem?_append_left hp2, hp]
  have htk : (uvs evs).take evs.length = uvs evs := List.take_of_length_le (by rw [uvs_length]; omega)
  refine Zr rfl (by simp (maxSteps := 2000000) only [gs,zlr,reduceIte,reduceCtorEq,zpa,zpb,zpc,zpd,zpe,zpf,zpg,zph,zpi,zpj,zpk,zpl,zpm,zpn,zpo,zpp, g3]; rfl) ?_
  refine Zr rfl (by simp (maxSteps := 2000000) only [gs,zlr,reduceIte,reduceCtorEq,zpa,zpb,zpc,zpd,zpe,zpf,zpg,zph,zpi,zpj,zpk,zpl,zpm,zpn,zpo,zpp, g1, g2, g4, s1, i0, i1, q1, htk, gc_slices_Clone_api_Event_api_Event, mk_slices_Clone_api_Event_api_Event, uvs_length, r1, se, scalLL_uvs]; rfl) ?_
  refine Zr rfl (by simp (maxSteps := 2000000) only [gs,zlr,reduceIte,reduceCtorEq,zpa,zpb,zpc,zpd,zpe,zpf,zpg,zph,zpi,zpj,zpk,zpl,zpm,zpn,zpo,zpp, g4, g5, s2, i0, i1]; rfl) (Zq rfl ⟨_, (by simp (maxSteps := 2000000) only [gres, gload, GEnv.get, if_true, if_false, Nat.reduceEqDiff, g5, gof, cut, shares, U.share, U.handed, lay, List.drop_zero, List.take_succ_cons, List.take_zero]; rfl), ?_⟩)
  simp only [gfin, gofRes, fin]
  rfl
theorem copyE_G {N : Int} {h : GH} {w : U} (hw : w = .list false 4 [] ∨ w = .nils) {lo : Nat} (hlo : lo ≤ h.length) :
  GF gtab fid_history_Copy [.agg [.int .u64 N, w]] h lo = some (.agg [.int .u64 N, .list false 4 []], h ++ [.box [.int .u64 N, .own 4 []], .box [.int .u64 N, .list false 4 []]]) := by
 have r0 : (0 ≤ room) = True := eq_true (by unfold room; omega)
 have g1 : ∀ a b : GObj, (h ++ [a] ++ [b])[h.length]? = some a := fun a b => by simp
 have g3 : ∀ a : GObj, (h ++ [a]).length = h.length + 1 := fun a => by simp
 have s1 : ∀ a b x : GObj, (h ++ [a] ++ [b]).set h.length x = h ++ [x] ++ [b] := fun a b x => by simp
 have s2 : ∀ a b x : GObj, (h ++ [a] ++ [b]).set (h.length + 1) x = h ++ [a] ++ [x] := fun a b x => by simp
 have g5 : ∀ a b : GObj, (h ++ [a] ++ [b])[h.length + 1]? = some b := fun a b => by simp
 have i0 : (lo ≤ h.length) = True := eq_true hlo
 have i1 : (lo ≤ h.length + 1) = True := eq_true (by omega)
 have fin : ∀ a b : GObj, h ++ [a] ++ [b] = h ++ [a, b] := fun a b => by simp
 refine fn_history_Copy rfl ?_
 simp only [genvOf]
 rcases hw with rfl | rfl
 all_goals
  refine Zr rfl (by simp (maxSteps := 2000000) only [gs,zlr,reduceIte,reduceCtorEq,zpa,zpb,zpc,zpd,zpe,zpf,zpg,zph,zpi,zpj,zpk,zpl,zpm,zpn,zpo,zpp, g3]; rfl) ?_
  refine Zr rfl (by simp (maxSteps := 2000000) only [gs,zlr,reduceIte,reduceCtorEq,zpa,zpb,zpc,zpd,zpe,zpf,zpg,zph,zpi,zpj,zpk,zpl,zpm,zpn,zpo,zpp, g1, s1, i0, gc_slices_Clone_api_Event_api_Event, mk_slices_Clone_api_Event_api_Event, r0]; rfl) ?_
  refine Zr rfl (by simp (maxSteps := 2000000) only [gs,zlr,reduceIte,reduceCtorEq,zpa,zpb,zpc,zpd,zpe,zpf,zpg,zph,zpi,zpj,zpk,zpl,zpm,zpn,zpo,zpp, g1, g5, s2, i1]; rfl) (Zq rfl ⟨_, (by simp (maxSteps := 2000000) only [gres, gload, GEnv.get, if_true, if_false, Nat.reduceEqDiff, g5, gof, cut, shares, U.share, U.handed, lay, List.drop_zero, List.take_succ_cons, List.take_zero]; rfl), ?_⟩)
  simp only [gfin, gofRes, fin]
def flE (t : Int) (e : Ev) : Ev := (t, e.2.1, e.2.2.1, !e.2.2.2)
theorem uvs_setZ {l : List Ev} {i : Nat} {t a b : Int} {x : Bool} : (uvs l).set i [.int .i64 t, .int .u32 a, .int .u32 b, .bool x] = uvs (l.set i (t, a, b, x)) := by simp [uvs, List.map_set]
set_option maxHeartbeats 4000000 in
theorem historyCopies_G {k : Nat} {l : List Nat} {t : Int} (hk : k < 256) (hl : ∀ x ∈ l, x < 256) : GF gtab fid_archipelagolaw9_HistoryCopies [.int .u8 (k : Int), .list false 1 (un .u8 l), .int .i64 t] [] 0 = some (.bool true, []) := by
 refine fn_archipelagolaw9_HistoryCopies rfl ?_
 simp only [genvOf]
 refine Zr rfl (by simp (maxSteps := 2000000) only [gs,zlr,reduceIte,reduceCtorEq,zpa,zpb,zpc,zpd,zpe,zpf,zpg,zph,zpi,zpj,zpk,zpl,zpm,zpn,zpo,zpp]; rfl) ?_
 refine Zr rfl (by simp (maxSteps := 2000000) only [gs,zlr,reduceIte,reduceCtorEq,zpa,zpb,zpc,zpd,zpe,zpf,zpg,zph,zpi,zpj,zpk,zpl,zpm,zpn,zpo,zpp, gc_archipelagolaw9_known, known9_Z]; rfl) (Zc rfl rfl (fun h => by cases h) (fun _ => ?_))
 by_cases a1 : l.length ≤ 60
 case neg =>
  have g1 : ((l.length : Int) > 60) = True := eq_true (by omega)
  refine Zr rfl (by simp (maxSteps := 2000000) only [gs,zlr,reduceIte,reduceCtorEq,zpa,zpb,zpc,zpd,zpe,zpf,zpg,zph,zpi,zpj,zpk,zpl,zpm,zpn,zpo,zpp, un_length, g1, decide_true]; rfl) (Zc rfl rfl (fun _ => ?_) (fun h => by cases h))
  exact Zr rfl (by simp (maxSteps := 2000000) only [gs,zlr,reduceIte,reduceCtorEq,zpa,zpb,zpc,zpd,zpe,zpf,zpg,zph,zpi,zpj,zpk,zpl,zpm,zpn,zpo,zpp]; rfl) (Zq rfl ⟨_, rfl, rfl⟩)
 have g1 : ((l.length : Int) > 60) = False := eq_false (by omega)
 obtain ⟨N, v, evs, HI, hv, hs, hti, hle, hN, hri, hok⟩ := history_R hk hl (show l.length ≤ 90 by omega)
 refine Zr rfl (by simp (maxSteps := 2000000) only [gs,zlr,reduceIte,reduceCtorEq,zpa,zpb,zpc,zpd,zpe,zpf,zpg,zph,zpi,zpj,zpk,zpl,zpm,zpn,zpo,zpp, un_length, g1, decide_false]; rfl) (Zc rfl rfl (fun h => by cases h) (fun _ => ?_))
 refine Zj rfl (fun env h => h = [.box [.int .u64 (N : Int), v]] ∧ GEnv.get env 2 = .int .i64 t ∧ GEnv.get env 7 = .ptr 0 0 0 0) ?_ ?_
 ·rcases hv with rfl | ⟨rfl, rfl⟩
  all_goals
   refine Zr rfl (by simp (maxSteps := 2000000) only [gs,zlr,reduceIte,reduceCtorEq,zpa,zpb,zpc,zpd,zpe,zpf,zpg,zph,zpi,zpj,zpk,zpl,zpm,zpn,zpo,zpp, snapLL_un, gc_archipelagoseat_History, HI]; rfl) ?_
   exact Za rfl ⟨rfl, rfl, rfl⟩
 rintro env h ⟨rfl, k2, k7⟩
 have m1 : max 0 1 = 1 := rfl
 by_cases h0 : evs = []
 ·subst h0
  have hv' : v = .list false 4 [] ∨ v = .nils := by rcases hv with rfl | ⟨rfl, _⟩; exact .inl rfl; exact .inr rfl
  have ue : uvs [] = [] := rfl
  have m4 : max 0 4 = 4 := rfl
  have S1 := same_G (N1 := (N : Int)) (N2 := (N : Int)) (w1 := .list false 4 []) (w2 := v) (A := []) (B := []) (.inl rfl) hv (by simp) (by simp)
  rw [decide_eq_true rfl, decide_eq_true rfl] at S1
  have L1 := last_G (N := (N : Int)) (w := .list false 4 []) (evs := []) (.inl rfl) (by simp)
  have L2 := last_G (N := (N : Int)) (w := v) (evs := []) hv (by simp)
  have sl : ∀ h : GH, snapLL h [] = some ([], false) := fun h => rfl
  have C1 := copyE_G (N := (N : Int)) (h := [.box [.int .u64 (N : Int), v]]) (w := v) hv' (lo := 1) (Nat.le_refl _)
  have C2 := copyE_G (N := (N : Int)) (h := [.box [.int .u64 (N : Int), v], .box [.int .u64 (N : Int), .own 4 []], .box [.int .u64 (N : Int), .list false 4 []], .box [.int .u64 (N : Int), .list false 4 []]]) (w := .list false 4 []) (.inl rfl) (lo := 4) (Nat.le_refl _)
  obtain ⟨vv, hvv⟩ : ∃ vv, vv = v := ⟨_, rfl⟩
  have inc : IntKind.i64.wrap (0 + 1) = 1 := rfl
  rcases hv' with rfl | rfl
  all_goals
   refine Zr rfl (by simp (maxSteps := 2000000) only [gs,zlr,reduceIte,reduceCtorEq,zpa,zpb,zpc,zpd,zpe,zpf,zpg,zph,zpi,zpj,zpk,zpl,zpm,zpn,zpo,zpp, k7, gc_history_Copy, m1, C1]; rfl) ?_
   refine Zr rfl (by simp (maxSteps := 2000000) only [gs,zlr,reduceIte,reduceCtorEq,zpa,zpb,zpc,zpd,zpe,zpf,zpg,zph,zpi,zpj,zpk,zpl,zpm,zpn,zpo,zpp, gc_history_Copy, m4, C2]; rfl) ?_
   refine Zr rfl (by simp (maxSteps := 2000000) only [gs,zlr,reduceIte,reduceCtorEq,zpa,zpb,zpc,zpd,zpe,zpf,zpg,zph,zpi,zpj,zpk,zpl,zpm,zpn,zpo,zpp, k7, sl, gc_history_Same, S1, Bool.and_self, bne_self_eq_false]; rfl) (Zc rfl rfl (fun h => by cases h) (fun _ => ?_))
   refine Zr rfl (by simp (maxSteps := 2000000) only [gs,zlr,reduceIte,reduceCtorEq,zpa,zpb,zpc,zpd,zpe,zpf,zpg,zph,zpi,zpj,zpk,zpl,zpm,zpn,zpo,zpp]; rfl) ?_
   refine Zw rfl (fun m env h => h = [.box [.int .u64 (N : Int), vv], .box [.int .u64 (N : Int), .own 4 []], .box [.int .u64 (N : Int), .list false 4 []], .box [.int .u64 (N : Int), .list false 4 []], .box [.int .u64 (N : Int), .own 4 []], .box [.int .u64 (N : Int), .list false 4 []], .box [.int .u64 (N : Int), .list false 4 []]] ∧ GEnv.get env 7 = .ptr 0 0 0 0 ∧ GEnv.get env 8 = .ptr 3 0 0 0 ∧ GEnv.get env 9 = .ptr 6 0 0 0 ∧ GEnv.get env 10 = .int .i64 0) 0 ⟨by rw [hvv], by simp [GEnv.get, k7], by simp [GEnv.get], by simp [GEnv.get], by simp [GEnv.get]⟩ ?_
   rintro m env h ⟨rfl, j7, j8, j9, j10⟩
   rw [hvv]
   simp only [GEnv.keep, j7, j8, j9, j10]
   refine Zr rfl (by simp (maxSteps := 2000000) only [gs,zlr,reduceIte,reduceCtorEq,zpa,zpb,zpc,zpd,zpe,zpf,zpg,zph,zpi,zpj,zpk,zpl,zpm,zpn,zpo,zpp]; rfl) (Zc rfl rfl (fun h => by cases h) (fun _ => ?_))
   refine Zd rfl (by simp (maxSteps := 2000000) only [gs,gd,zlr,id,reduceIte,reduceCtorEq,zpa,zpb,zpc,zpd,zpe,zpf,zpg,zph,zpi,zpj,zpk,zpl,zpm,zpn,zpo,zpp, sl, gc_history_Same, iq_history_Same, S1, Bool.and_self, beq_self_eq_true, gc_history_Last, iq_history_Last, L1, L2]; rfl) ?_
   exact Zq rfl ⟨_, rfl, rfl⟩
 obtain ⟨e0, r0, he0⟩ := List.exists_cons_of_ne_nil h0
 rcases hv with rfl | ⟨_, h1⟩
 case inr => exact absurd h1 h0
 obtain ⟨n, hn⟩ : ∃ n, n = evs.length := ⟨_, rfl⟩
 have hpos : 0 < evs.length := List.length_pos_iff.2 h0
 have m4 : max 0 5 = 5 := rfl
 have htk : ∀ A : List Ev, A.length = evs.length → (uvs A).take evs.length = uvs A := fun A hA => List.take_of_length_le (by rw [uvs_length]; omega)
 have C1 := copyL_G (N := (N : Int)) (h := [.box [.int .u64 (N : Int), .list false 4 (uvs evs)]]) (w := .list false 4 (uvs evs)) (.inl rfl) h0 (by omega) (lo := 1) (Nat.le_refl _)
 have C2 := copyL_G (N := (N : Int)) (h := [.box [.int .u64 (N : Int), .list false 4 (uvs evs)], cpB N 3 evs.length, cpB N 3 evs.length, .arr (uvs evs) 0 0, cpB N 3 evs.length]) (w := .asl none 3 0 0 evs.length 4) (.inr ⟨3, rfl, rfl⟩) h0 (by omega) (lo := 5) (Nat.le_refl _)
 have SM : ∀ A B : List Ev, A.length ≤ 1000 → B.length ≤ 1000 → GF gtab fid_history_Same [.agg [.int .u64 (N : Int), .list false 4 (uvs A)], .agg [.int .u64 (N : Int), .list false 4 (uvs B)]] [] 0 = some (.bool (decide (A = B)), []) := fun A B h1 h2 => by
  have := same_G (N1 := (N : Int)) (N2 := (N : Int)) (w1 := .list false 4 (uvs A)) (w2 := .list false 4 (uvs B)) (.inl rfl) (.inl rfl) h1 h2
  rwa [decide_eq_true rfl, Bool.true_and] at this
 have S1 := SM evs evs (by omega) (by omega)
 rw [decide_eq_true rfl] at S1
 have L1 := last_G (N := (N : Int)) (w := .list false 4 (uvs evs)) (evs := evs) (.inl rfl) (by omega)
 unfold cpB at C1 C2
 refine Zr rfl (by simp (maxSteps := 2000000) only [gs,zlr,reduceIte,reduceCtorEq,zpa,zpb,zpc,zpd,zpe,zpf,zpg,zph,zpi,zpj,zpk,zpl,zpm,zpn,zpo,zpp, k7, gc_history_Copy, m1, C1]; rfl) ?_
 refine Zr rfl (by simp (maxSteps := 2000000) only [gs,zlr,reduceIte,reduceCtorEq,zpa,zpb,zpc,zpd,zpe,zpf,zpg,zph,zpi,zpj,zpk,zpl,zpm,zpn,zpo,zpp, gc_history_Copy, m4, C2]; rfl) ?_
 refine Zr rfl (by simp (maxSteps := 2000000) only [gs,zlr,reduceIte,reduceCtorEq,zpa,zpb,zpc,zpd,zpe,zpf,zpg,zph,zpi,zpj,zpk,zpl,zpm,zpn,zpo,zpp, k7, uvs_length, htk evs rfl, snapLL_uvs, rfLL_uvs, gc_history_Same, S1, Bool.and_self, bne_self_eq_false]; rfl) (Zc rfl rfl (fun h => by cases h) (fun _ => ?_))
 refine Zr rfl (by simp (maxSteps := 2000000) only [gs,zlr,reduceIte,reduceCtorEq,zpa,zpb,zpc,zpd,zpe,zpf,zpg,zph,zpi,zpj,zpk,zpl,zpm,zpn,zpo,zpp]; rfl) ?_
 refine Zw rfl (fun m env h => ∃ i : Nat, m + i = evs.length ∧ h = [.box [.int .u64 (N : Int), .list false 4 (uvs evs)], .box [.int .u64 (N : Int), .asl none 3 0 0 evs.length 4], .box [.int .u64 (N : Int), .asl none 3 0 0 evs.length 4], .arr (uvs evs) 0 0, .box [.int .u64 (N : Int), .asl none 3 0 0 evs.length 4], .box [.int .u64 (N : Int), .asl none 7 0 0 evs.length 4], .box [.int .u64 (N : Int), .asl none 7 0 0 evs.length 4], .arr (uvs ((evs.map (flE t)).take i ++ evs.drop i)) 0 0, .box [.int .u64 (N : Int), .asl none 7 0 0 evs.length 4]] ∧ GEnv.get env 2 = .int .i64 t ∧ GEnv.get env 7 = .ptr 0 0 0 0 ∧ GEnv.get env 8 = .ptr 4 0 0 0 ∧ GEnv.get env 9 = .ptr 8 0 0 0 ∧ GEnv.get env 10 = .int .i64 ((i : Nat) : Int)) evs.length ⟨0, rfl, rfl, by simp [GEnv.get, k2], by simp [GEnv.get, k7], by simp [GEnv.get], by simp [GEnv.get], by simp [GEnv.get]⟩ ?_
 rintro m env h ⟨i, hm, rfl, j2, j7, j8, j9, j10⟩
 simp only [GEnv.keep, j2, j7, j8, j9, j10]
 refine Zr rfl (by simp (maxSteps := 2000000) only [gs,zlr,reduceIte,reduceCtorEq,zpa,zpb,zpc,zpd,zpe,zpf,zpg,zph,zpi,zpj,zpk,zpl,zpm,zpn,zpo,zpp]; rfl) (Zp rfl rfl (fun hi => ?_) (fun hi => ?_))
 ·have gx : evs[i]? = some (evs[i]'(by omega)) := List.getElem?_eq_getElem _
  have hdr : evs.drop i = evs[i]'(by omega) :: evs.drop (i + 1) := List.drop_eq_getElem_cons (by omega)
  have hMl : (evs.map (flE t)).length = evs.length := List.length_map ..
  have htk2 : (evs.map (flE t)).take (i + 1) = (evs.map (flE t)).take i ++ [flE t (evs[i]'(by omega))] := by rw [List.take_add_one, List.getElem?_map, gx]; rfl
  have htl : ((evs.map (flE t)).take i).length = i := by rw [List.length_take]; omega
  generalize evs[i]'(by omega) = e at gx hdr htk2
  have gB : ((evs.map (flE t)).take i ++ evs.drop i)[i]? = some e := by rw [List.getElem?_append_right (by omega), htl, Nat.sub_self, hdr]; rfl
  have hB : ((evs.map (flE t)).take i ++ evs.drop i).set i (t, e.2.1, e.2.2.1, e.2.2.2) = (evs.map (flE t)).take i ++ (t, e.2.1, e.2.2.1, e.2.2.2) :: evs.drop (i + 1) := by
   rw [List.set_append_right _ _ (by omega), htl, Nat.sub_self, hdr, List.set_cons_zero]
  have gC : ((evs.map (flE t)).take i ++ (t, e.2.1, e.2.2.1, e.2.2.2) :: evs.drop (i + 1))[i]? = some (t, e.2.1, e.2.2.1, e.2.2.2) := by rw [List.getElem?_append_right (by omega), htl, Nat.sub_self]; rfl
  have hC : ((evs.map (flE t)).take i ++ (t, e.2.1, e.2.2.1, e.2.2.2) :: evs.drop (i + 1)).set i (t, e.2.1, e.2.2.1, !e.2.2.2) = (evs.map (flE t)).take (i + 1) ++ evs.drop (i + 1) := by
   rw [List.set_append_right _ _ (by omega), htl, Nat.sub_self, List.set_cons_zero, htk2, List.append_assoc]
   rfl
  have n0 : ((0 : Int) ≤ (i : Int)) = True := eq_true (by omega)
  have n1 : ((i : Int) < (evs.length : Int)) = True := eq_true (by omega)
  refine Zr rfl (by simp (maxSteps := 2000000) only [gs,zlr,reduceIte,reduceCtorEq,zpa,zpb,zpc,zpd,zpe,zpf,zpg,zph,zpi,zpj,zpk,zpl,zpm,zpn,zpo,zpp, n0, n1, Nat.zero_add, uvs_get gB, uvs_setZ, hB]; rfl) ?_
  refine Zd rfl (by simp (maxSteps := 2000000) only [gs,gd,zlr,id,reduceIte,reduceCtorEq,zpa,zpb,zpc,zpd,zpe,zpf,zpg,zph,zpi,zpj,zpk,zpl,zpm,zpn,zpo,zpp, n0, n1, Nat.zero_add, uvs_get gC, uvs_setZ, hC]; rfl) ?_
  refine Zr rfl (by simp (maxSteps := 2000000) only [gs,zlr,reduceIte,reduceCtorEq,zpa,zpb,zpc,zpd,zpe,zpf,zpg,zph,zpi,zpj,zpk,zpl,zpm,zpn,zpo,zpp, up64 (show i < 9223372036854775807 by omega)]; rfl) ?_
  exact Za rfl ⟨m - 1, by omega, i + 1, by omega, rfl, rfl, rfl, rfl, rfl, rfl⟩
 ·have hil : i = evs.length := by omega
  have hMl : (evs.map (flE t)).length = evs.length := List.length_map ..
  rw [hil, List.drop_length, List.append_nil, List.take_of_length_le (by omega)]
  have hne2 : evs ≠ evs.map (flE t) := fun h => by
   rw [he0, List.map_cons, List.cons.injEq] at h
   have := congrArg (fun e : Ev => e.2.2.2) h.1
   simp [flE] at this
  have S2 := SM evs (evs.map (flE t)) (by omega) (by omega)
  rw [decide_eq_false hne2] at S2
  have f0 : ((evs.length : Int) == 0) = false := beq_eq_false_iff_ne.2 (by omega)
  have hxx : (evs.length ≤ (evs.map (flE t)).length) = True := eq_true (by omega)
  refine Zd rfl (by simp (maxSteps := 2000000) only [gs,gd,zlr,id,reduceIte,reduceCtorEq,zpa,zpb,zpc,zpd,zpe,zpf,zpg,zph,zpi,zpj,zpk,zpl,zpm,zpn,zpo,zpp, uvs_length, htk evs rfl, htk _ hMl, hxx, snapLL_uvs, rfLL_uvs, gc_history_Same, iq_history_Same, S1, S2, f0, beq_self_eq_true, gc_history_Last, iq_history_Last, L1]; rfl) ?_
  exact Zq rfl ⟨_, rfl, rfl⟩
theorem historyCopies_law (us : List U) (h : Ars [.one (.int .u8), .one (.sl [.int .u8]), .one (.int .i64)] us) : GF gtab fid_archipelagolaw9_HistoryCopies us [] 0 = some (.bool true, []) := by
 obtain ⟨u0, _, rfl, h0, u1, _, rfl, h1, u2, _, rfl, h2, rfl⟩ := h
 obtain ⟨a, rfl, ha⟩ := Sh.nat rfl h0
 obtain ⟨b, rfl, _, hb⟩ := Sh.nums rfl h1
 simp only [Ar.fits, Sh.fits] at h2
 obtain ⟨t, rfl, _⟩ := h2
 exact historyCopies_G (Nat.lt_succ_of_le (Int.ofNat_le.1 ha)) (fun x hx => Nat.lt_succ_of_le (Int.ofNat_le.1 (hb x hx)))
end Go.Ab
