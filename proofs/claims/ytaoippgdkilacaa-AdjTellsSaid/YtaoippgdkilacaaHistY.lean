/- Histories at a moment on the machine of values: Check, Upto, After, At, Time. -/
import Derived.Test.YtaoippgdkilacaaHistR
import Derived.Test.YtaoippgdkilacaaAdjA
import Derived.Test.YtaoippgdkilacaaValN
namespace Go.Ab
open Go
open Nat renaming reduceEqDiff → zpa, reduceLT → zpb, reduceAdd → zpc, reduceSub → zpd, reduceLeDiff → zpe, reduceMul → zpf
open Int renaming reduceToNat → zpg, reduceLT → zph, reduceLE → zpi, reduceEq → zpj, reduceNe → zpk, reduceBEq → zpl, reduceBNe → zpm, reduceAdd → zpn, reduceSub → zpo, reduceNeg → zpp
open List renaming replicate → zlr
set_option linter.unusedVariables false
set_option linter.unusedSimpArgs false
set_option maxRecDepth 10000

theorem right8_G {u v n : Int} (hv : 0 ≤ v ∧ v ≤ 4294967295) : GF gtab fid_archipelagoref8_Right [.agg [.int .u32 u, .int .u32 v], .int .u64 n] [] 0 = some (.bool (decide (u < v) && decide (v < n)), []) := by
  refine fn_archipelagoref8_Right rfl ?_
  simp only [genvOf]
  have hw := wrap_u64_in (n := v) (by omega)
  cases h0 : decide (u < v) with
  | true =>
    refine Zr rfl (by simp (maxSteps := 2000000) only [gs,zlr,reduceIte,reduceCtorEq,zpa,zpb,zpc,zpd,zpe,zpf,zpg,zph,zpi,zpj,zpk,zpl,zpm,zpn,zpo,zpp]; rfl) ?_
    exact Zr rfl (by simp (maxSteps := 2000000) only [gs,zlr,reduceIte,reduceCtorEq,zpa,zpb,zpc,zpd,zpe,zpf,zpg,zph,zpi,zpj,zpk,zpl,zpm,zpn,zpo,zpp, h0, hw]; rfl) (Zq rfl ⟨_, rfl, rfl⟩)
  | false =>
    refine Zr rfl (by simp (maxSteps := 2000000) only [gs,zlr,reduceIte,reduceCtorEq,zpa,zpb,zpc,zpd,zpe,zpf,zpg,zph,zpi,zpj,zpk,zpl,zpm,zpn,zpo,zpp]; rfl) ?_
    exact Zr rfl (by simp (maxSteps := 2000000) only [gs,zlr,reduceIte,reduceCtorEq,zpa,zpb,zpc,zpd,zpe,zpf,zpg,zph,zpi,zpj,zpk,zpl,zpm,zpn,zpo,zpp, h0, hw]; rfl) (Zq rfl ⟨_, rfl, rfl⟩)

theorem before8_H (a b : Ev) : GF gtab fid_archipelagoref8_Before [.agg [.int .i64 a.1, .int .u32 a.2.1, .int .u32 a.2.2.1, .bool a.2.2.2], .agg [.int .i64 b.1, .int .u32 b.2.1, .int .u32 b.2.2.1, .bool b.2.2.2]] [] 0 = some (.bool (decide (ltV a b)), []) := by
  have := hbefore_G a.1 a.2.1 a.2.2.1 a.2.2.2 b.1 b.2.1 b.2.2.1 b.2.2.2
  rw [befE_lt] at this
  exact this
theorem sapp_eq {h : GH} {x : GObj} : (h ++ [x])[h.length]? = some x := by simp
theorem sapp_set {h : GH} {x y : GObj} : (h ++ [x]).set h.length y = h ++ [y] := by simp
theorem isE_share {w : U} {l : List Ed} (h : isE w l) : isEa w.share l := by
  rcases h with rfl | rfl | ⟨rfl, rfl⟩
  · exact .inl rfl
  · exact .inl rfl
  · exact .inr ⟨rfl, rfl⟩

set_option maxHeartbeats 2000000 in
theorem rcheck_G {N : Int} {w : U} {evs : List Ev} (hw : isVa w evs) (hl : evs.length ≤ 400) (hok : EvOk evs) : GF gtab fid_archipelagoref8_Check [.agg [.int .u64 N, w]] [] 0 = some (.tup [.int .i64 (evChk N evs).1, .int .i64 (evChk N evs).2], []) := by
  refine fn_archipelagoref8_Check rfl ?_
  simp only [genvOf]
  by_cases hN : N > 4294967296
  · have c1 := eq_true hN
    have e : evChk N evs = (0, 26) := by rw [evChk, if_pos hN]
    rw [e]
    rcases hw with rfl | ⟨rfl, rfl⟩
    · refine Zr rfl (by simp (maxSteps := 2000000) only [gs,zlr,reduceIte,reduceCtorEq,zpa,zpb,zpc,zpd,zpe,zpf,zpg,zph,zpi,zpj,zpk,zpl,zpm,zpn,zpo,zpp]; rfl) ?_
      refine Zr rfl (by simp (maxSteps := 2000000) only [gs,zlr,reduceIte,reduceCtorEq,zpa,zpb,zpc,zpd,zpe,zpf,zpg,zph,zpi,zpj,zpk,zpl,zpm,zpn,zpo,zpp, c1]; rfl) (Zc rfl rfl (fun _ => ?_) (fun h => by cases h))
      exact Zr rfl (by simp (maxSteps := 2000000) only [gs,zlr,reduceIte,reduceCtorEq,zpa,zpb,zpc,zpd,zpe,zpf,zpg,zph,zpi,zpj,zpk,zpl,zpm,zpn,zpo,zpp]; rfl) (Zq rfl ⟨_, rfl, rfl⟩)
    · refine Zr rfl (by simp (maxSteps := 2000000) only [gs,zlr,reduceIte,reduceCtorEq,zpa,zpb,zpc,zpd,zpe,zpf,zpg,zph,zpi,zpj,zpk,zpl,zpm,zpn,zpo,zpp]; rfl) ?_
      refine Zr rfl (by simp (maxSteps := 2000000) only [gs,zlr,reduceIte,reduceCtorEq,zpa,zpb,zpc,zpd,zpe,zpf,zpg,zph,zpi,zpj,zpk,zpl,zpm,zpn,zpo,zpp, c1]; rfl) (Zc rfl rfl (fun _ => ?_) (fun h => by cases h))
      exact Zr rfl (by simp (maxSteps := 2000000) only [gs,zlr,reduceIte,reduceCtorEq,zpa,zpb,zpc,zpd,zpe,zpf,zpg,zph,zpi,zpj,zpk,zpl,zpm,zpn,zpo,zpp]; rfl) (Zq rfl ⟨_, rfl, rfl⟩)
  have c1 := eq_false hN
  have e : evChk N evs = evN N evs evs.length := by rw [evChk, if_neg hN]
  rw [e]
  rcases hw with rfl | ⟨rfl, rfl⟩
  · have c2 : ((evs.length : Int) > 2147483648) = False := eq_false (by omega)
    refine Zr rfl (by simp (maxSteps := 2000000) only [gs,zlr,reduceIte,reduceCtorEq,zpa,zpb,zpc,zpd,zpe,zpf,zpg,zph,zpi,zpj,zpk,zpl,zpm,zpn,zpo,zpp]; rfl) ?_
    refine Zr rfl (by simp (maxSteps := 2000000) only [gs,zlr,reduceIte,reduceCtorEq,zpa,zpb,zpc,zpd,zpe,zpf,zpg,zph,zpi,zpj,zpk,zpl,zpm,zpn,zpo,zpp, c1, uvs_length, c2]; rfl) (Zc rfl rfl (fun h => by cases h) (fun _ => ?_))
    refine Zr rfl (by simp (maxSteps := 2000000) only [gs,zlr,reduceIte,reduceCtorEq,zpa,zpb,zpc,zpd,zpe,zpf,zpg,zph,zpi,zpj,zpk,zpl,zpm,zpn,zpo,zpp]; rfl) ?_
    refine Zr rfl (by simp (maxSteps := 2000000) only [gs,zlr,reduceIte,reduceCtorEq,zpa,zpb,zpc,zpd,zpe,zpf,zpg,zph,zpi,zpj,zpk,zpl,zpm,zpn,zpo,zpp]; rfl) ?_
    refine Zw rfl (fun m env h => ∃ (i : Nat) (now : U) (es : List Ed) (tail : GH), evN N evs i = (0, 0) ∧ isE now es ∧ NowOf (evs.take i) es ∧ es.length ≤ i ∧ h = .box [.int .u64 N, .list false 4 (uvs evs)] :: tail ∧ GEnv.get env 1 = .ptr 0 0 0 0 ∧ GEnv.get env 4 = now ∧ GEnv.get env 5 = .int .i64 (i : Int) ∧ m + i = evs.length) evs.length ⟨0, .nils, [], [], rfl, .inr (.inr ⟨rfl, rfl⟩), ⟨List.Pairwise.nil, fun x => by simp [onL]⟩, Nat.le_refl _, rfl, rfl, rfl, rfl, rfl⟩ ?_
    rintro m env h ⟨i, now, es, tail, hno, hnow, hNO, hesl, rfl, k1, k4, k5, hm⟩
    simp only [GEnv.keep, k1, k4, k5]
    refine Zr rfl (by simp (maxSteps := 2000000) only [gs,zlr,reduceIte,reduceCtorEq,zpa,zpb,zpc,zpd,zpe,zpf,zpg,zph,zpi,zpj,zpk,zpl,zpm,zpn,zpo,zpp, uvs_length]; rfl) (Zp rfl rfl (fun hi => ?_) (fun hi => ?_))
    · have hi' : i < evs.length := by omega
      have gx : evs[i]? = some (evs[i]'hi') := List.getElem?_eq_getElem _
      have ho := hok _ (List.mem_of_getElem? gx)
      have htk : evs.take (i + 1) = evs.take i ++ [evs[i]'hi'] := by rw [List.take_add_one, gx]; rfl
      have hat : evAt N evs i = if (evs[i]'hi').1 < 0 ∨ (evs[i]'hi').1 > 4611686018427387903 then 26 else if ¬ ((evs[i]'hi').2.1 < (evs[i]'hi').2.2.1 ∧ (evs[i]'hi').2.2.1 < N) then 24 else
    if 0 < i ∧ ¬ ltV (evs.getD (i - 1) (0, 0, 0, false)) (evs[i]'hi') then 23 else if onL (evs.take i) (edOf (evs[i]'hi')) = (evs[i]'hi').2.2.2 then 25 else 0 := by
        unfold evAt; rw [gx]
      generalize evs[i]'hi' = e at gx ho hat htk
      have bad : ∀ c, evAt N evs i = c → c ≠ 0 → evN N evs evs.length = ((i : Int), c) := fun c h1 h2 => evN_stop hno h1 h2 hi'
      have n0 : ((0 : Int) ≤ (i : Int)) = True := eq_true (by omega)
      have hinc := up64 (show i < 9223372036854775807 by omega)
      refine Zr rfl (by simp (maxSteps := 2000000) only [gs,zlr,reduceIte,reduceCtorEq,zpa,zpb,zpc,zpd,zpe,zpf,zpg,zph,zpi,zpj,zpk,zpl,zpm,zpn,zpo,zpp, n0, uvs_get gx, sapp_eq, sapp_set]; rfl) ?_
      by_cases a1 : e.1 < 0
      · rw [bad 26 (by rw [hat, if_pos (.inl a1)]) (by decide)]
        have f1 := eq_true a1
        refine Zr rfl (by simp (maxSteps := 2000000) only [gs,zlr,reduceIte,reduceCtorEq,zpa,zpb,zpc,zpd,zpe,zpf,zpg,zph,zpi,zpj,zpk,zpl,zpm,zpn,zpo,zpp, sapp_eq, f1]; rfl) (Zc rfl rfl (fun _ => ?_) (fun h => by cases h))
        exact Zr rfl (by simp (maxSteps := 2000000) only [gs,zlr,reduceIte,reduceCtorEq,zpa,zpb,zpc,zpd,zpe,zpf,zpg,zph,zpi,zpj,zpk,zpl,zpm,zpn,zpo,zpp]; rfl) (Zq rfl ⟨_, rfl, rfl⟩)
      have f1 := eq_false a1
      by_cases a2 : e.1 > 4611686018427387903
      · rw [bad 26 (by rw [hat, if_pos (.inr a2)]) (by decide)]
        have f2 := eq_true a2
        refine Zr rfl (by simp (maxSteps := 2000000) only [gs,zlr,reduceIte,reduceCtorEq,zpa,zpb,zpc,zpd,zpe,zpf,zpg,zph,zpi,zpj,zpk,zpl,zpm,zpn,zpo,zpp, sapp_eq, f1, f2]; rfl) (Zc rfl rfl (fun _ => ?_) (fun h => by cases h))
        exact Zr rfl (by simp (maxSteps := 2000000) only [gs,zlr,reduceIte,reduceCtorEq,zpa,zpb,zpc,zpd,zpe,zpf,zpg,zph,zpi,zpj,zpk,zpl,zpm,zpn,zpo,zpp]; rfl) (Zq rfl ⟨_, rfl, rfl⟩)
      have f2 := eq_false a2
      rw [if_neg (by omega)] at hat
      have RI := right8_G (u := e.2.1) (v := e.2.2.1) (n := N) (by omega)
      by_cases a3 : e.2.1 < e.2.2.1 ∧ e.2.2.1 < N
      case neg =>
        have RI' : GF gtab fid_archipelagoref8_Right [.agg [.int .u32 e.2.1, .int .u32 e.2.2.1], .int .u64 N] [] 0 = some (.bool false, []) := by
          rw [RI]
          congr 3
          by_cases h1 : e.2.1 < e.2.2.1
          · rw [decide_eq_true h1, decide_eq_false (fun h2 => a3 ⟨h1, h2⟩)]; rfl
          · rw [decide_eq_false h1]; rfl
        rw [bad 24 (by rw [hat, if_pos a3]) (by decide)]
        refine Zr rfl (by simp (maxSteps := 2000000) only [gs,zlr,reduceIte,reduceCtorEq,zpa,zpb,zpc,zpd,zpe,zpf,zpg,zph,zpi,zpj,zpk,zpl,zpm,zpn,zpo,zpp, sapp_eq, f1, f2]; rfl) (Zc rfl rfl (fun h => by cases h) (fun _ => ?_))
        refine Zr rfl (by simp (maxSteps := 2000000) only [gs,zlr,reduceIte,reduceCtorEq,zpa,zpb,zpc,zpd,zpe,zpf,zpg,zph,zpi,zpj,zpk,zpl,zpm,zpn,zpo,zpp, sapp_eq, gc_archipelagoref8_Right, RI']; rfl) (Zc rfl rfl (fun _ => ?_) (fun h => by cases h))
        exact Zr rfl (by simp (maxSteps := 2000000) only [gs,zlr,reduceIte,reduceCtorEq,zpa,zpb,zpc,zpd,zpe,zpf,zpg,zph,zpi,zpj,zpk,zpl,zpm,zpn,zpo,zpp]; rfl) (Zq rfl ⟨_, rfl, rfl⟩)
      have RI' : GF gtab fid_archipelagoref8_Right [.agg [.int .u32 e.2.1, .int .u32 e.2.2.1], .int .u64 N] [] 0 = some (.bool true, []) := by
        rw [RI, decide_eq_true a3.1, decide_eq_true a3.2]; rfl
      rw [if_neg (by simpa using a3)] at hat
      refine Zr rfl (by simp (maxSteps := 2000000) only [gs,zlr,reduceIte,reduceCtorEq,zpa,zpb,zpc,zpd,zpe,zpf,zpg,zph,zpi,zpj,zpk,zpl,zpm,zpn,zpo,zpp, sapp_eq, f1, f2]; rfl) (Zc rfl rfl (fun h => by cases h) (fun _ => ?_))
      refine Zr rfl (by simp (maxSteps := 2000000) only [gs,zlr,reduceIte,reduceCtorEq,zpa,zpb,zpc,zpd,zpe,zpf,zpg,zph,zpi,zpj,zpk,zpl,zpm,zpn,zpo,zpp, sapp_eq, gc_archipelagoref8_Right, RI']; rfl) (Zc rfl rfl (fun h => by cases h) (fun _ => ?_))
      refine Zj rfl (fun env h => h = .box [.int .u64 N, .list false 4 (uvs evs)] :: (tail ++ [.box [.int .i64 e.1, .int .u32 e.2.1, .int .u32 e.2.2.1, .bool e.2.2.2]]) ∧ (∃ b, (b = true ↔ (0 < i ∧ ¬ ltV (evs.getD (i - 1) (0, 0, 0, false)) e)) ∧ GEnv.get env 48 = .bool b) ∧ GEnv.get env 1 = .ptr 0 0 0 0 ∧ GEnv.get env 4 = now ∧ GEnv.get env 5 = .int .i64 (i : Int) ∧ GEnv.get env 6 = .ptr (tail.length + 1) 0 0 0) ?_ ?_
      · by_cases hi0 : i = 0
        · have g0 : ((i : Int) > 0) = False := eq_false (by omega)
          refine Zd rfl (by simp (maxSteps := 2000000) only [gs,gd,zlr,id,reduceIte,reduceCtorEq,zpa,zpb,zpc,zpd,zpe,zpf,zpg,zph,zpi,zpj,zpk,zpl,zpm,zpn,zpo,zpp, g0]; rfl) ?_
          exact Za rfl ⟨rfl, ⟨false, ⟨fun h => absurd h (by simp), fun h => absurd h.1 (by omega)⟩, rfl⟩, rfl, rfl, rfl, rfl⟩
        · have g1 : ((i : Int) > 0) = True := eq_true (by omega)
          have ws : IntKind.i64.wrap ((i : Int) - 1) = ((i - 1 : Nat) : Int) := by rw [wrap_i64 (by omega) (by omega)]; omega
          have n1 : ((0 : Int) ≤ ((i - 1 : Nat) : Int)) = True := eq_true (by omega)
          have gp : evs[i - 1]? = some (evs[i - 1]'(by omega)) := List.getElem?_eq_getElem _
          have hgd : evs.getD (i - 1) (0, 0, 0, false) = evs[i - 1]'(by omega) := by rw [List.getD_eq_getElem?_getD, gp]; rfl
          rw [hgd]
          generalize evs[i - 1]'(by omega) = d at gp
          have BE := before8_H d e
          refine Zd rfl (by simp (maxSteps := 2000000) only [gs,gd,zlr,id,reduceIte,reduceCtorEq,zpa,zpb,zpc,zpd,zpe,zpf,zpg,zph,zpi,zpj,zpk,zpl,zpm,zpn,zpo,zpp, g1, ws, n1, uvs_get gp, sapp_eq, gc_archipelagoref8_Before, iq_archipelagoref8_Before, BE]; rfl) ?_
          exact Za rfl ⟨rfl, ⟨!decide (ltV d e), ⟨fun h => ⟨by omega, by simpa using h⟩, fun h => by simpa using h.2⟩, rfl⟩, rfl, rfl, rfl, rfl⟩
      rintro env h ⟨rfl, ⟨b, hb, k48⟩, k1, k4, k5, k6⟩
      by_cases a4 : 0 < i ∧ ¬ ltV (evs.getD (i - 1) (0, 0, 0, false)) e
      · rw [bad 23 (by rw [hat, if_pos a4]) (by decide)]
        rw [hb.2 a4] at k48
        refine Zc rfl (x := true) k48 (fun _ => ?_) (fun h => by cases h)
        exact Zr rfl (by simp (maxSteps := 2000000) only [gs,zlr,reduceIte,reduceCtorEq,zpa,zpb,zpc,zpd,zpe,zpf,zpg,zph,zpi,zpj,zpk,zpl,zpm,zpn,zpo,zpp, k5]; rfl) (Zq rfl ⟨_, rfl, rfl⟩)
      have hbf : b = false := by cases b with
        | false => rfl
        | true => exact absurd (hb.1 rfl) a4
      rw [hbf] at k48
      rw [if_neg a4] at hat
      refine Zc rfl (x := false) k48 (fun h => by cases h) (fun _ => ?_)
      obtain ⟨v, ok, es', TU, tu1, tu2, tu3⟩ := turn_R (e := e) (isE_share hnow) (by omega)
      refine Zj rfl (fun env h => h = .box [.int .u64 N, .list false 4 (uvs evs)] :: (tail ++ [.box [.int .i64 e.1, .int .u32 e.2.1, .int .u32 e.2.2.1, .bool e.2.2.2]]) ∧ GEnv.get env 1 = .ptr 0 0 0 0 ∧ isE (GEnv.get env 7) es' ∧ GEnv.get env 8 = .bool ok ∧ GEnv.get env 5 = .int .i64 (i : Int)) ?_ ?_
      · rcases hnow with rfl | rfl | ⟨rfl, rfl⟩
        all_goals
          simp only [U.share] at TU
          rcases tu1 with rfl | rfl | ⟨rfl, rfl⟩
          · refine Zr rfl (by simp (maxSteps := 2000000) only [gs,zlr,reduceIte,reduceCtorEq,zpa,zpb,zpc,zpd,zpe,zpf,zpg,zph,zpi,zpj,zpk,zpl,zpm,zpn,zpo,zpp, k4, k6, sapp_eq, gc_archipelagoref8_Turn, snapLL_ues, TU]; rfl) ?_
            exact Za rfl ⟨rfl, by simp [GEnv.get, k1], .inl (by simp [GEnv.get]), by simp [GEnv.get], by simp [GEnv.get, k5]⟩
          · refine Zr rfl (by simp (maxSteps := 2000000) only [gs,zlr,reduceIte,reduceCtorEq,zpa,zpb,zpc,zpd,zpe,zpf,zpg,zph,zpi,zpj,zpk,zpl,zpm,zpn,zpo,zpp, k4, k6, sapp_eq, gc_archipelagoref8_Turn, snapLL_ues, TU]; rfl) ?_
            exact Za rfl ⟨rfl, by simp [GEnv.get, k1], .inr (.inl (by simp [GEnv.get])), by simp [GEnv.get], by simp [GEnv.get, k5]⟩
          · refine Zr rfl (by simp (maxSteps := 2000000) only [gs,zlr,reduceIte,reduceCtorEq,zpa,zpb,zpc,zpd,zpe,zpf,zpg,zph,zpi,zpj,zpk,zpl,zpm,zpn,zpo,zpp, k4, k6, sapp_eq, gc_archipelagoref8_Turn, snapLL_ues, TU]; rfl) ?_
            exact Za rfl ⟨rfl, by simp [GEnv.get, k1], .inr (.inr ⟨by simp [GEnv.get], rfl⟩), by simp [GEnv.get], by simp [GEnv.get, k5]⟩
      rintro env h ⟨rfl, k1, k7, k8, k5⟩
      have hon := hNO.2 (edOf e)
      cases ok with
      | false =>
        have a5 : onL (evs.take i) (edOf e) = e.2.2.2 := by
          cases h1 : onL (evs.take i) (edOf e) <;> cases h2 : e.2.2.2
          · rfl
          · exact absurd (tu3.1.2 ⟨hNO.1, by rw [h2, hon, h1]; simp⟩) (by simp)
          · exact absurd (tu3.1.2 ⟨hNO.1, by rw [h2, hon, h1]; simp⟩) (by simp)
          · rfl
        rw [bad 25 (by rw [hat, if_pos a5]) (by decide)]
        refine Zr rfl (by simp (maxSteps := 2000000) only [gs,zlr,reduceIte,reduceCtorEq,zpa,zpb,zpc,zpd,zpe,zpf,zpg,zph,zpi,zpj,zpk,zpl,zpm,zpn,zpo,zpp, k8]; rfl) (Zc rfl rfl (fun _ => ?_) (fun h => by cases h))
        exact Zr rfl (by simp (maxSteps := 2000000) only [gs,zlr,reduceIte,reduceCtorEq,zpa,zpb,zpc,zpd,zpe,zpf,zpg,zph,zpi,zpj,zpk,zpl,zpm,zpn,zpo,zpp, k5]; rfl) (Zq rfl ⟨_, rfl, rfl⟩)
      | true =>
        obtain ⟨t1, t2⟩ := tu3.2 rfl
        have a5 : ¬ onL (evs.take i) (edOf e) = e.2.2.2 := fun h => by
          have := (tu3.1.1 rfl).2
          rw [hon, h] at this
          cases h2 : e.2.2.2 <;> rw [h2] at this <;> simp at this
        refine Zr rfl (by simp (maxSteps := 2000000) only [gs,zlr,reduceIte,reduceCtorEq,zpa,zpb,zpc,zpd,zpe,zpf,zpg,zph,zpi,zpj,zpk,zpl,zpm,zpn,zpo,zpp, k8]; rfl) (Zc rfl rfl (fun h => by cases h) (fun _ => ?_))
        generalize hq : GEnv.get env 7 = w7 at k7
        have nx := evN_next hno (by rw [hat, if_neg a5])
        have hNO' : NowOf (evs.take (i + 1)) es' := by rw [htk]; exact now_turn hNO t1 t2
        rcases k7 with rfl | rfl | ⟨rfl, rfl⟩
        · refine Zr rfl (by simp (maxSteps := 2000000) only [gs,zlr,reduceIte,reduceCtorEq,zpa,zpb,zpc,zpd,zpe,zpf,zpg,zph,zpi,zpj,zpk,zpl,zpm,zpn,zpo,zpp, hq]; rfl) ?_
          refine Zr rfl (by simp (maxSteps := 2000000) only [gs,zlr,reduceIte,reduceCtorEq,zpa,zpb,zpc,zpd,zpe,zpf,zpg,zph,zpi,zpj,zpk,zpl,zpm,zpn,zpo,zpp, k5, hinc]; rfl) ?_
          exact Za rfl ⟨m - 1, by omega, i + 1, _, es', _, nx, .inl rfl, hNO', by omega, rfl, by simp [GEnv.get, k1], by simp [GEnv.get], by simp [GEnv.get], by omega⟩
        · refine Zr rfl (by simp (maxSteps := 2000000) only [gs,zlr,reduceIte,reduceCtorEq,zpa,zpb,zpc,zpd,zpe,zpf,zpg,zph,zpi,zpj,zpk,zpl,zpm,zpn,zpo,zpp, hq]; rfl) ?_
          refine Zr rfl (by simp (maxSteps := 2000000) only [gs,zlr,reduceIte,reduceCtorEq,zpa,zpb,zpc,zpd,zpe,zpf,zpg,zph,zpi,zpj,zpk,zpl,zpm,zpn,zpo,zpp, k5, hinc]; rfl) ?_
          exact Za rfl ⟨m - 1, by omega, i + 1, _, es', _, nx, .inr (.inl rfl), hNO', by omega, rfl, by simp [GEnv.get, k1], by simp [GEnv.get], by simp [GEnv.get], by omega⟩
        · refine Zr rfl (by simp (maxSteps := 2000000) only [gs,zlr,reduceIte,reduceCtorEq,zpa,zpb,zpc,zpd,zpe,zpf,zpg,zph,zpi,zpj,zpk,zpl,zpm,zpn,zpo,zpp, hq]; rfl) ?_
          refine Zr rfl (by simp (maxSteps := 2000000) only [gs,zlr,reduceIte,reduceCtorEq,zpa,zpb,zpc,zpd,zpe,zpf,zpg,zph,zpi,zpj,zpk,zpl,zpm,zpn,zpo,zpp, k5, hinc]; rfl) ?_
          exact Za rfl ⟨m - 1, by omega, i + 1, _, [], _, nx, .inr (.inr ⟨rfl, rfl⟩), hNO', by simp, rfl, by simp [GEnv.get, k1], by simp [GEnv.get], by simp [GEnv.get], by omega⟩
    · have : i = evs.length := by omega
      subst this
      rw [hno]
      exact Zr rfl (by simp (maxSteps := 2000000) only [gs,zlr,reduceIte,reduceCtorEq,zpa,zpb,zpc,zpd,zpe,zpf,zpg,zph,zpi,zpj,zpk,zpl,zpm,zpn,zpo,zpp]; rfl) (Zq rfl ⟨_, rfl, rfl⟩)
  · refine Zr rfl (by simp (maxSteps := 2000000) only [gs,zlr,reduceIte,reduceCtorEq,zpa,zpb,zpc,zpd,zpe,zpf,zpg,zph,zpi,zpj,zpk,zpl,zpm,zpn,zpo,zpp]; rfl) ?_
    refine Zr rfl (by simp (maxSteps := 2000000) only [gs,zlr,reduceIte,reduceCtorEq,zpa,zpb,zpc,zpd,zpe,zpf,zpg,zph,zpi,zpj,zpk,zpl,zpm,zpn,zpo,zpp, c1]; rfl) (Zc rfl rfl (fun h => by cases h) (fun _ => ?_))
    refine Zr rfl (by simp (maxSteps := 2000000) only [gs,zlr,reduceIte,reduceCtorEq,zpa,zpb,zpc,zpd,zpe,zpf,zpg,zph,zpi,zpj,zpk,zpl,zpm,zpn,zpo,zpp]; rfl) ?_
    refine Zr rfl (by simp (maxSteps := 2000000) only [gs,zlr,reduceIte,reduceCtorEq,zpa,zpb,zpc,zpd,zpe,zpf,zpg,zph,zpi,zpj,zpk,zpl,zpm,zpn,zpo,zpp]; rfl) ?_
    refine Zw rfl (fun m env h => h = [.box [.int .u64 N, .nils]] ∧ GEnv.get env 1 = .ptr 0 0 0 0 ∧ GEnv.get env 4 = .nils ∧ GEnv.get env 5 = .int .i64 0) 0 ⟨rfl, rfl, rfl, rfl⟩ ?_
    rintro m env h ⟨rfl, k1, k4, k5⟩
    simp only [GEnv.keep, k1, k4, k5]
    refine Zr rfl (by simp (maxSteps := 2000000) only [gs,zlr,reduceIte,reduceCtorEq,zpa,zpb,zpc,zpd,zpe,zpf,zpg,zph,zpi,zpj,zpk,zpl,zpm,zpn,zpo,zpp]; rfl) (Zc rfl rfl (fun h => by cases h) (fun _ => ?_))
    exact Zr rfl (by simp (maxSteps := 2000000) only [gs,zlr,reduceIte,reduceCtorEq,zpa,zpb,zpc,zpd,zpe,zpf,zpg,zph,zpi,zpj,zpk,zpl,zpm,zpn,zpo,zpp]; rfl) (Zq rfl ⟨_, rfl, rfl⟩)

theorem timeTab (r : Nat) (h : r < 6) : ∃ x : Int, ([[U.int .i64 0], [.int .i64 5], [.int .i64 4611686018427387903], [.int .i64 9223372036854775807], [.int .i64 (-1)], [.int .i64 (-9223372036854775808)]] : List (List U))[r]? = some [.int .i64 x] := by
  have : r = 0 ∨ r = 1 ∨ r = 2 ∨ r = 3 ∨ r = 4 ∨ r = 5 := by omega
  rcases this with rfl | rfl | rfl | rfl | rfl | rfl
  · exact ⟨0, rfl⟩
  · exact ⟨5, rfl⟩
  · exact ⟨4611686018427387903, rfl⟩
  · exact ⟨9223372036854775807, rfl⟩
  · exact ⟨-1, rfl⟩
  · exact ⟨-9223372036854775808, rfl⟩

theorem time_E {N : Int} {v : U} {evs : List Ev} {near : Nat} (hv : isVa v evs) (hl : evs.length ≤ 60) (ht : TimesIn evs 1125899906842624) (hn : near < 256) : ∃ x : Int, GF gtab fid_archipelagoseat_Time [.agg [.int .u64 N, v], .int .u8 near] [] 0 = some (.int .i64 x, []) := by
  have m6 : ((near : Nat) : Int).tmod 6 = ((near % 6 : Nat) : Int) := rfl
  have r0 : ((0 : Int) ≤ ((near % 6 : Nat) : Int)) = True := eq_true (by omega)
  obtain ⟨x, hx⟩ := timeTab (near % 6) (by omega)
  rcases hv with rfl | ⟨rfl, rfl⟩
  · by_cases h0 : evs.length = 0
    · have hnil : evs = [] := List.length_eq_zero_iff.1 h0
      subst hnil
      refine ⟨x, fn_archipelagoseat_Time rfl ?_⟩
      simp only [genvOf]
      have e0 : (uvs []).length = 0 := rfl
      refine Zr rfl (by simp (maxSteps := 2000000) only [gs,zlr,reduceIte,reduceCtorEq,zpa,zpb,zpc,zpd,zpe,zpf,zpg,zph,zpi,zpj,zpk,zpl,zpm,zpn,zpo,zpp]; rfl) ?_
      refine Zr rfl (by simp (maxSteps := 2000000) only [gs,zlr,reduceIte,reduceCtorEq,zpa,zpb,zpc,zpd,zpe,zpf,zpg,zph,zpi,zpj,zpk,zpl,zpm,zpn,zpo,zpp, e0, Int.natCast_zero]; rfl) (Zc rfl rfl (fun _ => ?_) (fun h => by cases h))
      exact Zr rfl (by simp (maxSteps := 2000000) only [gs,zlr,reduceIte,reduceCtorEq,zpa,zpb,zpc,zpd,zpe,zpf,zpg,zph,zpi,zpj,zpk,zpl,zpm,zpn,zpo,zpp, m6, r0, hx]; rfl) (Zq rfl ⟨_, rfl, rfl⟩)
    · have hz : ((evs.length : Int) == 0) = false := beq_eq_false_iff_ne.2 (by omega)
      by_cases hg : (near : Int) > 245
      · have g := eq_true hg
        refine ⟨x, fn_archipelagoseat_Time rfl ?_⟩
        simp only [genvOf]
        refine Zr rfl (by simp (maxSteps := 2000000) only [gs,zlr,reduceIte,reduceCtorEq,zpa,zpb,zpc,zpd,zpe,zpf,zpg,zph,zpi,zpj,zpk,zpl,zpm,zpn,zpo,zpp]; rfl) ?_
        refine Zr rfl (by simp (maxSteps := 2000000) only [gs,zlr,reduceIte,reduceCtorEq,zpa,zpb,zpc,zpd,zpe,zpf,zpg,zph,zpi,zpj,zpk,zpl,zpm,zpn,zpo,zpp, uvs_length, hz, g]; rfl) (Zc rfl rfl (fun _ => ?_) (fun h => by cases h))
        exact Zr rfl (by simp (maxSteps := 2000000) only [gs,zlr,reduceIte,reduceCtorEq,zpa,zpb,zpc,zpd,zpe,zpf,zpg,zph,zpi,zpj,zpk,zpl,zpm,zpn,zpo,zpp, m6, r0, hx]; rfl) (Zq rfl ⟨_, rfl, rfl⟩)
      · have g := eq_false hg
        have d3 : ((near : Nat) : Int).tdiv 3 = ((near / 3 : Nat) : Int) := rfl
        have wu : IntKind.u8.wrap ((near / 3 : Nat) : Int) = ((near / 3 : Nat) : Int) := by rw [wrap_u8_nat, Nat.mod_eq_of_lt (by omega)]
        have wi : IntKind.i64.wrap ((near / 3 : Nat) : Int) = ((near / 3 : Nat) : Int) := wrap_i64_nat (by omega)
        have ez : ((evs.length : Int) = 0) = False := eq_false (by omega)
        have ml : ((near / 3 : Nat) : Int).tmod ((evs.length : Nat) : Int) = ((near / 3 % evs.length : Nat) : Int) := rfl
        have lt := Nat.mod_lt (near / 3) (show 0 < evs.length by omega)
        have q0 : ((0 : Int) ≤ ((near / 3 % evs.length : Nat) : Int)) = True := eq_true (by omega)
        have gx : evs[near / 3 % evs.length]? = some (evs[near / 3 % evs.length]'lt) := List.getElem?_eq_getElem _
        have hb := ht _ (List.mem_of_getElem? gx)
        generalize evs[near / 3 % evs.length]'lt = e at gx hb
        have m3 : ((near : Nat) : Int).tmod 3 = ((near % 3 : Nat) : Int) := rfl
        have w3 : IntKind.i64.wrap ((near % 3 : Nat) : Int) = ((near % 3 : Nat) : Int) := wrap_i64_nat (by omega)
        have w4 : IntKind.i64.wrap (e.1 + ((near % 3 : Nat) : Int)) = e.1 + ((near % 3 : Nat) : Int) := wrap_i64 (by omega) (by omega)
        have w5 : IntKind.i64.wrap (e.1 + ((near % 3 : Nat) : Int) - 1) = e.1 + ((near % 3 : Nat) : Int) - 1 := wrap_i64 (by omega) (by omega)
        refine ⟨e.1 + ((near % 3 : Nat) : Int) - 1, fn_archipelagoseat_Time rfl ?_⟩
        simp only [genvOf]
        refine Zr rfl (by simp (maxSteps := 2000000) only [gs,zlr,reduceIte,reduceCtorEq,zpa,zpb,zpc,zpd,zpe,zpf,zpg,zph,zpi,zpj,zpk,zpl,zpm,zpn,zpo,zpp]; rfl) ?_
        refine Zr rfl (by simp (maxSteps := 2000000) only [gs,zlr,reduceIte,reduceCtorEq,zpa,zpb,zpc,zpd,zpe,zpf,zpg,zph,zpi,zpj,zpk,zpl,zpm,zpn,zpo,zpp, uvs_length, hz, g]; rfl) (Zc rfl rfl (fun h => by cases h) (fun _ => ?_))
        exact Zd rfl (by simp (maxSteps := 2000000) only [gs,gd,zlr,id,reduceIte,reduceCtorEq,zpa,zpb,zpc,zpd,zpe,zpf,zpg,zph,zpi,zpj,zpk,zpl,zpm,zpn,zpo,zpp, d3, wu, wi, uvs_length, ez, ml, q0, uvs_get gx, m3, w3, w4, w5]; rfl) (Zq rfl ⟨_, rfl, rfl⟩)
  · refine ⟨x, fn_archipelagoseat_Time rfl ?_⟩
    simp only [genvOf]
    refine Zr rfl (by simp (maxSteps := 2000000) only [gs,zlr,reduceIte,reduceCtorEq,zpa,zpb,zpc,zpd,zpe,zpf,zpg,zph,zpi,zpj,zpk,zpl,zpm,zpn,zpo,zpp]; rfl) ?_
    refine Zr rfl (by simp (maxSteps := 2000000) only [gs,zlr,reduceIte,reduceCtorEq,zpa,zpb,zpc,zpd,zpe,zpf,zpg,zph,zpi,zpj,zpk,zpl,zpm,zpn,zpo,zpp]; rfl) (Zc rfl rfl (fun _ => ?_) (fun h => by cases h))
    exact Zr rfl (by simp (maxSteps := 2000000) only [gs,zlr,reduceIte,reduceCtorEq,zpa,zpb,zpc,zpd,zpe,zpf,zpg,zph,zpi,zpj,zpk,zpl,zpm,zpn,zpo,zpp, m6, r0, hx]; rfl) (Zq rfl ⟨_, rfl, rfl⟩)

theorem rupto_Y {N : Int} {v : U} {evs : List Ev} {t : Int} (hv : isVa v evs) (hl : evs.length ≤ 60) : ∃ k : Nat, k ≤ evs.length ∧ GF gtab fid_archipelagoref8_Upto [.agg [.int .u64 N, v], .int .i64 t] [] 0 = some (.int .i64 (k : Int), []) := by
  have key : ∃ u h', GF gtab fid_archipelagoref8_Upto [.agg [.int .u64 N, v], .int .i64 t] [] 0 = some (u, h') ∧ ∃ k : Nat, k ≤ evs.length ∧ u = .int .i64 (k : Int) ∧ h' = [] := by
    refine fnR_archipelagoref8_Upto rfl ?_
    simp only [genvOf]
    rcases hv with rfl | ⟨rfl, rfl⟩
    · refine Zr rfl (by simp (maxSteps := 2000000) only [gs,zlr,reduceIte,reduceCtorEq,zpa,zpb,zpc,zpd,zpe,zpf,zpg,zph,zpi,zpj,zpk,zpl,zpm,zpn,zpo,zpp]; rfl) ?_
      refine Zr rfl (by simp (maxSteps := 2000000) only [gs,zlr,reduceIte,reduceCtorEq,zpa,zpb,zpc,zpd,zpe,zpf,zpg,zph,zpi,zpj,zpk,zpl,zpm,zpn,zpo,zpp]; rfl) ?_
      refine Zw rfl (fun n env h => h = [.box [.int .u64 N, .list false 4 (uvs evs)]] ∧ ∃ i : Nat, n + i = evs.length ∧ GEnv.get env 1 = .int .i64 t ∧ GEnv.get env 2 = .ptr 0 0 0 0 ∧ GEnv.get env 5 = .int .i64 (i : Int)) evs.length ⟨rfl, 0, rfl, rfl, rfl, rfl⟩ ?_
      rintro n env h ⟨rfl, i, hn, k1, k2, k5⟩
      simp only [GEnv.keep, k1, k2, k5]
      have n0 : ((0 : Int) ≤ (i : Int)) = True := eq_true (by omega)
      by_cases hi : i < evs.length
      · have g1 : ((i : Int) < (evs.length : Int)) = True := eq_true (by omega)
        have gx : evs[i]? = some (evs[i]'hi) := List.getElem?_eq_getElem _
        generalize evs[i]'hi = e at gx
        by_cases hik : e.1 ≤ t
        · have c := eq_true hik
          refine Zr rfl (by simp (maxSteps := 2000000) only [gs,zlr,reduceIte,reduceCtorEq,zpa,zpb,zpc,zpd,zpe,zpf,zpg,zph,zpi,zpj,zpk,zpl,zpm,zpn,zpo,zpp, uvs_length, g1, n0, uvs_get gx, c]; rfl) (Zc rfl rfl (fun _ => ?_) (fun h => by cases h))
          refine Zr rfl (by simp (maxSteps := 2000000) only [gs,zlr,reduceIte,reduceCtorEq,zpa,zpb,zpc,zpd,zpe,zpf,zpg,zph,zpi,zpj,zpk,zpl,zpm,zpn,zpo,zpp, up64 (show i < 9223372036854775807 by omega)]; rfl) ?_
          exact Za rfl ⟨n - 1, by omega, rfl, i + 1, by omega, rfl, rfl, rfl⟩
        · have c := eq_false hik
          refine Zr rfl (by simp (maxSteps := 2000000) only [gs,zlr,reduceIte,reduceCtorEq,zpa,zpb,zpc,zpd,zpe,zpf,zpg,zph,zpi,zpj,zpk,zpl,zpm,zpn,zpo,zpp, uvs_length, g1, n0, uvs_get gx, c]; rfl) (Zc rfl rfl (fun h => by cases h) (fun _ => ?_))
          exact Zr rfl (by simp (maxSteps := 2000000) only [gs,zlr,reduceIte,reduceCtorEq,zpa,zpb,zpc,zpd,zpe,zpf,zpg,zph,zpi,zpj,zpk,zpl,zpm,zpn,zpo,zpp]; rfl) (Zq rfl ⟨_, rfl, _, _, rfl, i, by omega, rfl, rfl⟩)
      · have g1 : ((i : Int) < (evs.length : Int)) = False := eq_false (by omega)
        refine Zr rfl (by simp (maxSteps := 2000000) only [gs,zlr,reduceIte,reduceCtorEq,zpa,zpb,zpc,zpd,zpe,zpf,zpg,zph,zpi,zpj,zpk,zpl,zpm,zpn,zpo,zpp, uvs_length, g1]; rfl) (Zc rfl rfl (fun h => by cases h) (fun _ => ?_))
        exact Zr rfl (by simp (maxSteps := 2000000) only [gs,zlr,reduceIte,reduceCtorEq,zpa,zpb,zpc,zpd,zpe,zpf,zpg,zph,zpi,zpj,zpk,zpl,zpm,zpn,zpo,zpp]; rfl) (Zq rfl ⟨_, rfl, _, _, rfl, i, by omega, rfl, rfl⟩)
    · refine Zr rfl (by simp (maxSteps := 2000000) only [gs,zlr,reduceIte,reduceCtorEq,zpa,zpb,zpc,zpd,zpe,zpf,zpg,zph,zpi,zpj,zpk,zpl,zpm,zpn,zpo,zpp]; rfl) ?_
      refine Zr rfl (by simp (maxSteps := 2000000) only [gs,zlr,reduceIte,reduceCtorEq,zpa,zpb,zpc,zpd,zpe,zpf,zpg,zph,zpi,zpj,zpk,zpl,zpm,zpn,zpo,zpp]; rfl) ?_
      refine Zw rfl (fun n env h => h = [.box [.int .u64 N, .nils]] ∧ GEnv.get env 1 = .int .i64 t ∧ GEnv.get env 2 = .ptr 0 0 0 0 ∧ GEnv.get env 5 = .int .i64 0) 0 ⟨rfl, rfl, rfl, rfl⟩ ?_
      rintro n env h ⟨rfl, k1, k2, k5⟩
      simp only [GEnv.keep, k1, k2, k5]
      refine Zr rfl (by simp (maxSteps := 2000000) only [gs,zlr,reduceIte,reduceCtorEq,zpa,zpb,zpc,zpd,zpe,zpf,zpg,zph,zpi,zpj,zpk,zpl,zpm,zpn,zpo,zpp]; rfl) (Zc rfl rfl (fun h => by cases h) (fun _ => ?_))
      exact Zr rfl (by simp (maxSteps := 2000000) only [gs,zlr,reduceIte,reduceCtorEq,zpa,zpb,zpc,zpd,zpe,zpf,zpg,zph,zpi,zpj,zpk,zpl,zpm,zpn,zpo,zpp]; rfl) (Zq rfl ⟨_, rfl, _, _, rfl, 0, by simp, rfl, rfl⟩)
  obtain ⟨u, h', h1, k, h2, rfl, rfl⟩ := key
  exact ⟨k, h2, h1⟩

/-- Edges that are there have come in an event. -/
theorem onL_mem : ∀ (n : Nat) (evs : List Ev) (x : Ed), evs.length = n → onL evs x = true → ∃ e ∈ evs, edOf e = x := by
  intro n
  induction n with
  | zero => intro evs x hl h; rw [List.eq_nil_of_length_eq_zero hl] at h; cases h
  | succ n ih =>
    intro evs x hl h
    rcases List.eq_nil_or_concat evs with rfl | ⟨ys, y, rfl⟩
    · cases h
    · rw [List.concat_eq_append] at h hl ⊢
      rw [onL_snoc] at h
      by_cases he : edOf y = x
      · exact ⟨y, by simp, he⟩
      · rw [if_neg he] at h
        obtain ⟨e, he1, he2⟩ := ih ys x (by simpa using hl) h
        exact ⟨e, List.mem_append_left _ he1, he2⟩
theorem right_mem {N : Int} {evs : List Ev} (h : RightV N evs) {e : Ev} (he : e ∈ evs) : e.2.1 < e.2.2.1 ∧ e.2.2.1 < N := by
  obtain ⟨i, hi⟩ := List.mem_iff_getElem?.1 he
  have hl := (List.getElem?_eq_some_iff.1 hi).1
  have := h.2 i hl
  unfold evAt at this
  rw [hi] at this
  simp only at this
  split at this
  · cases this
  · split at this
    · cases this
    · rename_i h1 h2
      simpa using h2
theorem right_turn {N : Int} {evs : List Ev} (h : RightV N evs) {i : Nat} {e : Ev} (hi : evs[i]? = some e) : ¬ onL (evs.take i) (edOf e) = e.2.2.2 := fun hc => by
  have hl := (List.getElem?_eq_some_iff.1 hi).1
  have := h.2 i hl
  unfold evAt at this
  rw [hi] at this
  simp only at this
  split at this
  · cases this
  · split at this
    · cases this
    · split at this
      · cases this
      · first
        | exact absurd this (by decide)
        | (rw [if_pos hc] at this; exact absurd this (by decide))
/-- Edges that may be. -/
def EdsOk (N : Int) (es : List Ed) : Prop := RisE es ∧ ∀ e ∈ es, 0 ≤ e.1 ∧ e.1 < e.2 ∧ e.2 < N ∧ e.2 ≤ 4294967295
theorem now_ok {N : Int} {evs : List Ev} {es : List Ed} {k : Nat} (h : RightV N evs) (ho : EvOk evs) (hn : NowOf (evs.take k) es) : EdsOk N es := by
  refine ⟨hn.1, fun e he => ?_⟩
  obtain ⟨d, hd, rfl⟩ := onL_mem _ _ _ rfl ((hn.2 e).1 he)
  have hd := List.mem_of_mem_take hd
  have h1 := right_mem h hd
  have h2 := ho d hd
  exact ⟨h2.1.1, h1.1, h1.2, h2.2.2⟩

set_option maxHeartbeats 1000000 in
theorem after_Y {N : Int} {w : U} {evs : List Ev} {k : Int} (hw : isVa w evs) (hl : evs.length ≤ 60) (hr : RightV N evs) (hok : EvOk evs) : ∃ u es, isE u es ∧ EdsOk N es ∧ es.length ≤ 60 ∧ GF gtab fid_archipelagoref8_After [.agg [.int .u64 N, w], .int .i64 k] [] 0 = some (.tup [u, .int .i64 0], []) := by
  have CH := rcheck_G (N := N) hw (by omega) hok
  rw [hr.check] at CH
  have key : ∃ u h', GF gtab fid_archipelagoref8_After [.agg [.int .u64 N, w], .int .i64 k] [] 0 = some (u, h') ∧ h' = [] ∧ ∃ u' es, isE u' es ∧ EdsOk N es ∧ es.length ≤ 60 ∧ u = .tup [u', .int .i64 0] := by
    refine fnR_archipelagoref8_After rfl ?_
    simp only [genvOf]
    rcases hw with rfl | ⟨rfl, rfl⟩
    · refine Zr rfl (by simp (maxSteps := 2000000) only [gs,zlr,reduceIte,reduceCtorEq,zpa,zpb,zpc,zpd,zpe,zpf,zpg,zph,zpi,zpj,zpk,zpl,zpm,zpn,zpo,zpp]; rfl) ?_
      refine Zr rfl (by simp (maxSteps := 2000000) only [gs,zlr,reduceIte,reduceCtorEq,zpa,zpb,zpc,zpd,zpe,zpf,zpg,zph,zpi,zpj,zpk,zpl,zpm,zpn,zpo,zpp, snapLL_uvs, gc_archipelagoref8_Check, CH]; rfl) ?_
      refine Zr rfl (by simp (maxSteps := 2000000) only [gs,zlr,reduceIte,reduceCtorEq,zpa,zpb,zpc,zpd,zpe,zpf,zpg,zph,zpi,zpj,zpk,zpl,zpm,zpn,zpo,zpp, bne_self_eq_false]; rfl) (Zc rfl rfl (fun h => by cases h) (fun _ => ?_))
      refine Zr rfl (by simp (maxSteps := 2000000) only [gs,zlr,reduceIte,reduceCtorEq,zpa,zpb,zpc,zpd,zpe,zpf,zpg,zph,zpi,zpj,zpk,zpl,zpm,zpn,zpo,zpp]; rfl) ?_
      refine Zr rfl (by simp (maxSteps := 2000000) only [gs,zlr,reduceIte,reduceCtorEq,zpa,zpb,zpc,zpd,zpe,zpf,zpg,zph,zpi,zpj,zpk,zpl,zpm,zpn,zpo,zpp]; rfl) ?_
      refine Zw rfl (fun m env h => h = [.box [.int .u64 N, .list false 4 (uvs evs)]] ∧ ∃ (i : Nat) (es : List Ed), m + i = evs.length ∧ NowOf (evs.take i) es ∧ es.length ≤ i ∧ GEnv.get env 1 = .int .i64 k ∧ GEnv.get env 2 = .ptr 0 0 0 0 ∧ isE (GEnv.get env 8) es ∧ GEnv.get env 9 = .int .i64 (i : Int)) evs.length ⟨rfl, 0, [], rfl, ⟨List.Pairwise.nil, fun x => by simp [onL]⟩, by simp, rfl, rfl, .inr (.inr ⟨rfl, rfl⟩), rfl⟩ ?_
      rintro m env h ⟨rfl, i, es, hm, hNO, hel, k1, k2, k8, k9⟩
      simp only [GEnv.keep, k1, k2, k9]
      generalize GEnv.get env 8 = s8 at k8 ⊢
      have hE := now_ok hr hok hNO
      by_cases hi : i < evs.length
      · have g1 : ((i : Int) < (evs.length : Int)) = True := eq_true (by omega)
        by_cases hk : (i : Int) < k
        · have g2 := eq_true hk
          have gx : evs[i]? = some (evs[i]'hi) := List.getElem?_eq_getElem _
          have htk : evs.take (i + 1) = evs.take i ++ [evs[i]'hi] := by rw [List.take_add_one, gx]; rfl
          generalize evs[i]'hi = e at gx htk
          have n0 : ((0 : Int) ≤ (i : Int)) = True := eq_true (by omega)
          have hinc := up64 (show i < 9223372036854775807 by omega)
          obtain ⟨v, ok, es', TU, tu1, tu2, tu3⟩ := turn_R (e := e) (isE_share k8) (by omega)
          have hon := hNO.2 (edOf e)
          have hto := right_turn hr gx
          have hokk : ok = true := tu3.1.2 ⟨hNO.1, by
            cases h1 : onL (evs.take i) (edOf e) <;> cases h2 : e.2.2.2
            · exact absurd (by rw [h1, h2]) hto
            · rw [hon, h1]; simp
            · rw [hon, h1]; simp
            · exact absurd (by rw [h1, h2]) hto⟩
          obtain ⟨t1, t2⟩ := tu3.2 hokk
          have hNO' : NowOf (evs.take (i + 1)) es' := by rw [htk]; exact now_turn hNO t1 t2
          refine Zr rfl (by simp (maxSteps := 2000000) only [gs,zlr,reduceIte,reduceCtorEq,zpa,zpb,zpc,zpd,zpe,zpf,zpg,zph,zpi,zpj,zpk,zpl,zpm,zpn,zpo,zpp, uvs_length, g1, g2]; rfl) (Zc rfl rfl (fun _ => ?_) (fun h => by cases h))
          rcases k8 with rfl | rfl | ⟨rfl, rfl⟩
          all_goals
            simp only [U.share] at TU
            rcases tu1 with rfl | rfl | ⟨rfl, rfl⟩
            · refine Zr rfl (by simp (maxSteps := 2000000) only [gs,zlr,reduceIte,reduceCtorEq,zpa,zpb,zpc,zpd,zpe,zpf,zpg,zph,zpi,zpj,zpk,zpl,zpm,zpn,zpo,zpp, n0, uvs_get gx, gc_archipelagoref8_Turn, snapLL_ues, TU]; rfl) ?_
              refine Zr rfl (by simp (maxSteps := 2000000) only [gs,zlr,reduceIte,reduceCtorEq,zpa,zpb,zpc,zpd,zpe,zpf,zpg,zph,zpi,zpj,zpk,zpl,zpm,zpn,zpo,zpp, hinc]; rfl) ?_
              exact Za rfl ⟨m - 1, by omega, rfl, i + 1, es', by omega, hNO', by omega, rfl, rfl, .inl rfl, rfl⟩
            · refine Zr rfl (by simp (maxSteps := 2000000) only [gs,zlr,reduceIte,reduceCtorEq,zpa,zpb,zpc,zpd,zpe,zpf,zpg,zph,zpi,zpj,zpk,zpl,zpm,zpn,zpo,zpp, n0, uvs_get gx, gc_archipelagoref8_Turn, snapLL_ues, TU]; rfl) ?_
              refine Zr rfl (by simp (maxSteps := 2000000) only [gs,zlr,reduceIte,reduceCtorEq,zpa,zpb,zpc,zpd,zpe,zpf,zpg,zph,zpi,zpj,zpk,zpl,zpm,zpn,zpo,zpp, hinc]; rfl) ?_
              exact Za rfl ⟨m - 1, by omega, rfl, i + 1, es', by omega, hNO', by omega, rfl, rfl, .inr (.inl rfl), rfl⟩
            · refine Zr rfl (by simp (maxSteps := 2000000) only [gs,zlr,reduceIte,reduceCtorEq,zpa,zpb,zpc,zpd,zpe,zpf,zpg,zph,zpi,zpj,zpk,zpl,zpm,zpn,zpo,zpp, n0, uvs_get gx, gc_archipelagoref8_Turn, snapLL_ues, TU]; rfl) ?_
              refine Zr rfl (by simp (maxSteps := 2000000) only [gs,zlr,reduceIte,reduceCtorEq,zpa,zpb,zpc,zpd,zpe,zpf,zpg,zph,zpi,zpj,zpk,zpl,zpm,zpn,zpo,zpp, hinc]; rfl) ?_
              exact Za rfl ⟨m - 1, by omega, rfl, i + 1, [], by omega, hNO', by simp, rfl, rfl, .inr (.inr ⟨rfl, rfl⟩), rfl⟩
        · have g2 := eq_false hk
          refine Zr rfl (by simp (maxSteps := 2000000) only [gs,zlr,reduceIte,reduceCtorEq,zpa,zpb,zpc,zpd,zpe,zpf,zpg,zph,zpi,zpj,zpk,zpl,zpm,zpn,zpo,zpp, uvs_length, g1, g2]; rfl) (Zc rfl rfl (fun h => by cases h) (fun _ => ?_))
          rcases k8 with rfl | rfl | ⟨rfl, rfl⟩
          · refine Zr rfl (by simp (maxSteps := 2000000) only [gs,zlr,reduceIte,reduceCtorEq,zpa,zpb,zpc,zpd,zpe,zpf,zpg,zph,zpi,zpj,zpk,zpl,zpm,zpn,zpo,zpp]; rfl) (Zq rfl ⟨_, rfl, ?_⟩)
            simp only [gfin, outs, U.out, U.handed, U.share, U.rf, GEnv.get, if_true, Nat.reduceEqDiff, if_false, rfLL_ues, Option.map_some]
            exact ⟨_, _, rfl, rfl, _, es, .inl rfl, hE, by omega, rfl⟩
          · refine Zr rfl (by simp (maxSteps := 2000000) only [gs,zlr,reduceIte,reduceCtorEq,zpa,zpb,zpc,zpd,zpe,zpf,zpg,zph,zpi,zpj,zpk,zpl,zpm,zpn,zpo,zpp]; rfl) (Zq rfl ⟨_, rfl, ?_⟩)
            simp only [gfin, outs, U.out, U.handed, U.share, U.rf, GEnv.get, if_true, Nat.reduceEqDiff, if_false, rfLL_ues, Option.map_some]
            exact ⟨_, _, rfl, rfl, _, es, .inr (.inl rfl), hE, by omega, rfl⟩
          · exact Zr rfl (by simp (maxSteps := 2000000) only [gs,zlr,reduceIte,reduceCtorEq,zpa,zpb,zpc,zpd,zpe,zpf,zpg,zph,zpi,zpj,zpk,zpl,zpm,zpn,zpo,zpp]; rfl) (Zq rfl ⟨_, rfl, _, _, rfl, rfl, _, [], .inr (.inr ⟨rfl, rfl⟩), hE, by simp, rfl⟩)
      · have g1 : ((i : Int) < (evs.length : Int)) = False := eq_false (by omega)
        refine Zr rfl (by simp (maxSteps := 2000000) only [gs,zlr,reduceIte,reduceCtorEq,zpa,zpb,zpc,zpd,zpe,zpf,zpg,zph,zpi,zpj,zpk,zpl,zpm,zpn,zpo,zpp, uvs_length, g1]; rfl) (Zc rfl rfl (fun h => by cases h) (fun _ => ?_))
        rcases k8 with rfl | rfl | ⟨rfl, rfl⟩
        · refine Zr rfl (by simp (maxSteps := 2000000) only [gs,zlr,reduceIte,reduceCtorEq,zpa,zpb,zpc,zpd,zpe,zpf,zpg,zph,zpi,zpj,zpk,zpl,zpm,zpn,zpo,zpp]; rfl) (Zq rfl ⟨_, rfl, ?_⟩)
          simp only [gfin, outs, U.out, U.handed, U.share, U.rf, GEnv.get, if_true, Nat.reduceEqDiff, if_false, rfLL_ues, Option.map_some]
          exact ⟨_, _, rfl, rfl, _, es, .inl rfl, hE, by omega, rfl⟩
        · refine Zr rfl (by simp (maxSteps := 2000000) only [gs,zlr,reduceIte,reduceCtorEq,zpa,zpb,zpc,zpd,zpe,zpf,zpg,zph,zpi,zpj,zpk,zpl,zpm,zpn,zpo,zpp]; rfl) (Zq rfl ⟨_, rfl, ?_⟩)
          simp only [gfin, outs, U.out, U.handed, U.share, U.rf, GEnv.get, if_true, Nat.reduceEqDiff, if_false, rfLL_ues, Option.map_some]
          exact ⟨_, _, rfl, rfl, _, es, .inr (.inl rfl), hE, by omega, rfl⟩
        · exact Zr rfl (by simp (maxSteps := 2000000) only [gs,zlr,reduceIte,reduceCtorEq,zpa,zpb,zpc,zpd,zpe,zpf,zpg,zph,zpi,zpj,zpk,zpl,zpm,zpn,zpo,zpp]; rfl) (Zq rfl ⟨_, rfl, _, _, rfl, rfl, _, [], .inr (.inr ⟨rfl, rfl⟩), hE, by simp, rfl⟩)
    · refine Zr rfl (by simp (maxSteps := 2000000) only [gs,zlr,reduceIte,reduceCtorEq,zpa,zpb,zpc,zpd,zpe,zpf,zpg,zph,zpi,zpj,zpk,zpl,zpm,zpn,zpo,zpp]; rfl) ?_
      refine Zr rfl (by simp (maxSteps := 2000000) only [gs,zlr,reduceIte,reduceCtorEq,zpa,zpb,zpc,zpd,zpe,zpf,zpg,zph,zpi,zpj,zpk,zpl,zpm,zpn,zpo,zpp, gc_archipelagoref8_Check, CH]; rfl) ?_
      refine Zr rfl (by simp (maxSteps := 2000000) only [gs,zlr,reduceIte,reduceCtorEq,zpa,zpb,zpc,zpd,zpe,zpf,zpg,zph,zpi,zpj,zpk,zpl,zpm,zpn,zpo,zpp, bne_self_eq_false]; rfl) (Zc rfl rfl (fun h => by cases h) (fun _ => ?_))
      refine Zr rfl (by simp (maxSteps := 2000000) only [gs,zlr,reduceIte,reduceCtorEq,zpa,zpb,zpc,zpd,zpe,zpf,zpg,zph,zpi,zpj,zpk,zpl,zpm,zpn,zpo,zpp]; rfl) ?_
      refine Zr rfl (by simp (maxSteps := 2000000) only [gs,zlr,reduceIte,reduceCtorEq,zpa,zpb,zpc,zpd,zpe,zpf,zpg,zph,zpi,zpj,zpk,zpl,zpm,zpn,zpo,zpp]; rfl) ?_
      refine Zw rfl (fun m env h => h = [.box [.int .u64 N, .nils]] ∧ GEnv.get env 1 = .int .i64 k ∧ GEnv.get env 2 = .ptr 0 0 0 0 ∧ GEnv.get env 8 = .nils ∧ GEnv.get env 9 = .int .i64 0) 0 ⟨rfl, rfl, rfl, rfl, rfl⟩ ?_
      rintro m env h ⟨rfl, k1, k2, k8, k9⟩
      simp only [GEnv.keep, k1, k2, k8, k9]
      refine Zr rfl (by simp (maxSteps := 2000000) only [gs,zlr,reduceIte,reduceCtorEq,zpa,zpb,zpc,zpd,zpe,zpf,zpg,zph,zpi,zpj,zpk,zpl,zpm,zpn,zpo,zpp]; rfl) (Zc rfl rfl (fun h => by cases h) (fun _ => ?_))
      exact Zr rfl (by simp (maxSteps := 2000000) only [gs,zlr,reduceIte,reduceCtorEq,zpa,zpb,zpc,zpd,zpe,zpf,zpg,zph,zpi,zpj,zpk,zpl,zpm,zpn,zpo,zpp]; rfl) (Zq rfl ⟨_, rfl, _, _, rfl, rfl, _, [], .inr (.inr ⟨rfl, rfl⟩), ⟨List.Pairwise.nil, fun e he => by cases he⟩, by simp, rfl⟩)
  obtain ⟨u, h', h1, rfl, u', es, h2, h3, h4, rfl⟩ := key
  exact ⟨u', es, h2, h3, h4, h1⟩

theorem at_Y {N t : Int} {w : U} {evs : List Ev} (hw : isVa w evs) (hl : evs.length ≤ 60) (hr : RightV N evs) (hok : EvOk evs) : ∃ u es, isE u es ∧ EdsOk N es ∧ es.length ≤ 60 ∧ GF gtab fid_archipelagoref8_At [.agg [.int .u64 N, w], .int .i64 t] [] 0 = some (.tup [u, .int .i64 0], []) := by
  obtain ⟨k, hk, UP⟩ := rupto_Y (N := N) (t := t) hw hl
  obtain ⟨u, es, h1, h2, h3, AF⟩ := after_Y (k := (k : Int)) hw hl hr hok
  refine ⟨u, es, h1, h2, h3, ?_⟩
  refine fn_archipelagoref8_At rfl ?_
  simp only [genvOf]
  rcases hw with rfl | ⟨rfl, rfl⟩
  all_goals
    rcases h1 with rfl | rfl | ⟨rfl, rfl⟩
    · refine Zr rfl (by simp (maxSteps := 2000000) only [gs,zlr,reduceIte,reduceCtorEq,zpa,zpb,zpc,zpd,zpe,zpf,zpg,zph,zpi,zpj,zpk,zpl,zpm,zpn,zpo,zpp]; rfl) ?_
      refine Zd rfl (by simp (maxSteps := 2000000) only [gs,gd,zlr,id,reduceIte,reduceCtorEq,zpa,zpb,zpc,zpd,zpe,zpf,zpg,zph,zpi,zpj,zpk,zpl,zpm,zpn,zpo,zpp, snapLL_uvs, gc_archipelagoref8_Upto, iq_archipelagoref8_Upto, UP, gc_archipelagoref8_After, iq_archipelagoref8_After, AF]; rfl) (Zq rfl ⟨_, rfl, ?_⟩)
      simp only [gfin, outs, U.out, U.handed, U.share, U.rf, GEnv.get, if_true, Nat.reduceEqDiff, if_false, rfLL_ues, Option.map_some]
      rfl
    · refine Zr rfl (by simp (maxSteps := 2000000) only [gs,zlr,reduceIte,reduceCtorEq,zpa,zpb,zpc,zpd,zpe,zpf,zpg,zph,zpi,zpj,zpk,zpl,zpm,zpn,zpo,zpp]; rfl) ?_
      refine Zd rfl (by simp (maxSteps := 2000000) only [gs,gd,zlr,id,reduceIte,reduceCtorEq,zpa,zpb,zpc,zpd,zpe,zpf,zpg,zph,zpi,zpj,zpk,zpl,zpm,zpn,zpo,zpp, snapLL_uvs, gc_archipelagoref8_Upto, iq_archipelagoref8_Upto, UP, gc_archipelagoref8_After, iq_archipelagoref8_After, AF]; rfl) (Zq rfl ⟨_, rfl, ?_⟩)
      simp only [gfin, outs, U.out, U.handed, U.share, U.rf, GEnv.get, if_true, Nat.reduceEqDiff, if_false, rfLL_ues, Option.map_some]
      rfl
    · refine Zr rfl (by simp (maxSteps := 2000000) only [gs,zlr,reduceIte,reduceCtorEq,zpa,zpb,zpc,zpd,zpe,zpf,zpg,zph,zpi,zpj,zpk,zpl,zpm,zpn,zpo,zpp]; rfl) ?_
      refine Zd rfl (by simp (maxSteps := 2000000) only [gs,gd,zlr,id,reduceIte,reduceCtorEq,zpa,zpb,zpc,zpd,zpe,zpf,zpg,zph,zpi,zpj,zpk,zpl,zpm,zpn,zpo,zpp, snapLL_uvs, gc_archipelagoref8_Upto, iq_archipelagoref8_Upto, UP, gc_archipelagoref8_After, iq_archipelagoref8_After, AF]; rfl) (Zq rfl ⟨_, rfl, rfl⟩)

end Go.Ab
