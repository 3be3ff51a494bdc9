/- insert, Edge, History of the seat on the machine of values: the history is right. -/
import Derived.Test.YtdhoihialekgmaaHistQ
import Derived.Test.YtdhoihialekgmaaValN
import Derived.Test.YtdhoihialekgmaaBitPure
namespace Go.Ab
open Go
open Nat renaming reduceEqDiff → zpa, reduceLT → zpb, reduceAdd → zpc, reduceSub → zpd, reduceLeDiff → zpe, reduceMul → zpf
open Int renaming reduceToNat → zpg, reduceLT → zph, reduceLE → zpi, reduceEq → zpj, reduceNe → zpk, reduceBEq → zpl, reduceBNe → zpm, reduceAdd → zpn, reduceSub → zpo, reduceNeg → zpp
open List renaming replicate → zlr
set_option linter.unusedVariables false
set_option linter.unusedSimpArgs false
set_option maxRecDepth 10000
theorem rapp_eq {h : GH} {x : GObj} : (h ++ [x])[h.length]? = some x := by simp
theorem rapp_set {h : GH} {x y : GObj} : (h ++ [x]).set h.length y = h ++ [y] := by simp
def TimesIn (l : List Ev) (b : Int) : Prop := ∀ e ∈ l, 0 ≤ e.1 ∧ e.1 ≤ b
theorem vertices_R {k : Nat} (hk : k < 256) : ∃ N : Nat, 2 ≤ N ∧ N ≤ 4294967296 ∧ GF gtab fid_archipelagoseat_Vertices [.int .u8 k] [] 0 = some (.int .u64 (N : Int), []) := by
 have mk : ((k : Nat) : Int).tmod 8 = ((k % 8 : Nat) : Int) := rfl
 obtain ⟨r, hr⟩ : ∃ r, r = k % 8 := ⟨_, rfl⟩
 rw [← hr] at mk
 have r0 : ((0 : Int) ≤ (r : Int)) = True := eq_true (by omega)
 obtain ⟨N, h1, h2, hN⟩ : ∃ N : Nat, 2 ≤ N ∧ N ≤ 4294967296 ∧ ([[U.int .u64 8], [.int .u64 5], [.int .u64 2], [.int .u64 4294967296], [.int .u64 300], [.int .u64 12], [.int .u64 1048576], [.int .u64 3]] : List (List U))[r]? = some [.int .u64 (N : Int)] := by
  have : r = 0 ∨ r = 1 ∨ r = 2 ∨ r = 3 ∨ r = 4 ∨ r = 5 ∨ r = 6 ∨ r = 7 := by omega
  rcases this with rfl | rfl | rfl | rfl | rfl | rfl | rfl | rfl
  ·exact ⟨8, by omega, by omega, rfl⟩
  ·exact ⟨5, by omega, by omega, rfl⟩
  ·exact ⟨2, by omega, by omega, rfl⟩
  ·exact ⟨4294967296, by omega, by omega, rfl⟩
  ·exact ⟨300, by omega, by omega, rfl⟩
  ·exact ⟨12, by omega, by omega, rfl⟩
  ·exact ⟨1048576, by omega, by omega, rfl⟩
  ·exact ⟨3, by omega, by omega, rfl⟩
 refine ⟨N, h1, h2, fn_archipelagoseat_Vertices rfl ?_⟩
 simp only [genvOf]
 refine Zr rfl (by simp (maxSteps := 2000000) only [gs,zlr,reduceIte,reduceCtorEq,zpa,zpb,zpc,zpd,zpe,zpf,zpg,zph,zpi,zpj,zpk,zpl,zpm,zpn,zpo,zpp]; rfl) ?_
 exact Zr rfl (by simp (maxSteps := 2000000) only [gs,zlr,reduceIte,reduceCtorEq,zpa,zpb,zpc,zpd,zpe,zpf,zpg,zph,zpi,zpj,zpk,zpl,zpm,zpn,zpo,zpp, mk, r0, hN]; rfl) (Zq rfl ⟨_, rfl, rfl⟩)
theorem ltV_total {e y : Ev} (h : ¬ ltV e y) (hn : ¬ (y.1 = e.1 ∧ y.2.1 = e.2.1 ∧ y.2.2.1 = e.2.2.1)) : ltV y e := by
 unfold ltV ltE edOf at *
 simp only at *
 omega
theorem ris_sort {l : List Ev} (h : RisV l) : SortT l := fun i j d e hij hd he => by
 by_cases hc : i = j
 ·subst hc; rw [hd] at he; cases he; exact Int.le_refl _
 ·have := List.pairwise_iff_getElem.1 h i j (List.getElem?_eq_some_iff.1 hd).1 (List.getElem?_eq_some_iff.1 he).1 (by omega)
  rw [(List.getElem?_eq_some_iff.1 hd).2, (List.getElem?_eq_some_iff.1 he).2] at this
  exact ltV_le this
set_option maxHeartbeats 1000000 in
theorem insert_R {w : U} {l : List Ev} {e : Ev} (hw : isVa w l) (hl : l.length ≤ 500) (hs : RisV l) : ∃ (v : U) (l' : List Ev), GF gtab fid_archipelagoseat_insert [w, .agg [.int .i64 e.1, .int .u32 e.2.1, .int .u32 e.2.2.1, .bool e.2.2.2]] [] 0 = some (v, []) ∧ isV v l' ∧ RisV l' ∧ l'.length ≤ l.length + 1 ∧ ∀ d ∈ l', d ∈ l ∨ d = e := by
 have key : ∃ u h', GF gtab fid_archipelagoseat_insert [w, .agg [.int .i64 e.1, .int .u32 e.2.1, .int .u32 e.2.2.1, .bool e.2.2.2]] [] 0 = some (u, h') ∧ ∃ (l' : List Ev), h' = [] ∧ isV u l' ∧ RisV l' ∧ l'.length ≤ l.length + 1 ∧ ∀ d ∈ l', d ∈ l ∨ d = e := by
  refine fnR_archipelagoseat_insert rfl ?_
  simp only [genvOf]
  have one_e : ([[U.int .i64 e.1, .int .u32 e.2.1, .int .u32 e.2.2.1, .bool e.2.2.2]] : List (List U)) = uvs [e] := rfl
  have z0 : (0 ≤ room) = True := eq_true (by unfold room; omega)
  have z24 : (24 ≤ room) = True := eq_true (by unfold room; omega)
  have z241 : (1 * 24 ≤ room) = True := eq_true (by unfold room; omega)
  rcases hw with rfl | ⟨rfl, rfl⟩
  ·refine Zr rfl (by simp (maxSteps := 2000000) only [gs,zlr,reduceIte,reduceCtorEq,zpa,zpb,zpc,zpd,zpe,zpf,zpg,zph,zpi,zpj,zpk,zpl,zpm,zpn,zpo,zpp]; rfl) ?_
   refine Zr rfl (by simp (maxSteps := 2000000) only [gs,zlr,reduceIte,reduceCtorEq,zpa,zpb,zpc,zpd,zpe,zpf,zpg,zph,zpi,zpj,zpk,zpl,zpm,zpn,zpo,zpp, uvs_length]; rfl) ?_
   refine Zw rfl (fun n env h => h = [.box [.int .i64 e.1, .int .u32 e.2.1, .int .u32 e.2.2.1, .bool e.2.2.2]] ∧ n ≤ l.length ∧ (∀ (j : Nat) (d : Ev), n ≤ j → l[j]? = some d → ltV e d) ∧ GEnv.get env 0 = .list false 4 (uvs l) ∧ GEnv.get env 3 = .ptr 0 0 0 0 ∧ GEnv.get env 5 = .int .i64 (n : Int)) l.length ⟨rfl, Nat.le_refl _, fun j d hj hd => absurd (List.getElem?_eq_some_iff.1 hd).1 (by omega), rfl, rfl, rfl⟩ ?_
   rintro k env h ⟨rfl, hk, hhi, k0, k3, k5⟩
   simp only [GEnv.keep, k0, k3, k5]
   have q0 : ((0 : Int) ≤ (k : Int)) = True := eq_true (by omega)
   have q1 : ((k : Int) ≤ (l.length : Int)) = True := eq_true (by omega)
   have q2 : ((k : Int) - 0).toNat = k := by omega
   have p2 : ((k : Int)).toNat = k := by omega
   have p3 : ((l.length : Int) - (k : Int)).toNat = l.length - k := by omega
   have p4 : ((l.length : Int) ≤ (l.length : Int)) = True := eq_true (by omega)
   have tl : (l.take k).length = k := by rw [List.length_take]; omega
   have dl : ((l.drop k).take (l.length - k)) = l.drop k := List.take_of_length_le (by rw [List.length_drop]; omega)
   have dll : (l.drop k).length = l.length - k := by rw [List.length_drop]
   have r1 : (k * 24 ≤ room) = True := eq_true (by unfold room; omega)
   have r2 : ((k + 1) * 24 ≤ room) = True := eq_true (by unfold room; omega)
   have r3 : ((k + 1 + (l.length - k)) * 24 ≤ room) = True := eq_true (by unfold room; omega)
   have tl1 : (l.take k ++ [e]).length = k + 1 := by rw [List.length_append, tl]; rfl
   have one1 : ([e] : List Ev).length = 1 := rfl
   have mem : ∀ d ∈ l.take k ++ [e] ++ l.drop k, d ∈ l ∨ d = e := fun d hd => by
    rcases List.mem_append.1 hd with hd | hd
    ·rcases List.mem_append.1 hd with hd | hd
     ·exact .inl (List.mem_of_mem_take hd)
     ·exact .inr (List.mem_singleton.1 hd)
    ·exact .inl (List.mem_of_mem_drop hd)
   have ln : (l.take k ++ [e] ++ l.drop k).length ≤ l.length + 1 := by rw [List.length_append, tl1, dll]; omega
   by_cases hk0 : k = 0
   ·subst hk0
    have c1 : (((0 : Nat) : Int) > 0) = False := eq_false (by omega)
    have srt : RisV (l.take 0 ++ [e] ++ l.drop 0) := pw_insert (R := ltV) ltV_trans hs (Nat.zero_le _) (fun d h _ => absurd h (by omega)) (fun d hd => hhi 0 d (Nat.le_refl _) hd)
    have c0 : ((0 : Int) > 0) = False := eq_false (by omega)
    simp only [Int.natCast_zero] at q0 q1 q2 p2 p3
    have e0 : l.take 0 ++ [e] ++ l.drop 0 = e :: l := by simp
    rw [e0] at srt ln mem
    have st0 : l.take (l.length - 0) = l := by rw [Nat.sub_zero]; exact List.take_length
    have rl : ((1 + l.length) * 24 ≤ room) = True := eq_true (by unfold room; omega)
    have z24' : ((0 + 1) * 24 ≤ room) = True := eq_true (by unfold room; omega)
    have nl : ([] : List Ev).length = 0 := rfl
    refine Zd rfl (by simp (maxSteps := 2000000) only [gs,gd,zlr,id,reduceIte,reduceCtorEq,zpa,zpb,zpc,zpd,zpe,zpf,zpg,zph,zpi,zpj,zpk,zpl,zpm,zpn,zpo,zpp, c1, c0]; rfl) (Zc rfl rfl (fun h => by cases h) (fun _ => ?_))
    refine Zd rfl (by simp (maxSteps := 2000000) only [gs,gd,zlr,id,reduceIte,reduceCtorEq,zpa,zpb,zpc,zpd,zpe,zpf,zpg,zph,zpi,zpj,zpk,zpl,zpm,zpn,zpo,zpp, c1, c0]; rfl) (Zc rfl rfl (fun h => by cases h) (fun _ => ?_))
    refine Zd rfl (by simp (maxSteps := 2000000) only [gs,gd,zlr,id,reduceIte,reduceCtorEq,zpa,zpb,zpc,zpd,zpe,zpf,zpg,zph,zpi,zpj,zpk,zpl,zpm,zpn,zpo,zpp, uvs_length, q0, q1, q2, p2, p3, p4, uvs_take, nl, z0, z24, z241, z24', one_e, uvs_append, one1, uvs_drop, st0, rl]; rfl) (Zq rfl ⟨_, rfl, _, _, (by simp only [gfin, outs, U.out, U.handed, U.share, U.rf, GEnv.get, if_true, Nat.reduceEqDiff, if_false, rfLL_uvs, Option.map_some]; rfl), e :: l, rfl, .inr (.inl rfl), srt, ln, mem⟩)
   ·have c1 : ((k : Int) > 0) = True := eq_true (by omega)
    have ws : IntKind.i64.wrap ((k : Int) - 1) = ((k - 1 : Nat) : Int) := by rw [wrap_i64 (by omega) (by omega)]; omega
    have n0 : ((0 : Int) ≤ ((k - 1 : Nat) : Int)) = True := eq_true (by omega)
    have gx : l[k - 1]? = some (l[k - 1]'(by omega)) := List.getElem?_eq_getElem _
    generalize l[k - 1]'(by omega) = y at gx
    cases hb : befE e.1 e.2.1 e.2.2.1 y.1 y.2.1 y.2.2.1 with
    | true =>
     refine Zd rfl (by simp (maxSteps := 2000000) only [gs,gd,zlr,id,reduceIte,reduceCtorEq,zpa,zpb,zpc,zpd,zpe,zpf,zpg,zph,zpi,zpj,zpk,zpl,zpm,zpn,zpo,zpp, c1, ws, n0, uvs_get gx, gc_archipelagoref8_Before, iq_archipelagoref8_Before, hbefore_G, hb]; rfl) (Zc rfl rfl (fun _ => ?_) (fun h => by cases h))
     refine Zr rfl (by simp (maxSteps := 2000000) only [gs,zlr,reduceIte,reduceCtorEq,zpa,zpb,zpc,zpd,zpe,zpf,zpg,zph,zpi,zpj,zpk,zpl,zpm,zpn,zpo,zpp, ws]; rfl) ?_
     refine Za rfl ⟨k - 1, by omega, rfl, by omega, fun j d hj hd => ?_, rfl, rfl, rfl⟩
     by_cases hjk : j = k - 1
     ·subst hjk; rw [gx] at hd; cases hd; rw [befE_lt] at hb; exact of_decide_eq_true hb
     ·exact hhi j d (by omega) hd
    | false =>
     have hge : ¬ ltV e y := by have hb' := hb; rw [befE_lt] at hb'; exact of_decide_eq_false hb'
     have srt : ¬ (y.1 = e.1 ∧ y.2.1 = e.2.1 ∧ y.2.2.1 = e.2.2.1) → RisV (l.take k ++ [e] ++ l.drop k) := fun hn => pw_insert (R := ltV) ltV_trans hs hk (fun d _ hd => by rw [gx] at hd; cases hd; exact ltV_total hge hn) (fun d hd => hhi k d (Nat.le_refl _) hd)
     refine Zd rfl (by simp (maxSteps := 2000000) only [gs,gd,zlr,id,reduceIte,reduceCtorEq,zpa,zpb,zpc,zpd,zpe,zpf,zpg,zph,zpi,zpj,zpk,zpl,zpm,zpn,zpo,zpp, c1, ws, n0, uvs_get gx, gc_archipelagoref8_Before, iq_archipelagoref8_Before, hbefore_G, hb]; rfl) (Zc rfl rfl (fun h => by cases h) (fun _ => ?_))
     by_cases hT : y.1 = e.1
     ·by_cases hA : y.2.1 = e.2.1
      ·by_cases hB : y.2.2.1 = e.2.2.1
       ·refine Zd rfl (by simp (maxSteps := 2000000) only [gs,gd,zlr,id,reduceIte,reduceCtorEq,zpa,zpb,zpc,zpd,zpe,zpf,zpg,zph,zpi,zpj,zpk,zpl,zpm,zpn,zpo,zpp, c1, ws, n0, uvs_get gx, hT, hA, hB, beq_self_eq_true]; rfl) (Zc rfl rfl (fun _ => ?_) (fun h => by cases h))
        exact Zr rfl (by simp (maxSteps := 2000000) only [gs,zlr,reduceIte,reduceCtorEq,zpa,zpb,zpc,zpd,zpe,zpf,zpg,zph,zpi,zpj,zpk,zpl,zpm,zpn,zpo,zpp]; rfl) (Zq rfl ⟨_, rfl, _, _, (by simp only [gfin, outs, U.out, U.handed, U.share, U.rf, GEnv.get, if_true, Nat.reduceEqDiff, if_false, rfLL_uvs, Option.map_some]; rfl), l, rfl, .inl rfl, hs, by omega, fun d hd => .inl hd⟩)
       ·have hB' : (y.2.2.1 == e.2.2.1) = false := beq_eq_false_iff_ne.2 hB
        refine Zd rfl (by simp (maxSteps := 2000000) only [gs,gd,zlr,id,reduceIte,reduceCtorEq,zpa,zpb,zpc,zpd,zpe,zpf,zpg,zph,zpi,zpj,zpk,zpl,zpm,zpn,zpo,zpp, c1, ws, n0, uvs_get gx, hT, hA, hB', beq_self_eq_true]; rfl) (Zc rfl rfl (fun h => by cases h) (fun _ => ?_))
        refine Zd rfl (by simp (maxSteps := 2000000) only [gs,gd,zlr,id,reduceIte,reduceCtorEq,zpa,zpb,zpc,zpd,zpe,zpf,zpg,zph,zpi,zpj,zpk,zpl,zpm,zpn,zpo,zpp, uvs_length, q0, q1, q2, p2, p3, p4, uvs_take, tl, r1, one_e, uvs_append, tl1, one1, r2, uvs_drop, dl, dll, r3]; rfl) (Zq rfl ⟨_, rfl, _, _, (by simp only [gfin, outs, U.out, U.handed, U.share, U.rf, GEnv.get, if_true, Nat.reduceEqDiff, if_false, rfLL_uvs, Option.map_some]; rfl), l.take k ++ [e] ++ l.drop k, rfl, .inr (.inl rfl), srt (fun h => hB h.2.2), ln, mem⟩)
      ·have hA' : (y.2.1 == e.2.1) = false := beq_eq_false_iff_ne.2 hA
       refine Zd rfl (by simp (maxSteps := 2000000) only [gs,gd,zlr,id,reduceIte,reduceCtorEq,zpa,zpb,zpc,zpd,zpe,zpf,zpg,zph,zpi,zpj,zpk,zpl,zpm,zpn,zpo,zpp, c1, ws, n0, uvs_get gx, hT, hA', beq_self_eq_true]; rfl) (Zc rfl rfl (fun h => by cases h) (fun _ => ?_))
       refine Zd rfl (by simp (maxSteps := 2000000) only [gs,gd,zlr,id,reduceIte,reduceCtorEq,zpa,zpb,zpc,zpd,zpe,zpf,zpg,zph,zpi,zpj,zpk,zpl,zpm,zpn,zpo,zpp, uvs_length, q0, q1, q2, p2, p3, p4, uvs_take, tl, r1, one_e, uvs_append, tl1, one1, r2, uvs_drop, dl, dll, r3]; rfl) (Zq rfl ⟨_, rfl, _, _, (by simp only [gfin, outs, U.out, U.handed, U.share, U.rf, GEnv.get, if_true, Nat.reduceEqDiff, if_false, rfLL_uvs, Option.map_some]; rfl), l.take k ++ [e] ++ l.drop k, rfl, .inr (.inl rfl), srt (fun h => hA h.2.1), ln, mem⟩)
     ·have hT' : (y.1 == e.1) = false := beq_eq_false_iff_ne.2 hT
      refine Zd rfl (by simp (maxSteps := 2000000) only [gs,gd,zlr,id,reduceIte,reduceCtorEq,zpa,zpb,zpc,zpd,zpe,zpf,zpg,zph,zpi,zpj,zpk,zpl,zpm,zpn,zpo,zpp, c1, ws, n0, uvs_get gx, hT']; rfl) (Zc rfl rfl (fun h => by cases h) (fun _ => ?_))
      refine Zd rfl (by simp (maxSteps := 2000000) only [gs,gd,zlr,id,reduceIte,reduceCtorEq,zpa,zpb,zpc,zpd,zpe,zpf,zpg,zph,zpi,zpj,zpk,zpl,zpm,zpn,zpo,zpp, uvs_length, q0, q1, q2, p2, p3, p4, uvs_take, tl, r1, one_e, uvs_append, tl1, one1, r2, uvs_drop, dl, dll, r3]; rfl) (Zq rfl ⟨_, rfl, _, _, (by simp only [gfin, outs, U.out, U.handed, U.share, U.rf, GEnv.get, if_true, Nat.reduceEqDiff, if_false, rfLL_uvs, Option.map_some]; rfl), l.take k ++ [e] ++ l.drop k, rfl, .inr (.inl rfl), srt (fun h => hT h.1), ln, mem⟩)
  ·refine Zr rfl (by simp (maxSteps := 2000000) only [gs,zlr,reduceIte,reduceCtorEq,zpa,zpb,zpc,zpd,zpe,zpf,zpg,zph,zpi,zpj,zpk,zpl,zpm,zpn,zpo,zpp]; rfl) ?_
   refine Zr rfl (by simp (maxSteps := 2000000) only [gs,zlr,reduceIte,reduceCtorEq,zpa,zpb,zpc,zpd,zpe,zpf,zpg,zph,zpi,zpj,zpk,zpl,zpm,zpn,zpo,zpp]; rfl) ?_
   refine Zw rfl (fun n env h => h = [.box [.int .i64 e.1, .int .u32 e.2.1, .int .u32 e.2.2.1, .bool e.2.2.2]] ∧ GEnv.get env 0 = .nils ∧ GEnv.get env 3 = .ptr 0 0 0 0 ∧ GEnv.get env 5 = .int .i64 0) 0 ⟨rfl, rfl, rfl, rfl⟩ ?_
   rintro n env h ⟨rfl, k0, k3, k5⟩
   simp only [GEnv.keep, k0, k3, k5]
   have c0 : ((0 : Int) > 0) = False := eq_false (by omega)
   have srt : RisV [e] := List.pairwise_singleton _ _
   refine Zd rfl (by simp (maxSteps := 2000000) only [gs,gd,zlr,id,reduceIte,reduceCtorEq,zpa,zpb,zpc,zpd,zpe,zpf,zpg,zph,zpi,zpj,zpk,zpl,zpm,zpn,zpo,zpp, c0]; rfl) (Zc rfl rfl (fun h => by cases h) (fun _ => ?_))
   refine Zd rfl (by simp (maxSteps := 2000000) only [gs,gd,zlr,id,reduceIte,reduceCtorEq,zpa,zpb,zpc,zpd,zpe,zpf,zpg,zph,zpi,zpj,zpk,zpl,zpm,zpn,zpo,zpp, c0]; rfl) (Zc rfl rfl (fun h => by cases h) (fun _ => ?_))
   refine Zd rfl (by simp (maxSteps := 2000000) only [gs,gd,zlr,id,reduceIte,reduceCtorEq,zpa,zpb,zpc,zpd,zpe,zpf,zpg,zph,zpi,zpj,zpk,zpl,zpm,zpn,zpo,zpp, z0, z24, z241, one_e]; rfl) (Zq rfl ⟨_, rfl, _, _, (by simp only [gfin, outs, U.out, U.handed, U.share, U.rf, GEnv.get, if_true, Nat.reduceEqDiff, if_false, rfLL_uvs, Option.map_some]; rfl), [e], rfl, .inr (.inl rfl), srt, by simp, fun d hd => .inr (List.mem_singleton.1 hd)⟩)
 obtain ⟨u, h', h1, l', rfl, h2⟩ := key
 exact ⟨u, l', h1, h2⟩
set_option maxHeartbeats 1000000 in
theorem edge_R {a b N : Nat} (ha : a < 256) (hb : b < 256) (h2 : 2 ≤ N) (hN : N ≤ 4294967296) : ∃ (x y : Int) (ok : Bool), GF gtab fid_archipelagoseat_Edge [.int .u8 a, .int .u8 b, .int .u64 N] [] 0 = some (.tup [.agg [.int .u32 x, .int .u32 y], .bool ok], []) ∧ (ok = true → 0 ≤ x ∧ x < y ∧ y < (N : Int)) := by
 have key : ∃ u h', GF gtab fid_archipelagoseat_Edge [.int .u8 a, .int .u8 b, .int .u64 N] [] 0 = some (u, h') ∧ ∃ (x y : Int) (ok : Bool), u = .tup [.agg [.int .u32 x, .int .u32 y], .bool ok] ∧ h' = [] ∧ (ok = true → 0 ≤ x ∧ x < y ∧ y < (N : Int)) := by
  refine fnR_archipelagoseat_Edge rfl ?_
  simp only [genvOf]
  obtain ⟨f, hf⟩ : ∃ f, f = min N 9 := ⟨_, rfl⟩
  have hmin : (if (9 : Int) < (N : Int) then 9 else (N : Int)) = (f : Int) := by split <;> omega
  have fz : ((f : Int) = 0) = False := eq_false (by omega)
  have wa : IntKind.u64.wrap (a : Int) = (a : Int) := by rw [wrap_u64_nat, Nat.mod_eq_of_lt (by omega)]
  have wb : IntKind.u64.wrap (b : Int) = (b : Int) := by rw [wrap_u64_nat, Nat.mod_eq_of_lt (by omega)]
  have ma : ((a : Nat) : Int).tmod ((f : Nat) : Int) = ((a % f : Nat) : Int) := rfl
  have mb : ((b : Nat) : Int).tmod ((f : Nat) : Int) = ((b % f : Nat) : Int) := rfl
  have la := Nat.mod_lt a (show 0 < f by omega)
  have lb := Nat.mod_lt b (show 0 < f by omega)
  have w1 : IntKind.u64.wrap ((N : Int) - 1) = ((N - 1 : Nat) : Int) := by
   have : (N : Int) - 1 = ((N - 1 : Nat) : Int) := by omega
   rw [this, wrap_u64_nat, Nat.mod_eq_of_lt (by omega)]
  have w2 : ∀ u : Nat, u < N → IntKind.u64.wrap (((N - 1 : Nat) : Int) - (u : Int)) = ((N - 1 - u : Nat) : Int) := fun u hu => by
   have : ((N - 1 : Nat) : Int) - (u : Int) = ((N - 1 - u : Nat) : Int) := by omega
   rw [this, wrap_u64_nat, Nat.mod_eq_of_lt (by omega)]
  refine Zr rfl (by simp (maxSteps := 2000000) only [gs,zlr,reduceIte,reduceCtorEq,zpa,zpb,zpc,zpd,zpe,zpf,zpg,zph,zpi,zpj,zpk,zpl,zpm,zpn,zpo,zpp]; rfl) ?_
  refine Zr rfl (by simp (maxSteps := 2000000) only [gs,zlr,reduceIte,reduceCtorEq,zpa,zpb,zpc,zpd,zpe,zpf,zpg,zph,zpi,zpj,zpk,zpl,zpm,zpn,zpo,zpp, hmin]; rfl) ?_
  refine Zd rfl (by simp (maxSteps := 2000000) only [gs,gd,zlr,id,reduceIte,reduceCtorEq,zpa,zpb,zpc,zpd,zpe,zpf,zpg,zph,zpi,zpj,zpk,zpl,zpm,zpn,zpo,zpp, wa, wb, fz, ma, mb]; rfl) ?_
  refine Zr rfl (by simp (maxSteps := 2000000) only [gs,zlr,reduceIte,reduceCtorEq,zpa,zpb,zpc,zpd,zpe,zpf,zpg,zph,zpi,zpj,zpk,zpl,zpm,zpn,zpo,zpp]; rfl) ?_
  refine Zj rfl (fun env h => h = [.box [.int .u32 0, .int .u32 0]] ∧ ∃ u : Nat, u < N ∧ GEnv.get env 1 = .int .u8 (b : Int) ∧ GEnv.get env 2 = .int .u64 (N : Int) ∧ GEnv.get env 6 = .ptr 0 0 0 0 ∧ GEnv.get env 9 = .int .u64 (u : Int) ∧ GEnv.get env 10 = .int .u64 ((b % f : Nat) : Int)) ?_ ?_
  ·refine Zp rfl rfl (fun hp => ?_) (fun hp => ?_)
   ·refine Zr rfl (by simp (maxSteps := 2000000) only [gs,zlr,reduceIte,reduceCtorEq,zpa,zpb,zpc,zpd,zpe,zpf,zpg,zph,zpi,zpj,zpk,zpl,zpm,zpn,zpo,zpp, w1, w2 (a % f) (by omega)]; rfl) ?_
    exact Za rfl ⟨rfl, N - 1 - a % f, by omega, rfl, rfl, rfl, rfl, rfl⟩
   ·exact Za rfl ⟨rfl, a % f, by omega, rfl, rfl, rfl, rfl, rfl⟩
  rintro env h ⟨rfl, u, hu, k1, k2, k6, k9, k10⟩
  refine Zr rfl (by simp (maxSteps := 2000000) only [gs,zlr,reduceIte,reduceCtorEq,zpa,zpb,zpc,zpd,zpe,zpf,zpg,zph,zpi,zpj,zpk,zpl,zpm,zpn,zpo,zpp, k1]; rfl) ?_
  refine Zj rfl (fun env h => h = [.box [.int .u32 0, .int .u32 0]] ∧ ∃ v : Nat, v < N ∧ GEnv.get env 6 = .ptr 0 0 0 0 ∧ GEnv.get env 9 = .int .u64 (u : Int) ∧ GEnv.get env 10 = .int .u64 (v : Int)) ?_ ?_
  ·refine Zp rfl rfl (fun hp => ?_) (fun hp => ?_)
   ·refine Zr rfl (by simp (maxSteps := 2000000) only [gs,zlr,reduceIte,reduceCtorEq,zpa,zpb,zpc,zpd,zpe,zpf,zpg,zph,zpi,zpj,zpk,zpl,zpm,zpn,zpo,zpp, k2, k10, w1, w2 (b % f) (by omega)]; rfl) ?_
    exact Za rfl ⟨rfl, N - 1 - b % f, by omega, by simp [GEnv.get, k6], by simp [GEnv.get, k9], by simp [GEnv.get]⟩
   ·exact Za rfl ⟨rfl, b % f, by omega, by simp [GEnv.get, k6], by simp [GEnv.get, k9], by simp [GEnv.get, k10]⟩
  rintro env h ⟨rfl, v, hv, k6, k9, k10⟩
  refine Zr rfl (by simp (maxSteps := 2000000) only [gs,zlr,reduceIte,reduceCtorEq,zpa,zpb,zpc,zpd,zpe,zpf,zpg,zph,zpi,zpj,zpk,zpl,zpm,zpn,zpo,zpp, k9, k10]; rfl) ?_
  refine Zc rfl rfl (fun hx => ?_) (fun hx => ?_)
  ·refine Zr rfl (by simp (maxSteps := 2000000) only [gs,zlr,reduceIte,reduceCtorEq,zpa,zpb,zpc,zpd,zpe,zpf,zpg,zph,zpi,zpj,zpk,zpl,zpm,zpn,zpo,zpp, k6]; rfl) (Zq rfl ⟨_, (by simp [gres, gload, GEnv.get, k6, gof, cut, shares, U.share, U.handed]; rfl), _, _, rfl, 0, 0, false, rfl, rfl, fun h => absurd h (by simp)⟩)
  ·refine Zr rfl (by simp (maxSteps := 2000000) only [gs,zlr,reduceIte,reduceCtorEq,zpa,zpb,zpc,zpd,zpe,zpf,zpg,zph,zpi,zpj,zpk,zpl,zpm,zpn,zpo,zpp, k6, k9, k10]; rfl) (Zq rfl ⟨_, (by simp [gres, gload, GEnv.get, k6, gof, cut, shares, U.share, U.handed]; rfl), _, _, rfl, _, _, true, rfl, rfl, fun _ => by
    have hne : u ≠ v := fun h => by subst h; simp at hx
    have wu : IntKind.u32.wrap ((u : Nat) : Int) = (u : Int) := by rw [wrap_u32_nat, Nat.mod_eq_of_lt (by omega)]
    have wv : IntKind.u32.wrap ((v : Nat) : Int) = (v : Int) := by rw [wrap_u32_nat, Nat.mod_eq_of_lt (by omega)]
    rcases Nat.lt_or_gt_of_ne hne with h | h
    ·rw [if_neg (by omega), if_pos (by omega), wu, wv]; omega
    ·rw [if_pos (by omega), if_neg (by omega), wu, wv]; omega⟩)
 obtain ⟨u, h', h1, x, y, ok, rfl, rfl, h2⟩ := key
 exact ⟨x, y, ok, h1, h2⟩
def TimesQ (N : Nat) (l : List Ev) (b : Int) : Prop := ∀ e ∈ l, (0 ≤ e.1 ∧ e.1 ≤ b) ∧ (0 ≤ e.2.1 ∧ e.2.1 < e.2.2.1 ∧ e.2.2.1 < (N : Int))
def HEV (N : Nat) (times evs : List Ev) (es : List Ed) : Prop := (∀ (a : Nat) (d e : Ev), evs[a]? = some d → times[a]? = some e → d.1 = e.1 ∧ edOf d = edOf e) ∧ NowOf evs es ∧ RightV (N : Int) evs
theorem hev_step {N : Nat} {times evs : List Ev} {es es' : List Ed} {e : Ev} {b ok : Bool} {i : Nat} (hs : RisV times) (hT : TimesQ N times 1125899906842624) (h : HEV N times evs es) (hl : evs.length = i) (gx : times[i]? = some e) (hb : b = decide ((e.2.1, e.2.2.1) ∈ es)) (t : TurnR es (e.1, e.2.1, e.2.2.1, !b) ok es') : HEV N times (evs ++ [(e.1, e.2.1, e.2.2.1, !b)]) es' := by
 obtain ⟨h1, h2, h3⟩ := h
 have hed : edOf (e.1, e.2.1, e.2.2.1, !b) = edOf e := rfl
 have hok : ok = true := t.1.2 ⟨h2.1, by
  rw [hed, hb]
  by_cases hm : edOf e ∈ es
  ·have hm' : (e.2.1, e.2.2.1) ∈ es := hm
   simp [hm, hm']
  ·have hm' : (e.2.1, e.2.2.1) ∉ es := hm
   simp [hm, hm']⟩
 obtain ⟨t1, t2⟩ := t.2 hok
 have hq := hT e (List.mem_of_getElem? gx)
 refine ⟨fun a d f hd hf => ?_, now_turn h2 t1 t2, RightV.snoc h3 ⟨hq.1.1, by have := hq.1.2; simp only; omega⟩ ⟨hq.2.2.1, hq.2.2.2⟩ (fun d h0 hd => ?_) ?_⟩
 ·by_cases ha : a < evs.length
  ·rw [List.getElem?_append_left ha] at hd
   exact h1 a d f hd hf
  ·rw [List.getElem?_append_right (by omega)] at hd
   have hl1 := (List.getElem?_eq_some_iff.1 hd).1
   simp at hl1
   have hai : a = i := by omega
   subst hai
   rw [hl, Nat.sub_self] at hd
   rw [gx] at hf
   cases hf; cases hd; exact ⟨rfl, rfl⟩
 ·have hti := (List.getElem?_eq_some_iff.1 gx).1
  have gp : times[evs.length - 1]? = some (times[evs.length - 1]'(by omega)) := List.getElem?_eq_getElem _
  obtain ⟨p1, p2⟩ := h1 _ d _ hd gp
  have := List.pairwise_iff_getElem.1 hs (evs.length - 1) i (by omega) hti (by omega)
  rw [(List.getElem?_eq_some_iff.1 gx).2] at this
  unfold ltV at this ⊢
  rw [p1, p2, hed]
  exact this
 ·rw [hed]
  have := h2.2 (edOf e)
  show onL evs (edOf e) ≠ !b
  rw [hb]
  by_cases hm : edOf e ∈ es
  ·have hm' : (e.2.1, e.2.2.1) ∈ es := hm
   rw [this.1 hm]; simp [hm']
  ·have hm' : (e.2.1, e.2.2.1) ∉ es := hm
   have : onL evs (edOf e) = false := by
    cases ho : onL evs (edOf e) with
    | false => rfl
    | true => exact absurd (this.2 ho) hm
   rw [this]; simp [hm']
set_option maxHeartbeats 2000000 in
theorem history_R {k : Nat} {l : List Nat} (hk : k < 256) (hl : ∀ x ∈ l, x < 256) (hlen : l.length ≤ 90) : ∃ (N : Nat) (v : U) (evs : List Ev), GF gtab fid_archipelagoseat_History [.int .u8 k, .list false 1 (un .u8 l)] [] 0 = some (.agg [.int .u64 (N : Int), v], []) ∧ isVa v evs ∧ SortT evs ∧ TimesIn evs 1125899906842624 ∧ evs.length ≤ 60 ∧ N ≤ 4294967296 ∧ RightV N evs ∧ EvOk evs := by
 obtain ⟨N, n1, n2, VV⟩ := vertices_R hk
 have key : ∃ u h', GF gtab fid_archipelagoseat_History [.int .u8 k, .list false 1 (un .u8 l)] [] 0 = some (u, h') ∧ ∃ (v : U) (evs : List Ev), u = .agg [.int .u64 (N : Int), v] ∧ h' = [] ∧ isVa v evs ∧ SortT evs ∧ TimesIn evs 1125899906842624 ∧ evs.length ≤ 60 ∧ N ≤ 4294967296 ∧ RightV N evs ∧ EvOk evs := by
  refine fnR_archipelagoseat_History rfl ?_
  simp only [genvOf]
  have mk : ((k : Nat) : Int).tmod 3 = ((k % 3 : Nat) : Int) := rfl
  have wk : IntKind.i64.wrap ((k % 3 : Nat) : Int) = ((k % 3 : Nat) : Int) := wrap_i64_nat (by omega)
  refine Zr rfl (by simp (maxSteps := 2000000) only [gs,zlr,reduceIte,reduceCtorEq,zpa,zpb,zpc,zpd,zpe,zpf,zpg,zph,zpi,zpj,zpk,zpl,zpm,zpn,zpo,zpp]; rfl) ?_
  refine Zr rfl (by simp (maxSteps := 2000000) only [gs,zlr,reduceIte,reduceCtorEq,zpa,zpb,zpc,zpd,zpe,zpf,zpg,zph,zpi,zpj,zpk,zpl,zpm,zpn,zpo,zpp, gc_archipelagoseat_Vertices, VV]; rfl) ?_
  refine Zr rfl (by simp (maxSteps := 2000000) only [gs,zlr,reduceIte,reduceCtorEq,zpa,zpb,zpc,zpd,zpe,zpf,zpg,zph,zpi,zpj,zpk,zpl,zpm,zpn,zpo,zpp, mk, wk]; rfl) ?_
  refine Zr rfl (by simp (maxSteps := 2000000) only [gs,zlr,reduceIte,reduceCtorEq,zpa,zpb,zpc,zpd,zpe,zpf,zpg,zph,zpi,zpj,zpk,zpl,zpm,zpn,zpo,zpp]; rfl) ?_
  refine Zr rfl (by simp (maxSteps := 2000000) only [gs,zlr,reduceIte,reduceCtorEq,zpa,zpb,zpc,zpd,zpe,zpf,zpg,zph,zpi,zpj,zpk,zpl,zpm,zpn,zpo,zpp]; rfl) ?_
  refine Zw rfl (fun n env h => ∃ (j t : Nat) (w : U) (times : List Ev) (tail : GH), n + j = 30 ∧ h = .box [.int .u64 0, .nils] :: .box [.int .u64 (N : Int), .nils] :: tail ∧ t ≤ 3 + j * 549755813892 ∧ isV w times ∧ RisV times ∧ TimesQ N times t ∧ times.length ≤ j ∧ GEnv.get env 1 = .list false 1 (un .u8 l) ∧ GEnv.get env 4 = .ptr 0 0 0 0 ∧ GEnv.get env 5 = .ptr 1 0 0 0 ∧ GEnv.get env 6 = .int .i64 (t : Int) ∧ GEnv.get env 7 = w ∧ GEnv.get env 8 = .int .i64 ((3 * j : Nat) : Int)) 30 ⟨0, k % 3, .nils, [], [], rfl, rfl, by omega, .inr (.inr ⟨rfl, rfl⟩), List.Pairwise.nil, fun e h => absurd h (by simp), by simp, rfl, rfl, rfl, rfl, rfl, rfl⟩ ?_
  rintro n env h ⟨j, t, w, times, tail, hn, rfl, ht, hw, hs, hti, htl, k1, k4, k5, k6, k7, k8⟩
  simp only [GEnv.keep, k1, k4, k5, k6, k7, k8]
  have w2 : IntKind.i64.wrap (((3 * j : Nat) : Int) + 2) = ((3 * j + 2 : Nat) : Int) := wrap_i64_nat (n := 3 * j + 2) (by omega)
  by_cases hc : 3 * j + 2 < l.length
  ·have g1 : (((3 * j + 2 : Nat) : Int) < (l.length : Int)) = True := eq_true (by omega)
   have g40 : ((times.length : Int) < 40) = True := eq_true (by omega)
   refine Zj rfl (fun env h => h = .box [.int .u64 0, .nils] :: .box [.int .u64 (N : Int), .nils] :: tail ∧ ∃ w : U, isVa w times ∧ GEnv.get env 1 = .list false 1 (un .u8 l) ∧ GEnv.get env 4 = .ptr 0 0 0 0 ∧ GEnv.get env 5 = .ptr 1 0 0 0 ∧ GEnv.get env 6 = .int .i64 (t : Int) ∧ GEnv.get env 7 = w ∧ GEnv.get env 8 = .int .i64 ((3 * j : Nat) : Int) ∧ GEnv.get env 29 = .bool true) ?_ ?_
   ·rcases hw with rfl | rfl | ⟨rfl, rfl⟩
    ·refine Zr rfl (by simp (maxSteps := 2000000) only [gs,zlr,reduceIte,reduceCtorEq,zpa,zpb,zpc,zpd,zpe,zpf,zpg,zph,zpi,zpj,zpk,zpl,zpm,zpn,zpo,zpp, w2, un_length, g1, uvs_length, g40]; rfl) ?_
     exact Za rfl ⟨rfl, _, .inl rfl, rfl, rfl, rfl, rfl, rfl, rfl, rfl⟩
    ·refine Zr rfl (by simp (maxSteps := 2000000) only [gs,zlr,reduceIte,reduceCtorEq,zpa,zpb,zpc,zpd,zpe,zpf,zpg,zph,zpi,zpj,zpk,zpl,zpm,zpn,zpo,zpp, w2, un_length, g1, uvs_length, g40]; rfl) ?_
     exact Za rfl ⟨rfl, _, .inl rfl, rfl, rfl, rfl, rfl, rfl, rfl, rfl⟩
    ·refine Zr rfl (by simp (maxSteps := 2000000) only [gs,zlr,reduceIte,reduceCtorEq,zpa,zpb,zpc,zpd,zpe,zpf,zpg,zph,zpi,zpj,zpk,zpl,zpm,zpn,zpo,zpp, w2, un_length, g1]; rfl) ?_
     exact Za rfl ⟨rfl, _, .inr ⟨rfl, rfl⟩, rfl, rfl, rfl, rfl, rfl, rfl, rfl⟩
   rintro env h ⟨rfl, w, hw, k1, k4, k5, k6, k7, k8, k29⟩
   refine Zc rfl (x := true) k29 (fun _ => ?_) (fun h => by cases h)
   have gx : l[3 * j]? = some (l[3 * j]'(by omega)) := List.getElem?_eq_getElem _
   have gy : l[3 * j + 1]? = some (l[3 * j + 1]'(by omega)) := List.getElem?_eq_getElem _
   have gz : l[3 * j + 2]? = some (l[3 * j + 2]'hc) := List.getElem?_eq_getElem _
   have hx := hl _ (List.mem_of_getElem? gx)
   have hy := hl _ (List.mem_of_getElem? gy)
   have hz := hl _ (List.mem_of_getElem? gz)
   generalize l[3 * j]'(by omega) = x at gx hx
   generalize l[3 * j + 1]'(by omega) = y at gy hy
   generalize l[3 * j + 2]'hc = z at gz hz
   have i0 : ((0 : Int) ≤ ((3 * j : Nat) : Int)) = True := eq_true (by omega)
   have i1 : ((0 : Int) ≤ ((3 * j + 1 : Nat) : Int)) = True := eq_true (by omega)
   have i2 : ((0 : Int) ≤ ((3 * j + 2 : Nat) : Int)) = True := eq_true (by omega)
   have m4 : ((x : Nat) : Int).tmod 4 = ((x % 4 : Nat) : Int) := rfl
   have w4 : IntKind.i64.wrap ((x % 4 : Nat) : Int) = ((x % 4 : Nat) : Int) := wrap_i64_nat (by omega)
   have wt : IntKind.i64.wrap ((t : Int) + ((x % 4 : Nat) : Int)) = ((t + x % 4 : Nat) : Int) := wrap_i64_nat (n := t + x % 4) (by omega)
   refine Zr rfl (by simp (maxSteps := 2000000) only [gs,zlr,reduceIte,reduceCtorEq,zpa,zpb,zpc,zpd,zpe,zpf,zpg,zph,zpi,zpj,zpk,zpl,zpm,zpn,zpo,zpp, k1, k6, k8, i0, un_get gx, m4, w4, wt]; rfl) ?_
   refine Zr rfl (by simp (maxSteps := 2000000) only [gs,zlr,reduceIte,reduceCtorEq,zpa,zpb,zpc,zpd,zpe,zpf,zpg,zph,zpi,zpj,zpk,zpl,zpm,zpn,zpo,zpp, k1, k8, i0, un_get gx]; rfl) ?_
   refine Zj rfl (fun env h => h = .box [.int .u64 0, .nils] :: .box [.int .u64 (N : Int), .nils] :: tail ∧ ∃ t' : Nat, t ≤ t' ∧ t' ≤ t + 549755813892 ∧ GEnv.get env 1 = .list false 1 (un .u8 l) ∧ GEnv.get env 4 = .ptr 0 0 0 0 ∧ GEnv.get env 5 = .ptr 1 0 0 0 ∧ GEnv.get env 6 = .int .i64 (t' : Int) ∧ GEnv.get env 7 = w ∧ GEnv.get env 8 = .int .i64 ((3 * j : Nat) : Int)) ?_ ?_
   ·refine Zp rfl rfl (fun hp => ?_) (fun hp => ?_)
    ·have m40 : ((x : Nat) : Int).tmod 40 = ((x % 40 : Nat) : Int) := rfl
     have s0 : (((x % 40 : Nat) : Int) < 0) = False := eq_false (by omega)
     have p39 : 2 ^ (x % 40) ≤ 549755813888 := Nat.le_trans (Nat.pow_le_pow_right (by omega) (show x % 40 ≤ 39 by omega)) (by decide)
     have ppos := Nat.two_pow_pos (x % 40)
     have hm64 : min (x % 40) IntKind.i64.bits = x % 40 := Nat.min_eq_left (Nat.le_trans (Nat.le_of_lt (Nat.mod_lt x (show 0 < 40 by omega))) (by decide))
     have hsh : IntKind.i64.wrap (1 * 2 ^ min (x % 40) IntKind.i64.bits) = ((2 ^ (x % 40) : Nat) : Int) := by
      rw [hm64, Int.one_mul]
      have : ((2 : Int) ^ (x % 40)) = ((2 ^ (x % 40) : Nat) : Int) := by rw [Int.natCast_pow]; rfl
      rw [this]
      exact wrap_i64_nat (by omega)
     have wadd : IntKind.i64.wrap (((t + x % 4 : Nat) : Int) + ((2 ^ (x % 40) : Nat) : Int)) = ((t + x % 4 + 2 ^ (x % 40) : Nat) : Int) := wrap_i64_nat (n := t + x % 4 + 2 ^ (x % 40)) (by omega)
     refine Zr rfl (by simp (maxSteps := 2000000) only [gs,zlr,reduceIte,reduceCtorEq,zpa,zpb,zpc,zpd,zpe,zpf,zpg,zph,zpi,zpj,zpk,zpl,zpm,zpn,zpo,zpp, k1, k8, i0, un_get gx, m40, s0, hsh, wadd]; rfl) ?_
     exact Za rfl ⟨rfl, t + x % 4 + 2 ^ (x % 40), by omega, by omega, by simp [GEnv.get, k1], by simp [GEnv.get, k4], by simp [GEnv.get, k5], by simp [GEnv.get], by simp [GEnv.get, k7], by simp [GEnv.get, k8]⟩
    ·exact Za rfl ⟨rfl, t + x % 4, by omega, by omega, by simp [GEnv.get, k1], by simp [GEnv.get, k4], by simp [GEnv.get, k5], by simp [GEnv.get], by simp [GEnv.get, k7], by simp [GEnv.get, k8]⟩
   rintro env h ⟨rfl, t', ht1, ht2, k1, k4, k5, k6, k7, k8⟩
   have wi1 : IntKind.i64.wrap (((3 * j : Nat) : Int) + 1) = ((3 * j + 1 : Nat) : Int) := wrap_i64_nat (n := 3 * j + 1) (by omega)
   obtain ⟨ex, ey, ok, E, EE⟩ := edge_R hy hz n1 n2
   refine Zd rfl (by simp (maxSteps := 2000000) only [gs,gd,zlr,id,reduceIte,reduceCtorEq,zpa,zpb,zpc,zpd,zpe,zpf,zpg,zph,zpi,zpj,zpk,zpl,zpm,zpn,zpo,zpp, k1, k5, k8, wi1, w2, i1, i2, un_get gy, un_get gz, gc_archipelagoseat_Edge, iq_archipelagoseat_Edge, E, rapp_eq, rapp_set]; rfl) ?_
   refine Zr rfl (by simp (maxSteps := 2000000) only [gs,zlr,reduceIte,reduceCtorEq,zpa,zpb,zpc,zpd,zpe,zpf,zpg,zph,zpi,zpj,zpk,zpl,zpm,zpn,zpo,zpp]; rfl) ?_
   have wi3 : IntKind.i64.wrap (((3 * j : Nat) : Int) + 3) = ((3 * (j + 1) : Nat) : Int) := wrap_i64_nat (n := 3 * (j + 1)) (by omega)
   have hti' : TimesQ N times (t' : Int) := fun e he => ⟨⟨(hti e he).1.1, by have := (hti e he).1.2; omega⟩, (hti e he).2⟩
   cases ok with
   | false =>
    refine Zc rfl rfl (fun h => by cases h) (fun _ => ?_)
    refine Zr rfl (by simp (maxSteps := 2000000) only [gs,zlr,reduceIte,reduceCtorEq,zpa,zpb,zpc,zpd,zpe,zpf,zpg,zph,zpi,zpj,zpk,zpl,zpm,zpn,zpo,zpp, k8, wi3]; rfl) ?_
    refine Za rfl ⟨n - 1, by omega, j + 1, t', w, times, _, by omega, rfl, by omega, ?_, hs, hti', by omega, by simp [GEnv.get, k1], by simp [GEnv.get, k4], by simp [GEnv.get, k5], by simp [GEnv.get, k6], by simp [GEnv.get, k7], by simp [GEnv.get]⟩
    rcases hw with h | h
    ·exact .inl h
    ·exact .inr (.inr h)
   | true =>
    obtain ⟨v, times', I, i1, i2, i3, i4⟩ := insert_R (e := ((t' : Int), ex, ey, false)) hw (by omega) hs
    have hti2 : TimesQ N times' (t' : Int) := fun e he => by
     rcases i4 e he with h | rfl
     ·exact hti' e h
     ·exact ⟨⟨by simp only; omega, by simp only; omega⟩, EE rfl⟩
    refine Zc rfl rfl (fun _ => ?_) (fun h => by cases h)
    rcases hw with rfl | ⟨rfl, rfl⟩
    all_goals
     rcases i1 with rfl | rfl | ⟨rfl, rfl⟩
     ·refine Zr rfl (by simp (maxSteps := 2000000) only [gs,zlr,reduceIte,reduceCtorEq,zpa,zpb,zpc,zpd,zpe,zpf,zpg,zph,zpi,zpj,zpk,zpl,zpm,zpn,zpo,zpp, k6, k7, rapp_eq, gc_archipelagoseat_insert, snapLL_uvs, I]; rfl) ?_
      refine Zr rfl (by simp (maxSteps := 2000000) only [gs,zlr,reduceIte,reduceCtorEq,zpa,zpb,zpc,zpd,zpe,zpf,zpg,zph,zpi,zpj,zpk,zpl,zpm,zpn,zpo,zpp, k8, wi3]; rfl) ?_
      exact Za rfl ⟨n - 1, by omega, j + 1, t', .list false 4 (uvs times'), times', _, by omega, rfl, by omega, .inl rfl, i2, hti2, by omega, by simp [GEnv.get, k1], by simp [GEnv.get, k4], by simp [GEnv.get, k5], by simp [GEnv.get, k6], by simp [GEnv.get], by simp [GEnv.get]⟩
     ·refine Zr rfl (by simp (maxSteps := 2000000) only [gs,zlr,reduceIte,reduceCtorEq,zpa,zpb,zpc,zpd,zpe,zpf,zpg,zph,zpi,zpj,zpk,zpl,zpm,zpn,zpo,zpp, k6, k7, rapp_eq, gc_archipelagoseat_insert, snapLL_uvs, I]; rfl) ?_
      refine Zr rfl (by simp (maxSteps := 2000000) only [gs,zlr,reduceIte,reduceCtorEq,zpa,zpb,zpc,zpd,zpe,zpf,zpg,zph,zpi,zpj,zpk,zpl,zpm,zpn,zpo,zpp, k8, wi3]; rfl) ?_
      exact Za rfl ⟨n - 1, by omega, j + 1, t', .own 4 (uvs times'), times', _, by omega, rfl, by omega, .inr (.inl rfl), i2, hti2, by omega, by simp [GEnv.get, k1], by simp [GEnv.get, k4], by simp [GEnv.get, k5], by simp [GEnv.get, k6], by simp [GEnv.get], by simp [GEnv.get]⟩
     ·refine Zr rfl (by simp (maxSteps := 2000000) only [gs,zlr,reduceIte,reduceCtorEq,zpa,zpb,zpc,zpd,zpe,zpf,zpg,zph,zpi,zpj,zpk,zpl,zpm,zpn,zpo,zpp, k6, k7, rapp_eq, gc_archipelagoseat_insert, snapLL_uvs, I]; rfl) ?_
      refine Zr rfl (by simp (maxSteps := 2000000) only [gs,zlr,reduceIte,reduceCtorEq,zpa,zpb,zpc,zpd,zpe,zpf,zpg,zph,zpi,zpj,zpk,zpl,zpm,zpn,zpo,zpp, k8, wi3]; rfl) ?_
      exact Za rfl ⟨n - 1, by omega, j + 1, t', .nils, [], _, by omega, rfl, by omega, .inr (.inr ⟨rfl, rfl⟩), i2, hti2, by simp, by simp [GEnv.get, k1], by simp [GEnv.get, k4], by simp [GEnv.get, k5], by simp [GEnv.get, k6], by simp [GEnv.get], by simp [GEnv.get]⟩
  ·have g1 : (((3 * j + 2 : Nat) : Int) < (l.length : Int)) = False := eq_false (by omega)
   have hTb : TimesQ N times 1125899906842624 := fun e he => ⟨⟨(hti e he).1.1, by have := (hti e he).1.2; omega⟩, (hti e he).2⟩
   refine Zr rfl (by simp (maxSteps := 2000000) only [gs,zlr,reduceIte,reduceCtorEq,zpa,zpb,zpc,zpd,zpe,zpf,zpg,zph,zpi,zpj,zpk,zpl,zpm,zpn,zpo,zpp, w2, un_length, g1]; rfl) (Zc rfl rfl (fun h => by cases h) (fun _ => ?_))
   refine Zr rfl (by simp (maxSteps := 2000000) only [gs,zlr,reduceIte,reduceCtorEq,zpa,zpb,zpc,zpd,zpe,zpf,zpg,zph,zpi,zpj,zpk,zpl,zpm,zpn,zpo,zpp]; rfl) ?_
   refine Zr rfl (by simp (maxSteps := 2000000) only [gs,zlr,reduceIte,reduceCtorEq,zpa,zpb,zpc,zpd,zpe,zpf,zpg,zph,zpi,zpj,zpk,zpl,zpm,zpn,zpo,zpp]; rfl) ?_
   refine Zw rfl (fun q env h => ∃ (i : Nat) (w now W : U) (es : List Ed) (evs : List Ev) (tail : GH), q + i = times.length ∧ h = .box [.int .u64 0, .nils] :: .box [.int .u64 (N : Int), W] :: tail ∧ isV w times ∧ isE now es ∧ es.length ≤ i ∧ (W = .own 4 (uvs evs) ∨ (W = .nils ∧ evs = [])) ∧ evs.length = i ∧ HEV N times evs es ∧ GEnv.get env 4 = .ptr 0 0 0 0 ∧ GEnv.get env 5 = .ptr 1 0 0 0 ∧ GEnv.get env 7 = w ∧ GEnv.get env 11 = now ∧ GEnv.get env 12 = .int .i64 (i : Int)) times.length ⟨0, w, .nils, .nils, [], [], tail, rfl, rfl, hw, .inr (.inr ⟨rfl, rfl⟩), by simp, .inr ⟨rfl, rfl⟩, rfl, ⟨fun a d e h _ => absurd h (by simp), ⟨List.Pairwise.nil, fun x => by simp [onL]⟩, RightV.nil (by omega)⟩, by simp [GEnv.get], by simp [GEnv.get], by simp [GEnv.get], by simp [GEnv.get], by simp [GEnv.get]⟩ ?_
   clear k1 k4 k5 k6 k7 k8 hw
   rintro q env h ⟨i, w, now, W, es, evs, tail, hq, rfl, hw, hnow, hesl, hW, hevl, hev, k4, k5, k7, k11, k12⟩
   simp only [GEnv.keep, k4, k5, k7, k11, k12]
   by_cases hi : i < times.length
   ·have gi : ((i : Int) < (times.length : Int)) = True := eq_true (by omega)
    have i0 : ((0 : Int) ≤ (i : Int)) = True := eq_true (by omega)
    have gx : times[i]? = some (times[i]'hi) := List.getElem?_eq_getElem _
    generalize times[i]'hi = e at gx
    have hinc := up64 (show i < 9223372036854775807 by omega)
    refine Zj rfl (fun env h => h = .box [.int .u64 0, .nils] :: .box [.int .u64 (N : Int), W] :: tail ∧ GEnv.get env 4 = .ptr 0 0 0 0 ∧ GEnv.get env 5 = .ptr 1 0 0 0 ∧ GEnv.get env 7 = .list false 4 (uvs times) ∧ GEnv.get env 11 = now ∧ GEnv.get env 12 = .int .i64 (i : Int) ∧ GEnv.get env 78 = .bool true) ?_ ?_
    ·rcases hw with rfl | rfl | ⟨rfl, rfl⟩
     ·refine Zr rfl (by simp (maxSteps := 2000000) only [gs,zlr,reduceIte,reduceCtorEq,zpa,zpb,zpc,zpd,zpe,zpf,zpg,zph,zpi,zpj,zpk,zpl,zpm,zpn,zpo,zpp, uvs_length, gi]; rfl) ?_
      exact Za rfl ⟨rfl, rfl, rfl, rfl, rfl, rfl, rfl⟩
     ·refine Zr rfl (by simp (maxSteps := 2000000) only [gs,zlr,reduceIte,reduceCtorEq,zpa,zpb,zpc,zpd,zpe,zpf,zpg,zph,zpi,zpj,zpk,zpl,zpm,zpn,zpo,zpp, uvs_length, gi]; rfl) ?_
      exact Za rfl ⟨rfl, rfl, rfl, rfl, rfl, rfl, rfl⟩
     ·simp at hi
    rintro env h ⟨rfl, k4, k5, k7, k11, k12, k78⟩
    refine Zc rfl (x := true) k78 (fun _ => ?_) (fun h => by cases h)
    refine Zr rfl (by simp (maxSteps := 2000000) only [gs,zlr,reduceIte,reduceCtorEq,zpa,zpb,zpc,zpd,zpe,zpf,zpg,zph,zpi,zpj,zpk,zpl,zpm,zpn,zpo,zpp, k7, k12, i0, uvs_get gx, rapp_eq, rapp_set]; rfl) ?_
    have hna : isEa (now.share) es := by
     rcases hnow with rfl | rfl | ⟨rfl, rfl⟩
     ·exact .inl rfl
     ·exact .inl rfl
     ·exact .inr ⟨rfl, rfl⟩
    have HS := has_R (e := (e.2.1, e.2.2.1)) hna (by omega)
    obtain ⟨b, hb⟩ : ∃ b, b = decide ((e.2.1, e.2.2.1) ∈ es) := ⟨_, rfl⟩
    rw [← hb] at HS
    obtain ⟨v, ok, es', TU, tu1, tu2, tu3⟩ := turn_R (e := (e.1, e.2.1, e.2.2.1, !b)) hna (by omega)
    refine Zj rfl (fun env h => h = .box [.int .u64 0, .nils] :: .box [.int .u64 (N : Int), W] :: (tail ++ [.box [.int .i64 e.1, .int .u32 e.2.1, .int .u32 e.2.2.1, .bool (!b)]]) ∧ GEnv.get env 4 = .ptr 0 0 0 0 ∧ GEnv.get env 5 = .ptr 1 0 0 0 ∧ GEnv.get env 7 = .list false 4 (uvs times) ∧ GEnv.get env 11 = now.share ∧ GEnv.get env 12 = .int .i64 (i : Int) ∧ GEnv.get env 13 = .ptr (tail.length + 1 + 1) 0 0 0) ?_ ?_
    ·rcases hnow with rfl | rfl | ⟨rfl, rfl⟩
     all_goals
      simp only [U.share] at HS
      refine Zr rfl (by simp (maxSteps := 2000000) only [gs,zlr,reduceIte,reduceCtorEq,zpa,zpb,zpc,zpd,zpe,zpf,zpg,zph,zpi,zpj,zpk,zpl,zpm,zpn,zpo,zpp, k11, rapp_eq, rapp_set, gc_archipelagoref8_Has, snapLL_ues, HS]; rfl) ?_
      exact Za rfl ⟨rfl, by simp [GEnv.get, k4], by simp [GEnv.get, k5], by simp [GEnv.get, k7], by simp [GEnv.get, k11, U.share], by simp [GEnv.get, k12], by simp [GEnv.get]⟩
    rintro env h ⟨rfl, k4, k5, k7, k11, k12, k13⟩
    refine Zj rfl (fun env h => h = .box [.int .u64 0, .nils] :: .box [.int .u64 (N : Int), W] :: (tail ++ [.box [.int .i64 e.1, .int .u32 e.2.1, .int .u32 e.2.2.1, .bool (!b)]]) ∧ GEnv.get env 4 = .ptr 0 0 0 0 ∧ GEnv.get env 5 = .ptr 1 0 0 0 ∧ GEnv.get env 7 = .list false 4 (uvs times) ∧ isE (GEnv.get env 11) es' ∧ GEnv.get env 12 = .int .i64 (i : Int) ∧ GEnv.get env 13 = .ptr (tail.length + 1 + 1) 0 0 0) ?_ ?_
    ·rcases hna with hn2 | ⟨hn2, rfl⟩
     all_goals
      rw [hn2] at TU k11
      rcases tu1 with rfl | rfl | ⟨rfl, rfl⟩
      ·refine Zr rfl (by simp (maxSteps := 2000000) only [gs,zlr,reduceIte,reduceCtorEq,zpa,zpb,zpc,zpd,zpe,zpf,zpg,zph,zpi,zpj,zpk,zpl,zpm,zpn,zpo,zpp, k11, k13, rapp_eq, gc_archipelagoref8_Turn, snapLL_ues, TU]; rfl) ?_
       exact Za rfl ⟨rfl, by simp [GEnv.get, k4], by simp [GEnv.get, k5], by simp [GEnv.get, k7], .inl (by simp [GEnv.get]), by simp [GEnv.get, k12], by simp [GEnv.get, k13]⟩
      ·refine Zr rfl (by simp (maxSteps := 2000000) only [gs,zlr,reduceIte,reduceCtorEq,zpa,zpb,zpc,zpd,zpe,zpf,zpg,zph,zpi,zpj,zpk,zpl,zpm,zpn,zpo,zpp, k11, k13, rapp_eq, gc_archipelagoref8_Turn, snapLL_ues, TU]; rfl) ?_
       exact Za rfl ⟨rfl, by simp [GEnv.get, k4], by simp [GEnv.get, k5], by simp [GEnv.get, k7], .inr (.inl (by simp [GEnv.get])), by simp [GEnv.get, k12], by simp [GEnv.get, k13]⟩
      ·refine Zr rfl (by simp (maxSteps := 2000000) only [gs,zlr,reduceIte,reduceCtorEq,zpa,zpb,zpc,zpd,zpe,zpf,zpg,zph,zpi,zpj,zpk,zpl,zpm,zpn,zpo,zpp, k11, k13, rapp_eq, gc_archipelagoref8_Turn, snapLL_ues, TU]; rfl) ?_
       exact Za rfl ⟨rfl, by simp [GEnv.get, k4], by simp [GEnv.get, k5], by simp [GEnv.get, k7], .inr (.inr ⟨by simp [GEnv.get], rfl⟩), by simp [GEnv.get, k12], by simp [GEnv.get, k13]⟩
    rintro env h ⟨rfl, k4, k5, k7, k11, k12, k13⟩
    have one_e : ([[U.int .i64 e.1, .int .u32 e.2.1, .int .u32 e.2.2.1, .bool (!b)]] : List (List U)) = uvs [(e.1, e.2.1, e.2.2.1, !b)] := rfl
    have hev2 : HEV N times (evs ++ [(e.1, e.2.1, e.2.2.1, !b)]) es' := hev_step hs hTb hev hevl gx hb tu3
    rcases hW with rfl | ⟨rfl, rfl⟩
    ·have r1 : ((i + 1) * 24 ≤ room) = True := eq_true (by unfold room; omega)
     have one1 : ([(e.1, e.2.1, e.2.2.1, !b)] : List Ev).length = 1 := rfl
     refine Zr rfl (by simp (maxSteps := 2000000) only [gs,zlr,reduceIte,reduceCtorEq,zpa,zpb,zpc,zpd,zpe,zpf,zpg,zph,zpi,zpj,zpk,zpl,zpm,zpn,zpo,zpp, k5, k13, rapp_eq, one_e, uvs_length, hevl, one1, r1, uvs_append]; rfl) ?_
     refine Zr rfl (by simp (maxSteps := 2000000) only [gs,zlr,reduceIte,reduceCtorEq,zpa,zpb,zpc,zpd,zpe,zpf,zpg,zph,zpi,zpj,zpk,zpl,zpm,zpn,zpo,zpp, k12, hinc]; rfl) ?_
     exact Za rfl ⟨q - 1, by omega, i + 1, .list false 4 (uvs times), _, .own 4 (uvs (evs ++ [(e.1, e.2.1, e.2.2.1, !b)])), es', evs ++ [(e.1, e.2.1, e.2.2.1, !b)], _, by omega, rfl, .inl rfl, k11, by omega, .inl rfl, by rw [List.length_append, hevl]; rfl, hev2, by simp [GEnv.get, k4], by simp [GEnv.get, k5], by simp [GEnv.get, k7], by simp [GEnv.get], by simp [GEnv.get]⟩
    ·have r1 : (1 * 24 ≤ room) = True := eq_true (by unfold room; omega)
     have r2 : (24 ≤ room) = True := eq_true (by unfold room; omega)
     refine Zr rfl (by simp (maxSteps := 2000000) only [gs,zlr,reduceIte,reduceCtorEq,zpa,zpb,zpc,zpd,zpe,zpf,zpg,zph,zpi,zpj,zpk,zpl,zpm,zpn,zpo,zpp, k5, k13, rapp_eq, r1, r2]; rfl) ?_
     refine Zr rfl (by simp (maxSteps := 2000000) only [gs,zlr,reduceIte,reduceCtorEq,zpa,zpb,zpc,zpd,zpe,zpf,zpg,zph,zpi,zpj,zpk,zpl,zpm,zpn,zpo,zpp, k12, hinc]; rfl) ?_
     exact Za rfl ⟨q - 1, by omega, i + 1, .list false 4 (uvs times), _, .own 4 (uvs [(e.1, e.2.1, e.2.2.1, !b)]), es', [(e.1, e.2.1, e.2.2.1, !b)], _, by omega, rfl, .inl rfl, k11, by omega, .inl rfl, by simp at hevl; simp; omega, hev2, by simp [GEnv.get, k4], by simp [GEnv.get, k5], by simp [GEnv.get, k7], by simp [GEnv.get], by simp [GEnv.get]⟩
   ·have hti3 : i = times.length := by omega
    subst hti3
    have gi : ((times.length : Int) < (times.length : Int)) = False := eq_false (by omega)
    have srt : SortT evs := fun a c d d' hac hd hd' => by
     have hc2 := (List.getElem?_eq_some_iff.1 hd').1
     have ga : times[a]? = some (times[a]'(by omega)) := List.getElem?_eq_getElem _
     have gc : times[c]? = some (times[c]'(by omega)) := List.getElem?_eq_getElem _
     rw [(hev.1 a d _ hd ga).1, (hev.1 c d' _ hd' gc).1]
     exact ris_sort hs a c _ _ hac ga gc
    have tin : TimesIn evs 1125899906842624 := fun e he => by
     obtain ⟨a, ha⟩ := List.mem_iff_getElem?.1 he
     have hc2 := (List.getElem?_eq_some_iff.1 ha).1
     have ga : times[a]? = some (times[a]'(by omega)) := List.getElem?_eq_getElem _
     rw [(hev.1 a e _ ha ga).1]
     exact (hTb _ (List.mem_of_getElem? ga)).1
    have eok : EvOk evs := fun e he => by
     obtain ⟨a, ha⟩ := List.mem_iff_getElem?.1 he
     have hc2 := (List.getElem?_eq_some_iff.1 ha).1
     have ga : times[a]? = some (times[a]'(by omega)) := List.getElem?_eq_getElem _
     have h1 := (hev.1 a e _ ha ga).2
     have h2 := (hTb _ (List.mem_of_getElem? ga)).2
     generalize times[a]'(by omega) = f at h1 h2
     simp only [edOf, Prod.mk.injEq] at h1
     omega
    refine Zj rfl (fun env h => h = .box [.int .u64 0, .nils] :: .box [.int .u64 (N : Int), W] :: tail ∧ GEnv.get env 4 = .ptr 0 0 0 0 ∧ GEnv.get env 5 = .ptr 1 0 0 0 ∧ GEnv.get env 78 = .bool false) ?_ ?_
    ·rcases hw with rfl | rfl | ⟨rfl, rfl⟩
     ·refine Zr rfl (by simp (maxSteps := 2000000) only [gs,zlr,reduceIte,reduceCtorEq,zpa,zpb,zpc,zpd,zpe,zpf,zpg,zph,zpi,zpj,zpk,zpl,zpm,zpn,zpo,zpp, uvs_length, gi]; rfl) ?_
      exact Za rfl ⟨rfl, rfl, rfl, rfl⟩
     ·refine Zr rfl (by simp (maxSteps := 2000000) only [gs,zlr,reduceIte,reduceCtorEq,zpa,zpb,zpc,zpd,zpe,zpf,zpg,zph,zpi,zpj,zpk,zpl,zpm,zpn,zpo,zpp, uvs_length, gi]; rfl) ?_
      exact Za rfl ⟨rfl, rfl, rfl, rfl⟩
     ·refine Zr rfl (by simp (maxSteps := 2000000) only [gs,zlr,reduceIte,reduceCtorEq,zpa,zpb,zpc,zpd,zpe,zpf,zpg,zph,zpi,zpj,zpk,zpl,zpm,zpn,zpo,zpp, Int.natCast_zero]; rfl) ?_
      exact Za rfl ⟨rfl, rfl, rfl, rfl⟩
    rintro env h ⟨rfl, k4, k5, k78⟩
    refine Zc rfl (x := false) k78 (fun h => by cases h) (fun _ => ?_)
    rcases hW with rfl | ⟨rfl, rfl⟩
    ·refine Zr rfl (by simp (maxSteps := 2000000) only [gs,zlr,reduceIte,reduceCtorEq,zpa,zpb,zpc,zpd,zpe,zpf,zpg,zph,zpi,zpj,zpk,zpl,zpm,zpn,zpo,zpp, k4, k5]; rfl) (Zq rfl ⟨_, (by simp only [gres, gload, GEnv.get, if_true, if_false, Nat.reduceEqDiff, k4, List.getElem?_cons_zero, gof, cut, shares, U.share, U.handed, lay]; rfl), _, _, (by simp only [gfin, outs, U.out, U.rf, List.drop_zero, List.take_succ_cons, List.take_zero, shares, U.share, rfL, rfLL_uvs, Bool.and_self, Bool.and_true, if_true, Option.map_some]; rfl), .list false 4 (uvs evs), evs, rfl, rfl, .inl rfl, srt, tin, by omega, n2, hev.2.2, eok⟩)
    ·refine Zr rfl (by simp (maxSteps := 2000000) only [gs,zlr,reduceIte,reduceCtorEq,zpa,zpb,zpc,zpd,zpe,zpf,zpg,zph,zpi,zpj,zpk,zpl,zpm,zpn,zpo,zpp, k4, k5]; rfl) (Zq rfl ⟨_, (by simp only [gres, gload, GEnv.get, if_true, if_false, Nat.reduceEqDiff, k4, List.getElem?_cons_zero, gof, cut, shares, U.share, U.handed, lay]; rfl), _, _, rfl, .nils, [], rfl, rfl, .inr ⟨rfl, rfl⟩, srt, tin, by simp, n2, hev.2.2, eok⟩)
 obtain ⟨u, h', h1, v, evs, rfl, rfl, h2, h3, h4, h5, h6⟩ := key
 exact ⟨N, v, evs, h1, h2, h3, h4, h5, h6⟩
end Go.Ab
