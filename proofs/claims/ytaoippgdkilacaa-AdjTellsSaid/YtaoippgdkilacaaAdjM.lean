/- AdjTells: the document's numbers, edges in bytes, Change; the law. -/
import Derived.Test.YtaoippgdkilacaaAdjE
import Derived.Test.YtaoippgdkilacaaValN
import Derived.Test.YtaoippgdkilacaaHistA
import Derived.Test.YtaoippgdkilacaaAdjG
namespace Go.Ab
open Go
open Nat renaming reduceEqDiff → zpa, reduceLT → zpb, reduceAdd → zpc, reduceSub → zpd, reduceLeDiff → zpe, reduceMul → zpf
open Int renaming reduceToNat → zpg, reduceLT → zph, reduceLE → zpi, reduceEq → zpj, reduceNe → zpk, reduceBEq → zpl, reduceBNe → zpm, reduceAdd → zpn, reduceSub → zpo, reduceNeg → zpp
open List renaming replicate → zlr
set_option linter.unusedVariables false
set_option linter.unusedSimpArgs false
set_option maxRecDepth 10000

theorem and127_u64 {v : Nat} (h : v < 18446744073709551616) : bitsOf .and .u64 (v : Int) 127 = some ((v % 128 : Nat) : Int) := by
  have := and_u64 (a := v) (b := 127) h (by omega)
  rw [Nat.and_two_pow_sub_one_eq_mod v 7] at this
  exact this

theorem rvput_G {ls : List Nat} (hv : ∀ v ∈ ls, v < 18446744073709551616) (hne : ls ≠ []) (hr : (putL ls).length ≤ 1000000) :
    GF gtab fid_archipelagoref1_Put [.list false 1 (un .u64 ls)] [] 0 = some (.own 1 (un .u8 (putL ls)), []) := by
  have hlen := putL_length ls
  refine fn_archipelagoref1_Put rfl ?_
  simp only [genvOf]
  refine Zr rfl (by simp (maxSteps := 2000000) only [gs,zlr,reduceIte,reduceCtorEq,zpa,zpb,zpc,zpd,zpe,zpf,zpg,zph,zpi,zpj,zpk,zpl,zpm,zpn,zpo,zpp]; rfl) ?_
  refine Zr rfl (by simp (maxSteps := 2000000) only [gs,zlr,reduceIte,reduceCtorEq,zpa,zpb,zpc,zpd,zpe,zpf,zpg,zph,zpi,zpj,zpk,zpl,zpm,zpn,zpo,zpp]; rfl) ?_
  refine Zr rfl (by simp (maxSteps := 2000000) only [gs,zlr,reduceIte,reduceCtorEq,zpa,zpb,zpc,zpd,zpe,zpf,zpg,zph,zpi,zpj,zpk,zpl,zpm,zpn,zpo,zpp]; rfl) ?_
  refine Zw rfl (fun n env h => h = [] ∧ ∃ i : Nat, n + i = ls.length ∧ GEnv.get env 0 = .list false 1 (un .u64 ls) ∧ GEnv.get env 4 = .int .i64 ((i : Nat) : Int) ∧ isOw (GEnv.get env 3) (putL (ls.take i))) ls.length ⟨rfl, 0, by omega, rfl, rfl, .inl ⟨rfl, rfl⟩⟩ ?_
  rintro n env h ⟨rfl, i, hn, k0, k4, k3⟩
  simp only [GEnv.keep, k0, k4]
  generalize GEnv.get env 3 = s3 at k3 ⊢
  refine Zr rfl (by simp (maxSteps := 2000000) only [gs,zlr,reduceIte,reduceCtorEq,zpa,zpb,zpc,zpd,zpe,zpf,zpg,zph,zpi,zpj,zpk,zpl,zpm,zpn,zpo,zpp, un_length]; rfl) (Zp rfl rfl (fun hi => ?_) (fun hi => ?_))
  · have gx : ls[i]? = some (ls[i]'(by omega)) := List.getElem?_eq_getElem _
    have hvx := hv (ls[i]'(by omega)) (List.getElem_mem _)
    generalize ls[i]'(by omega) = v at gx hvx
    have n0 : ((0 : Int) ≤ (i : Int)) = True := eq_true (by omega)
    have htk : putL (ls.take (i + 1)) = putL (ls.take i) ++ putV v := by
      rw [List.take_add_one, gx, putL_append]; simp [putL]
    have hbd : (putL (ls.take i) ++ putV v).length ≤ 1000000 := by
      rw [← htk]
      have : putL ls = putL (ls.take (i + 1)) ++ putL (ls.drop (i + 1)) := by rw [← putL_append, List.take_append_drop]
      rw [this, List.length_append] at hr; omega
    generalize putL (ls.take i) = bs at k3 htk hbd
    refine Zr rfl (by simp (maxSteps := 2000000) only [gs,zlr,reduceIte,reduceCtorEq,zpa,zpb,zpc,zpd,zpe,zpf,zpg,zph,zpi,zpj,zpk,zpl,zpm,zpn,zpo,zpp, n0, un_get gx]; rfl) ?_
    refine Zw rfl (fun m env h => h = [] ∧ ∃ v' bs', m = v' ∧ v' < 18446744073709551616 ∧ bs' ++ putV v' = bs ++ putV v ∧ GEnv.get env 0 = .list false 1 (un .u64 ls) ∧ GEnv.get env 4 = .int .i64 ((i : Nat) : Int) ∧ GEnv.get env 5 = .int .u64 ((v' : Nat) : Int) ∧ isOw (GEnv.get env 3) bs') v ⟨rfl, v, bs, rfl, hvx, rfl, rfl, rfl, rfl, k3⟩ ?_
    rintro m env h ⟨rfl, v', bs', rfl, hv', hbs', j0, j4, j5, j3⟩
    simp only [GEnv.keep, j0, j4, j5]
    generalize GEnv.get env 3 = s3' at j3 ⊢
    have hl' := congrArg List.length hbs'
    have hpl := putV_length m
    rw [List.length_append] at hl'
    have hr1 : ((bs'.length + 1) * 1 ≤ room) = True := eq_true (by unfold room; omega)
    have hr0 : (1 ≤ room) = True := eq_true (by unfold room; omega)
    refine Zr rfl (by simp (maxSteps := 2000000) only [gs,zlr,reduceIte,reduceCtorEq,zpa,zpb,zpc,zpd,zpe,zpf,zpg,zph,zpi,zpj,zpk,zpl,zpm,zpn,zpo,zpp]; rfl) (Zp rfl rfl (fun hc => ?_) (fun hc => ?_))
    · have hor : bitsOf .or .u8 ((m % 128 % 256 : Nat) : Int) 128 = some ((m % 128 + 128 : Nat) : Int) := by
        have := or_u8 (a := m % 128 % 256) (b := 128) (by omega) (by omega)
        rw [or128 (by omega), show m % 128 % 256 % 128 = m % 128 by omega] at this
        exact this
      have hsh : ((m : Nat) : Int).fdiv (2 ^ min 7 IntKind.u64.bits) = ((m / 128 : Nat) : Int) := shr_nat (k := .u64) (a := m) (s := 7) hv'
      have han := and127_u64 hv'
      rw [putV_big (by omega)] at hbs'
      rcases j3 with ⟨rfl, rfl⟩ | rfl
      · have e1 : [[U.int .u8 ((m % 128 + 128 : Nat) : Int)]] = un .u8 [m % 128 + 128] := rfl
        refine Zr rfl (by simp (maxSteps := 2000000) only [gs,zlr,reduceIte,reduceCtorEq,zpa,zpb,zpc,zpd,zpe,zpf,zpg,zph,zpi,zpj,zpk,zpl,zpm,zpn,zpo,zpp, han, wrap_u8_nat, hor, e1, un_length, List.length_singleton, hr0]; rfl) ?_
        refine Zr rfl (by simp (maxSteps := 2000000) only [gs,zlr,reduceIte,reduceCtorEq,zpa,zpb,zpc,zpd,zpe,zpf,zpg,zph,zpi,zpj,zpk,zpl,zpm,zpn,zpo,zpp, hsh]; rfl) ?_
        exact Za rfl ⟨m / 128, by omega, rfl, m / 128, [m % 128 + 128], rfl, by omega, hbs', rfl, rfl, rfl, .inr rfl⟩
      · refine Zr rfl (by simp (maxSteps := 2000000) only [gs,zlr,reduceIte,reduceCtorEq,zpa,zpb,zpc,zpd,zpe,zpf,zpg,zph,zpi,zpj,zpk,zpl,zpm,zpn,zpo,zpp, han, wrap_u8_nat, hor, un_length, hr1, un_snoc]; rfl) ?_
        refine Zr rfl (by simp (maxSteps := 2000000) only [gs,zlr,reduceIte,reduceCtorEq,zpa,zpb,zpc,zpd,zpe,zpf,zpg,zph,zpi,zpj,zpk,zpl,zpm,zpn,zpo,zpp, hsh]; rfl) ?_
        exact Za rfl ⟨m / 128, by omega, rfl, m / 128, bs' ++ [m % 128 + 128], rfl, by omega, by rw [List.append_assoc]; exact hbs', rfl, rfl, rfl, .inr rfl⟩
    · rw [putV_small (by omega)] at hbs'
      have h256 : m % 256 = m := by omega
      have hinc := up64 (show i < 9223372036854775807 by omega)
      rcases j3 with ⟨rfl, rfl⟩ | rfl
      · have e1 : [[U.int .u8 ((m : Nat) : Int)]] = un .u8 [m] := rfl
        refine Zr rfl (by simp (maxSteps := 2000000) only [gs,zlr,reduceIte,reduceCtorEq,zpa,zpb,zpc,zpd,zpe,zpf,zpg,zph,zpi,zpj,zpk,zpl,zpm,zpn,zpo,zpp, wrap_u8_nat, h256, e1, un_length, List.length_singleton, hr0]; rfl) ?_
        refine Zr rfl (by simp (maxSteps := 2000000) only [gs,zlr,reduceIte,reduceCtorEq,zpa,zpb,zpc,zpd,zpe,zpf,zpg,zph,zpi,zpj,zpk,zpl,zpm,zpn,zpo,zpp, hinc]; rfl) ?_
        exact Za rfl ⟨n - 1, by omega, rfl, i + 1, by omega, rfl, rfl, .inr (by rw [htk, ← hbs']; rfl)⟩
      · refine Zr rfl (by simp (maxSteps := 2000000) only [gs,zlr,reduceIte,reduceCtorEq,zpa,zpb,zpc,zpd,zpe,zpf,zpg,zph,zpi,zpj,zpk,zpl,zpm,zpn,zpo,zpp, wrap_u8_nat, h256, un_length, hr1, un_snoc]; rfl) ?_
        refine Zr rfl (by simp (maxSteps := 2000000) only [gs,zlr,reduceIte,reduceCtorEq,zpa,zpb,zpc,zpd,zpe,zpf,zpg,zph,zpi,zpj,zpk,zpl,zpm,zpn,zpo,zpp, hinc]; rfl) ?_
        exact Za rfl ⟨n - 1, by omega, rfl, i + 1, by omega, rfl, rfl, .inr (by rw [htk, ← hbs']; rfl)⟩
  · have hil : i = ls.length := by omega
    subst hil
    rw [List.take_length] at k3
    rcases k3 with ⟨rfl, h0⟩ | rfl
    · exact absurd h0 (putL_ne hne)
    · refine Zr rfl (by simp only [gs,zlr,reduceIte,reduceCtorEq,zpa,zpb,zpc,zpd,zpe,zpf,zpg,zph,zpi,zpj,zpk,zpl,zpm,zpn,zpo,zpp]; rfl) (Zq rfl ⟨_, rfl, ?_⟩)
      simp only [gfin, outs, U.out, U.handed, GEnv.get, if_true, Nat.reduceEqDiff, if_false, rfLL_un, Option.map_some]
      rfl

theorem rvtake_G {bs : List Nat} {most : Nat} (hb : ∀ c ∈ bs, c < 256) (hm : most < 18446744073709551616) (hl : bs.length ≤ 1000000) :
    GF gtab fid_archipelagoref1_Take [.list false 1 (un .u8 bs), .int .u64 (most : Int)] [] 0 = some (.tup [.int .u64 ((takeV most 0 0 bs).1 : Int), .int .i64 ((takeV most 0 0 bs).2.1 : Int), .int .i64 ((takeV most 0 0 bs).2.2 : Int)], []) := by
  refine fn_archipelagoref1_Take rfl ?_
  simp only [genvOf]
  refine Zr rfl (by simp (maxSteps := 2000000) only [gs,zlr,reduceIte,reduceCtorEq,zpa,zpb,zpc,zpd,zpe,zpf,zpg,zph,zpi,zpj,zpk,zpl,zpm,zpn,zpo,zpp]; rfl) ?_
  refine Zr rfl (by simp (maxSteps := 2000000) only [gs,zlr,reduceIte,reduceCtorEq,zpa,zpb,zpc,zpd,zpe,zpf,zpg,zph,zpi,zpj,zpk,zpl,zpm,zpn,zpo,zpp]; rfl) ?_
  refine Zr rfl (by simp (maxSteps := 2000000) only [gs,zlr,reduceIte,reduceCtorEq,zpa,zpb,zpc,zpd,zpe,zpf,zpg,zph,zpi,zpj,zpk,zpl,zpm,zpn,zpo,zpp]; rfl) ?_
  refine Zw rfl (fun n env h => h = [] ∧ ∃ i v : Nat, n + i = bs.length ∧ GEnv.get env 0 = .list false 1 (un .u8 bs) ∧ GEnv.get env 1 = .int .u64 (most : Int) ∧ GEnv.get env 7 = .int .u64 (v : Int) ∧ GEnv.get env 8 = .int .i64 (i : Int) ∧ v < 18446744073709551616 ∧ takeV most i v (bs.drop i) = takeV most 0 0 bs) bs.length ⟨rfl, 0, 0, by omega, rfl, rfl, rfl, rfl, by omega, rfl⟩ ?_
  rintro n env h ⟨rfl, i, v, hn, k0, k1, k7, k8, hv, hT⟩
  simp only [GEnv.keep, k0, k1, k7, k8]
  refine Zr rfl (by simp (maxSteps := 2000000) only [gs,zlr,reduceIte,reduceCtorEq,zpa,zpb,zpc,zpd,zpe,zpf,zpg,zph,zpi,zpj,zpk,zpl,zpm,zpn,zpo,zpp, un_length]; rfl) (Zp rfl rfl (fun hi => ?_) (fun hi => ?_))
  · have gx : bs[i]? = some (bs[i]'(by omega)) := List.getElem?_eq_getElem _
    have hc := hb (bs[i]'(by omega)) (List.getElem_mem _)
    have hdrop : bs.drop i = bs[i]'(by omega) :: bs.drop (i + 1) := List.drop_eq_getElem_cons (by omega)
    generalize bs[i]'(by omega) = c at gx hc hdrop
    have n0 : ((0 : Int) ≤ (i : Int)) = True := eq_true (by omega)
    have hinc := up64 (show i < 9223372036854775807 by omega)
    rw [hdrop, takeV] at hT
    by_cases h91 : i = 9 ∧ c > 1
    · have f9 : ((i : Int) == 9) = true := by rw [h91.1]; rfl
      have f1 : ((c : Int) > 1) = True := eq_true (by omega)
      rw [if_pos (.inl h91)] at hT
      rw [← hT]
      refine Zr rfl (by simp (maxSteps := 2000000) only [gs,zlr,reduceIte,reduceCtorEq,zpa,zpb,zpc,zpd,zpe,zpf,zpg,zph,zpi,zpj,zpk,zpl,zpm,zpn,zpo,zpp, f9, n0, un_get gx, f1, decide_true]; rfl) (Zc rfl rfl (fun _ => ?_) (fun h => by cases h))
      exact Zr rfl (by simp (maxSteps := 2000000) only [gs,zlr,reduceIte,reduceCtorEq,zpa,zpb,zpc,zpd,zpe,zpf,zpg,zph,zpi,zpj,zpk,zpl,zpm,zpn,zpo,zpp]; rfl) (Zq rfl ⟨_, rfl, rfl⟩)
    have hand : bitsOf .and .u8 (c : Int) 127 = some ((c % 128 : Nat) : Int) := by
      have := and_u8 (a := c) (b := 127) hc (by omega)
      rw [and127 hc] at this; exact this
    have hmul : IntKind.i64.wrap (7 * (i : Int)) = ((7 * i : Nat) : Int) := by
      have := wrap_i64_nat (n := 7 * i) (by omega)
      rw [← this]; congr 1
    have hneg : (((7 * i : Nat) : Int) < 0) = False := eq_false (by omega)
    have hcv : IntKind.u64.wrap ((c % 128 : Nat) : Int) = ((c % 128 : Nat) : Int) := by rw [wrap_u64_nat, Nat.mod_eq_of_lt (by omega)]
    have hsl : IntKind.u64.wrap (((c % 128 : Nat) : Int) * 2 ^ min ((7 * i : Nat) : Int).toNat IntKind.u64.bits) = ((c % 128 * 2 ^ (7 * i) % 18446744073709551616 : Nat) : Int) := shl_u64
    have hor : bitsOf .or .u64 (v : Int) ((c % 128 * 2 ^ (7 * i) % 18446744073709551616 : Nat) : Int) = some ((v ||| (c % 128 * 2 ^ (7 * i) % 18446744073709551616) : Nat) : Int) := or_u64 hv (Nat.mod_lt _ (by omega))
    have hvn : (v ||| (c % 128 * 2 ^ (7 * i) % 18446744073709551616)) < 18446744073709551616 := Nat.or_lt_two_pow (n := 64) hv (Nat.mod_lt _ (by decide))
    simp only [Int.toNat_natCast] at hsl
    refine Z_nrm 4 (Zj1 (fun env h => h = [] ∧ GEnv.get env 0 = .list false 1 (un .u8 bs) ∧ GEnv.get env 1 = .int .u64 (most : Int) ∧ GEnv.get env 7 = .int .u64 (v : Int) ∧ GEnv.get env 8 = .int .i64 (i : Int)) ?_ ?_)
    · by_cases h9 : i = 9
      · have f9 : ((i : Int) == 9) = true := by rw [h9]; rfl
        have f1 : ((c : Int) > 1) = False := eq_false (by omega)
        refine Zr rfl (by simp (maxSteps := 2000000) only [gs,zlr,reduceIte,reduceCtorEq,zpa,zpb,zpc,zpd,zpe,zpf,zpg,zph,zpi,zpj,zpk,zpl,zpm,zpn,zpo,zpp, f9, n0, un_get gx, f1, decide_false]; rfl) (Zc rfl rfl (fun h => by cases h) (fun _ => ?_))
        exact Za rfl ⟨rfl, rfl, rfl, rfl, rfl⟩
      · have f9 : ((i : Int) == 9) = false := beq_eq_false_iff_ne.2 (by omega)
        refine Zr rfl (by simp (maxSteps := 2000000) only [gs,zlr,reduceIte,reduceCtorEq,zpa,zpb,zpc,zpd,zpe,zpf,zpg,zph,zpi,zpj,zpk,zpl,zpm,zpn,zpo,zpp, f9]; rfl) (Zc rfl rfl (fun h => by cases h) (fun _ => ?_))
        exact Za rfl ⟨rfl, rfl, rfl, rfl, rfl⟩
    rintro env h ⟨rfl, j0, j1, j7, j8⟩
    refine Zr rfl (by simp (maxSteps := 2000000) only [gs,zlr,reduceIte,reduceCtorEq,zpa,zpb,zpc,zpd,zpe,zpf,zpg,zph,zpi,zpj,zpk,zpl,zpm,zpn,zpo,zpp, j0, j7, j8, n0, un_get gx, hand, hcv, hmul, hneg, hsl, hor]; rfl) ?_
    refine Zr rfl (by simp (maxSteps := 2000000) only [gs,zlr,reduceIte,reduceCtorEq,zpa,zpb,zpc,zpd,zpe,zpf,zpg,zph,zpi,zpj,zpk,zpl,zpm,zpn,zpo,zpp, j0, j8, n0, un_get gx]; rfl) (Zp rfl rfl (fun hlt => ?_) (fun hlt => ?_))
    · by_cases hz : c = 0 ∧ i > 0
      · rw [if_pos (.inr ⟨hz.2, hz.1⟩)] at hT
        rw [← hT]
        have f0 : ((c : Int) == 0) = true := by rw [hz.1]; rfl
        have f1 : ((i : Int) > 0) = True := eq_true (by omega)
        refine Zr rfl (by simp (maxSteps := 2000000) only [gs,zlr,reduceIte,reduceCtorEq,zpa,zpb,zpc,zpd,zpe,zpf,zpg,zph,zpi,zpj,zpk,zpl,zpm,zpn,zpo,zpp, j0, j8, n0, un_get gx, f0, f1, decide_true]; rfl) (Zc rfl rfl (fun _ => ?_) (fun h => by cases h))
        exact Zr rfl (by simp (maxSteps := 2000000) only [gs,zlr,reduceIte,reduceCtorEq,zpa,zpb,zpc,zpd,zpe,zpf,zpg,zph,zpi,zpj,zpk,zpl,zpm,zpn,zpo,zpp]; rfl) (Zq rfl ⟨_, rfl, rfl⟩)
      · rw [if_neg (fun h => h.elim h91 (fun h => hz ⟨h.2, h.1⟩)), if_neg (by omega)] at hT
        refine Z_nrm 99 (Zj1 (fun env h => h = [] ∧ GEnv.get env 40 = .bool false ∧ GEnv.get env 1 = .int .u64 (most : Int) ∧ GEnv.get env 7 = .int .u64 ((v ||| (c % 128 * 2 ^ (7 * i) % 18446744073709551616) : Nat) : Int) ∧ GEnv.get env 8 = .int .i64 (i : Int)) ?_ ?_)
        · by_cases h0 : c = 0
          · have f0 : ((c : Int) == 0) = true := by rw [h0]; rfl
            have f1 : ((i : Int) > 0) = False := eq_false (by omega)
            refine Zr rfl (by simp (maxSteps := 2000000) only [gs,zlr,reduceIte,reduceCtorEq,zpa,zpb,zpc,zpd,zpe,zpf,zpg,zph,zpi,zpj,zpk,zpl,zpm,zpn,zpo,zpp, j0, j8, n0, un_get gx, f0, f1, decide_false]; rfl) ?_
            exact Za rfl ⟨rfl, rfl, by simp [GEnv.get, j1], by simp [GEnv.get], by simp [GEnv.get, j8]⟩
          · have f0 : ((c : Int) == 0) = false := beq_eq_false_iff_ne.2 (by omega)
            refine Zr rfl (by simp (maxSteps := 2000000) only [gs,zlr,reduceIte,reduceCtorEq,zpa,zpb,zpc,zpd,zpe,zpf,zpg,zph,zpi,zpj,zpk,zpl,zpm,zpn,zpo,zpp, j0, j8, n0, un_get gx, f0]; rfl) ?_
            exact Za rfl ⟨rfl, rfl, by simp [GEnv.get, j1], by simp [GEnv.get], by simp [GEnv.get, j8]⟩
        rintro env h ⟨rfl, l40, l1, l7, l8⟩
        refine Zc rfl (x := false) l40 (fun h => by cases h) (fun _ => ?_)
        refine Zr rfl (by simp (maxSteps := 2000000) only [gs,zlr,reduceIte,reduceCtorEq,zpa,zpb,zpc,zpd,zpe,zpf,zpg,zph,zpi,zpj,zpk,zpl,zpm,zpn,zpo,zpp, l1, l7]; rfl) (Zp rfl rfl (fun hmo => ?_) (fun hmo => ?_))
        · rw [if_pos (by omega)] at hT
          rw [← hT]
          exact Zr rfl (by simp (maxSteps := 2000000) only [gs,zlr,reduceIte,reduceCtorEq,zpa,zpb,zpc,zpd,zpe,zpf,zpg,zph,zpi,zpj,zpk,zpl,zpm,zpn,zpo,zpp]; rfl) (Zq rfl ⟨_, rfl, rfl⟩)
        · rw [if_neg (by omega)] at hT
          rw [← hT]
          exact Zr rfl (by simp (maxSteps := 2000000) only [gs,zlr,reduceIte,reduceCtorEq,zpa,zpb,zpc,zpd,zpe,zpf,zpg,zph,zpi,zpj,zpk,zpl,zpm,zpn,zpo,zpp, l7, l8, hinc]; rfl) (Zq rfl ⟨_, rfl, rfl⟩)
    · rw [if_neg (fun h => h.elim h91 (fun h => by omega)), if_pos (by omega)] at hT
      refine Zr rfl (by simp (maxSteps := 2000000) only [gs,zlr,reduceIte,reduceCtorEq,zpa,zpb,zpc,zpd,zpe,zpf,zpg,zph,zpi,zpj,zpk,zpl,zpm,zpn,zpo,zpp, j8, hinc]; rfl) ?_
      exact Za rfl ⟨n - 1, by omega, rfl, i + 1, _, by omega, by simp [GEnv.get, j0], by simp [GEnv.get, j1], by simp [GEnv.get], by simp [GEnv.get], hvn, hT⟩
  · have : i = bs.length := by omega
    subst this
    rw [List.drop_length, takeV] at hT
    rw [← hT]
    exact Zr rfl (by simp (maxSteps := 2000000) only [gs,zlr,reduceIte,reduceCtorEq,zpa,zpb,zpc,zpd,zpe,zpf,zpg,zph,zpi,zpj,zpk,zpl,zpm,zpn,zpo,zpp]; rfl) (Zq rfl ⟨_, rfl, rfl⟩)

end Go.Ab

/- The document's AdjPut on the machine of values. -/
namespace Go.Ab
open Go
open Nat renaming reduceEqDiff → zpa, reduceLT → zpb, reduceAdd → zpc, reduceSub → zpd, reduceLeDiff → zpe, reduceMul → zpf
open Int renaming reduceToNat → zpg, reduceLT → zph, reduceLE → zpi, reduceEq → zpj, reduceNe → zpk, reduceBEq → zpl, reduceBNe → zpm, reduceAdd → zpn, reduceSub → zpo, reduceNeg → zpp
open List renaming replicate → zlr
set_option linter.unusedVariables false
set_option linter.unusedSimpArgs false
set_option maxRecDepth 10000

/-- How far the writer is: in the group g, of which vs1 is written. -/
def PutAt (l : List Nd) (i : Nat) (R : List Nat) (us : Nat) (last : Int) (G : List Gr) : Prop :=
  (i = 0 ∧ R = [] ∧ us = 0 ∧ last = -1) ∨ ∃ (G1 : List Gr) (u : Nat) (vs1 vs2 : List Nat) (G2 : List Gr), G = G1 ++ (u, vs1 ++ vs2) :: G2 ∧ vs1 ≠ [] ∧ i = (gflat G1).length + vs1.length ∧ us = G1.length + 1 ∧ last = (u : Int) ∧ R = putL (gbody 0 G1 ++ (u - gnx 0 G1) :: (vs1 ++ vs2).length :: gaps u vs1)

theorem GoodG_split {n : Nat} {G1 G2 : List Gr} {g : Gr} : GoodG n (G1 ++ g :: G2) → gnx n G1 ≤ g.1 ∧ g.2 ≠ [] ∧ Inc g.1 g.2 ∧ GoodG (g.1 + 1) G2 := by
  induction G1 generalizing n with
  | nil => exact fun h => h
  | cons x xs ih => exact fun h => ih h.2.2.2
theorem flat_split {G1 G2 : List Gr} {u : Nat} {vs : List Nat} : gflat (G1 ++ (u, vs) :: G2) = gflat G1 ++ (gfl (u, vs) ++ gflat G2) := by
  rw [gflat_append, gflat_cons]
theorem at_flat {G1 G2 : List Gr} {u w : Nat} {vs1 vs2 : List Nat} : (gflat (G1 ++ (u, vs1 ++ w :: vs2) :: G2))[(gflat G1).length + vs1.length]? = some (u, w) := by
  rw [flat_split, List.getElem?_append_right (by omega), show (gflat G1).length + vs1.length - (gflat G1).length = vs1.length by omega, List.getElem?_append_left (by simp [gfl])]
  simp [gfl]
theorem at_prev {G1 G2 : List Gr} {u w : Nat} {vs1 vs2 : List Nat} : (gflat (G1 ++ (u, (vs1 ++ [w]) ++ vs2) :: G2))[(gflat G1).length + vs1.length]? = some (u, w) := by
  rw [List.append_assoc]; exact at_flat
/-- The next edge is of the same group. -/
theorem PutAt.same {l : List Nd} {i : Nat} {R : List Nat} {us : Nat} {last : Int} {G : List Gr} {d e : Nd} (h : PutAt l i R us last G) (hg : GoodG 0 G) (hf : gflat G = l) (hd : l[i - 1]? = some d) (he : l[i]? = some e) (hi : 0 < i) (hs : d.1 = e.1) :
    PutAt l (i + 1) (R ++ putL [e.2 - d.2 - 1]) us last G := by
  rcases h with ⟨rfl, _⟩ | ⟨G1, u, vs1, vs2, G2, rfl, h1, h2, h3, h4, h5⟩
  · omega
  obtain ⟨ys, y, rfl⟩ : ∃ ys y, vs1 = ys ++ [y] := by
    rcases List.eq_nil_or_concat vs1 with h | ⟨ys, y, h⟩
    · exact absurd h h1
    · exact ⟨ys, y, by rw [h, List.concat_eq_append]⟩
  have hp := at_prev (G1 := G1) (G2 := G2) (u := u) (w := y) (vs1 := ys) (vs2 := vs2)
  rw [hf] at hp
  have hi1 : i - 1 = (gflat G1).length + ys.length := by rw [h2, List.length_append, List.length_singleton]; omega
  rw [hi1, hp] at hd
  cases hd
  cases vs2 with
  | nil =>
    -- the group is at its end: the next edge's vertex is greater
    cases G2 with
    | nil =>
      rw [← hf, flat_split] at he
      have := (List.getElem?_eq_some_iff.1 he).1
      simp only [List.length_append, gfl, List.length_map, gflat, List.flatMap_nil, List.length_nil, List.append_nil] at this h2
      omega
    | cons g2 G2 =>
      have hgs := (GoodG_split hg).2.2.2
      obtain ⟨w, ws, hw⟩ := List.exists_cons_of_ne_nil hgs.2.1
      have hx : (gflat (G1 ++ (u, ys ++ [y] ++ []) :: g2 :: G2))[i]? = some (g2.1, w) := by
        rw [flat_split, List.getElem?_append_right (by omega), h2, show (gflat G1).length + (ys ++ [y]).length - (gflat G1).length = (ys ++ [y]).length by omega, List.getElem?_append_right (by simp [gfl])]
        rw [gflat_cons]
        simp [gfl, hw]
      rw [hf, he] at hx
      cases hx
      have := hgs.1
      simp only at hs this
      omega
  | cons w vs2 =>
    have hx := at_flat (G1 := G1) (G2 := G2) (u := u) (w := w) (vs1 := ys ++ [y]) (vs2 := vs2)
    rw [← h2, hf, he] at hx
    cases hx
    refine .inr ⟨G1, u, ys ++ [y] ++ [w], vs2, G2, by simp, by simp, by rw [h2]; simp; omega, h3, h4, ?_⟩
    rw [h5]
    rw [gaps_append (vs := ys ++ [y]), lastOf_append]
    have : (ys ++ [y] ++ [w] ++ vs2).length = (ys ++ [y] ++ w :: vs2).length := by simp
    rw [this, ← putL_append]
    simp
/-- The next edge begins a group. -/
theorem PutAt.new {l : List Nd} {i n : Nat} {R : List Nat} {us : Nat} {last : Int} {G : List Gr} {e : Nd} (h : PutAt l i R us last G) (hg : GoodG 0 G) (hf : gflat G = l) (he : l[i]? = some e) (hp : i = 0 ∨ ∃ d, l[i - 1]? = some d ∧ d.1 ≠ e.1)
    (hn1 : ∀ (j : Nat) (x : Nd), j < n → l[i + j]? = some x → x.1 = e.1) (hn2 : ∀ x, l[i + n]? = some x → x.1 ≠ e.1) (hnl : i + n ≤ l.length) (hn0 : 0 < n) :
    PutAt l (i + 1) (R ++ putL [((e.1 : Int) - last - 1).toNat, n, e.2 - e.1 - 1]) (us + 1) (e.1 : Int) G ∧ 0 ≤ (e.1 : Int) - last - 1 := by
  -- the groups: those behind, the one that begins
  obtain ⟨G1, g, G2, hG, hi, hus, hR, hlast⟩ : ∃ G1 g G2, G = G1 ++ g :: G2 ∧ i = (gflat G1).length ∧ us = G1.length ∧ R = putL (gbody 0 G1) ∧ last = (gnx 0 G1 : Int) - 1 := by
    rcases h with ⟨rfl, rfl, rfl, rfl⟩ | ⟨G1, u, vs1, vs2, G2, rfl, h1, h2, h3, h4, h5⟩
    · cases G with
      | nil => rw [← hf] at he; cases he
      | cons g G => exact ⟨[], g, G, rfl, rfl, rfl, rfl, by simp [gnx]⟩
    · obtain ⟨ys, y, rfl⟩ : ∃ ys y, vs1 = ys ++ [y] := by
        rcases List.eq_nil_or_concat vs1 with h | ⟨ys, y, h⟩
        · exact absurd h h1
        · exact ⟨ys, y, by rw [h, List.concat_eq_append]⟩
      have hpy := at_prev (G1 := G1) (G2 := G2) (u := u) (w := y) (vs1 := ys) (vs2 := vs2)
      rw [hf] at hpy
      have hi1 : i - 1 = (gflat G1).length + ys.length := by rw [h2, List.length_append, List.length_singleton]; omega
      have hi0 : i ≠ 0 := by rw [h2, List.length_append, List.length_singleton]; omega
      rcases hp with hp | ⟨d, hd, hne⟩
      · exact absurd hp hi0
      rw [hi1, hpy] at hd
      cases hd
      cases vs2 with
      | cons w vs2 =>
        have hx := at_flat (G1 := G1) (G2 := G2) (u := u) (w := w) (vs1 := ys ++ [y]) (vs2 := vs2)
        rw [← h2, hf, he] at hx
        cases hx
        exact absurd rfl hne
      | nil =>
        cases G2 with
        | nil =>
          rw [← hf, flat_split] at he
          have := (List.getElem?_eq_some_iff.1 he).1
          simp only [List.length_append, gfl, List.length_map, gflat, List.flatMap_nil, List.length_nil, List.append_nil] at this h2
          omega
        | cons g2 G2 =>
          rw [List.append_nil]
          refine ⟨G1 ++ [(u, ys ++ [y])], g2, G2, by simp, ?_, by rw [h3]; simp, ?_, by rw [h4, gnx_append]; simp⟩
          · rw [h2, gflat_append, gflat_one, List.length_append]; simp [gfl]
          · rw [h5, gbody_append, List.append_nil]
  subst hG
  have hgs := GoodG_split hg
  obtain ⟨u, vs⟩ := g
  simp only at hgs
  obtain ⟨w, ws, rfl⟩ := List.exists_cons_of_ne_nil hgs.2.1
  have hx := at_flat (G1 := G1) (G2 := G2) (u := u) (w := w) (vs1 := []) (vs2 := ws)
  rw [List.nil_append, List.length_nil, Nat.add_zero, ← hi, hf, he] at hx
  cases hx
  simp only at *
  have hlen : n = (w :: ws).length := by
    -- neither fewer nor more
    have hfl : l = gflat G1 ++ (gfl (u, w :: ws) ++ gflat G2) := by rw [← hf, flat_split]
    have hk : ∀ j, j < (w :: ws).length → ∃ x, l[i + j]? = some x ∧ x.1 = u := fun j hj => by
      have : l[i + j]? = (gfl (u, w :: ws))[j]? := by
        rw [hfl, hi, List.getElem?_append_right (by omega), show (gflat G1).length + j - (gflat G1).length = j by omega, List.getElem?_append_left (by simpa [gfl] using hj)]
      refine ⟨(u, (w :: ws)[j]'hj), ?_, rfl⟩
      rw [this]
      unfold gfl
      rw [List.getElem?_map, List.getElem?_eq_getElem hj]; rfl
    have h1 : ¬ n < (w :: ws).length := fun h => by
      obtain ⟨x, h2, h3⟩ := hk n h
      exact hn2 x h2 h3
    have h2 : ¬ (w :: ws).length < n := fun h => by
      have hll : l.length = (gflat G1).length + ((w :: ws).length + (gflat G2).length) := by rw [hfl]; simp [gfl]; omega
      have gx : l[i + (w :: ws).length]? = some (l[i + (w :: ws).length]'(by omega)) := List.getElem?_eq_getElem _
      have e1 := hn1 _ _ h gx
      have e2 : l[i + (w :: ws).length]? = (gflat G2)[0]? := by
        conv => lhs; rw [hfl, hi]
        rw [List.getElem?_append_right (by omega), show (gflat G1).length + (w :: ws).length - (gflat G1).length = (w :: ws).length by omega, List.getElem?_append_right (by simp [gfl])]
        simp [gfl]
      rw [gx] at e2
      have hm := List.mem_of_getElem? e2.symm
      obtain ⟨g, hg1, hg2, _⟩ := gflat_mem.1 hm
      have := (GoodG_mem hgs.2.2.2 g hg1).1
      omega
    omega
  have hnx := hgs.1
  refine ⟨.inr ⟨G1, u, [w], ws, G2, rfl, by simp, by rw [hi]; simp, by rw [hus], rfl, ?_⟩, by omega⟩
  rw [hR, hlen, ← putL_append]
  have : ((u : Int) - last - 1).toNat = u - gnx 0 G1 := by omega
  rw [this]
  simp [gaps]
/-- The last edge is written. -/
theorem PutAt.done {l : List Nd} {R : List Nat} {us : Nat} {last : Int} {G : List Gr} (h : PutAt l l.length R us last G) (hg : GoodG 0 G) (hf : gflat G = l) : R = putL (gbody 0 G) ∧ us = G.length := by
  rcases h with ⟨h0, rfl, rfl, _⟩ | ⟨G1, u, vs1, vs2, G2, rfl, h1, h2, h3, h4, h5⟩
  · cases G with
    | nil => exact ⟨rfl, rfl⟩
    | cons g G =>
      have : l.length = 0 := h0
      rw [← hf, gflat_cons, List.length_append] at this
      have hg1 := List.length_pos_iff.2 hg.2.1
      have hg2 : (gfl g).length = g.2.length := by simp [gfl]
      omega
  · have hll := congrArg List.length hf
    rw [flat_split, h2] at hll
    simp only [List.length_append, gfl, List.length_map] at hll
    have e1 : vs2 = [] := List.eq_nil_of_length_eq_zero (by omega)
    have e2 : G2 = [] := by
      cases G2 with
      | nil => rfl
      | cons g G2 =>
        have := (GoodG_split hg).2.2.2.2.1
        have := List.length_pos_iff.2 this
        rw [gflat_cons, List.length_append] at hll
        simp only [gfl, List.length_map] at hll
        omega
    subst e1 e2
    rw [h5, h3, List.append_nil]
    exact ⟨by rw [gbody_append], by simp⟩

set_option maxHeartbeats 4000000 in
theorem raput_R {w : U} {l : List Nd} (hw : isEn w l) (hl : l.length ≤ 10000) (hu : ∀ e ∈ l, e.1 ≤ 4294967295 ∧ e.2 ≤ 4294967295) :
    (∃ G, GoodG 0 G ∧ gflat G = l ∧ GF gtab fid_archipelagoref15_AdjPut [w] [] 0 = some (.tup [.own 1 (un .u8 (genc G)), .int .i64 0], [])) ∨ (¬ Strict l ∧ GF gtab fid_archipelagoref15_AdjPut [w] [] 0 = some (.tup [.nils, .int .i64 23], [])) := by
  have hex : Strict l → ∃ G, GoodG 0 G ∧ gflat G = l := fun hs => by
    rcases aput_R (w := .list false 2 (uen l)) (.inl rfl) hl hu with ⟨G, a, b, _⟩ | ⟨a, _⟩
    · exact ⟨G, a, b⟩
    · exact absurd hs a
  have key : ∃ u h', GF gtab fid_archipelagoref15_AdjPut [w] [] 0 = some (u, h') ∧ h' = [] ∧ ((∃ G, GoodG 0 G ∧ gflat G = l ∧ u = .tup [.own 1 (un .u8 (genc G)), .int .i64 0]) ∨ (¬ Strict l ∧ u = .tup [.nils, .int .i64 23])) := by
    rcases hw with rfl | ⟨rfl, rfl⟩
    · refine fnR_archipelagoref15_AdjPut rfl ?_
      simp only [genvOf]
      refine Zr rfl (by simp (maxSteps := 2000000) only [gs,zlr,reduceIte,reduceCtorEq,zpa,zpb,zpc,zpd,zpe,zpf,zpg,zph,zpi,zpj,zpk,zpl,zpm,zpn,zpo,zpp]; rfl) ?_
      refine Zr rfl (by simp (maxSteps := 2000000) only [gs,zlr,reduceIte,reduceCtorEq,zpa,zpb,zpc,zpd,zpe,zpf,zpg,zph,zpi,zpj,zpk,zpl,zpm,zpn,zpo,zpp]; rfl) ?_
      refine Zr rfl (by simp (maxSteps := 2000000) only [gs,zlr,reduceIte,reduceCtorEq,zpa,zpb,zpc,zpd,zpe,zpf,zpg,zph,zpi,zpj,zpk,zpl,zpm,zpn,zpo,zpp]; rfl) ?_
      refine Zr rfl (by simp (maxSteps := 2000000) only [gs,zlr,reduceIte,reduceCtorEq,zpa,zpb,zpc,zpd,zpe,zpf,zpg,zph,zpi,zpj,zpk,zpl,zpm,zpn,zpo,zpp]; rfl) ?_
      refine Zr rfl (by simp (maxSteps := 2000000) only [gs,zlr,reduceIte,reduceCtorEq,zpa,zpb,zpc,zpd,zpe,zpf,zpg,zph,zpi,zpj,zpk,zpl,zpm,zpn,zpo,zpp]; rfl) ?_
      refine Zw rfl (fun m env h => h = [] ∧ ∃ (i us : Nat) (R : List Nat) (last : Int), m + i = l.length ∧ (∀ (j : Nat) (x : Nd), j < i → l[j]? = some x → x.1 < x.2 ∧ ∀ y, 0 < j → l[j - 1]? = some y → ltN y x) ∧ isOw (GEnv.get env 4) R ∧ R.length ≤ 40 * i ∧ us ≤ i ∧ (-1 ≤ last ∧ last ≤ 4294967295) ∧ (∀ G, GoodG 0 G → gflat G = l → PutAt l i R us last G) ∧ GEnv.get env 0 = .list false 2 (uen l) ∧ GEnv.get env 5 = .int .i64 ((us : Nat) : Int) ∧ GEnv.get env 6 = .int .i64 last ∧ GEnv.get env 7 = .int .i64 ((i : Nat) : Int)) l.length ⟨rfl, 0, 0, [], -1, rfl, fun j x h => absurd h (by omega), .inl ⟨rfl, rfl⟩, by simp, by omega, by omega, fun G _ _ => .inl ⟨rfl, rfl, rfl, rfl⟩, rfl, rfl, rfl, rfl⟩ ?_
      rintro m env h ⟨rfl, i, us, R, last, hm, hadj, k4, hRl, husl, hlast, hput, k0, k5, k6, k7⟩
      simp only [GEnv.keep, k0, k5, k6, k7]
      generalize GEnv.get env 4 = s4 at k4 ⊢
      refine Zr rfl (by simp (maxSteps := 2000000) only [gs,zlr,reduceIte,reduceCtorEq,zpa,zpb,zpc,zpd,zpe,zpf,zpg,zph,zpi,zpj,zpk,zpl,zpm,zpn,zpo,zpp, uen_length]; rfl) (Zp rfl rfl (fun hi => ?_) (fun hi => ?_))
      · have gx : l[i]? = some (l[i]'(by omega)) := List.getElem?_eq_getElem _
        generalize l[i]'(by omega) = e at gx
        have hue := hu e (List.mem_of_getElem? gx)
        have n0 : ((0 : Int) ≤ (i : Int)) = True := eq_true (by omega)
        have hinc := up64 (show i < 9223372036854775807 by omega)
        have ws : 0 < i → IntKind.i64.wrap ((i : Int) - 1) = ((i - 1 : Nat) : Int) := fun h => by rw [wrap_i64 (by omega) (by omega)]; omega
        have n1 : ((0 : Int) ≤ ((i - 1 : Nat) : Int)) = True := eq_true (by omega)
        by_cases a1 : e.1 ≥ e.2
        · have f1 : ((e.1 : Int) ≥ (e.2 : Int)) = True := eq_true (by omega)
          refine Zd rfl (by simp (maxSteps := 2000000) only [gs,gd,zlr,id,reduceIte,reduceCtorEq,zpa,zpb,zpc,zpd,zpe,zpf,zpg,zph,zpi,zpj,zpk,zpl,zpm,zpn,zpo,zpp, n0, uen_get gx, f1, decide_true]; rfl) (Zc rfl rfl (fun _ => ?_) (fun h => by cases h))
          exact Zr rfl (by simp (maxSteps := 2000000) only [gs,zlr,reduceIte,reduceCtorEq,zpa,zpb,zpc,zpd,zpe,zpf,zpg,zph,zpi,zpj,zpk,zpl,zpm,zpn,zpo,zpp]; rfl) (Zq rfl ⟨_, rfl, _, _, rfl, rfl, .inr ⟨fun hs => by have := hs.2 e (List.mem_of_getElem? gx); omega, rfl⟩⟩)
        have f1 : ((e.1 : Int) ≥ (e.2 : Int)) = False := eq_false (by omega)
        by_cases a2 : 0 < i ∧ ∃ d, l[i - 1]? = some d ∧ ¬ ltN d e
        · obtain ⟨hi0, d, gpd, hd⟩ := a2
          have g1 : ((i : Int) > 0) = True := eq_true (by omega)
          have less := hless_G (d.1 : Int) (d.2 : Int) (e.1 : Int) (e.2 : Int)
          rw [show lessE (d.1 : Int) (d.2 : Int) (e.1 : Int) (e.2 : Int) = false from decide_eq_false (by unfold ltN at hd; omega)] at less
          refine Zd rfl (by simp (maxSteps := 2000000) only [gs,gd,zlr,id,reduceIte,reduceCtorEq,zpa,zpb,zpc,zpd,zpe,zpf,zpg,zph,zpi,zpj,zpk,zpl,zpm,zpn,zpo,zpp, n0, n1, ws hi0, uen_get gx, uen_get gpd, f1, g1, gc_archipelagoref8_Less, iq_archipelagoref8_Less, less, decide_true, decide_false]; rfl) (Zc rfl rfl (fun _ => ?_) (fun h => by cases h))
          exact Zr rfl (by simp (maxSteps := 2000000) only [gs,zlr,reduceIte,reduceCtorEq,zpa,zpb,zpc,zpd,zpe,zpf,zpg,zph,zpi,zpj,zpk,zpl,zpm,zpn,zpo,zpp]; rfl) (Zq rfl ⟨_, rfl, _, _, rfl, rfl, .inr ⟨fun hs => by
            have h1 := List.getElem?_eq_some_iff.1 gpd
            have h2 := List.getElem?_eq_some_iff.1 gx
            have := List.pairwise_iff_getElem.1 hs.1 (i - 1) i h1.1 h2.1 (by omega)
            rw [h1.2, h2.2] at this
            exact hd this, rfl⟩⟩)
        have a3 : ∀ d, 0 < i → l[i - 1]? = some d → ltN d e := fun d h1 h2 => by
          by_cases h : ltN d e
          · exact h
          · exact absurd ⟨h1, d, h2, h⟩ a2
        have hadj2 : ∀ (j : Nat) (x : Nd), j < i + 1 → l[j]? = some x → x.1 < x.2 ∧ ∀ y, 0 < j → l[j - 1]? = some y → ltN y x := fun j x hj hx => by
          by_cases hji : j = i
          · subst hji; rw [gx] at hx; cases hx
            exact ⟨by omega, fun y h1 h2 => a3 y h1 h2⟩
          · exact hadj j x (by omega) hx
        refine Z_nrm 4 (Zj1 (fun env h => h = [] ∧ GEnv.get env 0 = .list false 2 (uen l) ∧ GEnv.get env 4 = s4 ∧ GEnv.get env 5 = .int .i64 ((us : Nat) : Int) ∧ GEnv.get env 6 = .int .i64 last ∧ GEnv.get env 7 = .int .i64 ((i : Nat) : Int)) ?_ ?_)
        · by_cases hi0 : i = 0
          · have g0 : ((i : Int) > 0) = False := eq_false (by omega)
            refine Zd rfl (by simp (maxSteps := 2000000) only [gs,gd,zlr,id,reduceIte,reduceCtorEq,zpa,zpb,zpc,zpd,zpe,zpf,zpg,zph,zpi,zpj,zpk,zpl,zpm,zpn,zpo,zpp, n0, uen_get gx, f1, g0, decide_false]; rfl) (Zc rfl rfl (fun h => by cases h) (fun _ => ?_))
            exact Za rfl ⟨rfl, rfl, rfl, rfl, rfl, rfl⟩
          · have g1 : ((i : Int) > 0) = True := eq_true (by omega)
            have gpd : l[i - 1]? = some (l[i - 1]'(by omega)) := List.getElem?_eq_getElem _
            generalize l[i - 1]'(by omega) = d at gpd
            have less := hless_G (d.1 : Int) (d.2 : Int) (e.1 : Int) (e.2 : Int)
            rw [show lessE (d.1 : Int) (d.2 : Int) (e.1 : Int) (e.2 : Int) = true from decide_eq_true (by have := a3 d (by omega) gpd; unfold ltN at this; omega)] at less
            refine Zd rfl (by simp (maxSteps := 2000000) only [gs,gd,zlr,id,reduceIte,reduceCtorEq,zpa,zpb,zpc,zpd,zpe,zpf,zpg,zph,zpi,zpj,zpk,zpl,zpm,zpn,zpo,zpp, n0, n1, ws (by omega), uen_get gx, uen_get gpd, f1, g1, gc_archipelagoref8_Less, iq_archipelagoref8_Less, less, decide_true, decide_false]; rfl) (Zc rfl rfl (fun h => by cases h) (fun _ => ?_))
            exact Za rfl ⟨rfl, rfl, rfl, rfl, rfl, rfl⟩
        clear k0 k5 k6 k7
        rintro env h ⟨rfl, k0, k4', k5, k6, k7⟩
        refine Z_nrm 1 (Zj1 (fun env h => h = [] ∧ (i = 0 ∨ ∃ d, l[i - 1]? = some d ∧ d.1 ≠ e.1) ∧ GEnv.get env 0 = .list false 2 (uen l) ∧ GEnv.get env 4 = s4 ∧ GEnv.get env 5 = .int .i64 ((us : Nat) : Int) ∧ GEnv.get env 6 = .int .i64 last ∧ GEnv.get env 7 = .int .i64 ((i : Nat) : Int)) ?_ ?_)
        · by_cases hi0 : i = 0
          · have g0 : ((i : Int) > 0) = False := eq_false (by omega)
            refine Zd rfl (by simp (maxSteps := 2000000) only [gs,gd,zlr,id,reduceIte,reduceCtorEq,zpa,zpb,zpc,zpd,zpe,zpf,zpg,zph,zpi,zpj,zpk,zpl,zpm,zpn,zpo,zpp, k7, g0]; rfl) (Zc rfl rfl (fun h => by cases h) (fun _ => ?_))
            exact Za rfl ⟨rfl, .inl hi0, by simp [GEnv.get, k0], by simp [GEnv.get, k4'], by simp [GEnv.get, k5], by simp [GEnv.get, k6], by simp [GEnv.get, k7]⟩
          · have g1 : ((i : Int) > 0) = True := eq_true (by omega)
            have gpd : l[i - 1]? = some (l[i - 1]'(by omega)) := List.getElem?_eq_getElem _
            generalize l[i - 1]'(by omega) = d at gpd
            have hud := hu d (List.mem_of_getElem? gpd)
            have hlt := a3 d (by omega) gpd
            by_cases hs : d.1 = e.1
            · have fs : ((d.1 : Int) == (e.1 : Int)) = true := by rw [hs]; exact beq_self_eq_true _
              have hdv : d.2 < e.2 := by unfold ltN at hlt; omega
              have c1 : IntKind.u32.wrap ((e.2 : Int) - (d.2 : Int)) = ((e.2 - d.2 : Nat) : Int) := by
                rw [show (e.2 : Int) - (d.2 : Int) = ((e.2 - d.2 : Nat) : Int) by omega, wrap_u32_nat, Nat.mod_eq_of_lt (by omega)]
              have c2 : IntKind.u32.wrap (((e.2 - d.2 : Nat) : Int) - 1) = ((e.2 - d.2 - 1 : Nat) : Int) := by
                rw [show ((e.2 - d.2 : Nat) : Int) - 1 = ((e.2 - d.2 - 1 : Nat) : Int) by omega, wrap_u32_nat, Nat.mod_eq_of_lt (by omega)]
              have c3 : IntKind.u64.wrap ((e.2 - d.2 - 1 : Nat) : Int) = ((e.2 - d.2 - 1 : Nat) : Int) := by rw [wrap_u64_nat, Nat.mod_eq_of_lt (by omega)]
              have hP := rvput_G (ls := [e.2 - d.2 - 1]) (fun v hv => by rw [List.mem_singleton.1 hv]; omega) (by simp) (by have := putL_len (l := [e.2 - d.2 - 1]) (fun v hv => by rw [List.mem_singleton.1 hv]; omega); simp only [List.length_singleton] at this; omega)
              have hp1 : (putL [e.2 - d.2 - 1]).length ≤ 10 := putL_len (l := [e.2 - d.2 - 1]) (fun v hv => by rw [List.mem_singleton.1 hv]; omega)
              have e1 : [[U.int .u64 ((e.2 - d.2 - 1 : Nat) : Int)]] = un .u64 [e.2 - d.2 - 1] := rfl
              have hr0 : ((putL [e.2 - d.2 - 1]).length * 1 ≤ room) = True := eq_true (by unfold room; omega)
              have hr1 : ((R.length + (putL [e.2 - d.2 - 1]).length) * 1 ≤ room) = True := eq_true (by unfold room; omega)
              refine Zd rfl (by simp (maxSteps := 2000000) only [gs,gd,zlr,id,reduceIte,reduceCtorEq,zpa,zpb,zpc,zpd,zpe,zpf,zpg,zph,zpi,zpj,zpk,zpl,zpm,zpn,zpo,zpp, k0, k7, g1, n0, n1, ws (by omega), uen_get gx, uen_get gpd, fs]; rfl) (Zc rfl rfl (fun _ => ?_) (fun h => by cases h))
              rcases k4 with ⟨rfl, rfl⟩ | rfl
              · refine Zd rfl (by simp (maxSteps := 2000000) only [gs,gd,zlr,id,reduceIte,reduceCtorEq,zpa,zpb,zpc,zpd,zpe,zpf,zpg,zph,zpi,zpj,zpk,zpl,zpm,zpn,zpo,zpp, k0, k4', k7, n0, n1, ws (by omega), uen_get gx, uen_get gpd, c1, c2, c3, e1, snapLL_un, gc_archipelagoref1_Put, iq_archipelagoref1_Put, hP, un_length, hr0]; rfl) ?_
                refine Zr rfl (by simp (maxSteps := 2000000) only [gs,zlr,reduceIte,reduceCtorEq,zpa,zpb,zpc,zpd,zpe,zpf,zpg,zph,zpi,zpj,zpk,zpl,zpm,zpn,zpo,zpp, k7, hinc]; rfl) ?_
                exact Za rfl ⟨m - 1, by omega, rfl, i + 1, us, putL [e.2 - d.2 - 1], last, by omega, hadj2, .inr (by simp [GEnv.get]), by omega, by omega, hlast, fun G h1 h2 => (hput G h1 h2).same h1 h2 gpd gx (by omega) hs, by simp [GEnv.get, k0], by simp [GEnv.get, k5], by simp [GEnv.get, k6], by simp [GEnv.get]⟩
              · refine Zd rfl (by simp (maxSteps := 2000000) only [gs,gd,zlr,id,reduceIte,reduceCtorEq,zpa,zpb,zpc,zpd,zpe,zpf,zpg,zph,zpi,zpj,zpk,zpl,zpm,zpn,zpo,zpp, k0, k4', k7, n0, n1, ws (by omega), uen_get gx, uen_get gpd, c1, c2, c3, e1, snapLL_un, gc_archipelagoref1_Put, iq_archipelagoref1_Put, hP, un_length, hr1, un_append]; rfl) ?_
                refine Zr rfl (by simp (maxSteps := 2000000) only [gs,zlr,reduceIte,reduceCtorEq,zpa,zpb,zpc,zpd,zpe,zpf,zpg,zph,zpi,zpj,zpk,zpl,zpm,zpn,zpo,zpp, k7, hinc]; rfl) ?_
                exact Za rfl ⟨m - 1, by omega, rfl, i + 1, us, R ++ putL [e.2 - d.2 - 1], last, by omega, hadj2, .inr (by simp [GEnv.get]), by rw [List.length_append]; omega, by omega, hlast, fun G h1 h2 => (hput G h1 h2).same h1 h2 gpd gx (by omega) hs, by simp [GEnv.get, k0], by simp [GEnv.get, k5], by simp [GEnv.get, k6], by simp [GEnv.get]⟩
            · have fs : ((d.1 : Int) == (e.1 : Int)) = false := beq_eq_false_iff_ne.2 (by omega)
              refine Zd rfl (by simp (maxSteps := 2000000) only [gs,gd,zlr,id,reduceIte,reduceCtorEq,zpa,zpb,zpc,zpd,zpe,zpf,zpg,zph,zpi,zpj,zpk,zpl,zpm,zpn,zpo,zpp, k0, k7, g1, n0, n1, ws (by omega), uen_get gx, uen_get gpd, fs]; rfl) (Zc rfl rfl (fun h => by cases h) (fun _ => ?_))
              exact Za rfl ⟨rfl, .inr ⟨d, gpd, hs⟩, by simp [GEnv.get, k0], by simp [GEnv.get, k4'], by simp [GEnv.get, k5], by simp [GEnv.get, k6], by simp [GEnv.get, k7]⟩
        clear k0 k5 k6 k7 k4'
        rintro env h ⟨rfl, hnew, k0, k4', k5, k6, k7⟩
        refine Zr rfl (by simp (maxSteps := 2000000) only [gs,zlr,reduceIte,reduceCtorEq,zpa,zpb,zpc,zpd,zpe,zpf,zpg,zph,zpi,zpj,zpk,zpl,zpm,zpn,zpo,zpp]; rfl) ?_
        refine Z_nrm 1 (Zj1 (fun env h => h = [] ∧ ∃ n : Nat, 0 < n ∧ i + n ≤ l.length ∧ (∀ (j : Nat) (x : Nd), j < n → l[i + j]? = some x → x.1 = e.1) ∧ (∀ x, l[i + n]? = some x → x.1 ≠ e.1) ∧ GEnv.get env 8 = .int .i64 ((n : Nat) : Int) ∧ GEnv.get env 0 = .list false 2 (uen l) ∧ GEnv.get env 4 = s4 ∧ GEnv.get env 5 = .int .i64 ((us : Nat) : Int) ∧ GEnv.get env 6 = .int .i64 last ∧ GEnv.get env 7 = .int .i64 ((i : Nat) : Int)) ?_ ?_)
        · refine Zw rfl (fun q env h => h = [] ∧ ∃ n : Nat, q + n = l.length - i ∧ (∀ (j : Nat) (x : Nd), j < n → l[i + j]? = some x → x.1 = e.1) ∧ GEnv.get env 8 = .int .i64 ((n : Nat) : Int) ∧ GEnv.get env 0 = .list false 2 (uen l) ∧ GEnv.get env 4 = s4 ∧ GEnv.get env 5 = .int .i64 ((us : Nat) : Int) ∧ GEnv.get env 6 = .int .i64 last ∧ GEnv.get env 7 = .int .i64 ((i : Nat) : Int)) (l.length - i) ⟨rfl, 0, rfl, fun j x h => absurd h (by omega), rfl, by simp [GEnv.get, k0], by simp [GEnv.get, k4'], by simp [GEnv.get, k5], by simp [GEnv.get, k6], by simp [GEnv.get, k7]⟩ ?_
          rintro q env h ⟨rfl, n, hq, hn1, j8, j0, j4, j5, j6, j7⟩
          simp only [GEnv.keep, j0, j4, j5, j6, j7, j8]
          have wn : IntKind.i64.wrap ((i : Int) + (n : Int)) = ((i + n : Nat) : Int) := by
            rw [show (i : Int) + (n : Int) = ((i + n : Nat) : Int) by omega]; exact wrap_i64_nat (by omega)
          have nn : ((0 : Int) ≤ ((i + n : Nat) : Int)) = True := eq_true (by omega)
          have hincn := up64 (show n < 9223372036854775807 by omega)
          by_cases hc : i + n < l.length
          · have g1 : (((i + n : Nat) : Int) < (l.length : Int)) = True := eq_true (by omega)
            have gy : l[i + n]? = some (l[i + n]'hc) := List.getElem?_eq_getElem _
            generalize l[i + n]'hc = y at gy
            by_cases hy : y.1 = e.1
            · have fs : ((y.1 : Int) == (e.1 : Int)) = true := by rw [hy]; exact beq_self_eq_true _
              refine Zd rfl (by simp (maxSteps := 2000000) only [gs,gd,zlr,id,reduceIte,reduceCtorEq,zpa,zpb,zpc,zpd,zpe,zpf,zpg,zph,zpi,zpj,zpk,zpl,zpm,zpn,zpo,zpp, wn, uen_length, g1, nn, n0, uen_get gy, uen_get gx, fs]; rfl) (Zc rfl rfl (fun _ => ?_) (fun h => by cases h))
              refine Zr rfl (by simp (maxSteps := 2000000) only [gs,zlr,reduceIte,reduceCtorEq,zpa,zpb,zpc,zpd,zpe,zpf,zpg,zph,zpi,zpj,zpk,zpl,zpm,zpn,zpo,zpp, hincn]; rfl) ?_
              refine Za rfl ⟨q - 1, by omega, rfl, n + 1, by omega, fun j x hj hx => ?_, rfl, rfl, rfl, rfl, rfl, rfl⟩
              by_cases hjn : j = n
              · subst hjn; rw [gy] at hx; cases hx; exact hy
              · exact hn1 j x (by omega) hx
            · have fs : ((y.1 : Int) == (e.1 : Int)) = false := beq_eq_false_iff_ne.2 (by omega)
              refine Zd rfl (by simp (maxSteps := 2000000) only [gs,gd,zlr,id,reduceIte,reduceCtorEq,zpa,zpb,zpc,zpd,zpe,zpf,zpg,zph,zpi,zpj,zpk,zpl,zpm,zpn,zpo,zpp, wn, uen_length, g1, nn, n0, uen_get gy, uen_get gx, fs]; rfl) (Zc rfl rfl (fun h => by cases h) (fun _ => ?_))
              refine Za rfl ⟨rfl, n, ?_, by omega, hn1, fun x hx => ?_, rfl, rfl, rfl, rfl, rfl, rfl⟩
              · by_cases h0 : n = 0
                · subst h0; rw [Nat.add_zero, gx] at gy; cases gy; exact absurd rfl hy
                · omega
              · rw [gy] at hx; cases hx; exact hy
          · have g1 : (((i + n : Nat) : Int) < (l.length : Int)) = False := eq_false (by omega)
            refine Zd rfl (by simp (maxSteps := 2000000) only [gs,gd,zlr,id,reduceIte,reduceCtorEq,zpa,zpb,zpc,zpd,zpe,zpf,zpg,zph,zpi,zpj,zpk,zpl,zpm,zpn,zpo,zpp, wn, uen_length, g1]; rfl) (Zc rfl rfl (fun h => by cases h) (fun _ => ?_))
            exact Za rfl ⟨rfl, n, by omega, by omega, hn1, fun x hx => by have := (List.getElem?_eq_some_iff.1 hx).1; omega, rfl, rfl, rfl, rfl, rfl, rfl⟩
        clear k0 k5 k6 k7 k4'
        rintro env h ⟨rfl, n, hn0, hnl, hn1, hn2, k8, k0, k4', k5, k6, k7⟩
        have c1 : IntKind.i64.wrap (e.1 : Int) = (e.1 : Int) := wrap_i64_nat (by omega)
        have c2 : IntKind.i64.wrap ((e.1 : Int) - last) = (e.1 : Int) - last := wrap_i64 (by omega) (by omega)
        have c3 : IntKind.i64.wrap ((e.1 : Int) - last - 1) = (e.1 : Int) - last - 1 := wrap_i64 (by omega) (by omega)
        obtain ⟨X, c4, hX, hX2⟩ : ∃ X : Nat, IntKind.u64.wrap ((e.1 : Int) - last - 1) = (X : Int) ∧ X < 18446744073709551616 ∧ (0 ≤ (e.1 : Int) - last - 1 → X = ((e.1 : Int) - last - 1).toNat) := by
          refine ⟨(((e.1 : Int) - last - 1) % 18446744073709551616).toNat, ?_, by omega, fun h => by omega⟩
          rw [IntKind.wrap_u64]; omega
        have c5 : IntKind.u64.wrap (n : Int) = (n : Int) := by rw [wrap_u64_nat, Nat.mod_eq_of_lt (by omega)]
        have c6 : IntKind.u32.wrap ((e.2 : Int) - (e.1 : Int)) = ((e.2 - e.1 : Nat) : Int) := by
          rw [show (e.2 : Int) - (e.1 : Int) = ((e.2 - e.1 : Nat) : Int) by omega, wrap_u32_nat, Nat.mod_eq_of_lt (by omega)]
        have c7 : IntKind.u32.wrap (((e.2 - e.1 : Nat) : Int) - 1) = ((e.2 - e.1 - 1 : Nat) : Int) := by
          rw [show ((e.2 - e.1 : Nat) : Int) - 1 = ((e.2 - e.1 - 1 : Nat) : Int) by omega, wrap_u32_nat, Nat.mod_eq_of_lt (by omega)]
        have c8 : IntKind.u64.wrap ((e.2 - e.1 - 1 : Nat) : Int) = ((e.2 - e.1 - 1 : Nat) : Int) := by rw [wrap_u64_nat, Nat.mod_eq_of_lt (by omega)]
        have hlt : ∀ v ∈ [X, n, e.2 - e.1 - 1], v < 18446744073709551616 := fun v hv => by
          simp only [List.mem_cons, List.not_mem_nil, or_false] at hv; omega
        have hp1 : (putL [X, n, e.2 - e.1 - 1]).length ≤ 30 := putL_len hlt
        have hP := rvput_G hlt (by simp) (by omega)
        have e1 : [[U.int .u64 (X : Int)], [U.int .u64 (n : Int)], [U.int .u64 ((e.2 - e.1 - 1 : Nat) : Int)]] = un .u64 [X, n, e.2 - e.1 - 1] := rfl
        have hr0 : ((putL [X, n, e.2 - e.1 - 1]).length * 1 ≤ room) = True := eq_true (by unfold room; omega)
        have hr1 : ((R.length + (putL [X, n, e.2 - e.1 - 1]).length) * 1 ≤ room) = True := eq_true (by unfold room; omega)
        have w1 : IntKind.i64.wrap ((us : Int) + 1) = ((us + 1 : Nat) : Int) := up64 (by omega)
        have hput2 : ∀ G, GoodG 0 G → gflat G = l → PutAt l (i + 1) (R ++ putL [X, n, e.2 - e.1 - 1]) (us + 1) (e.1 : Int) G := fun G h1 h2 => by
          obtain ⟨x1, x2⟩ := (hput G h1 h2).new h1 h2 gx hnew hn1 hn2 hnl hn0
          rw [hX2 x2]; exact x1
        rcases k4 with ⟨rfl, rfl⟩ | rfl
        · refine Zd rfl (by simp (maxSteps := 2000000) only [gs,gd,zlr,id,reduceIte,reduceCtorEq,zpa,zpb,zpc,zpd,zpe,zpf,zpg,zph,zpi,zpj,zpk,zpl,zpm,zpn,zpo,zpp, k0, k4', k6, k7, k8, n0, uen_get gx, c1, c2, c3, c4, c5, c6, c7, c8, e1, snapLL_un, gc_archipelagoref1_Put, iq_archipelagoref1_Put, hP, un_length, hr0]; rfl) ?_
          refine Zd rfl (by simp (maxSteps := 2000000) only [gs,gd,zlr,id,reduceIte,reduceCtorEq,zpa,zpb,zpc,zpd,zpe,zpf,zpg,zph,zpi,zpj,zpk,zpl,zpm,zpn,zpo,zpp, k0, k5, k7, n0, uen_get gx, c1, w1]; rfl) ?_
          refine Zr rfl (by simp (maxSteps := 2000000) only [gs,zlr,reduceIte,reduceCtorEq,zpa,zpb,zpc,zpd,zpe,zpf,zpg,zph,zpi,zpj,zpk,zpl,zpm,zpn,zpo,zpp, k7, hinc]; rfl) ?_
          exact Za rfl ⟨m - 1, by omega, rfl, i + 1, us + 1, putL [X, n, e.2 - e.1 - 1], (e.1 : Int), by omega, hadj2, .inr (by simp [GEnv.get]), by omega, by omega, by omega, hput2, by simp [GEnv.get, k0], by simp [GEnv.get], by simp [GEnv.get], by simp [GEnv.get]⟩
        · refine Zd rfl (by simp (maxSteps := 2000000) only [gs,gd,zlr,id,reduceIte,reduceCtorEq,zpa,zpb,zpc,zpd,zpe,zpf,zpg,zph,zpi,zpj,zpk,zpl,zpm,zpn,zpo,zpp, k0, k4', k6, k7, k8, n0, uen_get gx, c1, c2, c3, c4, c5, c6, c7, c8, e1, snapLL_un, gc_archipelagoref1_Put, iq_archipelagoref1_Put, hP, un_length, hr1, un_append]; rfl) ?_
          refine Zd rfl (by simp (maxSteps := 2000000) only [gs,gd,zlr,id,reduceIte,reduceCtorEq,zpa,zpb,zpc,zpd,zpe,zpf,zpg,zph,zpi,zpj,zpk,zpl,zpm,zpn,zpo,zpp, k0, k5, k7, n0, uen_get gx, c1, w1]; rfl) ?_
          refine Zr rfl (by simp (maxSteps := 2000000) only [gs,zlr,reduceIte,reduceCtorEq,zpa,zpb,zpc,zpd,zpe,zpf,zpg,zph,zpi,zpj,zpk,zpl,zpm,zpn,zpo,zpp, k7, hinc]; rfl) ?_
          exact Za rfl ⟨m - 1, by omega, rfl, i + 1, us + 1, R ++ putL [X, n, e.2 - e.1 - 1], (e.1 : Int), by omega, hadj2, .inr (by simp [GEnv.get]), by rw [List.length_append]; omega, by omega, by omega, hput2, by simp [GEnv.get, k0], by simp [GEnv.get], by simp [GEnv.get], by simp [GEnv.get]⟩
      · have hil : i = l.length := by omega
        subst hil
        have hS : Strict l := by
          refine ⟨?_, fun e he => ?_⟩
          · have tr : ∀ (k j : Nat) (x y : Nd), j < k → k < l.length → l[j]? = some x → l[k]? = some y → ltN x y := by
              intro k
              induction k with
              | zero => intro j x y h; omega
              | succ k ih =>
                intro j x y hj hk hx hy
                have gz : l[k]? = some (l[k]'(by omega)) := List.getElem?_eq_getElem _
                generalize l[k]'(by omega) = z at gz
                have hzy := (hadj (k + 1) y hk hy).2 z (by omega) (by simpa using gz)
                by_cases hjk : j = k
                · subst hjk; rw [gz] at hx; cases hx; exact hzy
                · have := ih j x z (by omega) (by omega) hx gz
                  unfold ltN at *; omega
            exact List.pairwise_iff_getElem.2 fun a b ha hb hab => tr b a _ _ hab hb (List.getElem?_eq_getElem ha) (List.getElem?_eq_getElem hb)
          · obtain ⟨j, hj⟩ := List.mem_iff_getElem?.1 he
            exact (hadj j e (List.getElem?_eq_some_iff.1 hj).1 hj).1
        obtain ⟨G, hg, hf⟩ := hex hS
        obtain ⟨rfl, rfl⟩ := (hput G hg hf).done hg hf
        have hlt : ∀ v ∈ [G.length], v < 18446744073709551616 := fun v hv => by
          simp only [List.mem_cons, List.not_mem_nil, or_false] at hv; omega
        have hp1 : (putL [G.length]).length ≤ 10 := putL_len hlt
        have hP := rvput_G (ls := [G.length]) hlt (by simp) (by omega)
        have c1 : IntKind.u64.wrap ((G.length : Nat) : Int) = ((G.length : Nat) : Int) := by rw [wrap_u64_nat, Nat.mod_eq_of_lt (by omega)]
        have e1 : [[U.int .u64 ((G.length : Nat) : Int)]] = un .u64 [G.length] := rfl
        have hap : putL [G.length] ++ putL (gbody 0 G) = genc G := by rw [← putL_append]; rfl
        have hr0 : ((putL [G.length]).length * 1 ≤ room) = True := eq_true (by unfold room; omega)
        have hr1 : (((putL [G.length]).length + (putL (gbody 0 G)).length) * 1 ≤ room) = True := eq_true (by unfold room; omega)
        rcases k4 with ⟨rfl, h0⟩ | rfl
        · rw [h0, List.append_nil] at hap
          rw [hap] at hr0
          refine Zr rfl (by simp (maxSteps := 2000000) only [gs,zlr,reduceIte,reduceCtorEq,zpa,zpb,zpc,zpd,zpe,zpf,zpg,zph,zpi,zpj,zpk,zpl,zpm,zpn,zpo,zpp, c1, e1, snapLL_un, gc_archipelagoref1_Put, hP, un_length, List.length_nil, Nat.add_zero, List.append_nil, hr0, hap]; rfl) (Zq rfl ⟨_, rfl, ?_⟩)
          simp only [gfin, outs, U.out, U.handed, GEnv.get, if_true, Nat.reduceEqDiff, if_false, rfLL_un, Option.map_some]
          exact ⟨_, _, rfl, rfl, .inl ⟨G, hg, hf, rfl⟩⟩
        · refine Zr rfl (by simp (maxSteps := 2000000) only [gs,zlr,reduceIte,reduceCtorEq,zpa,zpb,zpc,zpd,zpe,zpf,zpg,zph,zpi,zpj,zpk,zpl,zpm,zpn,zpo,zpp, c1, e1, snapLL_un, gc_archipelagoref1_Put, hP, un_length, hr1, un_append, hap]; rfl) (Zq rfl ⟨_, rfl, ?_⟩)
          simp only [gfin, outs, U.out, U.handed, GEnv.get, if_true, Nat.reduceEqDiff, if_false, rfLL_un, Option.map_some]
          exact ⟨_, _, rfl, rfl, .inl ⟨G, hg, hf, rfl⟩⟩
    · have hG : GF gtab fid_archipelagoref15_AdjPut [.nils] [] 0 = some (.tup [.own 1 [[.int .u8 0]], .int .i64 0], []) := GF_run 60 (by kernel_rfl)
      refine ⟨_, _, hG, rfl, .inl ⟨[], trivial, rfl, ?_⟩⟩
      rw [genc, gbody]
      simp [putL, putV_small, un]
  obtain ⟨u, h', h1, rfl, h2 | h2⟩ := key
  · obtain ⟨G, a, b, rfl⟩ := h2
    exact .inl ⟨G, a, b, h1⟩
  · obtain ⟨a, rfl⟩ := h2
    exact .inr ⟨a, h1⟩

end Go.Ab

/- The document's AdjRead on the machine of values. -/
namespace Go.Ab
open Go
open Nat renaming reduceEqDiff → zpa, reduceLT → zpb, reduceAdd → zpc, reduceSub → zpd, reduceLeDiff → zpe, reduceMul → zpf
open Int renaming reduceToNat → zpg, reduceLT → zph, reduceLE → zpi, reduceEq → zpj, reduceNe → zpk, reduceBEq → zpl, reduceBNe → zpm, reduceAdd → zpn, reduceSub → zpo, reduceNeg → zpp
open List renaming replicate → zlr
set_option linter.unusedVariables false
set_option linter.unusedSimpArgs false
set_option maxRecDepth 10000

def isNs (u : U) (l : List Nat) : Prop := (u = .nils ∧ l = []) ∨ u = .own 1 (un .u64 l)

theorem numbers_R {bs : List Nat} (hb : ∀ c ∈ bs, c < 256) (hl : bs.length ≤ 10000) :
    ∃ u ok, GF gtab fid_archipelagoref15_numbers [.list false 1 (un .u8 bs)] [] 0 = some (.tup [u, .bool ok], []) ∧
      ((ok = true ∧ ∃ ns, isNs u ns ∧ ns.length ≤ bs.length ∧ (∀ x ∈ ns, x ≤ 9223372036854775807) ∧ (∀ ms, (∀ x ∈ ms, x ≤ 9223372036854775807) → putL ms = bs → ms = ns)) ∨
       (ok = false ∧ u = .nils ∧ ∀ ms, (∀ x ∈ ms, x ≤ 9223372036854775807) → putL ms ≠ bs)) := by
  have key : ∃ u h', GF gtab fid_archipelagoref15_numbers [.list false 1 (un .u8 bs)] [] 0 = some (u, h') ∧ h' = [] ∧ ∃ u' ok, u = .tup [u', .bool ok] ∧
      ((ok = true ∧ ∃ ns, isNs u' ns ∧ ns.length ≤ bs.length ∧ (∀ x ∈ ns, x ≤ 9223372036854775807) ∧ (∀ ms, (∀ x ∈ ms, x ≤ 9223372036854775807) → putL ms = bs → ms = ns)) ∨
       (ok = false ∧ u' = .nils ∧ ∀ ms, (∀ x ∈ ms, x ≤ 9223372036854775807) → putL ms ≠ bs)) := by
    refine fnR_archipelagoref15_numbers rfl ?_
    simp only [genvOf]
    refine Zr rfl (by simp (maxSteps := 2000000) only [gs,zlr,reduceIte,reduceCtorEq,zpa,zpb,zpc,zpd,zpe,zpf,zpg,zph,zpi,zpj,zpk,zpl,zpm,zpn,zpo,zpp]; rfl) ?_
    refine Zr rfl (by simp (maxSteps := 2000000) only [gs,zlr,reduceIte,reduceCtorEq,zpa,zpb,zpc,zpd,zpe,zpf,zpg,zph,zpi,zpj,zpk,zpl,zpm,zpn,zpo,zpp]; rfl) ?_
    refine Zr rfl (by simp (maxSteps := 2000000) only [gs,zlr,reduceIte,reduceCtorEq,zpa,zpb,zpc,zpd,zpe,zpf,zpg,zph,zpi,zpj,zpk,zpl,zpm,zpn,zpo,zpp]; rfl) ?_
    refine Zw rfl (fun m env h => h = [] ∧ ∃ (a : Nat) (out : List Nat), m + a = bs.length ∧ isNs (GEnv.get env 4) out ∧ out.length ≤ a ∧ (∀ x ∈ out, x ≤ 9223372036854775807) ∧ (∀ ms, (∀ x ∈ ms, x ≤ 9223372036854775807) → putL ms = bs → ∃ rest, ms = out ++ rest ∧ putL rest = bs.drop a) ∧ GEnv.get env 0 = .list false 1 (un .u8 bs) ∧ GEnv.get env 5 = .int .i64 ((a : Nat) : Int)) bs.length ⟨rfl, 0, [], rfl, .inl ⟨rfl, rfl⟩, by simp, fun x h => (by cases h), fun ms _ h => ⟨ms, rfl, h⟩, rfl, rfl⟩ ?_
    rintro m env h ⟨rfl, a, out, hm, k4, hol, hox, hcom, k0, k5⟩
    simp only [GEnv.keep, k0, k5]
    generalize GEnv.get env 4 = s4 at k4 ⊢
    refine Zr rfl (by simp (maxSteps := 2000000) only [gs,zlr,reduceIte,reduceCtorEq,zpa,zpb,zpc,zpd,zpe,zpf,zpg,zph,zpi,zpj,zpk,zpl,zpm,zpn,zpo,zpp, un_length]; rfl) (Zp rfl rfl (fun hi => ?_) (fun hi => ?_))
    · have hT := rvtake_G (bs := bs.drop a) (most := 9223372036854775807) (drop_lt hb) (by decide) (by rw [List.length_drop]; omega)
      rw [show (((9223372036854775807 : Nat) : Int)) = 9223372036854775807 from rfl] at hT
      have hts := takeV_some (most := 9223372036854775807) (bs.drop a) 0 0
      rw [List.length_drop] at hts
      have hstep : ∀ ms, (∀ x ∈ ms, x ≤ 9223372036854775807) → putL ms = bs → ∃ x r, ms = out ++ x :: r ∧ takeV 9223372036854775807 0 0 (bs.drop a) = (x, (putV x).length, 0) ∧ putL r = (bs.drop a).drop (putV x).length := fun ms h1 h2 => by
        obtain ⟨rest, h3, h4⟩ := hcom ms h1 h2
        cases rest with
        | nil =>
          have := congrArg List.length h4
          rw [List.length_drop] at this
          simp [putL] at this
          omega
        | cons x r =>
          have hx := h1 x (by rw [h3]; simp)
          rw [putL_cons] at h4
          refine ⟨x, r, h3, ?_, ?_⟩
          · rw [← h4]; exact take_put0 _ (by omega) hx
          · rw [← h4, List.drop_left]
      have n0 : ((0 : Int) ≤ (a : Int)) = True := eq_true (by omega)
      have n1 : ((a : Int) ≤ (bs.length : Int)) = True := eq_true (by omega)
      have hle : ((bs.length : Int) ≤ (bs.length : Int)) = True := eq_true (by omega)
      have hsub : ((bs.length : Int) - (a : Int)).toNat = bs.length - a := by omega
      have hcut : (bs.drop a).take (bs.length - a) = bs.drop a := List.take_of_length_le (by rw [List.length_drop]; omega)
      generalize takeV 9223372036854775807 0 0 (bs.drop a) = r at hT hts hstep
      obtain ⟨v, k, e⟩ := r
      simp only at hT hts hstep
      refine Zr rfl (by simp (maxSteps := 2000000) only [gs,zlr,reduceIte,reduceCtorEq,zpa,zpb,zpc,zpd,zpe,zpf,zpg,zph,zpi,zpj,zpk,zpl,zpm,zpn,zpo,zpp, n0, n1, hle, hsub, un_length, un_drop, un_take, hcut, snapLL_un, gc_archipelagoref1_Take, hT]; rfl) ?_
      by_cases he : e = 0
      · have fe : ((e : Int) != 0) = false := by rw [he]; rfl
        have w1 : IntKind.i64.wrap ((a : Int) + (k : Int)) = ((a + k : Nat) : Int) := by
          rw [show (a : Int) + (k : Int) = ((a + k : Nat) : Int) by omega]; exact wrap_i64_nat (by omega)
        have hr0 : (1 * 8 ≤ room) = True := eq_true (by unfold room; omega)
        have hr1 : ((out.length + 1) * 8 ≤ room) = True := eq_true (by unfold room; omega)
        have hcom2 : ∀ ms, (∀ x ∈ ms, x ≤ 9223372036854775807) → putL ms = bs → ∃ rest, ms = (out ++ [v]) ++ rest ∧ putL rest = bs.drop (a + k) := fun ms h1 h2 => by
          obtain ⟨x, r, h3, h4, h5⟩ := hstep ms h1 h2
          simp only [Prod.mk.injEq] at h4
          obtain ⟨rfl, rfl, _⟩ := h4
          exact ⟨r, by rw [h3]; simp, by rw [h5, List.drop_drop]⟩
        have hvle : v ≤ 9223372036854775807 := by omega
        refine Zr rfl (by simp (maxSteps := 2000000) only [gs,zlr,reduceIte,reduceCtorEq,zpa,zpb,zpc,zpd,zpe,zpf,zpg,zph,zpi,zpj,zpk,zpl,zpm,zpn,zpo,zpp, fe]; rfl) (Zc rfl rfl (fun h => by cases h) (fun _ => ?_))
        rcases k4 with ⟨rfl, rfl⟩ | rfl
        · have e1 : [[U.int .u64 ((v : Nat) : Int)]] = un .u64 [v] := rfl
          refine Zr rfl (by simp (maxSteps := 2000000) only [gs,zlr,reduceIte,reduceCtorEq,zpa,zpb,zpc,zpd,zpe,zpf,zpg,zph,zpi,zpj,zpk,zpl,zpm,zpn,zpo,zpp, e1, un_length, List.length_singleton, hr0, w1]; rfl) ?_
          exact Za rfl ⟨m - k, by omega, rfl, a + k, [v], by omega, .inr (by simp [GEnv.get]), by simp; omega, fun x hx => by rw [List.mem_singleton.1 hx]; exact hvle, hcom2, by simp [GEnv.get], by simp [GEnv.get]⟩
        · refine Zr rfl (by simp (maxSteps := 2000000) only [gs,zlr,reduceIte,reduceCtorEq,zpa,zpb,zpc,zpd,zpe,zpf,zpg,zph,zpi,zpj,zpk,zpl,zpm,zpn,zpo,zpp, un_length, hr1, un_snoc, w1]; rfl) ?_
          exact Za rfl ⟨m - k, by omega, rfl, a + k, out ++ [v], by omega, .inr (by simp [GEnv.get]), by simp; omega, fun x hx => by
            rcases List.mem_append.1 hx with hx | hx
            · exact hox x hx
            · rw [List.mem_singleton.1 hx]; exact hvle, hcom2, by simp [GEnv.get], by simp [GEnv.get]⟩
      · have fe : ((e : Int) != 0) = true := by rw [bne_iff_ne]; omega
        refine Zr rfl (by simp (maxSteps := 2000000) only [gs,zlr,reduceIte,reduceCtorEq,zpa,zpb,zpc,zpd,zpe,zpf,zpg,zph,zpi,zpj,zpk,zpl,zpm,zpn,zpo,zpp, fe]; rfl) (Zc rfl rfl (fun _ => ?_) (fun h => by cases h))
        exact Zr rfl (by simp (maxSteps := 2000000) only [gs,zlr,reduceIte,reduceCtorEq,zpa,zpb,zpc,zpd,zpe,zpf,zpg,zph,zpi,zpj,zpk,zpl,zpm,zpn,zpo,zpp]; rfl) (Zq rfl ⟨_, rfl, _, _, rfl, rfl, _, _, rfl, .inr ⟨rfl, rfl, fun ms h1 h2 => by
          obtain ⟨x, r, h3, h4, h5⟩ := hstep ms h1 h2
          simp only [Prod.mk.injEq] at h4
          exact he h4.2.2⟩⟩)
    · have hal : a = bs.length := by omega
      have hcom2 : ∀ ms, (∀ x ∈ ms, x ≤ 9223372036854775807) → putL ms = bs → ms = out := fun ms h1 h2 => by
        obtain ⟨rest, h3, h4⟩ := hcom ms h1 h2
        rw [hal, List.drop_length] at h4
        cases rest with
        | nil => rw [h3, List.append_nil]
        | cons x r => exact absurd h4 (putL_ne (by simp))
      rcases k4 with ⟨rfl, h0⟩ | rfl
      · exact Zr rfl (by simp (maxSteps := 2000000) only [gs,zlr,reduceIte,reduceCtorEq,zpa,zpb,zpc,zpd,zpe,zpf,zpg,zph,zpi,zpj,zpk,zpl,zpm,zpn,zpo,zpp]; rfl) (Zq rfl ⟨_, rfl, _, _, rfl, rfl, _, _, rfl, .inl ⟨rfl, out, .inl ⟨rfl, h0⟩, by omega, hox, hcom2⟩⟩)
      · refine Zr rfl (by simp (maxSteps := 2000000) only [gs,zlr,reduceIte,reduceCtorEq,zpa,zpb,zpc,zpd,zpe,zpf,zpg,zph,zpi,zpj,zpk,zpl,zpm,zpn,zpo,zpp]; rfl) (Zq rfl ⟨_, rfl, ?_⟩)
        simp only [gfin, outs, U.out, U.handed, U.share, U.rf, GEnv.get, if_true, Nat.reduceEqDiff, if_false, rfLL_un, Option.map_some]
        exact ⟨_, _, rfl, rfl, _, _, rfl, .inl ⟨rfl, out, .inr rfl, by omega, hox, hcom2⟩⟩
  obtain ⟨u, h', h1, rfl, u', ok, rfl, h2⟩ := key
  exact ⟨u', ok, h1, h2⟩

theorem near_G {f : Int} {q : Nat} (hf : -1 ≤ f ∧ f ≤ 4294967296) (hq : q ≤ 9223372036854775807) :
    GF gtab fid_archipelagoref15_near [.int .i64 f, .int .u64 (q : Int)] [] 0 = some (if q ≤ 4294967296 ∧ f + (q : Int) + 1 < 4294967296 then .tup [.int .i64 (f + (q : Int) + 1), .bool true] else .tup [.int .i64 0, .bool false], []) := by
  refine fn_archipelagoref15_near rfl ?_
  simp only [genvOf]
  refine Zr rfl (by simp (maxSteps := 2000000) only [gs,zlr,reduceIte,reduceCtorEq,zpa,zpb,zpc,zpd,zpe,zpf,zpg,zph,zpi,zpj,zpk,zpl,zpm,zpn,zpo,zpp]; rfl) ?_
  by_cases h1 : q ≤ 4294967296
  · have f1 : ((q : Int) > 4294967296) = False := eq_false (by omega)
    have w1 : IntKind.i64.wrap (q : Int) = (q : Int) := wrap_i64_nat (by omega)
    have w2 : IntKind.i64.wrap (f + (q : Int)) = f + (q : Int) := wrap_i64 (by omega) (by omega)
    have w3 : IntKind.i64.wrap (f + (q : Int) + 1) = f + (q : Int) + 1 := wrap_i64 (by omega) (by omega)
    by_cases h2 : f + (q : Int) + 1 < 4294967296
    · rw [if_pos ⟨h1, h2⟩]
      have f2 : (f + (q : Int) + 1 ≥ 4294967296) = False := eq_false (by omega)
      refine Zr rfl (by simp (maxSteps := 2000000) only [gs,zlr,reduceIte,reduceCtorEq,zpa,zpb,zpc,zpd,zpe,zpf,zpg,zph,zpi,zpj,zpk,zpl,zpm,zpn,zpo,zpp, f1, w1, w2, w3, f2, decide_false]; rfl) (Zc rfl rfl (fun h => by cases h) (fun _ => ?_))
      exact Zr rfl (by simp (maxSteps := 2000000) only [gs,zlr,reduceIte,reduceCtorEq,zpa,zpb,zpc,zpd,zpe,zpf,zpg,zph,zpi,zpj,zpk,zpl,zpm,zpn,zpo,zpp, w1, w2, w3]; rfl) (Zq rfl ⟨_, rfl, rfl⟩)
    · rw [if_neg (fun h => h2 h.2)]
      have f2 : (f + (q : Int) + 1 ≥ 4294967296) = True := eq_true (by omega)
      refine Zr rfl (by simp (maxSteps := 2000000) only [gs,zlr,reduceIte,reduceCtorEq,zpa,zpb,zpc,zpd,zpe,zpf,zpg,zph,zpi,zpj,zpk,zpl,zpm,zpn,zpo,zpp, f1, w1, w2, w3, f2, decide_false, decide_true]; rfl) (Zc rfl rfl (fun _ => ?_) (fun h => by cases h))
      exact Zr rfl (by simp (maxSteps := 2000000) only [gs,zlr,reduceIte,reduceCtorEq,zpa,zpb,zpc,zpd,zpe,zpf,zpg,zph,zpi,zpj,zpk,zpl,zpm,zpn,zpo,zpp]; rfl) (Zq rfl ⟨_, rfl, rfl⟩)
  · rw [if_neg (fun h => h1 h.1)]
    have f1 : ((q : Int) > 4294967296) = True := eq_true (by omega)
    refine Zr rfl (by simp (maxSteps := 2000000) only [gs,zlr,reduceIte,reduceCtorEq,zpa,zpb,zpc,zpd,zpe,zpf,zpg,zph,zpi,zpj,zpk,zpl,zpm,zpn,zpo,zpp, f1, decide_true]; rfl) (Zc rfl rfl (fun _ => ?_) (fun h => by cases h))
    exact Zr rfl (by simp (maxSteps := 2000000) only [gs,zlr,reduceIte,reduceCtorEq,zpa,zpb,zpc,zpd,zpe,zpf,zpg,zph,zpi,zpj,zpk,zpl,zpm,zpn,zpo,zpp]; rfl) (Zq rfl ⟨_, rfl, rfl⟩)

theorem gbody_le {n : Nat} {gs : List Gr} (h : ∀ g ∈ gs, g.1 ≤ 4294967295 ∧ g.2.length ≤ 4294967295 ∧ ∀ v ∈ g.2, v ≤ 4294967295) : ∀ x ∈ gbody n gs, x ≤ 9223372036854775807 := by
  have hgap : ∀ (vs : List Nat) (u : Nat), (∀ v ∈ vs, v ≤ 4294967295) → ∀ x ∈ gaps u vs, x ≤ 9223372036854775807 := by
    intro vs
    induction vs with
    | nil => intro u _ x hx; cases hx
    | cons v vs ih =>
      intro u h x hx
      rw [gaps] at hx
      have := h v List.mem_cons_self
      rcases List.mem_cons.1 hx with rfl | hx
      · omega
      · exact ih v (fun w hw => h w (List.mem_cons_of_mem _ hw)) x hx
  induction gs generalizing n with
  | nil => intro x hx; cases hx
  | cons g gs ih =>
    intro x hx
    rw [gbody] at hx
    obtain ⟨h1, h2, h3⟩ := h g List.mem_cons_self
    rcases List.mem_cons.1 hx with rfl | hx
    · omega
    · rcases List.mem_cons.1 hx with rfl | hx
      · omega
      · rcases List.mem_append.1 hx with hx | hx
        · exact hgap _ _ h3 x hx
        · exact ih (fun w hw => h w (List.mem_cons_of_mem _ hw)) x hx
/-- The numbers of what bytes are. -/
theorem AdjIs.ns {n : Nat} {bs : List Nat} {l : List Nd} (h : AdjIs n bs l) (hl : bs.length ≤ 10000) :
    ∃ G, GoodG 0 G ∧ gflat G = l ∧ genc G = bs ∧ (∀ e ∈ l, e.2 < n ∧ e.2 ≤ 4294967295) ∧ ∀ x ∈ G.length :: gbody 0 G, x ≤ 9223372036854775807 := by
  obtain ⟨G, h1, h2, h3, h4⟩ := h
  have hp := putL_length (G.length :: gbody 0 G)
  rw [show putL (G.length :: gbody 0 G) = bs from h3, List.length_cons, ← gbody_len] at hp
  have hs := (GoodG_strict h1).2
  have hu : ∀ e ∈ gflat G, e.1 ≤ 4294967295 ∧ e.2 ≤ 4294967295 := fun e he => by
    have := hs e he
    rw [h2] at he
    have := (h4 e he).2
    omega
  refine ⟨G, h1, h2, h3, h4, fun x hx => ?_⟩
  rcases List.mem_cons.1 hx with rfl | hx
  · omega
  · refine gbody_le (fun g hg => ?_) x hx
    obtain ⟨v, vs, hv⟩ := List.exists_cons_of_ne_nil (GoodG_mem h1 g hg).2.2
    have hm : ∀ w ∈ g.2, g.1 ≤ 4294967295 ∧ w ≤ 4294967295 := fun w hw => hu (g.1, w) (gflat_mem.2 ⟨g, hg, rfl, hw⟩)
    have := gflat_len g hg
    exact ⟨(hm v (by rw [hv]; simp)).1, by omega, fun w hw => (hm w hw).2⟩

set_option maxHeartbeats 4000000 in
theorem raread_R {w : U} {bs : List Nat} {n : Nat} (hw : isBa w bs) (hb : ∀ c ∈ bs, c < 256) (hl : bs.length ≤ 10000) (hn : n < 18446744073709551616) :
    ∃ u, ReadIs n bs u ∧ GF gtab fid_archipelagoref15_AdjRead [w, .int .u64 (n : Int)] [] 0 = some (u, []) := by
  have key : ∃ u h', GF gtab fid_archipelagoref15_AdjRead [w, .int .u64 (n : Int)] [] 0 = some (u, h') ∧ h' = [] ∧ ReadIs n bs u := by
    have no : (¬ ∃ l, AdjIs n bs l) → ReadIs n bs (.tup [.nils, .int .i64 21]) := fun h => .inr ⟨h, rfl⟩
    rcases hw with rfl | ⟨rfl, hbs0⟩
    case inr =>
      have hG : GF gtab fid_archipelagoref15_numbers [.nils] [] 0 = some (.tup [.nils, .bool true], []) := GF_run 60 (by kernel_rfl)
      have hno : ReadIs n bs (.tup [.nils, .int .i64 21]) := no fun ⟨l, G, _, _, h3, _⟩ => by
        rw [hbs0] at h3
        exact putL_ne (by simp) h3
      refine fnR_archipelagoref15_AdjRead rfl ?_
      simp only [genvOf]
      refine Zr rfl (by simp (maxSteps := 2000000) only [gs,zlr,reduceIte,reduceCtorEq,zpa,zpb,zpc,zpd,zpe,zpf,zpg,zph,zpi,zpj,zpk,zpl,zpm,zpn,zpo,zpp]; rfl) ?_
      refine Zr rfl (by simp (maxSteps := 2000000) only [gs,zlr,reduceIte,reduceCtorEq,zpa,zpb,zpc,zpd,zpe,zpf,zpg,zph,zpi,zpj,zpk,zpl,zpm,zpn,zpo,zpp, gc_archipelagoref15_numbers, hG]; rfl) ?_
      refine Zr rfl (by simp (maxSteps := 2000000) only [gs,zlr,reduceIte,reduceCtorEq,zpa,zpb,zpc,zpd,zpe,zpf,zpg,zph,zpi,zpj,zpk,zpl,zpm,zpn,zpo,zpp, beq_self_eq_true]; rfl) (Zc rfl rfl (fun _ => ?_) (fun h => by cases h))
      exact Zr rfl (by simp (maxSteps := 2000000) only [gs,zlr,reduceIte,reduceCtorEq,zpa,zpb,zpc,zpd,zpe,zpf,zpg,zph,zpi,zpj,zpk,zpl,zpm,zpn,zpo,zpp]; rfl) (Zq rfl ⟨_, rfl, _, _, rfl, rfl, hno⟩)
    obtain ⟨nu, ok, hG, hcase⟩ := numbers_R hb hl
    refine fnR_archipelagoref15_AdjRead rfl ?_
    simp only [genvOf]
    refine Zr rfl (by simp (maxSteps := 2000000) only [gs,zlr,reduceIte,reduceCtorEq,zpa,zpb,zpc,zpd,zpe,zpf,zpg,zph,zpi,zpj,zpk,zpl,zpm,zpn,zpo,zpp]; rfl) ?_
    rcases hcase with ⟨rfl, ns, hns, hnl, hnx, huniq⟩ | ⟨rfl, rfl, hnone⟩
    case inr =>
      have hno : ReadIs n bs (.tup [.nils, .int .i64 21]) := no fun ⟨l, hl'⟩ => by
        obtain ⟨G, _, _, h3, _, h5⟩ := hl'.ns hl
        exact hnone _ h5 h3
      refine Zr rfl (by simp (maxSteps := 2000000) only [gs,zlr,reduceIte,reduceCtorEq,zpa,zpb,zpc,zpd,zpe,zpf,zpg,zph,zpi,zpj,zpk,zpl,zpm,zpn,zpo,zpp, snapLL_un, gc_archipelagoref15_numbers, hG]; rfl) ?_
      refine Zr rfl (by simp (maxSteps := 2000000) only [gs,zlr,reduceIte,reduceCtorEq,zpa,zpb,zpc,zpd,zpe,zpf,zpg,zph,zpi,zpj,zpk,zpl,zpm,zpn,zpo,zpp]; rfl) (Zc rfl rfl (fun _ => ?_) (fun h => by cases h))
      exact Zr rfl (by simp (maxSteps := 2000000) only [gs,zlr,reduceIte,reduceCtorEq,zpa,zpb,zpc,zpd,zpe,zpf,zpg,zph,zpi,zpj,zpk,zpl,zpm,zpn,zpo,zpp]; rfl) (Zq rfl ⟨_, rfl, _, _, rfl, rfl, hno⟩)
    have hsplit : ∀ l, AdjIs n bs l → ∃ G, GoodG 0 G ∧ gflat G = l ∧ ns = G.length :: gbody 0 G ∧ (∀ e ∈ gflat G, e.2 < n ∧ e.2 ≤ 4294967295) := fun l h => by
      obtain ⟨G, h1, h2, h3, h4, h5⟩ := h.ns hl
      exact ⟨G, h1, h2, (huniq _ h5 h3).symm, by rw [h2]; exact h4⟩
    have hnoG : (∀ G, GoodG 0 G → ns = G.length :: gbody 0 G → (∀ e ∈ gflat G, e.2 < n ∧ e.2 ≤ 4294967295) → False) → ReadIs n bs (.tup [.nils, .int .i64 21]) := fun h => no fun ⟨l, hl'⟩ => by
      obtain ⟨G, h1, _, h3, h4⟩ := hsplit l hl'
      exact h G h1 h3 h4
    rcases hns with ⟨rfl, h0⟩ | rfl
    · have hno := hnoG fun G _ h _ => by rw [h0] at h; cases h
      refine Zr rfl (by simp (maxSteps := 2000000) only [gs,zlr,reduceIte,reduceCtorEq,zpa,zpb,zpc,zpd,zpe,zpf,zpg,zph,zpi,zpj,zpk,zpl,zpm,zpn,zpo,zpp, snapLL_un, gc_archipelagoref15_numbers, hG]; rfl) ?_
      refine Zr rfl (by simp (maxSteps := 2000000) only [gs,zlr,reduceIte,reduceCtorEq,zpa,zpb,zpc,zpd,zpe,zpf,zpg,zph,zpi,zpj,zpk,zpl,zpm,zpn,zpo,zpp, beq_self_eq_true]; rfl) (Zc rfl rfl (fun _ => ?_) (fun h => by cases h))
      exact Zr rfl (by simp (maxSteps := 2000000) only [gs,zlr,reduceIte,reduceCtorEq,zpa,zpb,zpc,zpd,zpe,zpf,zpg,zph,zpi,zpj,zpk,zpl,zpm,zpn,zpo,zpp]; rfl) (Zq rfl ⟨_, rfl, _, _, rfl, rfl, hno⟩)
    by_cases h0 : ns = []
    · have hno := hnoG fun G _ h _ => by rw [h0] at h; cases h
      subst h0
      have z0 : (((un .u64 []).length : Nat) : Int) = 0 := rfl
      refine Zr rfl (by simp (maxSteps := 2000000) only [gs,zlr,reduceIte,reduceCtorEq,zpa,zpb,zpc,zpd,zpe,zpf,zpg,zph,zpi,zpj,zpk,zpl,zpm,zpn,zpo,zpp, snapLL_un, gc_archipelagoref15_numbers, hG]; rfl) ?_
      refine Zr rfl (by simp (maxSteps := 2000000) only [gs,zlr,reduceIte,reduceCtorEq,zpa,zpb,zpc,zpd,zpe,zpf,zpg,zph,zpi,zpj,zpk,zpl,zpm,zpn,zpo,zpp, z0, beq_self_eq_true]; rfl) (Zc rfl rfl (fun _ => ?_) (fun h => by cases h))
      exact Zr rfl (by simp (maxSteps := 2000000) only [gs,zlr,reduceIte,reduceCtorEq,zpa,zpb,zpc,zpd,zpe,zpf,zpg,zph,zpi,zpj,zpk,zpl,zpm,zpn,zpo,zpp]; rfl) (Zq rfl ⟨_, rfl, _, _, rfl, rfl, hno⟩)
    have hnpos := List.length_pos_iff.2 h0
    have z1 : (((ns.length : Nat) : Int) == 0) = false := beq_eq_false_iff_ne.2 (by omega)
    refine Zr rfl (by simp (maxSteps := 2000000) only [gs,zlr,reduceIte,reduceCtorEq,zpa,zpb,zpc,zpd,zpe,zpf,zpg,zph,zpi,zpj,zpk,zpl,zpm,zpn,zpo,zpp, snapLL_un, gc_archipelagoref15_numbers, hG]; rfl) ?_
    refine Zr rfl (by simp (maxSteps := 2000000) only [gs,zlr,reduceIte,reduceCtorEq,zpa,zpb,zpc,zpd,zpe,zpf,zpg,zph,zpi,zpj,zpk,zpl,zpm,zpn,zpo,zpp, un_length, z1]; rfl) (Zc rfl rfl (fun h => by cases h) (fun _ => ?_))
    refine Zr rfl (by simp (maxSteps := 2000000) only [gs,zlr,reduceIte,reduceCtorEq,zpa,zpb,zpc,zpd,zpe,zpf,zpg,zph,zpi,zpj,zpk,zpl,zpm,zpn,zpo,zpp]; rfl) ?_
    refine Zr rfl (by simp (maxSteps := 2000000) only [gs,zlr,reduceIte,reduceCtorEq,zpa,zpb,zpc,zpd,zpe,zpf,zpg,zph,zpi,zpj,zpk,zpl,zpm,zpn,zpo,zpp]; rfl) ?_
    refine Zr rfl (by simp (maxSteps := 2000000) only [gs,zlr,reduceIte,reduceCtorEq,zpa,zpb,zpc,zpd,zpe,zpf,zpg,zph,zpi,zpj,zpk,zpl,zpm,zpn,zpo,zpp]; rfl) ?_
    refine (Zj1 (fun env h => h = [] ∧ ∃ out : List Nd, isOe (GEnv.get env 8) out ∧ FitE n out ∧ out.length ≤ bs.length ∧ (∀ G, GoodG 0 G → ns = G.length :: gbody 0 G → (∀ e ∈ gflat G, e.2 < n ∧ e.2 ≤ 4294967295) → gflat G = out) ∧ GEnv.get env 0 = .list false 1 (un .u8 bs) ∧ GEnv.get env 1 = .int .u64 (n : Int) ∧ GEnv.get env 6 = .list false 1 (un .u64 ns)) ?_ ?_)
    · refine Zw rfl (fun m env h => h = [] ∧ ∃ (a : Nat) (u : Int) (out : List Nd), m + a = ns.length ∧ (-1 ≤ u ∧ u ≤ 4294967295) ∧ isOe (GEnv.get env 8) out ∧ FitE n out ∧ out.length ≤ a ∧
        (∀ G, GoodG 0 G → ns = G.length :: gbody 0 G → (∀ e ∈ gflat G, e.2 < n ∧ e.2 ≤ 4294967295) → ∃ G2, ns.drop a = gbody (u + 1).toNat G2 ∧ GoodG (u + 1).toNat G2 ∧ gflat G = out ++ gflat G2) ∧ GEnv.get env 0 = .list false 1 (un .u8 bs) ∧ GEnv.get env 1 = .int .u64 (n : Int) ∧ GEnv.get env 6 = .list false 1 (un .u64 ns) ∧ GEnv.get env 9 = .int .i64 u ∧ GEnv.get env 10 = .int .i64 ((a : Nat) : Int)) (ns.length - 1) ⟨rfl, 1, -1, [], by omega, by omega, .inl ⟨rfl, rfl⟩, fun e he => (by cases he), by simp, fun G h1 h2 _ => ⟨G, by rw [h2]; rfl, by rw [show ((-1 : Int) + 1).toNat = 0 from rfl]; exact h1, rfl⟩, rfl, rfl, rfl, rfl, rfl⟩ ?_
      rintro m env h ⟨rfl, a, u, out, hm, hu, k8, hfit, hol, hcom, k0, k1, k6, k9, k10⟩
      simp only [GEnv.keep, k0, k1, k6, k9, k10]
      generalize GEnv.get env 8 = s8 at k8 ⊢
      by_cases hi : a < ns.length
      case neg =>
        have g1 : ((a : Int) < (ns.length : Int)) = False := eq_false (by omega)
        refine Zr rfl (by simp (maxSteps := 2000000) only [gs,zlr,reduceIte,reduceCtorEq,zpa,zpb,zpc,zpd,zpe,zpf,zpg,zph,zpi,zpj,zpk,zpl,zpm,zpn,zpo,zpp, un_length, g1]; rfl) (Zc rfl rfl (fun h => by cases h) (fun _ => ?_))
        refine Za rfl ⟨rfl, out, k8, hfit, by omega, fun G h1 h2 h3 => ?_, rfl, rfl, rfl⟩
        obtain ⟨G2, h4, h5, h6⟩ := hcom G h1 h2 h3
        rw [List.drop_eq_nil_of_le (by omega)] at h4
        cases G2 with
        | nil => rw [h6]; simp [gflat]
        | cons g G2 => rw [gbody] at h4; cases h4
      have g1 : ((a : Int) < (ns.length : Int)) = True := eq_true (by omega)
      have gx : ns[a]? = some (ns[a]'hi) := List.getElem?_eq_getElem _
      have hq := hnx _ (List.mem_of_getElem? gx)
      have hdr : ns.drop a = ns[a]'hi :: ns.drop (a + 1) := List.drop_eq_getElem_cons hi
      generalize ns[a]'hi = q at gx hq hdr
      have n0 : ((0 : Int) ≤ (a : Int)) = True := eq_true (by omega)
      have NR := near_G (f := u) (q := q) (by omega) hq
      have wa : IntKind.i64.wrap ((a : Int) + 1) = ((a + 1 : Nat) : Int) := up64 (by omega)
      -- what a group says
      have hgr : ∀ G, GoodG 0 G → ns = G.length :: gbody 0 G → (∀ e ∈ gflat G, e.2 < n ∧ e.2 ≤ 4294967295) → ∃ g G2, q = g.1 - (u + 1).toNat ∧ ns.drop (a + 1) = g.2.length :: (gaps g.1 g.2 ++ gbody (g.1 + 1) G2) ∧ (u + 1).toNat ≤ g.1 ∧ g.1 < 4294967295 ∧ Inc g.1 g.2 ∧ GoodG (g.1 + 1) G2 ∧ gflat G = out ++ (gfl g ++ gflat G2) := fun G h1 h2 h3 => by
        obtain ⟨G2, h4, h5, h6⟩ := hcom G h1 h2 h3
        rw [hdr] at h4
        cases G2 with
        | nil => cases h4
        | cons g G2 =>
          rw [gbody, List.cons.injEq] at h4
          obtain ⟨v, vs, hv⟩ := List.exists_cons_of_ne_nil h5.2.1
          have hm1 : (g.1, v) ∈ gflat G := by rw [h6, gflat_cons]; exact List.mem_append_right _ (List.mem_append_left _ (gfl_mem.2 ⟨rfl, by rw [hv]; simp⟩))
          have hm2 := h3 _ hm1
          have hm3 := Inc_mem h5.2.2.1 v (by rw [hv]; simp)
          simp only at hm2
          exact ⟨g, G2, h4.1, h4.2, h5.1, by omega, h5.2.2.1, h5.2.2.2, by rw [h6, gflat_cons]⟩
      refine Zr rfl (by simp (maxSteps := 2000000) only [gs,zlr,reduceIte,reduceCtorEq,zpa,zpb,zpc,zpd,zpe,zpf,zpg,zph,zpi,zpj,zpk,zpl,zpm,zpn,zpo,zpp, un_length, g1]; rfl) (Zc rfl rfl (fun _ => ?_) (fun h => by cases h))
      by_cases hnear : q ≤ 4294967296 ∧ u + (q : Int) + 1 < 4294967296
      case neg =>
        rw [if_neg hnear] at NR
        have hno := hnoG fun G h1 h2 h3 => by
          obtain ⟨g, G2, e1, e2, e3, e4, _⟩ := hgr G h1 h2 h3
          exact hnear ⟨by omega, by omega⟩
        refine Zr rfl (by simp (maxSteps := 2000000) only [gs,zlr,reduceIte,reduceCtorEq,zpa,zpb,zpc,zpd,zpe,zpf,zpg,zph,zpi,zpj,zpk,zpl,zpm,zpn,zpo,zpp, n0, un_get gx, gc_archipelagoref15_near, NR]; rfl) ?_
        refine Zr rfl (by simp (maxSteps := 2000000) only [gs,zlr,reduceIte,reduceCtorEq,zpa,zpb,zpc,zpd,zpe,zpf,zpg,zph,zpi,zpj,zpk,zpl,zpm,zpn,zpo,zpp]; rfl) (Zc rfl rfl (fun _ => ?_) (fun h => by cases h))
        exact Zr rfl (by simp (maxSteps := 2000000) only [gs,zlr,reduceIte,reduceCtorEq,zpa,zpb,zpc,zpd,zpe,zpf,zpg,zph,zpi,zpj,zpk,zpl,zpm,zpn,zpo,zpp]; rfl) (Zq rfl ⟨_, rfl, _, _, rfl, rfl, hno⟩)
      rw [if_pos hnear] at NR
      by_cases hi2 : a + 1 < ns.length
      case neg =>
        have g2 : (((a + 1 : Nat) : Int) ≥ (ns.length : Int)) = True := eq_true (by omega)
        have hno := hnoG fun G h1 h2 h3 => by
          obtain ⟨g, G2, e1, e2, _⟩ := hgr G h1 h2 h3
          rw [List.drop_eq_nil_of_le (by omega)] at e2
          cases e2
        refine Zr rfl (by simp (maxSteps := 2000000) only [gs,zlr,reduceIte,reduceCtorEq,zpa,zpb,zpc,zpd,zpe,zpf,zpg,zph,zpi,zpj,zpk,zpl,zpm,zpn,zpo,zpp, n0, un_get gx, gc_archipelagoref15_near, NR]; rfl) ?_
        refine Zr rfl (by simp (maxSteps := 2000000) only [gs,zlr,reduceIte,reduceCtorEq,zpa,zpb,zpc,zpd,zpe,zpf,zpg,zph,zpi,zpj,zpk,zpl,zpm,zpn,zpo,zpp, wa, un_length, g2]; rfl) (Zc rfl rfl (fun _ => ?_) (fun h => by cases h))
        exact Zr rfl (by simp (maxSteps := 2000000) only [gs,zlr,reduceIte,reduceCtorEq,zpa,zpb,zpc,zpd,zpe,zpf,zpg,zph,zpi,zpj,zpk,zpl,zpm,zpn,zpo,zpp]; rfl) (Zq rfl ⟨_, rfl, _, _, rfl, rfl, hno⟩)
      have g2 : (((a + 1 : Nat) : Int) ≥ (ns.length : Int)) = False := eq_false (by omega)
      have gc : ns[a + 1]? = some (ns[a + 1]'hi2) := List.getElem?_eq_getElem _
      have hcx := hnx _ (List.mem_of_getElem? gc)
      have hdr2 : ns.drop (a + 1) = ns[a + 1]'hi2 :: ns.drop (a + 2) := List.drop_eq_getElem_cons hi2
      generalize ns[a + 1]'hi2 = c at gc hcx hdr2
      have n2 : ((0 : Int) ≤ ((a + 1 : Nat) : Int)) = True := eq_true (by omega)
      have wa2 : IntKind.i64.wrap ((a : Int) + 2) = ((a + 2 : Nat) : Int) := wrap_i64_nat (n := a + 2) (by omega)
      obtain ⟨U0, hU0⟩ : ∃ U0 : Nat, u + (q : Int) + 1 = (U0 : Int) := ⟨(u + (q : Int) + 1).toNat, by omega⟩
      rw [hU0] at NR
      have hgr2 : ∀ G, GoodG 0 G → ns = G.length :: gbody 0 G → (∀ e ∈ gflat G, e.2 < n ∧ e.2 ≤ 4294967295) → ∃ vs2 G2, ns.drop (a + 2) = gaps U0 vs2 ++ gbody (U0 + 1) G2 ∧ vs2.length = c ∧ Inc U0 vs2 ∧ GoodG (U0 + 1) G2 ∧ gflat G = out ++ (gfl (U0, vs2) ++ gflat G2) := fun G h1 h2 h3 => by
        obtain ⟨g, G2, e1, e2, e3, e4, e5, e6, e7⟩ := hgr G h1 h2 h3
        rw [hdr2, List.cons.injEq] at e2
        have : g.1 = U0 := by omega
        obtain ⟨gu, gv⟩ := g
        simp only at *
        subst this
        exact ⟨gv, G2, e2.2, e2.1.symm, e5, e6, e7⟩
      refine Zr rfl (by simp (maxSteps := 2000000) only [gs,zlr,reduceIte,reduceCtorEq,zpa,zpb,zpc,zpd,zpe,zpf,zpg,zph,zpi,zpj,zpk,zpl,zpm,zpn,zpo,zpp, n0, un_get gx, gc_archipelagoref15_near, NR]; rfl) ?_
      refine Zr rfl (by simp (maxSteps := 2000000) only [gs,zlr,reduceIte,reduceCtorEq,zpa,zpb,zpc,zpd,zpe,zpf,zpg,zph,zpi,zpj,zpk,zpl,zpm,zpn,zpo,zpp, wa, un_length, g2]; rfl) (Zc rfl rfl (fun h => by cases h) (fun _ => ?_))
      refine Zr rfl (by simp (maxSteps := 2000000) only [gs,zlr,reduceIte,reduceCtorEq,zpa,zpb,zpc,zpd,zpe,zpf,zpg,zph,zpi,zpj,zpk,zpl,zpm,zpn,zpo,zpp]; rfl) ?_
      refine Zr rfl (by simp (maxSteps := 2000000) only [gs,zlr,reduceIte,reduceCtorEq,zpa,zpb,zpc,zpd,zpe,zpf,zpg,zph,zpi,zpj,zpk,zpl,zpm,zpn,zpo,zpp, wa, n2, un_get gc]; rfl) ?_
      refine Zr rfl (by simp (maxSteps := 2000000) only [gs,zlr,reduceIte,reduceCtorEq,zpa,zpb,zpc,zpd,zpe,zpf,zpg,zph,zpi,zpj,zpk,zpl,zpm,zpn,zpo,zpp, wa2]; rfl) ?_
      refine Zr rfl (by simp (maxSteps := 2000000) only [gs,zlr,reduceIte,reduceCtorEq,zpa,zpb,zpc,zpd,zpe,zpf,zpg,zph,zpi,zpj,zpk,zpl,zpm,zpn,zpo,zpp]; rfl) ?_
      refine Zr rfl (by simp (maxSteps := 2000000) only [gs,zlr,reduceIte,reduceCtorEq,zpa,zpb,zpc,zpd,zpe,zpf,zpg,zph,zpi,zpj,zpk,zpl,zpm,zpn,zpo,zpp]; rfl) ?_
      clear hcom hgr
      refine Zw rfl (fun m env h => h = [] ∧ ∃ (b k W : Nat) (out : List Nd), m + b = ns.length ∧ a + 2 ≤ b ∧ k ≤ c ∧ (U0 ≤ W ∧ W ≤ 4294967295) ∧ isOe (GEnv.get env 8) out ∧ FitE n out ∧ out.length ≤ b ∧ k ≤ b ∧
        (∀ G, GoodG 0 G → ns = G.length :: gbody 0 G → (∀ e ∈ gflat G, e.2 < n ∧ e.2 ≤ 4294967295) → ∃ vs2 G2, ns.drop b = gaps W vs2 ++ gbody (U0 + 1) G2 ∧ vs2.length = c - k ∧ Inc W vs2 ∧ GoodG (U0 + 1) G2 ∧ gflat G = out ++ (gfl (U0, vs2) ++ gflat G2)) ∧ GEnv.get env 0 = .list false 1 (un .u8 bs) ∧ GEnv.get env 1 = .int .u64 (n : Int) ∧ GEnv.get env 6 = .list false 1 (un .u64 ns) ∧ GEnv.get env 9 = .int .i64 ((U0 : Nat) : Int) ∧ GEnv.get env 10 = .int .i64 ((b : Nat) : Int) ∧ GEnv.get env 13 = .int .u64 ((c : Nat) : Int) ∧ GEnv.get env 14 = .int .i64 ((W : Nat) : Int) ∧ GEnv.get env 15 = .int .u64 ((k : Nat) : Int)) (ns.length - (a + 2)) ⟨rfl, a + 2, 0, U0, out, by omega, by omega, by omega, by omega, k8, hfit, by omega, by omega, fun G h1 h2 h3 => by
          obtain ⟨vs2, G2, e1, e2, e3, e4, e5⟩ := hgr2 G h1 h2 h3
          exact ⟨vs2, G2, e1, by omega, e3, e4, e5⟩, rfl, rfl, rfl, rfl, rfl, rfl, rfl, rfl⟩ ?_
      have hmeas : ns.length - (a + 2) < m := by omega
      have hma : m + a = ns.length := hm
      clear hgr2 k8 hfit hol
      rintro m' env h ⟨rfl, a', k, W, out', hm', hab, hkc, hW, k8, hfit, hol, hka, hcom, j0, j1, j6, j9, j10, j13, j14, j15⟩
      simp only [GEnv.keep, j0, j1, j6, j9, j10, j13, j14, j15]
      generalize GEnv.get env 8 = s8' at k8 ⊢
      by_cases hkk : k < c
      case neg =>
        have g3 : ((k : Int) < (c : Int)) = False := eq_false (by omega)
        refine Zr rfl (by simp (maxSteps := 2000000) only [gs,zlr,reduceIte,reduceCtorEq,zpa,zpb,zpc,zpd,zpe,zpf,zpg,zph,zpi,zpj,zpk,zpl,zpm,zpn,zpo,zpp, g3]; rfl) (Zc rfl rfl (fun h => by cases h) (fun _ => ?_))
        refine Za rfl ⟨ns.length - a', ?_, rfl, a', (U0 : Int), out', ?_, by omega, k8, hfit, hol, fun G h1 h2 h3 => ?_, rfl, rfl, rfl, rfl, rfl⟩
        · omega
        · omega
        · obtain ⟨vs2, G2, e1, e2, e3, e4, e5⟩ := hcom G h1 h2 h3
          have : vs2 = [] := List.eq_nil_of_length_eq_zero (by omega)
          subst this
          exact ⟨G2, e1, e4, by rw [e5]; rfl⟩
      have g3 : ((k : Int) < (c : Int)) = True := eq_true (by omega)
      refine Zr rfl (by simp (maxSteps := 2000000) only [gs,zlr,reduceIte,reduceCtorEq,zpa,zpb,zpc,zpd,zpe,zpf,zpg,zph,zpi,zpj,zpk,zpl,zpm,zpn,zpo,zpp, g3]; rfl) (Zc rfl rfl (fun _ => ?_) (fun h => by cases h))
      by_cases hi3 : a' < ns.length
      case neg =>
        have g4 : ((a' : Int) ≥ (ns.length : Int)) = True := eq_true (by omega)
        have hno := hnoG fun G h1 h2 h3 => by
          obtain ⟨vs2, G2, e1, e2, _⟩ := hcom G h1 h2 h3
          rw [List.drop_eq_nil_of_le (by omega)] at e1
          have := congrArg List.length e1
          rw [List.length_append, gaps_length, List.length_nil] at this
          omega
        refine Zr rfl (by simp (maxSteps := 2000000) only [gs,zlr,reduceIte,reduceCtorEq,zpa,zpb,zpc,zpd,zpe,zpf,zpg,zph,zpi,zpj,zpk,zpl,zpm,zpn,zpo,zpp, un_length, g4]; rfl) (Zc rfl rfl (fun _ => ?_) (fun h => by cases h))
        exact Zr rfl (by simp (maxSteps := 2000000) only [gs,zlr,reduceIte,reduceCtorEq,zpa,zpb,zpc,zpd,zpe,zpf,zpg,zph,zpi,zpj,zpk,zpl,zpm,zpn,zpo,zpp]; rfl) (Zq rfl ⟨_, rfl, _, _, rfl, rfl, hno⟩)
      have g4 : ((a' : Int) ≥ (ns.length : Int)) = False := eq_false (by omega)
      have gy : ns[a']? = some (ns[a']'hi3) := List.getElem?_eq_getElem _
      have hy := hnx _ (List.mem_of_getElem? gy)
      have hdr3 : ns.drop a' = ns[a']'hi3 :: ns.drop (a' + 1) := List.drop_eq_getElem_cons hi3
      generalize ns[a']'hi3 = y at gy hy hdr3
      have n3 : ((0 : Int) ≤ (a' : Int)) = True := eq_true (by omega)
      have NR2 := near_G (f := (W : Int)) (q := y) (by omega) hy
      have wa3 : IntKind.i64.wrap ((a' : Int) + 1) = ((a' + 1 : Nat) : Int) := up64 (by omega)
      have wk : IntKind.u64.wrap ((k : Int) + 1) = ((k + 1 : Nat) : Int) := by rw [u64_one, Nat.mod_eq_of_lt (by omega)]
      have hgr3 : ∀ G, GoodG 0 G → ns = G.length :: gbody 0 G → (∀ e ∈ gflat G, e.2 < n ∧ e.2 ≤ 4294967295) → ∃ v vs2 G2, y = v - W - 1 ∧ W < v ∧ v < n ∧ v ≤ 4294967295 ∧ ns.drop (a' + 1) = gaps v vs2 ++ gbody (U0 + 1) G2 ∧ vs2.length = c - (k + 1) ∧ Inc v vs2 ∧ GoodG (U0 + 1) G2 ∧ gflat G = (out' ++ [(U0, v)]) ++ (gfl (U0, vs2) ++ gflat G2) := fun G h1 h2 h3 => by
        obtain ⟨vs2, G2, e1, e2, e3, e4, e5⟩ := hcom G h1 h2 h3
        cases vs2 with
        | nil => simp only [List.length_nil] at e2; omega
        | cons v vs2 =>
          rw [hdr3, gaps, List.cons_append, List.cons.injEq] at e1
          have hv := h3 (U0, v) (by rw [e5]; simp [gfl])
          simp only at hv
          exact ⟨v, vs2, G2, e1.1, e3.1, hv.1, hv.2, e1.2, by simp only [List.length_cons] at e2; omega, e3.2, e4, by rw [e5]; simp [gfl]⟩
      refine Zr rfl (by simp (maxSteps := 2000000) only [gs,zlr,reduceIte,reduceCtorEq,zpa,zpb,zpc,zpd,zpe,zpf,zpg,zph,zpi,zpj,zpk,zpl,zpm,zpn,zpo,zpp, un_length, g4]; rfl) (Zc rfl rfl (fun h => by cases h) (fun _ => ?_))
      by_cases hnear2 : y ≤ 4294967296 ∧ (W : Int) + (y : Int) + 1 < 4294967296
      case neg =>
        rw [if_neg hnear2] at NR2
        have hno := hnoG fun G h1 h2 h3 => by
          obtain ⟨v, vs2, G2, e1, e2, e3, e4, _⟩ := hgr3 G h1 h2 h3
          exact hnear2 ⟨by omega, by omega⟩
        refine Zr rfl (by simp (maxSteps := 2000000) only [gs,zlr,reduceIte,reduceCtorEq,zpa,zpb,zpc,zpd,zpe,zpf,zpg,zph,zpi,zpj,zpk,zpl,zpm,zpn,zpo,zpp, n3, un_get gy, gc_archipelagoref15_near, NR2]; rfl) ?_
        refine Zr rfl (by simp (maxSteps := 2000000) only [gs,zlr,reduceIte,reduceCtorEq,zpa,zpb,zpc,zpd,zpe,zpf,zpg,zph,zpi,zpj,zpk,zpl,zpm,zpn,zpo,zpp]; rfl) (Zc rfl rfl (fun _ => ?_) (fun h => by cases h))
        exact Zr rfl (by simp (maxSteps := 2000000) only [gs,zlr,reduceIte,reduceCtorEq,zpa,zpb,zpc,zpd,zpe,zpf,zpg,zph,zpi,zpj,zpk,zpl,zpm,zpn,zpo,zpp]; rfl) (Zq rfl ⟨_, rfl, _, _, rfl, rfl, hno⟩)
      rw [if_pos hnear2] at NR2
      obtain ⟨V, hV⟩ : ∃ V : Nat, (W : Int) + (y : Int) + 1 = (V : Int) := ⟨W + y + 1, by omega⟩
      rw [hV] at NR2
      have cv : IntKind.u64.wrap (V : Int) = (V : Int) := by rw [wrap_u64_nat, Nat.mod_eq_of_lt (by omega)]
      by_cases hVn : V < n
      case neg =>
        have g5 : ((V : Int) ≥ (n : Int)) = True := eq_true (by omega)
        have hno := hnoG fun G h1 h2 h3 => by
          obtain ⟨v, vs2, G2, e1, e2, e3, e4, _⟩ := hgr3 G h1 h2 h3
          omega
        refine Zr rfl (by simp (maxSteps := 2000000) only [gs,zlr,reduceIte,reduceCtorEq,zpa,zpb,zpc,zpd,zpe,zpf,zpg,zph,zpi,zpj,zpk,zpl,zpm,zpn,zpo,zpp, n3, un_get gy, gc_archipelagoref15_near, NR2]; rfl) ?_
        refine Zr rfl (by simp (maxSteps := 2000000) only [gs,zlr,reduceIte,reduceCtorEq,zpa,zpb,zpc,zpd,zpe,zpf,zpg,zph,zpi,zpj,zpk,zpl,zpm,zpn,zpo,zpp, cv, g5]; rfl) (Zc rfl rfl (fun _ => ?_) (fun h => by cases h))
        exact Zr rfl (by simp (maxSteps := 2000000) only [gs,zlr,reduceIte,reduceCtorEq,zpa,zpb,zpc,zpd,zpe,zpf,zpg,zph,zpi,zpj,zpk,zpl,zpm,zpn,zpo,zpp]; rfl) (Zq rfl ⟨_, rfl, _, _, rfl, rfl, hno⟩)
      have g5 : ((V : Int) ≥ (n : Int)) = False := eq_false (by omega)
      have c1 : IntKind.u32.wrap (U0 : Int) = (U0 : Int) := by rw [wrap_u32_nat, Nat.mod_eq_of_lt (by omega)]
      have c2 : IntKind.u32.wrap (V : Int) = (V : Int) := by rw [wrap_u32_nat, Nat.mod_eq_of_lt (by omega)]
      have hr0 : (1 * 8 ≤ room) = True := eq_true (by unfold room; omega)
      have hr1 : ((out'.length + 1) * 8 ≤ room) = True := eq_true (by unfold room; omega)
      have hcom2 : ∀ G, GoodG 0 G → ns = G.length :: gbody 0 G → (∀ e ∈ gflat G, e.2 < n ∧ e.2 ≤ 4294967295) → ∃ vs2 G2, ns.drop (a' + 1) = gaps V vs2 ++ gbody (U0 + 1) G2 ∧ vs2.length = c - (k + 1) ∧ Inc V vs2 ∧ GoodG (U0 + 1) G2 ∧ gflat G = (out' ++ [(U0, V)]) ++ (gfl (U0, vs2) ++ gflat G2) := fun G h1 h2 h3 => by
        obtain ⟨v, vs2, G2, e1, e2, e3, e4, e5, e6, e7, e8, e9⟩ := hgr3 G h1 h2 h3
        have : v = V := by omega
        subst this
        exact ⟨vs2, G2, e5, e6, e7, e8, e9⟩
      refine Zr rfl (by simp (maxSteps := 2000000) only [gs,zlr,reduceIte,reduceCtorEq,zpa,zpb,zpc,zpd,zpe,zpf,zpg,zph,zpi,zpj,zpk,zpl,zpm,zpn,zpo,zpp, n3, un_get gy, gc_archipelagoref15_near, NR2]; rfl) ?_
      refine Zr rfl (by simp (maxSteps := 2000000) only [gs,zlr,reduceIte,reduceCtorEq,zpa,zpb,zpc,zpd,zpe,zpf,zpg,zph,zpi,zpj,zpk,zpl,zpm,zpn,zpo,zpp, cv, g5]; rfl) (Zc rfl rfl (fun h => by cases h) (fun _ => ?_))
      refine Zr rfl (by simp (maxSteps := 2000000) only [gs,zlr,reduceIte,reduceCtorEq,zpa,zpb,zpc,zpd,zpe,zpf,zpg,zph,zpi,zpj,zpk,zpl,zpm,zpn,zpo,zpp]; rfl) ?_
      rcases k8 with ⟨rfl, rfl⟩ | rfl
      · have e1 : [[U.int .u32 ((U0 : Nat) : Int), .int .u32 ((V : Nat) : Int)]] = uen [(U0, V)] := rfl
        refine Zr rfl (by simp (maxSteps := 2000000) only [gs,zlr,reduceIte,reduceCtorEq,zpa,zpb,zpc,zpd,zpe,zpf,zpg,zph,zpi,zpj,zpk,zpl,zpm,zpn,zpo,zpp, c1, c2, e1, uen_length, List.length_singleton, hr0]; rfl) ?_
        refine Zr rfl (by simp (maxSteps := 2000000) only [gs,zlr,reduceIte,reduceCtorEq,zpa,zpb,zpc,zpd,zpe,zpf,zpg,zph,zpi,zpj,zpk,zpl,zpm,zpn,zpo,zpp, wa3]; rfl) ?_
        refine Zr rfl (by simp (maxSteps := 2000000) only [gs,zlr,reduceIte,reduceCtorEq,zpa,zpb,zpc,zpd,zpe,zpf,zpg,zph,zpi,zpj,zpk,zpl,zpm,zpn,zpo,zpp, wk]; rfl) ?_
        exact Za rfl ⟨m' - 1, by omega, rfl, a' + 1, k + 1, V, [(U0, V)], by omega, by omega, by omega, by omega, .inr (by simp [GEnv.get]), fun e he => by rw [List.mem_singleton.1 he]; exact ⟨by simp only; omega, by simp only; omega, hVn⟩, by simp, by omega, hcom2, rfl, rfl, rfl, rfl, rfl, rfl, rfl, rfl⟩
      · refine Zr rfl (by simp (maxSteps := 2000000) only [gs,zlr,reduceIte,reduceCtorEq,zpa,zpb,zpc,zpd,zpe,zpf,zpg,zph,zpi,zpj,zpk,zpl,zpm,zpn,zpo,zpp, c1, c2, uen_length, hr1, uen_snoc]; rfl) ?_
        refine Zr rfl (by simp (maxSteps := 2000000) only [gs,zlr,reduceIte,reduceCtorEq,zpa,zpb,zpc,zpd,zpe,zpf,zpg,zph,zpi,zpj,zpk,zpl,zpm,zpn,zpo,zpp, wa3]; rfl) ?_
        refine Zr rfl (by simp (maxSteps := 2000000) only [gs,zlr,reduceIte,reduceCtorEq,zpa,zpb,zpc,zpd,zpe,zpf,zpg,zph,zpi,zpj,zpk,zpl,zpm,zpn,zpo,zpp, wk]; rfl) ?_
        exact Za rfl ⟨m' - 1, by omega, rfl, a' + 1, k + 1, V, out' ++ [(U0, V)], by omega, by omega, by omega, by omega, .inr (by simp [GEnv.get]), hfit.snoc ⟨by simp only; omega, by simp only; omega, hVn⟩, by rw [List.length_append, List.length_singleton]; omega, by omega, hcom2, rfl, rfl, rfl, rfl, rfl, rfl, rfl, rfl⟩
    rintro env h ⟨rfl, out, k8, hfit, hol, hcom, k0, k1, k6⟩
    generalize hs8 : GEnv.get env 8 = s8 at k8
    have hP : ∀ {w : U}, isEn w out → (∃ G, GoodG 0 G ∧ gflat G = out ∧ GF gtab fid_archipelagoref15_AdjPut [w] [] 0 = some (.tup [.own 1 (un .u8 (genc G)), .int .i64 0], [])) ∨ (¬ Strict out ∧ GF gtab fid_archipelagoref15_AdjPut [w] [] 0 = some (.tup [.nils, .int .i64 23], [])) := fun h => raput_R h (by omega) (fun e he => ⟨(hfit e he).1, (hfit e he).2.1⟩)
    have hno2 : ¬ Strict out → ReadIs n bs (.tup [.nils, .int .i64 21]) := fun h => hnoG fun G h1 h2 h3 => h (by rw [← hcom G h1 h2 h3]; exact GoodG_strict h1)
    have hno3 : ∀ {G : List Gr}, GoodG 0 G → gflat G = out → genc G ≠ bs → ReadIs n bs (.tup [.nils, .int .i64 21]) := fun {G} g1 g2 g3 => no fun ⟨l, hl'⟩ => by
      obtain ⟨G', h1, h2, h3, h4⟩ := hsplit l hl'
      obtain ⟨G0, p, q, r, _⟩ := hl'
      have h5 := hcom G' h1 h3 h4
      have : G = G0 := good_one g1 p (by rw [g2, q, ← h2, h5])
      subst this
      exact g3 r
    have hyes : ∀ {G : List Gr}, GoodG 0 G → gflat G = out → genc G = bs → ∀ v, isEn v out → ReadIs n bs (.tup [v, .int .i64 0]) := fun {G} g1 g2 g3 v g5 => .inl ⟨out, v, ⟨G, g1, g2, g3, fun e he => ⟨(hfit e he).2.2, (hfit e he).2.1⟩⟩, g5, hol, rfl⟩
    have hq := fun (x : List Nat) => abeq x bs
    have hq2 : ∀ a b : List Int, (a != b) = !(a == b) := fun a b => rfl
    rcases k8 with ⟨rfl, hu0⟩ | rfl
    · rcases hP (w := .nils) (.inr ⟨rfl, hu0⟩) with ⟨G, g1, g2, g3⟩ | ⟨g1, g3⟩
      · have hqG := hq (genc G)
        refine Zr rfl (by simp (maxSteps := 2000000) only [gs,zlr,reduceIte,reduceCtorEq,zpa,zpb,zpc,zpd,zpe,zpf,zpg,zph,zpi,zpj,zpk,zpl,zpm,zpn,zpo,zpp, hs8, gc_archipelagoref15_AdjPut, g3]; rfl) ?_
        by_cases he : genc G = bs
        · rw [decide_eq_true he] at hqG
          refine Zr rfl (by simp (maxSteps := 2000000) only [gs,zlr,reduceIte,reduceCtorEq,zpa,zpb,zpc,zpd,zpe,zpf,zpg,zph,zpi,zpj,zpk,zpl,zpm,zpn,zpo,zpp, k0, bne_self_eq_false, gbytesOf_un, hq2, hqG, Bool.not_true, Bool.not_false]; rfl) (Zc rfl rfl (fun h => by cases h) (fun _ => ?_))
          exact Zr rfl (by simp (maxSteps := 2000000) only [gs,zlr,reduceIte,reduceCtorEq,zpa,zpb,zpc,zpd,zpe,zpf,zpg,zph,zpi,zpj,zpk,zpl,zpm,zpn,zpo,zpp, hs8]; rfl) (Zq rfl ⟨_, rfl, _, _, rfl, rfl, hyes g1 g2 he _ (.inr ⟨rfl, hu0⟩)⟩)
        · rw [decide_eq_false he] at hqG
          refine Zr rfl (by simp (maxSteps := 2000000) only [gs,zlr,reduceIte,reduceCtorEq,zpa,zpb,zpc,zpd,zpe,zpf,zpg,zph,zpi,zpj,zpk,zpl,zpm,zpn,zpo,zpp, k0, bne_self_eq_false, gbytesOf_un, hq2, hqG, Bool.not_true, Bool.not_false]; rfl) (Zc rfl rfl (fun _ => ?_) (fun h => by cases h))
          exact Zr rfl (by simp (maxSteps := 2000000) only [gs,zlr,reduceIte,reduceCtorEq,zpa,zpb,zpc,zpd,zpe,zpf,zpg,zph,zpi,zpj,zpk,zpl,zpm,zpn,zpo,zpp]; rfl) (Zq rfl ⟨_, rfl, _, _, rfl, rfl, hno3 g1 g2 he⟩)
      · refine Zr rfl (by simp (maxSteps := 2000000) only [gs,zlr,reduceIte,reduceCtorEq,zpa,zpb,zpc,zpd,zpe,zpf,zpg,zph,zpi,zpj,zpk,zpl,zpm,zpn,zpo,zpp, hs8, gc_archipelagoref15_AdjPut, g3]; rfl) ?_
        refine Zr rfl (by simp (maxSteps := 2000000) only [gs,zlr,reduceIte,reduceCtorEq,zpa,zpb,zpc,zpd,zpe,zpf,zpg,zph,zpi,zpj,zpk,zpl,zpm,zpn,zpo,zpp]; rfl) (Zc rfl rfl (fun _ => ?_) (fun h => by cases h))
        exact Zr rfl (by simp (maxSteps := 2000000) only [gs,zlr,reduceIte,reduceCtorEq,zpa,zpb,zpc,zpd,zpe,zpf,zpg,zph,zpi,zpj,zpk,zpl,zpm,zpn,zpo,zpp]; rfl) (Zq rfl ⟨_, rfl, _, _, rfl, rfl, hno2 g1⟩)
    · rcases hP (w := .list false 2 (uen out)) (.inl rfl) with ⟨G, g1, g2, g3⟩ | ⟨g1, g3⟩
      · have hqG := hq (genc G)
        refine Zr rfl (by simp (maxSteps := 2000000) only [gs,zlr,reduceIte,reduceCtorEq,zpa,zpb,zpc,zpd,zpe,zpf,zpg,zph,zpi,zpj,zpk,zpl,zpm,zpn,zpo,zpp, hs8, snapLL_uen, gc_archipelagoref15_AdjPut, g3]; rfl) ?_
        by_cases he : genc G = bs
        · rw [decide_eq_true he] at hqG
          refine Zr rfl (by simp (maxSteps := 2000000) only [gs,zlr,reduceIte,reduceCtorEq,zpa,zpb,zpc,zpd,zpe,zpf,zpg,zph,zpi,zpj,zpk,zpl,zpm,zpn,zpo,zpp, k0, bne_self_eq_false, gbytesOf_un, hq2, hqG, Bool.not_true, Bool.not_false]; rfl) (Zc rfl rfl (fun h => by cases h) (fun _ => ?_))
          refine Zr rfl (by simp (maxSteps := 2000000) only [gs,zlr,reduceIte,reduceCtorEq,zpa,zpb,zpc,zpd,zpe,zpf,zpg,zph,zpi,zpj,zpk,zpl,zpm,zpn,zpo,zpp, hs8]; rfl) (Zq rfl ⟨_, rfl, ?_⟩)
          simp only [gfin, outs, U.out, U.handed, U.share, U.rf, GEnv.get, if_true, Nat.reduceEqDiff, if_false, rfLL_uen, Option.map_some]
          exact ⟨_, _, rfl, rfl, hyes g1 g2 he _ (.inl rfl)⟩
        · rw [decide_eq_false he] at hqG
          refine Zr rfl (by simp (maxSteps := 2000000) only [gs,zlr,reduceIte,reduceCtorEq,zpa,zpb,zpc,zpd,zpe,zpf,zpg,zph,zpi,zpj,zpk,zpl,zpm,zpn,zpo,zpp, k0, bne_self_eq_false, gbytesOf_un, hq2, hqG, Bool.not_true, Bool.not_false]; rfl) (Zc rfl rfl (fun _ => ?_) (fun h => by cases h))
          exact Zr rfl (by simp (maxSteps := 2000000) only [gs,zlr,reduceIte,reduceCtorEq,zpa,zpb,zpc,zpd,zpe,zpf,zpg,zph,zpi,zpj,zpk,zpl,zpm,zpn,zpo,zpp]; rfl) (Zq rfl ⟨_, rfl, _, _, rfl, rfl, hno3 g1 g2 he⟩)
      · refine Zr rfl (by simp (maxSteps := 2000000) only [gs,zlr,reduceIte,reduceCtorEq,zpa,zpb,zpc,zpd,zpe,zpf,zpg,zph,zpi,zpj,zpk,zpl,zpm,zpn,zpo,zpp, hs8, snapLL_uen, gc_archipelagoref15_AdjPut, g3]; rfl) ?_
        refine Zr rfl (by simp (maxSteps := 2000000) only [gs,zlr,reduceIte,reduceCtorEq,zpa,zpb,zpc,zpd,zpe,zpf,zpg,zph,zpi,zpj,zpk,zpl,zpm,zpn,zpo,zpp]; rfl) (Zc rfl rfl (fun _ => ?_) (fun h => by cases h))
        exact Zr rfl (by simp (maxSteps := 2000000) only [gs,zlr,reduceIte,reduceCtorEq,zpa,zpb,zpc,zpd,zpe,zpf,zpg,zph,zpi,zpj,zpk,zpl,zpm,zpn,zpo,zpp]; rfl) (Zq rfl ⟨_, rfl, _, _, rfl, rfl, hno2 g1⟩)
  obtain ⟨u, h', h1, rfl, h2⟩ := key
  exact ⟨u, h2, h1⟩

end Go.Ab

/- archipelagoseat.Change: some bytes. -/
namespace Go.Ab
open Go
open Nat renaming reduceEqDiff → zpa, reduceLT → zpb, reduceAdd → zpc, reduceSub → zpd, reduceLeDiff → zpe, reduceMul → zpf
open Int renaming reduceToNat → zpg, reduceLT → zph, reduceLE → zpi, reduceEq → zpj, reduceNe → zpk, reduceBEq → zpl, reduceBNe → zpm, reduceAdd → zpn, reduceSub → zpo, reduceNeg → zpp
open List renaming replicate → zlr
set_option linter.unusedVariables false
set_option linter.unusedSimpArgs false
set_option maxRecDepth 10000

def isBr (u : U) (bs : List Nat) : Prop := (u = .nils ∧ bs = []) ∨ u = .own 1 (un .u8 bs) ∨ u = .list false 1 (un .u8 bs)

set_option maxHeartbeats 4000000 in
theorem change_R {bs more : List Nat} {how at' x : Nat} (hne : bs ≠ []) (hb : ∀ c ∈ bs, c < 256) (hm : ∀ c ∈ more, c < 256) (hx : x < 256) (hh : how < 256) (ha : at' < 65536) (hl : bs.length ≤ 9000) (hml : more.length ≤ 8) :
    ∃ w l, GF gtab fid_archipelagoseat_Change [.list false 1 (un .u8 bs), .int .u8 how, .int .u16 at', .int .u8 x, .list false 1 (un .u8 more)] [] 0 = some (w, []) ∧ isBr w l ∧ (∀ c ∈ l, c < 256) ∧ l.length ≤ bs.length + more.length := by
  have key : ∃ u h', GF gtab fid_archipelagoseat_Change [.list false 1 (un .u8 bs), .int .u8 how, .int .u16 at', .int .u8 x, .list false 1 (un .u8 more)] [] 0 = some (u, h') ∧ h' = [] ∧ ∃ l, isBr u l ∧ (∀ c ∈ l, c < 256) ∧ l.length ≤ bs.length + more.length := by
    refine fnR_archipelagoseat_Change rfl ?_
    simp only [genvOf]
    have hpos := List.length_pos_iff.2 hne
    have hun : (un .u8 bs = []) = False := eq_false (by cases bs with
      | nil => exact absurd rfl hne
      | cons y ys => simp [un])
    have hr : (bs.length * 1 ≤ room) = True := eq_true (by unfold room; omega)
    have z1 : (((bs.length : Nat) : Int) == 0) = false := beq_eq_false_iff_ne.2 (by omega)
    have z2 : (((bs.length : Nat) : Int) = 0) = False := eq_false (by omega)
    have wa : IntKind.i64.wrap ((at' : Nat) : Int) = ((at' : Nat) : Int) := wrap_i64_nat (by omega)
    have ma : ((at' : Nat) : Int).tmod ((bs.length : Nat) : Int) = ((at' % bs.length : Nat) : Int) := rfl
    have hk := Nat.mod_lt at' hpos
    refine Zr rfl (by simp (maxSteps := 2000000) only [gs,zlr,reduceIte,reduceCtorEq,zpa,zpb,zpc,zpd,zpe,zpf,zpg,zph,zpi,zpj,zpk,zpl,zpm,zpn,zpo,zpp]; rfl) ?_
    refine Zr rfl (by simp (maxSteps := 2000000) only [gs,zlr,reduceIte,reduceCtorEq,zpa,zpb,zpc,zpd,zpe,zpf,zpg,zph,zpi,zpj,zpk,zpl,zpm,zpn,zpo,zpp, un_length, hun, hr]; rfl) ?_
    refine Zr rfl (by simp (maxSteps := 2000000) only [gs,zlr,reduceIte,reduceCtorEq,zpa,zpb,zpc,zpd,zpe,zpf,zpg,zph,zpi,zpj,zpk,zpl,zpm,zpn,zpo,zpp, z1]; rfl) (Zc rfl rfl (fun h => by cases h) (fun _ => ?_))
    refine Zr rfl (by simp (maxSteps := 2000000) only [gs,zlr,reduceIte,reduceCtorEq,zpa,zpb,zpc,zpd,zpe,zpf,zpg,zph,zpi,zpj,zpk,zpl,zpm,zpn,zpo,zpp, wa, ma, z2]; rfl) ?_
    generalize at' % bs.length = k at hk
    have m5 : ((how : Nat) : Int).tmod 5 = ((how % 5 : Nat) : Int) := rfl
    refine Zr rfl (by simp (maxSteps := 2000000) only [gs,zlr,reduceIte,reduceCtorEq,zpa,zpb,zpc,zpd,zpe,zpf,zpg,zph,zpi,zpj,zpk,zpl,zpm,zpn,zpo,zpp, m5]; rfl) ?_
    generalize how % 5 = q
    have n0 : ((0 : Int) ≤ (k : Int)) = True := eq_true (by omega)
    have n1 : ((k : Int) < (bs.length : Int)) = True := eq_true (by omega)
    have n2 : ((k : Int) ≤ (bs.length : Int)) = True := eq_true (by omega)
    have gx : bs[k]? = some (bs[k]'hk) := List.getElem?_eq_getElem _
    generalize bs[k]'hk = y at gx
    have hset : ∀ c ∈ bs.set k x, c < 256 := fun c hc => by
      rcases List.mem_or_eq_of_mem_set hc with h | rfl
      · exact hb c h
      · exact hx
    have hsl : (bs.set k x).length = bs.length := List.length_set
    have htk : (bs.set k x).take bs.length = bs.set k x := List.take_of_length_le (by omega)
    have hle : (bs.length ≤ (bs.set k x).length) = True := eq_true (by omega)
    have hkl : (k ≤ bs.length) = True := eq_true (by omega)
    have hkt : (bs.take k).length = k := by rw [List.length_take]; omega
    have hcut0 : cut (un .u8 (bs.set k x)) 0 bs.length = un .u8 (bs.set k x) := by rw [cut_un]; unfold cut; rw [List.drop_zero, htk]
    have hcut1 : cut (un .u8 bs) 0 k = un .u8 (bs.take k) := by rw [cut_un]; rfl
    have fe : ∀ j : Nat, q = j → (((q : Nat) : Int) == (j : Int)) = true := fun j h => by rw [h]; simp
    have fn : ∀ j : Nat, q ≠ j → (((q : Nat) : Int) == (j : Int)) = false := fun j h => beq_eq_false_iff_ne.2 (by omega)
    by_cases q0 : q = 0
    · have c0 : (((q : Nat) : Int) == 0) = true := fe 0 q0
      refine Zr rfl (by simp (maxSteps := 2000000) only [gs,zlr,reduceIte,reduceCtorEq,zpa,zpb,zpc,zpd,zpe,zpf,zpg,zph,zpi,zpj,zpk,zpl,zpm,zpn,zpo,zpp, c0]; rfl) (Zc rfl rfl (fun _ => ?_) (fun h => by cases h))
      refine Zc rfl rfl (fun _ => ?_) (fun h => by cases h)
      refine Zr rfl (by simp (maxSteps := 2000000) only [gs,zlr,reduceIte,reduceCtorEq,zpa,zpb,zpc,zpd,zpe,zpf,zpg,zph,zpi,zpj,zpk,zpl,zpm,zpn,zpo,zpp, n0, n1, Nat.zero_add, un_get gx, un_set]; rfl) ?_
      refine Zr rfl (by simp (maxSteps := 2000000) only [gs,zlr,reduceIte,reduceCtorEq,zpa,zpb,zpc,zpd,zpe,zpf,zpg,zph,zpi,zpj,zpk,zpl,zpm,zpn,zpo,zpp]; rfl) (Zq rfl ⟨_, rfl, ?_⟩)
      simp only [gfin, outs, U.out, U.handed, U.share, U.rf, els, GEnv.get, if_true, Nat.reduceEqDiff, if_false, rfLL_un, Option.map_some, List.getElem?_cons_zero, un_length, hle, Nat.zero_add, hcut0, Nat.le_refl, and_self]
      exact ⟨_, _, rfl, rfl, bs.set k x, .inr (.inr rfl), hset, by omega⟩
    have c0 : (((q : Nat) : Int) == 0) = false := fn 0 q0
    by_cases q1 : q = 1
    · have c1 : (((q : Nat) : Int) == 1) = true := fe 1 q1
      refine Zr rfl (by simp (maxSteps := 2000000) only [gs,zlr,reduceIte,reduceCtorEq,zpa,zpb,zpc,zpd,zpe,zpf,zpg,zph,zpi,zpj,zpk,zpl,zpm,zpn,zpo,zpp, c0]; rfl) (Zc rfl rfl (fun h => by cases h) (fun _ => ?_))
      refine Zr rfl (by simp (maxSteps := 2000000) only [gs,zlr,reduceIte,reduceCtorEq,zpa,zpb,zpc,zpd,zpe,zpf,zpg,zph,zpi,zpj,zpk,zpl,zpm,zpn,zpo,zpp, c1]; rfl) ?_
      refine Zc rfl rfl (fun _ => ?_) (fun h => by cases h)
      refine Zr rfl (by simp (maxSteps := 2000000) only [gs,zlr,reduceIte,reduceCtorEq,zpa,zpb,zpc,zpd,zpe,zpf,zpg,zph,zpi,zpj,zpk,zpl,zpm,zpn,zpo,zpp, n0, n1, Nat.zero_add, un_get gx, un_set]; rfl) ?_
      refine Zr rfl (by simp (maxSteps := 2000000) only [gs,zlr,reduceIte,reduceCtorEq,zpa,zpb,zpc,zpd,zpe,zpf,zpg,zph,zpi,zpj,zpk,zpl,zpm,zpn,zpo,zpp]; rfl) (Zq rfl ⟨_, rfl, ?_⟩)
      simp only [gfin, outs, U.out, U.handed, U.share, U.rf, els, GEnv.get, if_true, Nat.reduceEqDiff, if_false, rfLL_un, Option.map_some, List.getElem?_cons_zero, un_length, hle, Nat.zero_add, hcut0, Nat.le_refl, and_self]
      exact ⟨_, _, rfl, rfl, bs.set k x, .inr (.inr rfl), hset, by omega⟩
    have c1 : (((q : Nat) : Int) == 1) = false := fn 1 q1
    have hA : ∀ c ∈ bs.take k, c < 256 := fun c hc => hb c (List.mem_of_mem_take hc)
    have hB : ∀ j, ∀ c ∈ bs.drop j, c < 256 := fun j c hc => hb c (List.mem_of_mem_drop hc)
    by_cases q2 : q = 2
    · have c2 : (((q : Nat) : Int) == 2) = true := fe 2 q2
      refine Zr rfl (by simp (maxSteps := 2000000) only [gs,zlr,reduceIte,reduceCtorEq,zpa,zpb,zpc,zpd,zpe,zpf,zpg,zph,zpi,zpj,zpk,zpl,zpm,zpn,zpo,zpp, c0]; rfl) (Zc rfl rfl (fun h => by cases h) (fun _ => ?_))
      refine Zr rfl (by simp (maxSteps := 2000000) only [gs,zlr,reduceIte,reduceCtorEq,zpa,zpb,zpc,zpd,zpe,zpf,zpg,zph,zpi,zpj,zpk,zpl,zpm,zpn,zpo,zpp, c1]; rfl) ?_
      refine Zc rfl rfl (fun h => by cases h) (fun _ => ?_)
      refine Zr rfl (by simp (maxSteps := 2000000) only [gs,zlr,reduceIte,reduceCtorEq,zpa,zpb,zpc,zpd,zpe,zpf,zpg,zph,zpi,zpj,zpk,zpl,zpm,zpn,zpo,zpp, c2]; rfl) (Zc rfl rfl (fun _ => ?_) (fun h => by cases h))
      have kk : ((0 : Int) ≤ (k : Int)) = True := eq_true (by omega)
      have hll : ((bs.length : Int) ≤ (bs.length : Int)) = True := eq_true (by omega)
      have hsb : ((bs.length : Int) - (k : Int)).toNat = bs.length - k := by omega
      have hdk : (bs.drop k).take (bs.length - k) = bs.drop k := List.take_of_length_le (by rw [List.length_drop]; omega)
      have hdl : (bs.drop k).length = bs.length - k := List.length_drop
      have hBn : (un .u8 (bs.drop k) = []) = False := eq_false (fun h => by have := congrArg List.length h; rw [un_length, hdl, List.length_nil] at this; omega)
      have hres : ∀ c ∈ bs.take k ++ (more ++ bs.drop k), c < 256 := fun c hc => by
        rcases List.mem_append.1 hc with hc | hc
        · exact hA c hc
        · rcases List.mem_append.1 hc with hc | hc
          · exact hm c hc
          · exact hB k c hc
      have hlen : (bs.take k ++ (more ++ bs.drop k)).length ≤ bs.length + more.length := by simp only [List.length_append, hkt, hdl]; omega
      by_cases k0 : k = 0
      · have ht0 : bs.take k = [] := by rw [k0]; rfl
        rw [ht0, List.nil_append] at hres hlen
        have ut : un .u8 ([] : List Nat) = [] := rfl
        by_cases m0 : more = []
        · subst m0
          rw [List.nil_append] at hres hlen
          have r1 : ((bs.drop k).length * 1 ≤ room) = True := eq_true (by rw [hdl]; unfold room; omega)
          refine Zd rfl (by simp (maxSteps := 2000000) only [gs,gd,zlr,id,reduceIte,reduceCtorEq,zpa,zpb,zpc,zpd,zpe,zpf,zpg,zph,zpi,zpj,zpk,zpl,zpm,zpn,zpo,zpp, n0, n2, kk, Int.sub_zero, hll, hsb, un_length, un_take, un_drop, Int.toNat_natCast, ht0, ut, hdk, hBn, r1]; rfl) (Zq rfl ⟨_, rfl, ?_⟩)
          simp only [gfin, outs, U.out, U.handed, U.share, U.rf, els, GEnv.get, if_true, Nat.reduceEqDiff, if_false, rfLL_un, Option.map_some]
          exact ⟨_, _, rfl, rfl, _, .inr (.inl rfl), hres, hlen⟩
        · have hmn : (un .u8 more = []) = False := eq_false (fun h => m0 (List.eq_nil_of_length_eq_zero (by have := congrArg List.length h; rwa [un_length] at this)))
          have r1 : (more.length * 1 ≤ room) = True := eq_true (by unfold room; omega)
          have r2 : ((more.length + (bs.drop k).length) * 1 ≤ room) = True := eq_true (by rw [hdl]; unfold room; omega)
          refine Zd rfl (by simp (maxSteps := 2000000) only [gs,gd,zlr,id,reduceIte,reduceCtorEq,zpa,zpb,zpc,zpd,zpe,zpf,zpg,zph,zpi,zpj,zpk,zpl,zpm,zpn,zpo,zpp, n0, n2, kk, Int.sub_zero, hll, hsb, un_length, un_take, un_drop, Int.toNat_natCast, ht0, ut, hdk, hmn, r1, r2, un_append]; rfl) (Zq rfl ⟨_, rfl, ?_⟩)
          simp only [gfin, outs, U.out, U.handed, U.share, U.rf, els, GEnv.get, if_true, Nat.reduceEqDiff, if_false, rfLL_un, Option.map_some]
          exact ⟨_, _, rfl, rfl, _, .inr (.inl rfl), hres, hlen⟩
      · have hAn : (un .u8 (bs.take k) = []) = False := eq_false (fun h => by have := congrArg List.length h; rw [un_length, hkt, List.length_nil] at this; omega)
        have r1 : ((bs.take k).length * 1 ≤ room) = True := eq_true (by rw [hkt]; unfold room; omega)
        have r2 : (((bs.take k).length + more.length) * 1 ≤ room) = True := eq_true (by rw [hkt]; unfold room; omega)
        have r3 : (((bs.take k ++ more).length + (bs.drop k).length) * 1 ≤ room) = True := eq_true (by rw [List.length_append, hkt, hdl]; unfold room; omega)
        rw [← List.append_assoc] at hres hlen
        refine Zd rfl (by simp (maxSteps := 2000000) only [gs,gd,zlr,id,reduceIte,reduceCtorEq,zpa,zpb,zpc,zpd,zpe,zpf,zpg,zph,zpi,zpj,zpk,zpl,zpm,zpn,zpo,zpp, n0, n2, kk, Int.sub_zero, Int.toNat_natCast, hll, hsb, un_length, un_take, un_drop, hdk, hAn, r1, r2, r3, un_append]; rfl) (Zq rfl ⟨_, rfl, ?_⟩)
        simp only [gfin, outs, U.out, U.handed, U.share, U.rf, els, GEnv.get, if_true, Nat.reduceEqDiff, if_false, rfLL_un, Option.map_some]
        exact ⟨_, _, rfl, rfl, _, .inr (.inl rfl), hres, hlen⟩
    have c2 : (((q : Nat) : Int) == 2) = false := fn 2 q2
    by_cases q3 : q = 3
    · have c3 : (((q : Nat) : Int) == 3) = true := fe 3 q3
      refine Zr rfl (by simp (maxSteps := 2000000) only [gs,zlr,reduceIte,reduceCtorEq,zpa,zpb,zpc,zpd,zpe,zpf,zpg,zph,zpi,zpj,zpk,zpl,zpm,zpn,zpo,zpp, c0]; rfl) (Zc rfl rfl (fun h => by cases h) (fun _ => ?_))
      refine Zr rfl (by simp (maxSteps := 2000000) only [gs,zlr,reduceIte,reduceCtorEq,zpa,zpb,zpc,zpd,zpe,zpf,zpg,zph,zpi,zpj,zpk,zpl,zpm,zpn,zpo,zpp, c1]; rfl) ?_
      refine Zc rfl rfl (fun h => by cases h) (fun _ => ?_)
      refine Zr rfl (by simp (maxSteps := 2000000) only [gs,zlr,reduceIte,reduceCtorEq,zpa,zpb,zpc,zpd,zpe,zpf,zpg,zph,zpi,zpj,zpk,zpl,zpm,zpn,zpo,zpp, c2]; rfl) (Zc rfl rfl (fun h => by cases h) (fun _ => ?_))
      refine Zr rfl (by simp (maxSteps := 2000000) only [gs,zlr,reduceIte,reduceCtorEq,zpa,zpb,zpc,zpd,zpe,zpf,zpg,zph,zpi,zpj,zpk,zpl,zpm,zpn,zpo,zpp, c3]; rfl) (Zc rfl rfl (fun _ => ?_) (fun h => by cases h))
      have kk : ((0 : Int) ≤ (k : Int)) = True := eq_true (by omega)
      have s0 : ((k : Int) - 0).toNat = k := by omega
      refine Zr rfl (by simp (maxSteps := 2000000) only [gs,zlr,reduceIte,reduceCtorEq,zpa,zpb,zpc,zpd,zpe,zpf,zpg,zph,zpi,zpj,zpk,zpl,zpm,zpn,zpo,zpp, n0, n2, kk, s0, Int.sub_zero, Int.toNat_natCast, un_length]; rfl) (Zq rfl ⟨_, rfl, ?_⟩)
      simp only [gfin, outs, U.out, U.handed, U.share, U.rf, els, GEnv.get, if_true, Nat.reduceEqDiff, if_false, rfLL_un, Option.map_some, List.getElem?_cons_zero, un_length, hkl, Nat.zero_add, Nat.add_zero, hcut1, Nat.le_refl, and_self]
      exact ⟨_, _, rfl, rfl, bs.take k, .inr (.inr rfl), hA, by omega⟩
    have c3 : (((q : Nat) : Int) == 3) = false := fn 3 q3
    refine Zr rfl (by simp (maxSteps := 2000000) only [gs,zlr,reduceIte,reduceCtorEq,zpa,zpb,zpc,zpd,zpe,zpf,zpg,zph,zpi,zpj,zpk,zpl,zpm,zpn,zpo,zpp, c0]; rfl) (Zc rfl rfl (fun h => by cases h) (fun _ => ?_))
    refine Zr rfl (by simp (maxSteps := 2000000) only [gs,zlr,reduceIte,reduceCtorEq,zpa,zpb,zpc,zpd,zpe,zpf,zpg,zph,zpi,zpj,zpk,zpl,zpm,zpn,zpo,zpp, c1]; rfl) ?_
    refine Zc rfl rfl (fun h => by cases h) (fun _ => ?_)
    refine Zr rfl (by simp (maxSteps := 2000000) only [gs,zlr,reduceIte,reduceCtorEq,zpa,zpb,zpc,zpd,zpe,zpf,zpg,zph,zpi,zpj,zpk,zpl,zpm,zpn,zpo,zpp, c2]; rfl) (Zc rfl rfl (fun h => by cases h) (fun _ => ?_))
    refine Zr rfl (by simp (maxSteps := 2000000) only [gs,zlr,reduceIte,reduceCtorEq,zpa,zpb,zpc,zpd,zpe,zpf,zpg,zph,zpi,zpj,zpk,zpl,zpm,zpn,zpo,zpp, c3]; rfl) (Zc rfl rfl (fun h => by cases h) (fun _ => ?_))
    have kk : ((0 : Int) ≤ (k : Int)) = True := eq_true (by omega)
    have w1 : IntKind.i64.wrap ((k : Int) + 1) = ((k + 1 : Nat) : Int) := up64 (by omega)
    have kk1 : ((0 : Int) ≤ ((k + 1 : Nat) : Int)) = True := eq_true (by omega)
    have kk2 : (((k + 1 : Nat) : Int) ≤ (bs.length : Int)) = True := eq_true (by omega)
    have hll : ((bs.length : Int) ≤ (bs.length : Int)) = True := eq_true (by omega)
    have hsb : ((bs.length : Int) - ((k + 1 : Nat) : Int)).toNat = bs.length - (k + 1) := by omega
    have hdk : (bs.drop (k + 1)).take (bs.length - (k + 1)) = bs.drop (k + 1) := List.take_of_length_le (by rw [List.length_drop]; omega)
    have hdl : (bs.drop (k + 1)).length = bs.length - (k + 1) := List.length_drop
    have ut : un .u8 ([] : List Nat) = [] := rfl
    have hres : ∀ c ∈ bs.take k ++ bs.drop (k + 1), c < 256 := fun c hc => by
      rcases List.mem_append.1 hc with hc | hc
      · exact hA c hc
      · exact hB _ c hc
    have hlen : (bs.take k ++ bs.drop (k + 1)).length ≤ bs.length + more.length := by simp only [List.length_append, hkt, hdl]; omega
    by_cases k0 : k = 0
    · have ht0 : bs.take k = [] := by rw [k0]; rfl
      rw [ht0, List.nil_append] at hres hlen
      by_cases b0 : bs.drop (k + 1) = []
      · refine Zd rfl (by simp (maxSteps := 2000000) only [gs,gd,zlr,id,reduceIte,reduceCtorEq,zpa,zpb,zpc,zpd,zpe,zpf,zpg,zph,zpi,zpj,zpk,zpl,zpm,zpn,zpo,zpp, n0, n2, kk, kk1, kk2, w1, Int.sub_zero, Int.toNat_natCast, hll, hsb, un_length, un_take, un_drop, hdk, ht0, b0, ut, List.take_nil]; rfl) ?_
        exact Zr rfl (by simp (maxSteps := 2000000) only [gs,zlr,reduceIte,reduceCtorEq,zpa,zpb,zpc,zpd,zpe,zpf,zpg,zph,zpi,zpj,zpk,zpl,zpm,zpn,zpo,zpp]; rfl) (Zq rfl ⟨_, rfl, _, _, rfl, rfl, [], .inl ⟨rfl, rfl⟩, fun c hc => (by cases hc), by simp⟩)
      · have hBn : (un .u8 (bs.drop (k + 1)) = []) = False := eq_false (fun h => b0 (List.eq_nil_of_length_eq_zero (by have := congrArg List.length h; rwa [un_length] at this)))
        have r1 : ((bs.drop (k + 1)).length * 1 ≤ room) = True := eq_true (by rw [hdl]; unfold room; omega)
        refine Zd rfl (by simp (maxSteps := 2000000) only [gs,gd,zlr,id,reduceIte,reduceCtorEq,zpa,zpb,zpc,zpd,zpe,zpf,zpg,zph,zpi,zpj,zpk,zpl,zpm,zpn,zpo,zpp, n0, n2, kk, kk1, kk2, w1, Int.sub_zero, Int.toNat_natCast, hll, hsb, un_length, un_take, un_drop, hdk, ht0, ut, hBn, r1]; rfl) ?_
        have hcB : cut (un .u8 (bs.drop (k + 1))) 0 (bs.drop (k + 1)).length = un .u8 (bs.drop (k + 1)) := by rw [cut_un]; unfold cut; rw [List.drop_zero, List.take_length]
        refine Zr rfl (by simp (maxSteps := 2000000) only [gs,zlr,reduceIte,reduceCtorEq,zpa,zpb,zpc,zpd,zpe,zpf,zpg,zph,zpi,zpj,zpk,zpl,zpm,zpn,zpo,zpp]; rfl) (Zq rfl ⟨_, rfl, ?_⟩)
        simp only [gfin, outs, U.out, U.handed, U.share, U.rf, els, GEnv.get, if_true, Nat.reduceEqDiff, if_false, rfLL_un, Option.map_some, List.getElem?_cons_zero, List.getElem?_cons_succ, un_length, Nat.zero_add, Nat.add_zero, hcB, Nat.le_refl, and_self]
        exact ⟨_, _, rfl, rfl, _, .inr (.inr rfl), hres, by omega⟩
    · have hAn : (un .u8 (bs.take k) = []) = False := eq_false (fun h => by have := congrArg List.length h; rw [un_length, hkt, List.length_nil] at this; omega)
      have r1 : (k * 1 ≤ room) = True := eq_true (by unfold room; omega)
      by_cases b0 : bs.drop (k + 1) = []
      · refine Zd rfl (by simp (maxSteps := 2000000) only [gs,gd,zlr,id,reduceIte,reduceCtorEq,zpa,zpb,zpc,zpd,zpe,zpf,zpg,zph,zpi,zpj,zpk,zpl,zpm,zpn,zpo,zpp, n0, n2, kk, kk1, kk2, w1, Int.sub_zero, Int.toNat_natCast, hll, hsb, un_length, un_take, un_drop, hdk, hAn, r1, b0, ut, List.take_nil, hkt]; rfl) ?_
        have hcA : cut (un .u8 (bs.take k)) 0 k = un .u8 (bs.take k) := by rw [cut_un]; unfold cut; rw [List.drop_zero, List.take_take, Nat.min_self]
        have hkk : (k ≤ (bs.take k).length) = True := eq_true (by omega)
        refine Zr rfl (by simp (maxSteps := 2000000) only [gs,zlr,reduceIte,reduceCtorEq,zpa,zpb,zpc,zpd,zpe,zpf,zpg,zph,zpi,zpj,zpk,zpl,zpm,zpn,zpo,zpp]; rfl) (Zq rfl ⟨_, rfl, ?_⟩)
        simp only [gfin, outs, U.out, U.handed, U.share, U.rf, els, GEnv.get, if_true, Nat.reduceEqDiff, if_false, rfLL_un, Option.map_some, List.getElem?_cons_zero, List.getElem?_cons_succ, un_length, Nat.zero_add, Nat.add_zero, hcA, hkt, hkk, Nat.le_refl, and_self]
        exact ⟨_, _, rfl, rfl, _, .inr (.inr rfl), hA, by omega⟩
      · have hBn : (un .u8 (bs.drop (k + 1)) = []) = False := eq_false (fun h => b0 (List.eq_nil_of_length_eq_zero (by have := congrArg List.length h; rwa [un_length] at this)))
        have r2 : ((k + (bs.drop (k + 1)).length) * 1 ≤ room) = True := eq_true (by rw [hdl]; unfold room; omega)
        refine Zd rfl (by simp (maxSteps := 2000000) only [gs,gd,zlr,id,reduceIte,reduceCtorEq,zpa,zpb,zpc,zpd,zpe,zpf,zpg,zph,zpi,zpj,zpk,zpl,zpm,zpn,zpo,zpp, n0, n2, kk, kk1, kk2, w1, Int.sub_zero, Int.toNat_natCast, hll, hsb, un_length, un_take, un_drop, hdk, hAn, hBn, r1, r2, hkt]; rfl) ?_
        have hcC : cut (un .u8 (bs.take k ++ bs.drop (k + 1))) 0 (k + (bs.drop (k + 1)).length) = un .u8 (bs.take k ++ bs.drop (k + 1)) := by
          rw [cut_un]; unfold cut; rw [List.drop_zero, List.take_of_length_le (by rw [List.length_append, hkt]; omega)]
        have htt : (bs.take k).take k = bs.take k := by rw [List.take_take, Nat.min_self]
        have hcl : ((bs.take k ++ bs.drop (k + 1)).length) = k + (bs.drop (k + 1)).length := by rw [List.length_append, hkt]
        refine Zr rfl (by simp (maxSteps := 2000000) only [gs,zlr,reduceIte,reduceCtorEq,zpa,zpb,zpc,zpd,zpe,zpf,zpg,zph,zpi,zpj,zpk,zpl,zpm,zpn,zpo,zpp]; rfl) (Zq rfl ⟨_, rfl, ?_⟩)
        simp only [gfin, outs, U.out, U.handed, U.share, U.rf, els, GEnv.get, if_true, Nat.reduceEqDiff, if_false, rfLL_un, Option.map_some, List.getElem?_cons_zero, List.getElem?_cons_succ, un_length, Nat.zero_add, Nat.add_zero, List.drop_zero, un_take, htt, un_append, hcC, hcl, Nat.le_refl, Nat.zero_le, true_and, and_true, and_self]
        exact ⟨_, _, rfl, rfl, _, .inr (.inr rfl), hres, by omega⟩
  obtain ⟨u, h', h1, rfl, l, h2, h3, h4⟩ := key
  exact ⟨u, l, h1, h2, h3, h4⟩

end Go.Ab

/- AdjTells: the bytes of any edges, and which edges any bytes are. -/
namespace Go.Ab
open Go
open Nat renaming reduceEqDiff → zpa, reduceLT → zpb, reduceAdd → zpc, reduceSub → zpd, reduceLeDiff → zpe, reduceMul → zpf
open Int renaming reduceToNat → zpg, reduceLT → zph, reduceLE → zpi, reduceEq → zpj, reduceNe → zpk, reduceBEq → zpl, reduceBNe → zpm, reduceAdd → zpn, reduceSub → zpo, reduceNeg → zpp
open List renaming replicate → zlr
set_option linter.unusedVariables false
set_option linter.unusedSimpArgs false
set_option maxRecDepth 10000

/-- Both writers say the same. -/
theorem put_both {w : U} {l : List Nd} (hw : isEn w l) (hl : l.length ≤ 10000) (hu : ∀ e ∈ l, e.1 ≤ 4294967295 ∧ e.2 ≤ 4294967295) :
    (∃ b, GF gtab fid_adj_Put [w] [] 0 = some (.tup [.own 1 (un .u8 b), .int .i64 0], []) ∧ GF gtab fid_archipelagoref15_AdjPut [w] [] 0 = some (.tup [.own 1 (un .u8 b), .int .i64 0], [])) ∨
    (GF gtab fid_adj_Put [w] [] 0 = some (.tup [.nils, .int .i64 23], []) ∧ GF gtab fid_archipelagoref15_AdjPut [w] [] 0 = some (.tup [.nils, .int .i64 23], [])) := by
  rcases aput_R hw hl hu with ⟨G, a, b, c⟩ | ⟨a, b⟩ <;> rcases raput_R hw hl hu with ⟨G', a', b', c'⟩ | ⟨a', b'⟩
  · have : G = G' := good_one a a' (by rw [b, b'])
    subst this
    exact .inl ⟨_, c, c'⟩
  · exact absurd (by rw [← b]; exact GoodG_strict a) a'
  · exact absurd (by rw [← b']; exact GoodG_strict a') a
  · exact .inr ⟨b, b'⟩
/-- Both readers say the same. -/
theorem read_both {w : U} {bs : List Nat} {n : Nat} (hw : isBa w bs) (hb : ∀ c ∈ bs, c < 256) (hl : bs.length ≤ 10000) (hn : n < 18446744073709551616) :
    ∃ v1 v2 l, ∃ c : Int, isEn v1 l ∧ isEn v2 l ∧ l.length ≤ 10000 ∧ GF gtab fid_adj_Read [w, .int .u64 (n : Int)] [] 0 = some (.tup [v1, .int .i64 c], []) ∧ GF gtab fid_archipelagoref15_AdjRead [w, .int .u64 (n : Int)] [] 0 = some (.tup [v2, .int .i64 c], []) := by
  obtain ⟨u, h1, h2⟩ := aread_R hw hb hl hn
  obtain ⟨u', h1', h2'⟩ := raread_R hw hb hl hn
  rcases h1 with ⟨l, v, a, b, c, rfl⟩ | ⟨a, rfl⟩ <;> rcases h1' with ⟨l', v', a', b', c', rfl⟩ | ⟨a', rfl⟩
  · have : l' = l := (a'.read hl).2.1.symm.trans (a.read hl).2.1
    subst this
    exact ⟨v, v', l', 0, b, b', by omega, h2, h2'⟩
  · exact absurd ⟨l, a⟩ a'
  · exact absurd ⟨l', a'⟩ a
  · exact ⟨.nils, .nils, [], 21, .inr ⟨rfl, rfl⟩, .inr ⟨rfl, rfl⟩, by simp, h2, h2'⟩

def rowU (xs : List U) : List (List U) := xs.map fun u => [u]
theorem rowU_get {xs : List U} {i : Nat} {x : U} (h : xs[i]? = some x) : (rowU xs)[i]? = some [x] := by simp [rowU, h]

set_option maxHeartbeats 8000000 in
theorem adjTells_G {raw : List Nd} {l bytes more : List Nat} {k near how at_ c n : Nat} (hraw : ∀ e ∈ raw, e.1 ≤ 4294967295 ∧ e.2 ≤ 4294967295) (hk : k < 256) (hl : ∀ x ∈ l, x < 256) (hnr : near < 256) (hby : ∀ x ∈ bytes, x < 256) (hh : how < 256) (ha : at_ < 65536) (hc : c < 256) (hmo : ∀ x ∈ more, x < 256) (hn : n < 18446744073709551616) :
    GF gtab fid_archipelagolaw15_AdjTells [.list false 2 (uen raw), .int .u8 (k : Int), .list false 1 (un .u8 l), .int .u8 (near : Int), .list false 1 (un .u8 bytes), .int .u8 (how : Int), .int .u16 (at_ : Int), .int .u8 (c : Int), .list false 1 (un .u8 more), .int .u64 (n : Int)] [] 0 = some (.bool true, []) := by
  refine fn_archipelagolaw15_AdjTells rfl ?_
  simp only [genvOf]
  refine Zr rfl (by simp (maxSteps := 2000000) only [gs,zlr,reduceIte,reduceCtorEq,zpa,zpb,zpc,zpd,zpe,zpf,zpg,zph,zpi,zpj,zpk,zpl,zpm,zpn,zpo,zpp]; rfl) ?_
  refine Zr rfl (by simp (maxSteps := 2000000) only [gs,zlr,reduceIte,reduceCtorEq,zpa,zpb,zpc,zpd,zpe,zpf,zpg,zph,zpi,zpj,zpk,zpl,zpm,zpn,zpo,zpp, gc_archipelagolaw15_known, known15_G]; rfl) (Zc rfl rfl (fun h => by cases h) (fun _ => ?_))
  by_cases a1 : raw.length ≤ 30
  case neg =>
    have g1 : ((raw.length : Int) > 30) = True := eq_true (by omega)
    refine Zr rfl (by simp (maxSteps := 2000000) only [gs,zlr,reduceIte,reduceCtorEq,zpa,zpb,zpc,zpd,zpe,zpf,zpg,zph,zpi,zpj,zpk,zpl,zpm,zpn,zpo,zpp, uen_length, g1, decide_true]; rfl) (Zc rfl rfl (fun _ => ?_) (fun h => by cases h))
    exact Zr rfl (by simp (maxSteps := 2000000) only [gs,zlr,reduceIte,reduceCtorEq,zpa,zpb,zpc,zpd,zpe,zpf,zpg,zph,zpi,zpj,zpk,zpl,zpm,zpn,zpo,zpp]; rfl) (Zq rfl ⟨_, rfl, rfl⟩)
  have g1 : ((raw.length : Int) > 30) = False := eq_false (by omega)
  by_cases a2 : l.length ≤ 60
  case neg =>
    have g2 : ((l.length : Int) > 60) = True := eq_true (by omega)
    refine Zr rfl (by simp (maxSteps := 2000000) only [gs,zlr,reduceIte,reduceCtorEq,zpa,zpb,zpc,zpd,zpe,zpf,zpg,zph,zpi,zpj,zpk,zpl,zpm,zpn,zpo,zpp, uen_length, g1, un_length, g2, decide_true, decide_false]; rfl) (Zc rfl rfl (fun _ => ?_) (fun h => by cases h))
    exact Zr rfl (by simp (maxSteps := 2000000) only [gs,zlr,reduceIte,reduceCtorEq,zpa,zpb,zpc,zpd,zpe,zpf,zpg,zph,zpi,zpj,zpk,zpl,zpm,zpn,zpo,zpp]; rfl) (Zq rfl ⟨_, rfl, rfl⟩)
  have g2 : ((l.length : Int) > 60) = False := eq_false (by omega)
  by_cases a3 : bytes.length ≤ 60
  case neg =>
    have g3 : ((bytes.length : Int) > 60) = True := eq_true (by omega)
    refine Zr rfl (by simp (maxSteps := 2000000) only [gs,zlr,reduceIte,reduceCtorEq,zpa,zpb,zpc,zpd,zpe,zpf,zpg,zph,zpi,zpj,zpk,zpl,zpm,zpn,zpo,zpp, uen_length, g1, un_length, g2, g3, decide_true, decide_false]; rfl) (Zc rfl rfl (fun _ => ?_) (fun h => by cases h))
    exact Zr rfl (by simp (maxSteps := 2000000) only [gs,zlr,reduceIte,reduceCtorEq,zpa,zpb,zpc,zpd,zpe,zpf,zpg,zph,zpi,zpj,zpk,zpl,zpm,zpn,zpo,zpp]; rfl) (Zq rfl ⟨_, rfl, rfl⟩)
  have g3 : ((bytes.length : Int) > 60) = False := eq_false (by omega)
  by_cases a4 : more.length ≤ 8
  case neg =>
    have g4 : ((more.length : Int) > 8) = True := eq_true (by omega)
    refine Zr rfl (by simp (maxSteps := 2000000) only [gs,zlr,reduceIte,reduceCtorEq,zpa,zpb,zpc,zpd,zpe,zpf,zpg,zph,zpi,zpj,zpk,zpl,zpm,zpn,zpo,zpp, uen_length, g1, un_length, g2, g3, g4, decide_true, decide_false]; rfl) (Zc rfl rfl (fun _ => ?_) (fun h => by cases h))
    exact Zr rfl (by simp (maxSteps := 2000000) only [gs,zlr,reduceIte,reduceCtorEq,zpa,zpb,zpc,zpd,zpe,zpf,zpg,zph,zpi,zpj,zpk,zpl,zpm,zpn,zpo,zpp]; rfl) (Zq rfl ⟨_, rfl, rfl⟩)
  have g4 : ((more.length : Int) > 8) = False := eq_false (by omega)
  obtain ⟨N, v, evs, HI, hv, hs, hti, hle, hN, hri, hok⟩ := history_R hk hl (show l.length ≤ 90 by omega)
  obtain ⟨x, TI⟩ := time_E (N := N) (near := near) hv hle hti hnr
  obtain ⟨u, es, hu, hE, hesl, AT⟩ := at_Y (N := N) (t := x) hv hle hri hok
  have hne := hE.ues
  obtain ⟨hst, hfit⟩ := hE.nds
  have hLl : (nds es).length ≤ 60 := by unfold nds; rw [List.length_map]; exact hesl
  obtain ⟨L, hL⟩ : ∃ L, L = nds es := ⟨_, rfl⟩
  rw [← hL] at hne hst hfit hLl
  have hfit2 : ∀ e ∈ L, e.1 ≤ 4294967295 ∧ e.2 ≤ 4294967295 := fun e he => ⟨(hfit e he).1, (hfit e he).2.1⟩
  have hu' : isE u es → u = .list false 2 (uen L) ∨ u = .own 2 (uen L) ∨ (u = .nils ∧ L = []) := by
    rintro (rfl | rfl | ⟨rfl, rfl⟩)
    · exact .inl (by rw [hne])
    · exact .inr (.inl (by rw [hne]))
    · exact .inr (.inr ⟨rfl, hL⟩)
  have hu2 := hu' hu
  obtain ⟨b0, hb0, hb0l, hb0c, PUT⟩ : ∃ b0 : List Nat, b0 ≠ [] ∧ b0.length ≤ 9000 ∧ (∀ c ∈ b0, c < 256) ∧ ∀ {w : U}, isEn w L → GF gtab fid_archipelagoref15_AdjPut [w] [] 0 = some (.tup [.own 1 (un .u8 b0), .int .i64 0], []) := by
    rcases raput_R (w := .list false 2 (uen L)) (.inl rfl) (by omega) hfit2 with ⟨G, a, b, _⟩ | ⟨a, _⟩
    · have hp2 := (gbody_bytes a (by rw [b]; omega) (by rw [b]; exact hfit2))
      have hln : ∀ x ∈ G.length :: gbody 0 G, x < 18446744073709551616 := fun x hx => by
        rcases List.mem_cons.1 hx with rfl | hx
        · rw [b] at hp2; omega
        · exact hp2.1 x hx
      have hll := putL_len hln
      rw [List.length_cons, ← gbody_len, b] at hll
      rw [b] at hp2
      refine ⟨genc G, putL_ne (by simp), by unfold genc; omega, fun c hc => putL_lt _ c hc, fun {w} hw => ?_⟩
      rcases raput_R hw (by omega) hfit2 with ⟨G', a', b', c'⟩ | ⟨a', _⟩
      · have : G' = G := good_one a' a (by rw [b', b])
        rw [← this]; exact c'
      · exact absurd hst a'
    · exact absurd hst a
  obtain ⟨w4, l4, CH, hw4, hl4c, hl4⟩ := change_R (how := how) (at' := at_) (x := c) hb0 hb0c hmo hc hh ha hb0l a4
  refine Zr rfl (by simp (maxSteps := 2000000) only [gs,zlr,reduceIte,reduceCtorEq,zpa,zpb,zpc,zpd,zpe,zpf,zpg,zph,zpi,zpj,zpk,zpl,zpm,zpn,zpo,zpp, uen_length, g1, un_length, g2, g3, g4, decide_false]; rfl) (Zc rfl rfl (fun h => by cases h) (fun _ => ?_))
  refine Zj rfl (fun env h => h = [.box [.int .u64 (N : Int), v]] ∧ GEnv.get env 0 = .list false 2 (uen raw) ∧ GEnv.get env 3 = .int .u8 (near : Int) ∧ GEnv.get env 4 = .list false 1 (un .u8 bytes) ∧ GEnv.get env 5 = .int .u8 (how : Int) ∧ GEnv.get env 6 = .int .u16 (at_ : Int) ∧ GEnv.get env 7 = .int .u8 (c : Int) ∧ GEnv.get env 8 = .list false 1 (un .u8 more) ∧ GEnv.get env 9 = .int .u64 (n : Int) ∧ GEnv.get env 21 = .ptr 0 0 0 0) ?_ ?_
  · rcases hv with rfl | ⟨rfl, rfl⟩
    · refine Zr rfl (by simp (maxSteps := 2000000) only [gs,zlr,reduceIte,reduceCtorEq,zpa,zpb,zpc,zpd,zpe,zpf,zpg,zph,zpi,zpj,zpk,zpl,zpm,zpn,zpo,zpp, snapLL_un, gc_archipelagoseat_History, HI]; rfl) ?_
      exact Za rfl ⟨rfl, rfl, rfl, rfl, rfl, rfl, rfl, rfl, rfl, rfl⟩
    · refine Zr rfl (by simp (maxSteps := 2000000) only [gs,zlr,reduceIte,reduceCtorEq,zpa,zpb,zpc,zpd,zpe,zpf,zpg,zph,zpi,zpj,zpk,zpl,zpm,zpn,zpo,zpp, snapLL_un, gc_archipelagoseat_History, HI]; rfl) ?_
      exact Za rfl ⟨rfl, rfl, rfl, rfl, rfl, rfl, rfl, rfl, rfl, rfl⟩
  rintro env h ⟨rfl, k0, k3, k4, k5, k6, k7, k8, k9, k21⟩
  refine Zj rfl (fun env h => h = [.box [.int .u64 (N : Int), v]] ∧ GEnv.get env 0 = .list false 2 (uen raw) ∧ GEnv.get env 22 = u ∧ GEnv.get env 4 = .list false 1 (un .u8 bytes) ∧ GEnv.get env 5 = .int .u8 (how : Int) ∧ GEnv.get env 6 = .int .u16 (at_ : Int) ∧ GEnv.get env 7 = .int .u8 (c : Int) ∧ GEnv.get env 8 = .list false 1 (un .u8 more) ∧ GEnv.get env 9 = .int .u64 (n : Int) ∧ GEnv.get env 21 = .ptr 0 0 0 0) ?_ ?_
  · rcases hv with rfl | ⟨rfl, rfl⟩
    all_goals
      rcases hu2 with rfl | rfl | ⟨rfl, h0⟩
      · refine Zd rfl (by simp (maxSteps := 2000000) only [gs,gd,zlr,id,reduceIte,reduceCtorEq,zpa,zpb,zpc,zpd,zpe,zpf,zpg,zph,zpi,zpj,zpk,zpl,zpm,zpn,zpo,zpp, k3, k21, snapLL_uvs, gc_archipelagoseat_Time, iq_archipelagoseat_Time, TI, gc_archipelagoref8_At, iq_archipelagoref8_At, AT]; rfl) ?_
        exact Za rfl ⟨rfl, by simp [GEnv.get, k0], by simp [GEnv.get], by simp [GEnv.get, k4], by simp [GEnv.get, k5], by simp [GEnv.get, k6], by simp [GEnv.get, k7], by simp [GEnv.get, k8], by simp [GEnv.get, k9], by simp [GEnv.get, k21]⟩
      · refine Zd rfl (by simp (maxSteps := 2000000) only [gs,gd,zlr,id,reduceIte,reduceCtorEq,zpa,zpb,zpc,zpd,zpe,zpf,zpg,zph,zpi,zpj,zpk,zpl,zpm,zpn,zpo,zpp, k3, k21, snapLL_uvs, gc_archipelagoseat_Time, iq_archipelagoseat_Time, TI, gc_archipelagoref8_At, iq_archipelagoref8_At, AT]; rfl) ?_
        exact Za rfl ⟨rfl, by simp [GEnv.get, k0], by simp [GEnv.get], by simp [GEnv.get, k4], by simp [GEnv.get, k5], by simp [GEnv.get, k6], by simp [GEnv.get, k7], by simp [GEnv.get, k8], by simp [GEnv.get, k9], by simp [GEnv.get, k21]⟩
      · refine Zd rfl (by simp (maxSteps := 2000000) only [gs,gd,zlr,id,reduceIte,reduceCtorEq,zpa,zpb,zpc,zpd,zpe,zpf,zpg,zph,zpi,zpj,zpk,zpl,zpm,zpn,zpo,zpp, k3, k21, snapLL_uvs, gc_archipelagoseat_Time, iq_archipelagoseat_Time, TI, gc_archipelagoref8_At, iq_archipelagoref8_At, AT]; rfl) ?_
        exact Za rfl ⟨rfl, by simp [GEnv.get, k0], by simp [GEnv.get], by simp [GEnv.get, k4], by simp [GEnv.get, k5], by simp [GEnv.get, k6], by simp [GEnv.get, k7], by simp [GEnv.get, k8], by simp [GEnv.get, k9], by simp [GEnv.get, k21]⟩
  clear k0 k3 k4 k5 k6 k7 k8 k9 k21
  rintro env h ⟨rfl, k0, k22, k4, k5, k6, k7, k8, k9, k21⟩
  refine Zj rfl (fun env h => h = [.box [.int .u64 (N : Int), v]] ∧ GEnv.get env 0 = .list false 2 (uen raw) ∧ (∃ w, isEn w L ∧ GEnv.get env 22 = w) ∧ GEnv.get env 24 = .own 1 (un .u8 b0) ∧ GEnv.get env 4 = .list false 1 (un .u8 bytes) ∧ GEnv.get env 5 = .int .u8 (how : Int) ∧ GEnv.get env 6 = .int .u16 (at_ : Int) ∧ GEnv.get env 7 = .int .u8 (c : Int) ∧ GEnv.get env 8 = .list false 1 (un .u8 more) ∧ GEnv.get env 9 = .int .u64 (n : Int) ∧ GEnv.get env 21 = .ptr 0 0 0 0) ?_ ?_
  · rcases hu2 with rfl | rfl | ⟨rfl, h0⟩
    · have P1 := PUT (w := .list false 2 (uen L)) (.inl rfl)
      refine Zr rfl (by simp (maxSteps := 2000000) only [gs,zlr,reduceIte,reduceCtorEq,zpa,zpb,zpc,zpd,zpe,zpf,zpg,zph,zpi,zpj,zpk,zpl,zpm,zpn,zpo,zpp, k22, snapLL_uen, gc_archipelagoref15_AdjPut, P1]; rfl) ?_
      exact Za rfl ⟨rfl, by simp [GEnv.get, k0], ⟨_, .inl rfl, by simp [GEnv.get, k22]⟩, by simp [GEnv.get], by simp [GEnv.get, k4], by simp [GEnv.get, k5], by simp [GEnv.get, k6], by simp [GEnv.get, k7], by simp [GEnv.get, k8], by simp [GEnv.get, k9], by simp [GEnv.get, k21]⟩
    · have P1 := PUT (w := .list false 2 (uen L)) (.inl rfl)
      refine Zr rfl (by simp (maxSteps := 2000000) only [gs,zlr,reduceIte,reduceCtorEq,zpa,zpb,zpc,zpd,zpe,zpf,zpg,zph,zpi,zpj,zpk,zpl,zpm,zpn,zpo,zpp, k22, snapLL_uen, gc_archipelagoref15_AdjPut, P1]; rfl) ?_
      exact Za rfl ⟨rfl, by simp [GEnv.get, k0], ⟨_, .inl rfl, by simp [GEnv.get, k22]⟩, by simp [GEnv.get], by simp [GEnv.get, k4], by simp [GEnv.get, k5], by simp [GEnv.get, k6], by simp [GEnv.get, k7], by simp [GEnv.get, k8], by simp [GEnv.get, k9], by simp [GEnv.get, k21]⟩
    · have P1 := PUT (w := .nils) (.inr ⟨rfl, h0⟩)
      refine Zr rfl (by simp (maxSteps := 2000000) only [gs,zlr,reduceIte,reduceCtorEq,zpa,zpb,zpc,zpd,zpe,zpf,zpg,zph,zpi,zpj,zpk,zpl,zpm,zpn,zpo,zpp, k22, gc_archipelagoref15_AdjPut, P1]; rfl) ?_
      exact Za rfl ⟨rfl, by simp [GEnv.get, k0], ⟨_, .inr ⟨rfl, h0⟩, by simp [GEnv.get, k22]⟩, by simp [GEnv.get], by simp [GEnv.get, k4], by simp [GEnv.get, k5], by simp [GEnv.get, k6], by simp [GEnv.get, k7], by simp [GEnv.get, k8], by simp [GEnv.get, k9], by simp [GEnv.get, k21]⟩
  clear k0 k4 k5 k6 k7 k8 k9 k21 k22
  rintro env h ⟨rfl, k0, ⟨w, hw, k22⟩, k24, k4, k5, k6, k7, k8, k9, k21⟩
  have REST : True := trivial
  -- the three lists of edges
  refine Zj rfl (fun env h => h = [.box [.int .u64 (N : Int), v]] ∧ (∃ xs : List U, xs.length = 3 ∧ (∀ (i : Nat) (x : U), xs[i]? = some x → ∃ l, isEn x l ∧ l.length ≤ 10000 ∧ ∀ e ∈ l, e.1 ≤ 4294967295 ∧ e.2 ≤ 4294967295) ∧ GEnv.get env 82 = .own 1 (rowU xs)) ∧ GEnv.get env 83 = .int .i64 3 ∧ GEnv.get env 84 = .int .i64 0 ∧ GEnv.get env 24 = .own 1 (un .u8 b0) ∧ GEnv.get env 4 = .list false 1 (un .u8 bytes) ∧ GEnv.get env 5 = .int .u8 (how : Int) ∧ GEnv.get env 6 = .int .u16 (at_ : Int) ∧ GEnv.get env 7 = .int .u8 (c : Int) ∧ GEnv.get env 8 = .list false 1 (un .u8 more) ∧ GEnv.get env 9 = .int .u64 (n : Int) ∧ GEnv.get env 21 = .ptr 0 0 0 0) ?_ ?_
  · have hrawf : ∀ e ∈ raw, e.1 ≤ 4294967295 ∧ e.2 ≤ 4294967295 := hraw
    have hLr : ∀ e ∈ L ++ raw, e.1 ≤ 4294967295 ∧ e.2 ≤ 4294967295 := fun e he => by
      rcases List.mem_append.1 he with he | he
      · exact hfit2 e he
      · exact hraw e he
    have three : ∀ {a b c : U} {la lb lc : List Nd}, isEn a la → isEn b lb → isEn c lc → la.length ≤ 10000 → lb.length ≤ 10000 → lc.length ≤ 10000 → (∀ e ∈ la, e.1 ≤ 4294967295 ∧ e.2 ≤ 4294967295) → (∀ e ∈ lb, e.1 ≤ 4294967295 ∧ e.2 ≤ 4294967295) → (∀ e ∈ lc, e.1 ≤ 4294967295 ∧ e.2 ≤ 4294967295) → ∀ (i : Nat) (x : U), [a, b, c][i]? = some x → ∃ l, isEn x l ∧ l.length ≤ 10000 ∧ ∀ e ∈ l, e.1 ≤ 4294967295 ∧ e.2 ≤ 4294967295 := by
      intro a b c la lb lc h1 h2 h3 l1 l2 l3 f1 f2 f3 i x hx
      match i, hx with
      | 0, hx => cases hx; exact ⟨la, h1, l1, f1⟩
      | 1, hx => cases hx; exact ⟨lb, h2, l2, f2⟩
      | 2, hx => cases hx; exact ⟨lc, h3, l3, f3⟩
      | j + 3, hx => cases hx
    have ue0 : uen ([] : List Nd) = [] := rfl
    by_cases hL0 : L = []
    · by_cases hr0 : raw = []
      · have w3 : isEn (.list false 2 (uen raw)) (L ++ raw) := .inl (by rw [hL0]; rfl)
        rcases hw with rfl | ⟨rfl, _⟩
        · refine Zr rfl (by simp (maxSteps := 2000000) only [gs,zlr,reduceIte,reduceCtorEq,zpa,zpb,zpc,zpd,zpe,zpf,zpg,zph,zpi,zpj,zpk,zpl,zpm,zpn,zpo,zpp, k0, k22, hL0, hr0, ue0]; rfl) ?_
          exact Za rfl ⟨rfl, ⟨[.list false 2 (uen raw), .list false 2 (uen L), .list false 2 (uen raw)], rfl, three (.inl rfl) (.inl rfl) w3 (by omega) (by omega) (by rw [List.length_append]; omega) hraw hfit2 hLr, by simp [GEnv.get, rowU, hL0, hr0, ue0]⟩, by simp [GEnv.get], by simp [GEnv.get], by simp [GEnv.get, k24], by simp [GEnv.get, k4], by simp [GEnv.get, k5], by simp [GEnv.get, k6], by simp [GEnv.get, k7], by simp [GEnv.get, k8], by simp [GEnv.get, k9], by simp [GEnv.get, k21]⟩
        · refine Zr rfl (by simp (maxSteps := 2000000) only [gs,zlr,reduceIte,reduceCtorEq,zpa,zpb,zpc,zpd,zpe,zpf,zpg,zph,zpi,zpj,zpk,zpl,zpm,zpn,zpo,zpp, k0, k22, hr0, ue0]; rfl) ?_
          exact Za rfl ⟨rfl, ⟨[.list false 2 (uen raw), .nils, .list false 2 (uen raw)], rfl, three (.inl rfl) (.inr ⟨rfl, hL0⟩) w3 (by omega) (by omega) (by rw [List.length_append]; omega) hraw hfit2 hLr, by simp [GEnv.get, rowU, hL0, hr0, ue0]⟩, by simp [GEnv.get], by simp [GEnv.get], by simp [GEnv.get, k24], by simp [GEnv.get, k4], by simp [GEnv.get, k5], by simp [GEnv.get, k6], by simp [GEnv.get, k7], by simp [GEnv.get, k8], by simp [GEnv.get, k9], by simp [GEnv.get, k21]⟩
      · have hrn : (uen raw = []) = False := eq_false (fun h => hr0 (List.eq_nil_of_length_eq_zero (by have := congrArg List.length h; rwa [uen_length] at this)))
        have r1 : (raw.length * 8 ≤ room) = True := eq_true (by unfold room; omega)
        have w3 : isEn (.list false 2 (uen raw)) (L ++ raw) := .inl (by rw [hL0]; rfl)
        rcases hw with rfl | ⟨rfl, _⟩
        · refine Zr rfl (by simp (maxSteps := 2000000) only [gs,zlr,reduceIte,reduceCtorEq,zpa,zpb,zpc,zpd,zpe,zpf,zpg,zph,zpi,zpj,zpk,zpl,zpm,zpn,zpo,zpp, k0, k22, hL0, ue0, hrn, uen_length, r1]; rfl) ?_
          exact Za rfl ⟨rfl, ⟨[.list false 2 (uen raw), .list false 2 (uen L), .list false 2 (uen raw)], rfl, three (.inl rfl) (.inl rfl) w3 (by omega) (by omega) (by rw [List.length_append]; omega) hraw hfit2 hLr, by simp [GEnv.get, rowU, hL0, ue0]⟩, by simp [GEnv.get], by simp [GEnv.get], by simp [GEnv.get, k24], by simp [GEnv.get, k4], by simp [GEnv.get, k5], by simp [GEnv.get, k6], by simp [GEnv.get, k7], by simp [GEnv.get, k8], by simp [GEnv.get, k9], by simp [GEnv.get, k21]⟩
        · refine Zr rfl (by simp (maxSteps := 2000000) only [gs,zlr,reduceIte,reduceCtorEq,zpa,zpb,zpc,zpd,zpe,zpf,zpg,zph,zpi,zpj,zpk,zpl,zpm,zpn,zpo,zpp, k0, k22, hrn, uen_length, r1]; rfl) ?_
          exact Za rfl ⟨rfl, ⟨[.list false 2 (uen raw), .nils, .list false 2 (uen raw)], rfl, three (.inl rfl) (.inr ⟨rfl, hL0⟩) w3 (by omega) (by omega) (by rw [List.length_append]; omega) hraw hfit2 hLr, by simp [GEnv.get, rowU]⟩, by simp [GEnv.get], by simp [GEnv.get], by simp [GEnv.get, k24], by simp [GEnv.get, k4], by simp [GEnv.get, k5], by simp [GEnv.get, k6], by simp [GEnv.get, k7], by simp [GEnv.get, k8], by simp [GEnv.get, k9], by simp [GEnv.get, k21]⟩
    · rcases hw with rfl | ⟨_, h1⟩
      case inr => exact absurd h1 hL0
      have hLn : (uen L = []) = False := eq_false (fun h => hL0 (List.eq_nil_of_length_eq_zero (by have := congrArg List.length h; rwa [uen_length] at this)))
      have r1 : (L.length * 8 ≤ room) = True := eq_true (by unfold room; omega)
      have r2 : ((L.length + raw.length) * 8 ≤ room) = True := eq_true (by unfold room; omega)
      refine Zr rfl (by simp (maxSteps := 2000000) only [gs,zlr,reduceIte,reduceCtorEq,zpa,zpb,zpc,zpd,zpe,zpf,zpg,zph,zpi,zpj,zpk,zpl,zpm,zpn,zpo,zpp, k0, k22, hLn, uen_length, r1, r2, uen_append]; rfl) ?_
      exact Za rfl ⟨rfl, ⟨[.list false 2 (uen raw), .list false 2 (uen L), .list false 2 (uen (L ++ raw))], rfl, three (.inl rfl) (.inl rfl) (.inl rfl) (by omega) (by omega) (by rw [List.length_append]; omega) hraw hfit2 hLr, by simp [GEnv.get, rowU]⟩, by simp [GEnv.get], by simp [GEnv.get], by simp [GEnv.get, k24], by simp [GEnv.get, k4], by simp [GEnv.get, k5], by simp [GEnv.get, k6], by simp [GEnv.get, k7], by simp [GEnv.get, k8], by simp [GEnv.get, k9], by simp [GEnv.get, k21]⟩
  clear k0 k4 k5 k6 k7 k8 k9 k21 k22 k24
  rintro env h ⟨rfl, ⟨xs, hx3, hxs, k82⟩, k83, k84, k24, k4, k5, k6, k7, k8, k9, k21⟩
  refine Zj1 (fun env h => h = [.box [.int .u64 (N : Int), v]] ∧ GEnv.get env 24 = .own 1 (un .u8 b0) ∧ GEnv.get env 4 = .list false 1 (un .u8 bytes) ∧ GEnv.get env 5 = .int .u8 (how : Int) ∧ GEnv.get env 6 = .int .u16 (at_ : Int) ∧ GEnv.get env 7 = .int .u8 (c : Int) ∧ GEnv.get env 8 = .list false 1 (un .u8 more) ∧ GEnv.get env 9 = .int .u64 (n : Int) ∧ GEnv.get env 21 = .ptr 0 0 0 0) ?_ ?_
  · refine Zw rfl (fun m env h => h = [.box [.int .u64 (N : Int), v]] ∧ ∃ i : Nat, m + i = 3 ∧ GEnv.get env 82 = .own 1 (rowU xs) ∧ GEnv.get env 83 = .int .i64 3 ∧ GEnv.get env 84 = .int .i64 ((i : Nat) : Int) ∧ GEnv.get env 24 = .own 1 (un .u8 b0) ∧ GEnv.get env 4 = .list false 1 (un .u8 bytes) ∧ GEnv.get env 5 = .int .u8 (how : Int) ∧ GEnv.get env 6 = .int .u16 (at_ : Int) ∧ GEnv.get env 7 = .int .u8 (c : Int) ∧ GEnv.get env 8 = .list false 1 (un .u8 more) ∧ GEnv.get env 9 = .int .u64 (n : Int) ∧ GEnv.get env 21 = .ptr 0 0 0 0) 3 ⟨rfl, 0, rfl, k82, k83, k84, k24, k4, k5, k6, k7, k8, k9, k21⟩ ?_
    clear k4 k5 k6 k7 k8 k9 k21 k24 k82 k83 k84
    rintro m env h ⟨rfl, i, hm, k82, k83, k84, k24, k4, k5, k6, k7, k8, k9, k21⟩
    simp only [GEnv.keep, k82, k83, k84, k24, k4, k5, k6, k7, k8, k9, k21]
    refine Zr rfl (by simp (maxSteps := 2000000) only [gs,zlr,reduceIte,reduceCtorEq,zpa,zpb,zpc,zpd,zpe,zpf,zpg,zph,zpi,zpj,zpk,zpl,zpm,zpn,zpo,zpp]; rfl) (Zp rfl rfl (fun hi => ?_) (fun hi => ?_))
    · have gx : xs[i]? = some (xs[i]'(by omega)) := List.getElem?_eq_getElem _
      generalize xs[i]'(by omega) = x at gx
      obtain ⟨lx, hx, hxl, hxf⟩ := hxs i x gx
      have PB := put_both hx hxl hxf
      have n0 : ((0 : Int) ≤ (i : Int)) = True := eq_true (by omega)
      have hinc := up64 (show i < 9223372036854775807 by omega)
      have RG := rowU_get gx
      rcases hx with rfl | ⟨rfl, _⟩
      all_goals
        rcases PB with ⟨b, P1, P2⟩ | ⟨P1, P2⟩
        · refine Zr rfl (by simp (maxSteps := 2000000) only [gs,zlr,reduceIte,reduceCtorEq,zpa,zpb,zpc,zpd,zpe,zpf,zpg,zph,zpi,zpj,zpk,zpl,zpm,zpn,zpo,zpp, n0, RG]; rfl) ?_
          refine Zr rfl (by simp (maxSteps := 2000000) only [gs,zlr,reduceIte,reduceCtorEq,zpa,zpb,zpc,zpd,zpe,zpf,zpg,zph,zpi,zpj,zpk,zpl,zpm,zpn,zpo,zpp, snapLL_uen, gc_adj_Put, P1]; rfl) ?_
          refine Zr rfl (by simp (maxSteps := 2000000) only [gs,zlr,reduceIte,reduceCtorEq,zpa,zpb,zpc,zpd,zpe,zpf,zpg,zph,zpi,zpj,zpk,zpl,zpm,zpn,zpo,zpp, snapLL_uen, gc_archipelagoref15_AdjPut, P2]; rfl) ?_
          refine Zr rfl (by simp (maxSteps := 2000000) only [gs,zlr,reduceIte,reduceCtorEq,zpa,zpb,zpc,zpd,zpe,zpf,zpg,zph,zpi,zpj,zpk,zpl,zpm,zpn,zpo,zpp, bne_self_eq_false, gbytesOf_un]; rfl) (Zc rfl rfl (fun h => by cases h) (fun _ => ?_))
          refine Zr rfl (by simp (maxSteps := 2000000) only [gs,zlr,reduceIte,reduceCtorEq,zpa,zpb,zpc,zpd,zpe,zpf,zpg,zph,zpi,zpj,zpk,zpl,zpm,zpn,zpo,zpp, hinc]; rfl) ?_
          exact Za rfl ⟨m - 1, by omega, rfl, i + 1, by omega, rfl, rfl, rfl, rfl, rfl, rfl, rfl, rfl, rfl, rfl, rfl⟩
        · refine Zr rfl (by simp (maxSteps := 2000000) only [gs,zlr,reduceIte,reduceCtorEq,zpa,zpb,zpc,zpd,zpe,zpf,zpg,zph,zpi,zpj,zpk,zpl,zpm,zpn,zpo,zpp, n0, RG]; rfl) ?_
          refine Zr rfl (by simp (maxSteps := 2000000) only [gs,zlr,reduceIte,reduceCtorEq,zpa,zpb,zpc,zpd,zpe,zpf,zpg,zph,zpi,zpj,zpk,zpl,zpm,zpn,zpo,zpp, snapLL_uen, gc_adj_Put, P1]; rfl) ?_
          refine Zr rfl (by simp (maxSteps := 2000000) only [gs,zlr,reduceIte,reduceCtorEq,zpa,zpb,zpc,zpd,zpe,zpf,zpg,zph,zpi,zpj,zpk,zpl,zpm,zpn,zpo,zpp, snapLL_uen, gc_archipelagoref15_AdjPut, P2]; rfl) ?_
          refine Zr rfl (by simp (maxSteps := 2000000) only [gs,zlr,reduceIte,reduceCtorEq,zpa,zpb,zpc,zpd,zpe,zpf,zpg,zph,zpi,zpj,zpk,zpl,zpm,zpn,zpo,zpp, bne_self_eq_false]; rfl) (Zc rfl rfl (fun h => by cases h) (fun _ => ?_))
          refine Zr rfl (by simp (maxSteps := 2000000) only [gs,zlr,reduceIte,reduceCtorEq,zpa,zpb,zpc,zpd,zpe,zpf,zpg,zph,zpi,zpj,zpk,zpl,zpm,zpn,zpo,zpp, hinc]; rfl) ?_
          exact Za rfl ⟨m - 1, by omega, rfl, i + 1, by omega, rfl, rfl, rfl, rfl, rfl, rfl, rfl, rfl, rfl, rfl, rfl⟩
    · exact Za rfl ⟨rfl, rfl, rfl, rfl, rfl, rfl, rfl, rfl, rfl⟩
  clear k4 k5 k6 k7 k8 k9 k21 k24 k82 k83 k84 hxs
  rintro env h ⟨rfl, k24, k4, k5, k6, k7, k8, k9, k21⟩
  -- the four rows of bytes
  refine Zj rfl (fun env h => h = [.box [.int .u64 (N : Int), v]] ∧ (∃ xs : List U, xs.length = 4 ∧ (∀ (i : Nat) (x : U), xs[i]? = some x → ∃ l, isBa x l ∧ l.length ≤ 10000 ∧ ∀ e ∈ l, e < 256) ∧ GEnv.get env 120 = .own 1 (rowU xs)) ∧ GEnv.get env 121 = .int .i64 4 ∧ GEnv.get env 122 = .int .i64 0 ∧ GEnv.get env 9 = .int .u64 (n : Int) ∧ GEnv.get env 21 = .ptr 0 0 0 0) ?_ ?_
  · have h1by : ∀ c ∈ (1 :: bytes), c < 256 := fun c hc => by
      rcases List.mem_cons.1 hc with rfl | hc
      · omega
      · exact hby c hc
    have four : ∀ {a b c d : U} {la lb lc ld : List Nat}, isBa a la → isBa b lb → isBa c lc → isBa d ld → la.length ≤ 10000 → lb.length ≤ 10000 → lc.length ≤ 10000 → ld.length ≤ 10000 → (∀ e ∈ la, e < 256) → (∀ e ∈ lb, e < 256) → (∀ e ∈ lc, e < 256) → (∀ e ∈ ld, e < 256) → ∀ (i : Nat) (x : U), [a, b, c, d][i]? = some x → ∃ l, isBa x l ∧ l.length ≤ 10000 ∧ ∀ e ∈ l, e < 256 := by
      intro a b c d la lb lc ld h1 h2 h3 h4 l1 l2 l3 l4 f1 f2 f3 f4 i x hx
      match i, hx with
      | 0, hx => cases hx; exact ⟨la, h1, l1, f1⟩
      | 1, hx => cases hx; exact ⟨lb, h2, l2, f2⟩
      | 2, hx => cases hx; exact ⟨lc, h3, l3, f3⟩
      | 3, hx => cases hx; exact ⟨ld, h4, l4, f4⟩
      | j + 4, hx => cases hx
    have e1 : [[U.int .u8 1]] = un .u8 [1] := rfl
    have r1 : ((1 + bytes.length) * 1 ≤ room) = True := eq_true (by unfold room; omega)
    have l1 : ([1] : List Nat).length = 1 := rfl
    have e2 : [1] ++ bytes = 1 :: bytes := rfl
    rcases hw4 with ⟨rfl, h40⟩ | rfl | rfl
    · refine Zr rfl (by simp (maxSteps := 2000000) only [gs,zlr,reduceIte,reduceCtorEq,zpa,zpb,zpc,zpd,zpe,zpf,zpg,zph,zpi,zpj,zpk,zpl,zpm,zpn,zpo,zpp, k4, k5, k6, k7, k8, k24, snapLL_un, gc_archipelagoseat_Change, CH, e1, un_length, l1, r1, un_append, e2]; rfl) ?_
      exact Za rfl ⟨rfl, ⟨[.list false 1 (un .u8 bytes), .list false 1 (un .u8 b0), .nils, .list false 1 (un .u8 (1 :: bytes))], rfl, four (.inl rfl) (.inl rfl) (.inr ⟨rfl, h40⟩) (.inl rfl) (by omega) (by omega) (by omega) (by simp; omega) hby hb0c hl4c h1by, by simp [GEnv.get, rowU]⟩, by simp [GEnv.get], by simp [GEnv.get], by simp [GEnv.get, k9], by simp [GEnv.get, k21]⟩
    · refine Zr rfl (by simp (maxSteps := 2000000) only [gs,zlr,reduceIte,reduceCtorEq,zpa,zpb,zpc,zpd,zpe,zpf,zpg,zph,zpi,zpj,zpk,zpl,zpm,zpn,zpo,zpp, k4, k5, k6, k7, k8, k24, snapLL_un, gc_archipelagoseat_Change, CH, e1, un_length, l1, r1, un_append, e2]; rfl) ?_
      exact Za rfl ⟨rfl, ⟨[.list false 1 (un .u8 bytes), .list false 1 (un .u8 b0), .list false 1 (un .u8 l4), .list false 1 (un .u8 (1 :: bytes))], rfl, four (.inl rfl) (.inl rfl) (.inl rfl) (.inl rfl) (by omega) (by omega) (by omega) (by simp; omega) hby hb0c hl4c h1by, by simp [GEnv.get, rowU]⟩, by simp [GEnv.get], by simp [GEnv.get], by simp [GEnv.get, k9], by simp [GEnv.get, k21]⟩
    · refine Zr rfl (by simp (maxSteps := 2000000) only [gs,zlr,reduceIte,reduceCtorEq,zpa,zpb,zpc,zpd,zpe,zpf,zpg,zph,zpi,zpj,zpk,zpl,zpm,zpn,zpo,zpp, k4, k5, k6, k7, k8, k24, snapLL_un, gc_archipelagoseat_Change, CH, e1, un_length, l1, r1, un_append, e2]; rfl) ?_
      exact Za rfl ⟨rfl, ⟨[.list false 1 (un .u8 bytes), .list false 1 (un .u8 b0), .list false 1 (un .u8 l4), .list false 1 (un .u8 (1 :: bytes))], rfl, four (.inl rfl) (.inl rfl) (.inl rfl) (.inl rfl) (by omega) (by omega) (by omega) (by simp; omega) hby hb0c hl4c h1by, by simp [GEnv.get, rowU]⟩, by simp [GEnv.get], by simp [GEnv.get], by simp [GEnv.get, k9], by simp [GEnv.get, k21]⟩
  clear k4 k5 k6 k7 k8 k9 k21 k24
  rintro env h ⟨rfl, ⟨ys, hy4, hys, k120⟩, k121, k122, k9, k21⟩
  have SE : ∀ {a b : U} {l : List Nd}, isEn a l → isEn b l → l.length ≤ 10000 → GF gtab fid_archipelagoref8_SameEdges [a, b] [] 0 = some (.bool true, []) := fun h1 h2 h3 => by
    have := same_E h1 h2 (by omega) (by omega)
    rwa [decide_eq_true rfl] at this
  refine Zw rfl (fun m env h => h = [.box [.int .u64 (N : Int), v]] ∧ ∃ i : Nat, m + i = 4 ∧ GEnv.get env 120 = .own 1 (rowU ys) ∧ GEnv.get env 121 = .int .i64 4 ∧ GEnv.get env 122 = .int .i64 ((i : Nat) : Int) ∧ GEnv.get env 9 = .int .u64 (n : Int) ∧ GEnv.get env 21 = .ptr 0 0 0 0) 4 ⟨rfl, 0, rfl, k120, k121, k122, k9, k21⟩ ?_
  clear k9 k21 k120 k121 k122
  rintro m env h ⟨rfl, i, hm, k120, k121, k122, k9, k21⟩
  simp only [GEnv.keep, k120, k121, k122, k9, k21]
  refine Zr rfl (by simp (maxSteps := 2000000) only [gs,zlr,reduceIte,reduceCtorEq,zpa,zpb,zpc,zpd,zpe,zpf,zpg,zph,zpi,zpj,zpk,zpl,zpm,zpn,zpo,zpp]; rfl) (Zp rfl rfl (fun hi => ?_) (fun hi => ?_))
  · have gx : ys[i]? = some (ys[i]'(by omega)) := List.getElem?_eq_getElem _
    generalize ys[i]'(by omega) = x at gx
    obtain ⟨lx, hx, hxl, hxf⟩ := hys i x gx
    have n0 : ((0 : Int) ≤ (i : Int)) = True := eq_true (by omega)
    have hinc := up64 (show i < 9223372036854775807 by omega)
    have RG := rowU_get gx
    have e3 : [[U.int .u64 (n : Int)], [U.int .u64 (N : Int)], [U.int .u64 5]] = un .u64 [n, N, 5] := rfl
    have hns : ∀ z ∈ [n, N, 5], z < 18446744073709551616 := fun z hz => by simp only [List.mem_cons, List.not_mem_nil, or_false] at hz; omega
    have RB : ∀ z, z < 18446744073709551616 → _ := fun z hz => read_both hx hxf hxl hz
    obtain ⟨X, hX⟩ : ∃ X, X = x := ⟨_, rfl⟩
    rcases hx with rfl | ⟨rfl, _⟩
    all_goals
      refine Zr rfl (by simp (maxSteps := 2000000) only [gs,zlr,reduceIte,reduceCtorEq,zpa,zpb,zpc,zpd,zpe,zpf,zpg,zph,zpi,zpj,zpk,zpl,zpm,zpn,zpo,zpp, n0, RG]; rfl) ?_
      refine Zr rfl (by simp (maxSteps := 2000000) only [gs,zlr,reduceIte,reduceCtorEq,zpa,zpb,zpc,zpd,zpe,zpf,zpg,zph,zpi,zpj,zpk,zpl,zpm,zpn,zpo,zpp, e3, un_length]; rfl) ?_
      refine Zw rfl (fun q env h => h = [.box [.int .u64 (N : Int), v]] ∧ ∃ j : Nat, q + j = 3 ∧ GEnv.get env 33 = X ∧ GEnv.get env 129 = .own 1 (un .u64 [n, N, 5]) ∧ GEnv.get env 130 = .int .i64 3 ∧ GEnv.get env 131 = .int .i64 ((j : Nat) : Int) ∧ GEnv.get env 120 = .own 1 (rowU ys) ∧ GEnv.get env 121 = .int .i64 4 ∧ GEnv.get env 122 = .int .i64 ((i : Nat) : Int) ∧ GEnv.get env 9 = .int .u64 (n : Int) ∧ GEnv.get env 21 = .ptr 0 0 0 0) 3 ⟨rfl, 0, rfl, by rw [hX]; rfl, rfl, rfl, rfl, rfl, rfl, rfl, rfl, rfl⟩ ?_
      rintro q env h ⟨rfl, j, hq, j33, j129, j130, j131, j120, j121, j122, j9, j21⟩
      rw [hX] at j33
      simp only [GEnv.keep, j33, j129, j130, j131, j120, j121, j122, j9, j21]
      refine Zr rfl (by simp (maxSteps := 2000000) only [gs,zlr,reduceIte,reduceCtorEq,zpa,zpb,zpc,zpd,zpe,zpf,zpg,zph,zpi,zpj,zpk,zpl,zpm,zpn,zpo,zpp]; rfl) (Zp rfl rfl (fun hj => ?_) (fun hj => ?_))
      · have gy : [n, N, 5][j]? = some ([n, N, 5][j]'(by simp; omega)) := List.getElem?_eq_getElem _
        have hz := hns _ (List.getElem_mem (l := [n, N, 5]) (n := j) (by simp; omega))
        generalize [n, N, 5][j]'(by simp; omega) = z at gy hz
        obtain ⟨v1, v2, le, cd, h1, h2, h3, R1, R2⟩ := RB z hz
        have S1 := SE h1 h2 h3
        have m0 : ((0 : Int) ≤ (j : Int)) = True := eq_true (by omega)
        have hjnc := up64 (show j < 9223372036854775807 by omega)
        rcases h1 with rfl | ⟨rfl, _⟩
        all_goals
          rcases h2 with rfl | ⟨rfl, _⟩
          · refine Zr rfl (by simp (maxSteps := 2000000) only [gs,zlr,reduceIte,reduceCtorEq,zpa,zpb,zpc,zpd,zpe,zpf,zpg,zph,zpi,zpj,zpk,zpl,zpm,zpn,zpo,zpp, m0, un_get gy]; rfl) ?_
            refine Zr rfl (by simp (maxSteps := 2000000) only [gs,zlr,reduceIte,reduceCtorEq,zpa,zpb,zpc,zpd,zpe,zpf,zpg,zph,zpi,zpj,zpk,zpl,zpm,zpn,zpo,zpp, snapLL_un, gc_adj_Read, R1]; rfl) ?_
            refine Zr rfl (by simp (maxSteps := 2000000) only [gs,zlr,reduceIte,reduceCtorEq,zpa,zpb,zpc,zpd,zpe,zpf,zpg,zph,zpi,zpj,zpk,zpl,zpm,zpn,zpo,zpp, snapLL_un, gc_archipelagoref15_AdjRead, R2]; rfl) ?_
            refine Zr rfl (by simp (maxSteps := 2000000) only [gs,zlr,reduceIte,reduceCtorEq,zpa,zpb,zpc,zpd,zpe,zpf,zpg,zph,zpi,zpj,zpk,zpl,zpm,zpn,zpo,zpp, bne_self_eq_false, snapLL_uen, gc_archipelagoref8_SameEdges, S1]; rfl) (Zc rfl rfl (fun h => by cases h) (fun _ => ?_))
            refine Zr rfl (by simp (maxSteps := 2000000) only [gs,zlr,reduceIte,reduceCtorEq,zpa,zpb,zpc,zpd,zpe,zpf,zpg,zph,zpi,zpj,zpk,zpl,zpm,zpn,zpo,zpp, hjnc]; rfl) ?_
            exact Za rfl ⟨q - 1, by omega, rfl, j + 1, by omega, by rw [hX]; rfl, rfl, rfl, rfl, rfl, rfl, rfl, rfl, rfl⟩
          · refine Zr rfl (by simp (maxSteps := 2000000) only [gs,zlr,reduceIte,reduceCtorEq,zpa,zpb,zpc,zpd,zpe,zpf,zpg,zph,zpi,zpj,zpk,zpl,zpm,zpn,zpo,zpp, m0, un_get gy]; rfl) ?_
            refine Zr rfl (by simp (maxSteps := 2000000) only [gs,zlr,reduceIte,reduceCtorEq,zpa,zpb,zpc,zpd,zpe,zpf,zpg,zph,zpi,zpj,zpk,zpl,zpm,zpn,zpo,zpp, snapLL_un, gc_adj_Read, R1]; rfl) ?_
            refine Zr rfl (by simp (maxSteps := 2000000) only [gs,zlr,reduceIte,reduceCtorEq,zpa,zpb,zpc,zpd,zpe,zpf,zpg,zph,zpi,zpj,zpk,zpl,zpm,zpn,zpo,zpp, snapLL_un, gc_archipelagoref15_AdjRead, R2]; rfl) ?_
            refine Zr rfl (by simp (maxSteps := 2000000) only [gs,zlr,reduceIte,reduceCtorEq,zpa,zpb,zpc,zpd,zpe,zpf,zpg,zph,zpi,zpj,zpk,zpl,zpm,zpn,zpo,zpp, bne_self_eq_false, snapLL_uen, gc_archipelagoref8_SameEdges, S1]; rfl) (Zc rfl rfl (fun h => by cases h) (fun _ => ?_))
            refine Zr rfl (by simp (maxSteps := 2000000) only [gs,zlr,reduceIte,reduceCtorEq,zpa,zpb,zpc,zpd,zpe,zpf,zpg,zph,zpi,zpj,zpk,zpl,zpm,zpn,zpo,zpp, hjnc]; rfl) ?_
            exact Za rfl ⟨q - 1, by omega, rfl, j + 1, by omega, by rw [hX]; rfl, rfl, rfl, rfl, rfl, rfl, rfl, rfl, rfl⟩
      · refine Zr rfl (by simp (maxSteps := 2000000) only [gs,zlr,reduceIte,reduceCtorEq,zpa,zpb,zpc,zpd,zpe,zpf,zpg,zph,zpi,zpj,zpk,zpl,zpm,zpn,zpo,zpp, hinc]; rfl) ?_
        exact Za rfl ⟨m - 1, by omega, rfl, i + 1, by omega, rfl, rfl, rfl, rfl, rfl⟩
  · exact Zr rfl (by simp (maxSteps := 2000000) only [gs,zlr,reduceIte,reduceCtorEq,zpa,zpb,zpc,zpd,zpe,zpf,zpg,zph,zpi,zpj,zpk,zpl,zpm,zpn,zpo,zpp]; rfl) (Zq rfl ⟨_, rfl, rfl⟩)

theorem ndEdges {u : U} (h : (Sh.sl [.int .u32, .int .u32]).fits u) : ∃ l : List Nd, u = .list false 2 (uen l) ∧ l.length ≤ maxI ∧ ∀ e ∈ l, e.1 ≤ 4294967295 ∧ e.2 ≤ 4294967295 :=
  Sh.ofSlice h (f := fun (e : Nd) => [U.int .u32 (e.1 : Int), .int .u32 (e.2 : Int)]) (q := fun e => e.1 ≤ 4294967295 ∧ e.2 ≤ 4294967295) fun e he => by
    obtain ⟨u, v, rfl, hu, hv⟩ := Sh.fits2 he
    obtain ⟨a, rfl, ha⟩ := Sh.nat rfl hu
    obtain ⟨b, rfl, hb⟩ := Sh.nat rfl hv
    exact ⟨(a, b), rfl, Int.ofNat_le.1 ha, Int.ofNat_le.1 hb⟩

theorem adjTells_law (us : List U) (h : Ars [.one (.sl [(.int .u32), (.int .u32)]), .one (.int .u8), .one (.sl [(.int .u8)]), .one (.int .u8), .one (.sl [(.int .u8)]), .one (.int .u8), .one (.int .u16), .one (.int .u8), .one (.sl [(.int .u8)]), .one (.int .u64)] us) : GF gtab fid_archipelagolaw15_AdjTells us [] 0 = some (.bool true, []) := by
  obtain ⟨u0, _, rfl, h0, u1, _, rfl, h1, u2, _, rfl, h2, u3, _, rfl, h3, u4, _, rfl, h4, u5, _, rfl, h5, u6, _, rfl, h6, u7, _, rfl, h7, u8, _, rfl, h8, u9, _, rfl, h9, rfl⟩ := h
  obtain ⟨raw, rfl, _, hraw⟩ := ndEdges h0
  obtain ⟨k, rfl, hk⟩ := Sh.nat rfl h1
  obtain ⟨l, rfl, _, hl⟩ := Sh.nums rfl h2
  obtain ⟨near, rfl, hnr⟩ := Sh.nat rfl h3
  obtain ⟨bytes, rfl, _, hby⟩ := Sh.nums rfl h4
  obtain ⟨how, rfl, hh⟩ := Sh.nat rfl h5
  obtain ⟨a, rfl, ha⟩ := Sh.nat rfl h6
  obtain ⟨c, rfl, hc⟩ := Sh.nat rfl h7
  obtain ⟨more, rfl, _, hmo⟩ := Sh.nums rfl h8
  obtain ⟨n, rfl, hn⟩ := Sh.nat rfl h9
  exact adjTells_G hraw (Nat.lt_succ_of_le (Int.ofNat_le.1 hk)) (fun x hx => Nat.lt_succ_of_le (Int.ofNat_le.1 (hl x hx))) (Nat.lt_succ_of_le (Int.ofNat_le.1 hnr)) (fun x hx => Nat.lt_succ_of_le (Int.ofNat_le.1 (hby x hx))) (Nat.lt_succ_of_le (Int.ofNat_le.1 hh)) (Nat.lt_succ_of_le (Int.ofNat_le.1 ha)) (Nat.lt_succ_of_le (Int.ofNat_le.1 hc)) (fun x hx => Nat.lt_succ_of_le (Int.ofNat_le.1 (hmo x hx))) (Nat.lt_succ_of_le (Int.ofNat_le.1 hn))

end Go.Ab
