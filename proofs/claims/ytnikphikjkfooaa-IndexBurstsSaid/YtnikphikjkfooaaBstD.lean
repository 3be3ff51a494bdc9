/- HeadA, RefH. -/
import Derived.Test.YtnikphikjkfooaaBstC
import Derived.Test.YtnikphikjkfooaaBstA
import Derived.Test.YtnikphikjkfooaaValN
namespace Go.Ab
open Go
open Nat renaming reduceEqDiff → zpa, reduceLT → zpb, reduceAdd → zpc, reduceSub → zpd, reduceLeDiff → zpe, reduceMul → zpf
open Int renaming reduceToNat → zpg, reduceLT → zph, reduceLE → zpi, reduceEq → zpj, reduceNe → zpk, reduceBEq → zpl, reduceBNe → zpm, reduceAdd → zpn, reduceSub → zpo, reduceNeg → zpp
open List renaming replicate → zlr
set_option linter.unusedVariables false
set_option linter.unusedSimpArgs false
set_option maxRecDepth 10000
def hd (n k c : Int) : U := .agg [.int .u64 n, .int .i64 k, .int .i64 c]
theorem hmap_inj : ∀ {a b : List Nat}, a.map (fun (n : Nat) => (n : Int)) = b.map (fun (n : Nat) => (n : Int)) → a = b
 | [], [], _ => rfl
 | [], _ :: _, h => by cases h
 | _ :: _, [], h => by cases h
 | x :: a, y :: b, h => by
  simp only [List.map_cons, List.cons.injEq] at h
  rw [hmap_inj h.2, Int.ofNat_inj.1 h.1]
theorem hbeq (a b : List Nat) : ((a.map fun (n : Nat) => (n : Int)) == b.map fun (n : Nat) => (n : Int)) = decide (a = b) := by
 by_cases h : a = b
 ·subst h; simp
 ·rw [decide_eq_false h]
  exact beq_eq_false_iff_ne.2 fun e => h (hmap_inj e)
theorem hright_G (n k c : Int) : GF gtab fid_head_Right [hd n k c] [] 0 = some (.bool (decide (headOk n k c)), []) := by
 by_cases h : headOk n k c
 ·rw [decide_eq_true h]
  obtain ⟨h1, h2, h3, h4, h5⟩ := h
  have e1 := eq_true h1
  have e2 : (k ≥ 1) = True := eq_true h2
  have e3 := eq_true h3
  have e4 : (c ≥ 0) = True := eq_true h4
  have e5 := eq_true h5
  refine fn_head_Right rfl ?_
  simp only [genvOf, hd]
  refine Zr rfl (by simp (maxSteps := 2000000) only [gs,zlr,reduceIte,reduceCtorEq,zpa,zpb,zpc,zpd,zpe,zpf,zpg,zph,zpi,zpj,zpk,zpl,zpm,zpn,zpo,zpp]; rfl) ?_
  exact Zr rfl (by simp (maxSteps := 2000000) only [gs,zlr,reduceIte,reduceCtorEq,zpa,zpb,zpc,zpd,zpe,zpf,zpg,zph,zpi,zpj,zpk,zpl,zpm,zpn,zpo,zpp, e1, e2, e3, e4, e5]; rfl) (Zq rfl ⟨_, rfl, rfl⟩)
 ·rw [decide_eq_false h]
  refine fn_head_Right rfl ?_
  simp only [genvOf, hd]
  refine Zr rfl (by simp (maxSteps := 2000000) only [gs,zlr,reduceIte,reduceCtorEq,zpa,zpb,zpc,zpd,zpe,zpf,zpg,zph,zpi,zpj,zpk,zpl,zpm,zpn,zpo,zpp]; rfl) ?_
  by_cases h1 : n ≤ 4294967296
  case neg =>
   have e1 := eq_false h1
   exact Zr rfl (by simp (maxSteps := 2000000) only [gs,zlr,reduceIte,reduceCtorEq,zpa,zpb,zpc,zpd,zpe,zpf,zpg,zph,zpi,zpj,zpk,zpl,zpm,zpn,zpo,zpp, e1]; rfl) (Zq rfl ⟨_, rfl, rfl⟩)
  have e1 := eq_true h1
  by_cases h2 : k ≥ 1
  case neg =>
   have e2 := eq_false h2
   exact Zr rfl (by simp (maxSteps := 2000000) only [gs,zlr,reduceIte,reduceCtorEq,zpa,zpb,zpc,zpd,zpe,zpf,zpg,zph,zpi,zpj,zpk,zpl,zpm,zpn,zpo,zpp, e1, e2]; rfl) (Zq rfl ⟨_, rfl, rfl⟩)
  have e2 := eq_true h2
  by_cases h3 : k ≤ 1048576
  case neg =>
   have e3 := eq_false h3
   exact Zr rfl (by simp (maxSteps := 2000000) only [gs,zlr,reduceIte,reduceCtorEq,zpa,zpb,zpc,zpd,zpe,zpf,zpg,zph,zpi,zpj,zpk,zpl,zpm,zpn,zpo,zpp, e1, e2, e3]; rfl) (Zq rfl ⟨_, rfl, rfl⟩)
  have e3 := eq_true h3
  by_cases h4 : c ≥ 0
  case neg =>
   have e4 := eq_false h4
   exact Zr rfl (by simp (maxSteps := 2000000) only [gs,zlr,reduceIte,reduceCtorEq,zpa,zpb,zpc,zpd,zpe,zpf,zpg,zph,zpi,zpj,zpk,zpl,zpm,zpn,zpo,zpp, e1, e2, e3, e4]; rfl) (Zq rfl ⟨_, rfl, rfl⟩)
  have e4 := eq_true h4
  have e5 : (c ≤ 2147483648) = False := eq_false (fun h5 => h ⟨h1, h2, h3, h4, h5⟩)
  exact Zr rfl (by simp (maxSteps := 2000000) only [gs,zlr,reduceIte,reduceCtorEq,zpa,zpb,zpc,zpd,zpe,zpf,zpg,zph,zpi,zpj,zpk,zpl,zpm,zpn,zpo,zpp, e1, e2, e3, e4, e5]; rfl) (Zq rfl ⟨_, rfl, rfl⟩)
theorem hblocks_G {N K C : Nat} (h : headOk N K C) : GF gtab fid_head_Blocks [hd N K C] [] 0 = some (.int .i64 (((C + K - 1) / K : Nat) : Int), []) := by
 have RR := hright_G (N : Int) (K : Int) (C : Int)
 rw [decide_eq_true h] at RR
 obtain ⟨h1, h2, h3, h4, h5⟩ := h
 refine fn_head_Blocks rfl ?_
 simp only [genvOf, hd]
 unfold hd at RR
 have w1 : IntKind.i64.wrap ((C : Int) + (K : Int)) = ((C + K : Nat) : Int) := wrap_i64_nat (n := C + K) (by omega)
 have w2 : IntKind.i64.wrap (((C + K : Nat) : Int) - 1) = ((C + K - 1 : Nat) : Int) := by rw [wrap_i64 (by omega) (by omega)]; omega
 have hz : ((K : Int) = 0) = False := eq_false (by omega)
 have dq : ((C + K - 1 : Nat) : Int).tdiv (K : Int) = (((C + K - 1) / K : Nat) : Int) := rfl
 have w3 : IntKind.i64.wrap (((C + K - 1) / K : Nat) : Int) = (((C + K - 1) / K : Nat) : Int) := wrap_i64_nat (Nat.le_trans (Nat.div_le_self _ _) (by omega))
 refine Zr rfl (by simp (maxSteps := 2000000) only [gs,zlr,reduceIte,reduceCtorEq,zpa,zpb,zpc,zpd,zpe,zpf,zpg,zph,zpi,zpj,zpk,zpl,zpm,zpn,zpo,zpp]; rfl) ?_
 refine Zr rfl (by simp (maxSteps := 2000000) only [gs,zlr,reduceIte,reduceCtorEq,zpa,zpb,zpc,zpd,zpe,zpf,zpg,zph,zpi,zpj,zpk,zpl,zpm,zpn,zpo,zpp, gc_head_Right, RR]; rfl) (Zc rfl rfl (fun h => by cases h) (fun _ => ?_))
 exact Zr rfl (by simp (maxSteps := 2000000) only [gs,zlr,reduceIte,reduceCtorEq,zpa,zpb,zpc,zpd,zpe,zpf,zpg,zph,zpi,zpj,zpk,zpl,zpm,zpn,zpo,zpp, w1, w2, hz, dq, w3]; rfl) (Zq rfl ⟨_, rfl, rfl⟩)
def HdR.u : HdR → U
 | .bad e => .tup [hd 0 0 0, .int .i64 e]
 | .ok n k c => .tup [hd n k c, .int .i64 0]
theorem rhright_G (n k c : Int) : GF gtab fid_archipelagoref18_Right [hd n k c] [] 0 = some (.bool (decide (headOk n k c)), []) := by
 by_cases h : headOk n k c
 ·rw [decide_eq_true h]
  obtain ⟨h1, h2, h3, h4, h5⟩ := h
  have e1 := eq_true h1
  have e2 : (k ≥ 1) = True := eq_true h2
  have e3 := eq_true h3
  have e4 : (c ≥ 0) = True := eq_true h4
  have e5 := eq_true h5
  refine fn_archipelagoref18_Right rfl ?_
  simp only [genvOf, hd]
  refine Zr rfl (by simp (maxSteps := 2000000) only [gs,zlr,reduceIte,reduceCtorEq,zpa,zpb,zpc,zpd,zpe,zpf,zpg,zph,zpi,zpj,zpk,zpl,zpm,zpn,zpo,zpp]; rfl) ?_
  exact Zr rfl (by simp (maxSteps := 2000000) only [gs,zlr,reduceIte,reduceCtorEq,zpa,zpb,zpc,zpd,zpe,zpf,zpg,zph,zpi,zpj,zpk,zpl,zpm,zpn,zpo,zpp, e1, e2, e3, e4, e5]; rfl) (Zq rfl ⟨_, rfl, rfl⟩)
 ·rw [decide_eq_false h]
  refine fn_archipelagoref18_Right rfl ?_
  simp only [genvOf, hd]
  refine Zr rfl (by simp (maxSteps := 2000000) only [gs,zlr,reduceIte,reduceCtorEq,zpa,zpb,zpc,zpd,zpe,zpf,zpg,zph,zpi,zpj,zpk,zpl,zpm,zpn,zpo,zpp]; rfl) ?_
  by_cases h1 : n ≤ 4294967296
  case neg =>
   have e1 := eq_false h1
   exact Zr rfl (by simp (maxSteps := 2000000) only [gs,zlr,reduceIte,reduceCtorEq,zpa,zpb,zpc,zpd,zpe,zpf,zpg,zph,zpi,zpj,zpk,zpl,zpm,zpn,zpo,zpp, e1]; rfl) (Zq rfl ⟨_, rfl, rfl⟩)
  have e1 := eq_true h1
  by_cases h2 : k ≥ 1
  case neg =>
   have e2 := eq_false h2
   exact Zr rfl (by simp (maxSteps := 2000000) only [gs,zlr,reduceIte,reduceCtorEq,zpa,zpb,zpc,zpd,zpe,zpf,zpg,zph,zpi,zpj,zpk,zpl,zpm,zpn,zpo,zpp, e1, e2]; rfl) (Zq rfl ⟨_, rfl, rfl⟩)
  have e2 := eq_true h2
  by_cases h3 : k ≤ 1048576
  case neg =>
   have e3 := eq_false h3
   exact Zr rfl (by simp (maxSteps := 2000000) only [gs,zlr,reduceIte,reduceCtorEq,zpa,zpb,zpc,zpd,zpe,zpf,zpg,zph,zpi,zpj,zpk,zpl,zpm,zpn,zpo,zpp, e1, e2, e3]; rfl) (Zq rfl ⟨_, rfl, rfl⟩)
  have e3 := eq_true h3
  by_cases h4 : c ≥ 0
  case neg =>
   have e4 := eq_false h4
   exact Zr rfl (by simp (maxSteps := 2000000) only [gs,zlr,reduceIte,reduceCtorEq,zpa,zpb,zpc,zpd,zpe,zpf,zpg,zph,zpi,zpj,zpk,zpl,zpm,zpn,zpo,zpp, e1, e2, e3, e4]; rfl) (Zq rfl ⟨_, rfl, rfl⟩)
  have e4 := eq_true h4
  have e5 : (c ≤ 2147483648) = False := eq_false (fun h5 => h ⟨h1, h2, h3, h4, h5⟩)
  exact Zr rfl (by simp (maxSteps := 2000000) only [gs,zlr,reduceIte,reduceCtorEq,zpa,zpb,zpc,zpd,zpe,zpf,zpg,zph,zpi,zpj,zpk,zpl,zpm,zpn,zpo,zpp, e1, e2, e3, e4, e5]; rfl) (Zq rfl ⟨_, rfl, rfl⟩)
theorem rhput_G {N K C : Nat} (h : headOk N K C) : GF gtab fid_archipelagoref18_Put [hd N K C] [] 0 = some (.own 1 (un .u8 (headS N K C)), []) := by
 obtain ⟨h1, h2, h3, h4, h5⟩ := h
 have e0 : ([[U.int .u8 84], [.int .u8 71], [.int .u8 88], [.int .u8 49]] : List (List U)) = un .u8 magicB := rfl
 have hie : (un .u8 magicB).isEmpty = false := rfl
 have wk : IntKind.u64.wrap (K : Int) = (K : Int) := by rw [wrap_u64_nat, Nat.mod_eq_of_lt (by omega)]
 have wc : IntKind.u64.wrap (C : Int) = (C : Int) := by rw [wrap_u64_nat, Nat.mod_eq_of_lt (by omega)]
 have P1 : GF gtab fid_archipelagoref1_Fixed [.int .u64 N, .int .i64 8] [] 0 = some (.own 1 (un .u8 (leB 8 N)), []) := fixed_G (n := 8) (by omega) (by omega) (by omega)
 have P2 : GF gtab fid_archipelagoref1_Fixed [.int .u64 K, .int .i64 4] [] 0 = some (.own 1 (un .u8 (leB 4 K)), []) := fixed_G (n := 4) (by omega) (by omega) (by omega)
 have P3 : GF gtab fid_archipelagoref1_Fixed [.int .u64 C, .int .i64 4] [] 0 = some (.own 1 (un .u8 (leB 4 C)), []) := fixed_G (n := 4) (by omega) (by omega) (by omega)
 have r1 : ((magicB.length + 8) * 1 ≤ room) = True := eq_true (by unfold room; decide)
 have r2 : (((magicB ++ leB 8 N).length + 4) * 1 ≤ room) = True := eq_true (by rw [List.length_append, leB_length]; unfold room; decide)
 have r3 : (((magicB ++ leB 8 N ++ leB 4 K).length + 4) * 1 ≤ room) = True := eq_true (by rw [List.length_append, List.length_append, leB_length, leB_length]; unfold room; decide)
 have RR := rhright_G (N : Int) (K : Int) (C : Int)
 rw [decide_eq_true (show headOk N K C from ⟨h1, h2, h3, h4, h5⟩)] at RR
 have SE := rseal_G (bs := headB N K C) (headB_lt N K C) (by rw [headB_length]; omega)
 unfold headB at SE
 refine fn_archipelagoref18_Put rfl ?_
 simp only [genvOf, hd]
 unfold hd at RR
 refine Zr rfl (by simp (maxSteps := 2000000) only [gs,zlr,reduceIte,reduceCtorEq,zpa,zpb,zpc,zpd,zpe,zpf,zpg,zph,zpi,zpj,zpk,zpl,zpm,zpn,zpo,zpp]; rfl) ?_
 refine Zr rfl (by simp (maxSteps := 2000000) only [gs,zlr,reduceIte,reduceCtorEq,zpa,zpb,zpc,zpd,zpe,zpf,zpg,zph,zpi,zpj,zpk,zpl,zpm,zpn,zpo,zpp, gc_archipelagoref18_Right, RR]; rfl) (Zc rfl rfl (fun h => by cases h) (fun _ => ?_))
 refine Zr rfl (by simp (maxSteps := 2000000) only [gs,zlr,reduceIte,reduceCtorEq,zpa,zpb,zpc,zpd,zpe,zpf,zpg,zph,zpi,zpj,zpk,zpl,zpm,zpn,zpo,zpp, e0, hie, gc_archipelagoref1_Fixed, P1, un_length, leB_length, r1, un_append]; rfl) ?_
 refine Zd rfl (by simp (maxSteps := 2000000) only [gs,gd,zlr,id,reduceIte,reduceCtorEq,zpa,zpb,zpc,zpd,zpe,zpf,zpg,zph,zpi,zpj,zpk,zpl,zpm,zpn,zpo,zpp, wk, wc, gc_archipelagoref1_Fixed, iq_archipelagoref1_Fixed, P2, P3, un_length, leB_length, r2, r3, un_append]; rfl) ?_
 refine Zr rfl (by simp (maxSteps := 2000000) only [gs,zlr,reduceIte,reduceCtorEq,zpa,zpb,zpc,zpd,zpe,zpf,zpg,zph,zpi,zpj,zpk,zpl,zpm,zpn,zpo,zpp, gc_archipelagoref1_Seal, snapLL_un, SE]; rfl) (Zq rfl ⟨_, rfl, ?_⟩)
 simp only [gfin, outs, U.out, U.handed, U.share, GEnv.get, if_true, Nat.reduceEqDiff, if_false, rfLL_un, Option.map_some]
 rfl
end Go.Ab
