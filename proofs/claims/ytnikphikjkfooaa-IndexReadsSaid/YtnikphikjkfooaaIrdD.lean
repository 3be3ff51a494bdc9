/- HeadA, RefH, RefC. -/
import Derived.Test.YtnikphikjkfooaaIrdC
import Derived.Test.YtnikphikjkfooaaIrdA
import Derived.Test.YtnikphikjkfooaaValN
import Derived.Test.YtnikphikjkfooaaGt
namespace Go.Ab
open Go
open Nat renaming reduceEqDiff → zpa, reduceLT → zpb, reduceAdd → zpc, reduceSub → zpd, reduceLeDiff → zpe, reduceMul → zpf
open Int renaming reduceToNat → zpg, reduceLT → zph, reduceLE → zpi, reduceEq → zpj, reduceNe → zpk, reduceBEq → zpl, reduceBNe → zpm, reduceAdd → zpn, reduceSub → zpo, reduceNeg → zpp
open List renaming replicate → zlr
set_option linter.unusedVariables false
set_option linter.unusedSimpArgs false
set_option maxRecDepth 10000
def hd (n k c : Int) : U := .agg [.int .u64 n, .int .i64 k, .int .i64 c]
theorem hmap_inj : ∀ {a b : List Nat}, a.map (fun (n : Nat) => (n : Int)) = b.map (fun (n : Nat) => (n : Int)) → a = b
 | [], [], _ => rfl
 | [], _ :: _, h => by cases h
 | _ :: _, [], h => by cases h
 | x :: a, y :: b, h => by
  simp only [List.map_cons, List.cons.injEq] at h
  rw [hmap_inj h.2, Int.ofNat_inj.1 h.1]
theorem hbeq (a b : List Nat) : ((a.map fun (n : Nat) => (n : Int)) == b.map fun (n : Nat) => (n : Int)) = decide (a = b) := by
 by_cases h : a = b
 ·subst h; simp
 ·rw [decide_eq_false h]
  exact beq_eq_false_iff_ne.2 fun e => h (hmap_inj e)
theorem hright_G (n k c : Int) : GF gtab fid_head_Right [hd n k c] [] 0 = some (.bool (decide (headOk n k c)), []) := by
 by_cases h : headOk n k c
 ·rw [decide_eq_true h]
  obtain ⟨h1, h2, h3, h4, h5⟩ := h
  have e1 := eq_true h1
  have e2 : (k ≥ 1) = True := eq_true h2
  have e3 := eq_true h3
  have e4 : (c ≥ 0) = True := eq_true h4
  have e5 := eq_true h5
  refine fn_head_Right rfl ?_
  simp only [genvOf, hd]
  refine Zr rfl (by simp (maxSteps := 2000000) only [gs,zlr,reduceIte,reduceCtorEq,zpa,zpb,zpc,zpd,zpe,zpf,zpg,zph,zpi,zpj,zpk,zpl,zpm,zpn,zpo,zpp]; rfl) ?_
  exact Zr rfl (by simp (maxSteps := 2000000) only [gs,zlr,reduceIte,reduceCtorEq,zpa,zpb,zpc,zpd,zpe,zpf,zpg,zph,zpi,zpj,zpk,zpl,zpm,zpn,zpo,zpp, e1, e2, e3, e4, e5]; rfl) (Zq rfl ⟨_, rfl, rfl⟩)
 ·rw [decide_eq_false h]
  refine fn_head_Right rfl ?_
  simp only [genvOf, hd]
  refine Zr rfl (by simp (maxSteps := 2000000) only [gs,zlr,reduceIte,reduceCtorEq,zpa,zpb,zpc,zpd,zpe,zpf,zpg,zph,zpi,zpj,zpk,zpl,zpm,zpn,zpo,zpp]; rfl) ?_
  by_cases h1 : n ≤ 4294967296
  case neg =>
   have e1 := eq_false h1
   exact Zr rfl (by simp (maxSteps := 2000000) only [gs,zlr,reduceIte,reduceCtorEq,zpa,zpb,zpc,zpd,zpe,zpf,zpg,zph,zpi,zpj,zpk,zpl,zpm,zpn,zpo,zpp, e1]; rfl) (Zq rfl ⟨_, rfl, rfl⟩)
  have e1 := eq_true h1
  by_cases h2 : k ≥ 1
  case neg =>
   have e2 := eq_false h2
   exact Zr rfl (by simp (maxSteps := 2000000) only [gs,zlr,reduceIte,reduceCtorEq,zpa,zpb,zpc,zpd,zpe,zpf,zpg,zph,zpi,zpj,zpk,zpl,zpm,zpn,zpo,zpp, e1, e2]; rfl) (Zq rfl ⟨_, rfl, rfl⟩)
  have e2 := eq_true h2
  by_cases h3 : k ≤ 1048576
  case neg =>
   have e3 := eq_false h3
   exact Zr rfl (by simp (maxSteps := 2000000) only [gs,zlr,reduceIte,reduceCtorEq,zpa,zpb,zpc,zpd,zpe,zpf,zpg,zph,zpi,zpj,zpk,zpl,zpm,zpn,zpo,zpp, e1, e2, e3]; rfl) (Zq rfl ⟨_, rfl, rfl⟩)
  have e3 := eq_true h3
  by_cases h4 : c ≥ 0
  case neg =>
   have e4 := eq_false h4
   exact Zr rfl (by simp (maxSteps := 2000000) only [gs,zlr,reduceIte,reduceCtorEq,zpa,zpb,zpc,zpd,zpe,zpf,zpg,zph,zpi,zpj,zpk,zpl,zpm,zpn,zpo,zpp, e1, e2, e3, e4]; rfl) (Zq rfl ⟨_, rfl, rfl⟩)
  have e4 := eq_true h4
  have e5 : (c ≤ 2147483648) = False := eq_false (fun h5 => h ⟨h1, h2, h3, h4, h5⟩)
  exact Zr rfl (by simp (maxSteps := 2000000) only [gs,zlr,reduceIte,reduceCtorEq,zpa,zpb,zpc,zpd,zpe,zpf,zpg,zph,zpi,zpj,zpk,zpl,zpm,zpn,zpo,zpp, e1, e2, e3, e4, e5]; rfl) (Zq rfl ⟨_, rfl, rfl⟩)
theorem hblocks_G {N K C : Nat} (h : headOk N K C) : GF gtab fid_head_Blocks [hd N K C] [] 0 = some (.int .i64 (((C + K - 1) / K : Nat) : Int), []) := by
 have RR := hright_G (N : Int) (K : Int) (C : Int)
 rw [decide_eq_true h] at RR
 obtain ⟨h1, h2, h3, h4, h5⟩ := h
 refine fn_head_Blocks rfl ?_
 simp only [genvOf, hd]
 unfold hd at RR
 have w1 : IntKind.i64.wrap ((C : Int) + (K : Int)) = ((C + K : Nat) : Int) := wrap_i64_nat (n := C + K) (by omega)
 have w2 : IntKind.i64.wrap (((C + K : Nat) : Int) - 1) = ((C + K - 1 : Nat) : Int) := by rw [wrap_i64 (by omega) (by omega)]; omega
 have hz : ((K : Int) = 0) = False := eq_false (by omega)
 have dq : ((C + K - 1 : Nat) : Int).tdiv (K : Int) = (((C + K - 1) / K : Nat) : Int) := rfl
 have w3 : IntKind.i64.wrap (((C + K - 1) / K : Nat) : Int) = (((C + K - 1) / K : Nat) : Int) := wrap_i64_nat (Nat.le_trans (Nat.div_le_self _ _) (by omega))
 refine Zr rfl (by simp (maxSteps := 2000000) only [gs,zlr,reduceIte,reduceCtorEq,zpa,zpb,zpc,zpd,zpe,zpf,zpg,zph,zpi,zpj,zpk,zpl,zpm,zpn,zpo,zpp]; rfl) ?_
 refine Zr rfl (by simp (maxSteps := 2000000) only [gs,zlr,reduceIte,reduceCtorEq,zpa,zpb,zpc,zpd,zpe,zpf,zpg,zph,zpi,zpj,zpk,zpl,zpm,zpn,zpo,zpp, gc_head_Right, RR]; rfl) (Zc rfl rfl (fun h => by cases h) (fun _ => ?_))
 exact Zr rfl (by simp (maxSteps := 2000000) only [gs,zlr,reduceIte,reduceCtorEq,zpa,zpb,zpc,zpd,zpe,zpf,zpg,zph,zpi,zpj,zpk,zpl,zpm,zpn,zpo,zpp, w1, w2, hz, dq, w3]; rfl) (Zq rfl ⟨_, rfl, rfl⟩)
theorem hblocksNo_G {n k c : Int} (h : ¬ headOk n k c) : GF gtab fid_head_Blocks [hd n k c] [] 0 = some (.int .i64 0, []) := by
 have RR := hright_G n k c
 rw [decide_eq_false h] at RR
 refine fn_head_Blocks rfl ?_
 simp only [genvOf, hd]
 unfold hd at RR
 refine Zr rfl (by simp (maxSteps := 2000000) only [gs,zlr,reduceIte,reduceCtorEq,zpa,zpb,zpc,zpd,zpe,zpf,zpg,zph,zpi,zpj,zpk,zpl,zpm,zpn,zpo,zpp]; rfl) ?_
 refine Zr rfl (by simp (maxSteps := 2000000) only [gs,zlr,reduceIte,reduceCtorEq,zpa,zpb,zpc,zpd,zpe,zpf,zpg,zph,zpi,zpj,zpk,zpl,zpm,zpn,zpo,zpp, gc_head_Right, RR]; rfl) (Zc rfl rfl (fun _ => ?_) (fun h => by cases h))
 exact Zr rfl (by simp (maxSteps := 2000000) only [gs,zlr,reduceIte,reduceCtorEq,zpa,zpb,zpc,zpd,zpe,zpf,zpg,zph,zpi,zpj,zpk,zpl,zpm,zpn,zpo,zpp]; rfl) (Zq rfl ⟨_, rfl, rfl⟩)
def HdR.u : HdR → U
 | .bad e => .tup [hd 0 0 0, .int .i64 e]
 | .ok n k c => .tup [hd n k c, .int .i64 0]
theorem rhright_G (n k c : Int) : GF gtab fid_archipelagoref18_Right [hd n k c] [] 0 = some (.bool (decide (headOk n k c)), []) := by
 by_cases h : headOk n k c
 ·rw [decide_eq_true h]
  obtain ⟨h1, h2, h3, h4, h5⟩ := h
  have e1 := eq_true h1
  have e2 : (k ≥ 1) = True := eq_true h2
  have e3 := eq_true h3
  have e4 : (c ≥ 0) = True := eq_true h4
  have e5 := eq_true h5
  refine fn_archipelagoref18_Right rfl ?_
  simp only [genvOf, hd]
  refine Zr rfl (by simp (maxSteps := 2000000) only [gs,zlr,reduceIte,reduceCtorEq,zpa,zpb,zpc,zpd,zpe,zpf,zpg,zph,zpi,zpj,zpk,zpl,zpm,zpn,zpo,zpp]; rfl) ?_
  exact Zr rfl (by simp (maxSteps := 2000000) only [gs,zlr,reduceIte,reduceCtorEq,zpa,zpb,zpc,zpd,zpe,zpf,zpg,zph,zpi,zpj,zpk,zpl,zpm,zpn,zpo,zpp, e1, e2, e3, e4, e5]; rfl) (Zq rfl ⟨_, rfl, rfl⟩)
 ·rw [decide_eq_false h]
  refine fn_archipelagoref18_Right rfl ?_
  simp only [genvOf, hd]
  refine Zr rfl (by simp (maxSteps := 2000000) only [gs,zlr,reduceIte,reduceCtorEq,zpa,zpb,zpc,zpd,zpe,zpf,zpg,zph,zpi,zpj,zpk,zpl,zpm,zpn,zpo,zpp]; rfl) ?_
  by_cases h1 : n ≤ 4294967296
  case neg =>
   have e1 := eq_false h1
   exact Zr rfl (by simp (maxSteps := 2000000) only [gs,zlr,reduceIte,reduceCtorEq,zpa,zpb,zpc,zpd,zpe,zpf,zpg,zph,zpi,zpj,zpk,zpl,zpm,zpn,zpo,zpp, e1]; rfl) (Zq rfl ⟨_, rfl, rfl⟩)
  have e1 := eq_true h1
  by_cases h2 : k ≥ 1
  case neg =>
   have e2 := eq_false h2
   exact Zr rfl (by simp (maxSteps := 2000000) only [gs,zlr,reduceIte,reduceCtorEq,zpa,zpb,zpc,zpd,zpe,zpf,zpg,zph,zpi,zpj,zpk,zpl,zpm,zpn,zpo,zpp, e1, e2]; rfl) (Zq rfl ⟨_, rfl, rfl⟩)
  have e2 := eq_true h2
  by_cases h3 : k ≤ 1048576
  case neg =>
   have e3 := eq_false h3
   exact Zr rfl (by simp (maxSteps := 2000000) only [gs,zlr,reduceIte,reduceCtorEq,zpa,zpb,zpc,zpd,zpe,zpf,zpg,zph,zpi,zpj,zpk,zpl,zpm,zpn,zpo,zpp, e1, e2, e3]; rfl) (Zq rfl ⟨_, rfl, rfl⟩)
  have e3 := eq_true h3
  by_cases h4 : c ≥ 0
  case neg =>
   have e4 := eq_false h4
   exact Zr rfl (by simp (maxSteps := 2000000) only [gs,zlr,reduceIte,reduceCtorEq,zpa,zpb,zpc,zpd,zpe,zpf,zpg,zph,zpi,zpj,zpk,zpl,zpm,zpn,zpo,zpp, e1, e2, e3, e4]; rfl) (Zq rfl ⟨_, rfl, rfl⟩)
  have e4 := eq_true h4
  have e5 : (c ≤ 2147483648) = False := eq_false (fun h5 => h ⟨h1, h2, h3, h4, h5⟩)
  exact Zr rfl (by simp (maxSteps := 2000000) only [gs,zlr,reduceIte,reduceCtorEq,zpa,zpb,zpc,zpd,zpe,zpf,zpg,zph,zpi,zpj,zpk,zpl,zpm,zpn,zpo,zpp, e1, e2, e3, e4, e5]; rfl) (Zq rfl ⟨_, rfl, rfl⟩)
theorem rhblocks_G {N K C : Nat} (h : headOk N K C) : GF gtab fid_archipelagoref18_Blocks [hd N K C] [] 0 = some (.int .i64 (((C + K - 1) / K : Nat) : Int), []) := by
 have RR := rhright_G (N : Int) (K : Int) (C : Int)
 rw [decide_eq_true h] at RR
 obtain ⟨h1, h2, h3, h4, h5⟩ := h
 refine fn_archipelagoref18_Blocks rfl ?_
 simp only [genvOf, hd]
 unfold hd at RR
 have w1 : IntKind.i64.wrap ((C : Int) + (K : Int)) = ((C + K : Nat) : Int) := wrap_i64_nat (n := C + K) (by omega)
 have w2 : IntKind.i64.wrap (((C + K : Nat) : Int) - 1) = ((C + K - 1 : Nat) : Int) := by rw [wrap_i64 (by omega) (by omega)]; omega
 have hz : ((K : Int) = 0) = False := eq_false (by omega)
 have dq : ((C + K - 1 : Nat) : Int).tdiv (K : Int) = (((C + K - 1) / K : Nat) : Int) := rfl
 have w3 : IntKind.i64.wrap (((C + K - 1) / K : Nat) : Int) = (((C + K - 1) / K : Nat) : Int) := wrap_i64_nat (Nat.le_trans (Nat.div_le_self _ _) (by omega))
 refine Zr rfl (by simp (maxSteps := 2000000) only [gs,zlr,reduceIte,reduceCtorEq,zpa,zpb,zpc,zpd,zpe,zpf,zpg,zph,zpi,zpj,zpk,zpl,zpm,zpn,zpo,zpp]; rfl) ?_
 refine Zr rfl (by simp (maxSteps := 2000000) only [gs,zlr,reduceIte,reduceCtorEq,zpa,zpb,zpc,zpd,zpe,zpf,zpg,zph,zpi,zpj,zpk,zpl,zpm,zpn,zpo,zpp, gc_archipelagoref18_Right, RR]; rfl) (Zc rfl rfl (fun h => by cases h) (fun _ => ?_))
 exact Zr rfl (by simp (maxSteps := 2000000) only [gs,zlr,reduceIte,reduceCtorEq,zpa,zpb,zpc,zpd,zpe,zpf,zpg,zph,zpi,zpj,zpk,zpl,zpm,zpn,zpo,zpp, w1, w2, hz, dq, w3]; rfl) (Zq rfl ⟨_, rfl, rfl⟩)
theorem rhblocksNo_G {n k c : Int} (h : ¬ headOk n k c) : GF gtab fid_archipelagoref18_Blocks [hd n k c] [] 0 = some (.int .i64 0, []) := by
 have RR := rhright_G n k c
 rw [decide_eq_false h] at RR
 refine fn_archipelagoref18_Blocks rfl ?_
 simp only [genvOf, hd]
 unfold hd at RR
 refine Zr rfl (by simp (maxSteps := 2000000) only [gs,zlr,reduceIte,reduceCtorEq,zpa,zpb,zpc,zpd,zpe,zpf,zpg,zph,zpi,zpj,zpk,zpl,zpm,zpn,zpo,zpp]; rfl) ?_
 refine Zr rfl (by simp (maxSteps := 2000000) only [gs,zlr,reduceIte,reduceCtorEq,zpa,zpb,zpc,zpd,zpe,zpf,zpg,zph,zpi,zpj,zpk,zpl,zpm,zpn,zpo,zpp, gc_archipelagoref18_Right, RR]; rfl) (Zc rfl rfl (fun _ => ?_) (fun h => by cases h))
 exact Zr rfl (by simp (maxSteps := 2000000) only [gs,zlr,reduceIte,reduceCtorEq,zpa,zpb,zpc,zpd,zpe,zpf,zpg,zph,zpi,zpj,zpk,zpl,zpm,zpn,zpo,zpp]; rfl) (Zq rfl ⟨_, rfl, rfl⟩)
theorem rhput_G {N K C : Nat} (h : headOk N K C) : GF gtab fid_archipelagoref18_Put [hd N K C] [] 0 = some (.own 1 (un .u8 (headS N K C)), []) := by
 obtain ⟨h1, h2, h3, h4, h5⟩ := h
 have e0 : ([[U.int .u8 84], [.int .u8 71], [.int .u8 88], [.int .u8 49]] : List (List U)) = un .u8 magicB := rfl
 have hie : (un .u8 magicB).isEmpty = false := rfl
 have wk : IntKind.u64.wrap (K : Int) = (K : Int) := by rw [wrap_u64_nat, Nat.mod_eq_of_lt (by omega)]
 have wc : IntKind.u64.wrap (C : Int) = (C : Int) := by rw [wrap_u64_nat, Nat.mod_eq_of_lt (by omega)]
 have P1 : GF gtab fid_archipelagoref1_Fixed [.int .u64 N, .int .i64 8] [] 0 = some (.own 1 (un .u8 (leB 8 N)), []) := fixed_G (n := 8) (by omega) (by omega) (by omega)
 have P2 : GF gtab fid_archipelagoref1_Fixed [.int .u64 K, .int .i64 4] [] 0 = some (.own 1 (un .u8 (leB 4 K)), []) := fixed_G (n := 4) (by omega) (by omega) (by omega)
 have P3 : GF gtab fid_archipelagoref1_Fixed [.int .u64 C, .int .i64 4] [] 0 = some (.own 1 (un .u8 (leB 4 C)), []) := fixed_G (n := 4) (by omega) (by omega) (by omega)
 have r1 : ((magicB.length + 8) * 1 ≤ room) = True := eq_true (by unfold room; decide)
 have r2 : (((magicB ++ leB 8 N).length + 4) * 1 ≤ room) = True := eq_true (by rw [List.length_append, leB_length]; unfold room; decide)
 have r3 : (((magicB ++ leB 8 N ++ leB 4 K).length + 4) * 1 ≤ room) = True := eq_true (by rw [List.length_append, List.length_append, leB_length, leB_length]; unfold room; decide)
 have RR := rhright_G (N : Int) (K : Int) (C : Int)
 rw [decide_eq_true (show headOk N K C from ⟨h1, h2, h3, h4, h5⟩)] at RR
 have SE := rseal_G (bs := headB N K C) (headB_lt N K C) (by rw [headB_length]; omega)
 unfold headB at SE
 refine fn_archipelagoref18_Put rfl ?_
 simp only [genvOf, hd]
 unfold hd at RR
 refine Zr rfl (by simp (maxSteps := 2000000) only [gs,zlr,reduceIte,reduceCtorEq,zpa,zpb,zpc,zpd,zpe,zpf,zpg,zph,zpi,zpj,zpk,zpl,zpm,zpn,zpo,zpp]; rfl) ?_
 refine Zr rfl (by simp (maxSteps := 2000000) only [gs,zlr,reduceIte,reduceCtorEq,zpa,zpb,zpc,zpd,zpe,zpf,zpg,zph,zpi,zpj,zpk,zpl,zpm,zpn,zpo,zpp, gc_archipelagoref18_Right, RR]; rfl) (Zc rfl rfl (fun h => by cases h) (fun _ => ?_))
 refine Zr rfl (by simp (maxSteps := 2000000) only [gs,zlr,reduceIte,reduceCtorEq,zpa,zpb,zpc,zpd,zpe,zpf,zpg,zph,zpi,zpj,zpk,zpl,zpm,zpn,zpo,zpp, e0, hie, gc_archipelagoref1_Fixed, P1, un_length, leB_length, r1, un_append]; rfl) ?_
 refine Zd rfl (by simp (maxSteps := 2000000) only [gs,gd,zlr,id,reduceIte,reduceCtorEq,zpa,zpb,zpc,zpd,zpe,zpf,zpg,zph,zpi,zpj,zpk,zpl,zpm,zpn,zpo,zpp, wk, wc, gc_archipelagoref1_Fixed, iq_archipelagoref1_Fixed, P2, P3, un_length, leB_length, r2, r3, un_append]; rfl) ?_
 refine Zr rfl (by simp (maxSteps := 2000000) only [gs,zlr,reduceIte,reduceCtorEq,zpa,zpb,zpc,zpd,zpe,zpf,zpg,zph,zpi,zpj,zpk,zpl,zpm,zpn,zpo,zpp, gc_archipelagoref1_Seal, snapLL_un, SE]; rfl) (Zq rfl ⟨_, rfl, ?_⟩)
 simp only [gfin, outs, U.out, U.handed, U.share, GEnv.get, if_true, Nat.reduceEqDiff, if_false, rfLL_un, Option.map_some]
 rfl
set_option maxHeartbeats 1000000 in
theorem rhread_G {bs : List Nat} (hb : ∀ b ∈ bs, b < 256) (hl : bs.length ≤ 1099511627776) : GF gtab fid_archipelagoref18_Read [.list false 1 (un .u8 bs)] [] 0 = some ((rdHead bs).u, []) := by
 refine fn_archipelagoref18_Read rfl ?_
 simp only [genvOf]
 unfold rdHead
 refine Zr rfl (by simp (maxSteps := 2000000) only [gs,zlr,reduceIte,reduceCtorEq,zpa,zpb,zpc,zpd,zpe,zpf,zpg,zph,zpi,zpj,zpk,zpl,zpm,zpn,zpo,zpp]; rfl) ?_
 by_cases h24 : bs.length < 24
 ·rw [if_pos h24]
  have c1 : ((bs.length : Int) < 24) = True := eq_true (by omega)
  refine Zr rfl (by simp (maxSteps := 2000000) only [gs,zlr,reduceIte,reduceCtorEq,zpa,zpb,zpc,zpd,zpe,zpf,zpg,zph,zpi,zpj,zpk,zpl,zpm,zpn,zpo,zpp, un_length, c1]; rfl) (Zc rfl rfl (fun _ => ?_) (fun h => by cases h))
  exact Zr rfl (by simp (maxSteps := 2000000) only [gs,zlr,reduceIte,reduceCtorEq,zpa,zpb,zpc,zpd,zpe,zpf,zpg,zph,zpi,zpj,zpk,zpl,zpm,zpn,zpo,zpp]; rfl) (Zq rfl ⟨_, rfl, rfl⟩)
 rw [if_neg h24]
 have c1 : ((bs.length : Int) < 24) = False := eq_false (by omega)
 refine Zr rfl (by simp (maxSteps := 2000000) only [gs,zlr,reduceIte,reduceCtorEq,zpa,zpb,zpc,zpd,zpe,zpf,zpg,zph,zpi,zpj,zpk,zpl,zpm,zpn,zpo,zpp, un_length, c1]; rfl) (Zc rfl rfl (fun h => by cases h) (fun _ => ?_))
 have l4 : ((4 : Int) ≤ (bs.length : Int)) = True := eq_true (by omega)
 have l24 : ((24 : Int) ≤ (bs.length : Int)) = True := eq_true (by omega)
 have l12 : ((12 : Int) ≤ (bs.length : Int)) = True := eq_true (by omega)
 have l16 : ((16 : Int) ≤ (bs.length : Int)) = True := eq_true (by omega)
 have l20 : ((20 : Int) ≤ (bs.length : Int)) = True := eq_true (by omega)
 have hm : (((bs.take 4).map fun (n : Nat) => (n : Int)) == [84, 71, 88, 49]) = decide (bs.take 4 = magicB) := by
  have := hbeq (bs.take 4) magicB
  rw [← this]; rfl
 by_cases hmg : bs.take 4 = magicB
 case neg =>
  rw [if_pos hmg]
  rw [decide_eq_false hmg] at hm
  refine Zr rfl (by simp (maxSteps := 2000000) only [gs,zlr,reduceIte,reduceCtorEq,zpa,zpb,zpc,zpd,zpe,zpf,zpg,zph,zpi,zpj,zpk,zpl,zpm,zpn,zpo,zpp, un_length, l4, un_take, gbytesOf_un, hm]; rfl) (Zc rfl rfl (fun _ => ?_) (fun h => by cases h))
  exact Zr rfl (by simp (maxSteps := 2000000) only [gs,zlr,reduceIte,reduceCtorEq,zpa,zpb,zpc,zpd,zpe,zpf,zpg,zph,zpi,zpj,zpk,zpl,zpm,zpn,zpo,zpp]; rfl) (Zq rfl ⟨_, rfl, rfl⟩)
 rw [if_neg (fun h => h hmg)]
 rw [decide_eq_true hmg] at hm
 refine Zr rfl (by simp (maxSteps := 2000000) only [gs,zlr,reduceIte,reduceCtorEq,zpa,zpb,zpc,zpd,zpe,zpf,zpg,zph,zpi,zpj,zpk,zpl,zpm,zpn,zpo,zpp, un_length, l4, un_take, gbytesOf_un, hm]; rfl) (Zc rfl rfl (fun h => by cases h) (fun _ => ?_))
 have htb : ∀ b ∈ bs.take 24, b < 256 := fun b h => hb b (List.mem_of_mem_take h)
 have O := ropen_G htb (by rw [List.length_take]; omega)
 cases hok : crcOk (bs.take 24) with
 | false =>
  rw [if_pos rfl]
  rw [hok, if_neg (by simp)] at O
  refine Zr rfl (by simp (maxSteps := 2000000) only [gs,zlr,reduceIte,reduceCtorEq,zpa,zpb,zpc,zpd,zpe,zpf,zpg,zph,zpi,zpj,zpk,zpl,zpm,zpn,zpo,zpp, un_length, l24, un_take, gc_archipelagoref1_Open, snapLL_un, O]; rfl) ?_
  refine Zr rfl (by simp (maxSteps := 2000000) only [gs,zlr,reduceIte,reduceCtorEq,zpa,zpb,zpc,zpd,zpe,zpf,zpg,zph,zpi,zpj,zpk,zpl,zpm,zpn,zpo,zpp]; rfl) (Zc rfl rfl (fun _ => ?_) (fun h => by cases h))
  exact Zr rfl (by simp (maxSteps := 2000000) only [gs,zlr,reduceIte,reduceCtorEq,zpa,zpb,zpc,zpd,zpe,zpf,zpg,zph,zpi,zpj,zpk,zpl,zpm,zpn,zpo,zpp]; rfl) (Zq rfl ⟨_, rfl, rfl⟩)
 | true =>
  rw [if_neg (by simp)]
  rw [hok, if_pos rfl] at O
  refine Zr rfl (by simp (maxSteps := 2000000) only [gs,zlr,reduceIte,reduceCtorEq,zpa,zpb,zpc,zpd,zpe,zpf,zpg,zph,zpi,zpj,zpk,zpl,zpm,zpn,zpo,zpp, un_length, l24, un_take, gc_archipelagoref1_Open, snapLL_un, O]; rfl) ?_
  refine Zr rfl (by simp (maxSteps := 2000000) only [gs,zlr,reduceIte,reduceCtorEq,zpa,zpb,zpc,zpd,zpe,zpf,zpg,zph,zpi,zpj,zpk,zpl,zpm,zpn,zpo,zpp]; rfl) (Zc rfl rfl (fun h => by cases h) (fun _ => ?_))
  have db : ∀ a m, ∀ b ∈ (bs.drop a).take m, b < 256 := fun a m b h => hb b (List.mem_of_mem_drop (List.mem_of_mem_take h))
  have T1 := number_G (bs := (bs.drop 4).take 8) (db 4 8) (by rw [List.length_take]; omega)
  have T2 := number_G (bs := (bs.drop 12).take 4) (db 12 4) (by rw [List.length_take]; omega)
  have T3 := number_G (bs := (bs.drop 16).take 4) (db 16 4) (by rw [List.length_take]; omega)
  have len4 : ∀ a, ((bs.drop a).take 4).length ≤ 4 := fun a => by rw [List.length_take]; omega
  have b2 : leN ((bs.drop 12).take 4) < 4294967296 := Nat.lt_of_lt_of_le (leN_lt _ (db 12 4)) (Nat.le_trans (Nat.pow_le_pow_right (by omega) (len4 12)) (by decide))
  have b3 : leN ((bs.drop 16).take 4) < 4294967296 := Nat.lt_of_lt_of_le (leN_lt _ (db 16 4)) (Nat.le_trans (Nat.pow_le_pow_right (by omega) (len4 16)) (by decide))
  have w2 : IntKind.i64.wrap ((leN ((bs.drop 12).take 4) : Nat) : Int) = ((leN ((bs.drop 12).take 4) : Nat) : Int) := wrap_i64_nat (by omega)
  have w3 : IntKind.i64.wrap ((leN ((bs.drop 16).take 4) : Nat) : Int) = ((leN ((bs.drop 16).take 4) : Nat) : Int) := wrap_i64_nat (by omega)
  have RR := rhright_G ((hN bs : Nat) : Int) ((hK bs : Nat) : Int) ((hC bs : Nat) : Int)
  have l412 : ((4 : Int) ≤ 12) = True := eq_true (by omega)
  refine Zd rfl (by simp (maxSteps := 2000000) only [gs,gd,zlr,id,reduceIte,reduceCtorEq,zpa,zpb,zpc,zpd,zpe,zpf,zpg,zph,zpi,zpj,zpk,zpl,zpm,zpn,zpo,zpp, un_length, l12, l16, l20, un_drop, un_take, gc_archipelagoref1_Number, iq_archipelagoref1_Number, snapLL_un, T1, T2, T3, w2, w3]; rfl) ?_
  by_cases ho : headOk (hN bs) (hK bs) (hC bs)
  ·rw [if_pos ho]
   rw [decide_eq_true ho] at RR
   unfold hd hN hK hC at RR
   refine Zr rfl (by simp (maxSteps := 2000000) only [gs,zlr,reduceIte,reduceCtorEq,zpa,zpb,zpc,zpd,zpe,zpf,zpg,zph,zpi,zpj,zpk,zpl,zpm,zpn,zpo,zpp, gc_archipelagoref18_Right, RR]; rfl) (Zc rfl rfl (fun h => by cases h) (fun _ => ?_))
   exact Zr rfl (by simp (maxSteps := 2000000) only [gs,zlr,reduceIte,reduceCtorEq,zpa,zpb,zpc,zpd,zpe,zpf,zpg,zph,zpi,zpj,zpk,zpl,zpm,zpn,zpo,zpp]; rfl) (Zq rfl ⟨_, rfl, rfl⟩)
  ·rw [if_neg ho]
   rw [decide_eq_false ho] at RR
   unfold hd hN hK hC at RR
   refine Zr rfl (by simp (maxSteps := 2000000) only [gs,zlr,reduceIte,reduceCtorEq,zpa,zpb,zpc,zpd,zpe,zpf,zpg,zph,zpi,zpj,zpk,zpl,zpm,zpn,zpo,zpp, gc_archipelagoref18_Right, RR]; rfl) (Zc rfl rfl (fun _ => ?_) (fun h => by cases h))
   exact Zr rfl (by simp (maxSteps := 2000000) only [gs,zlr,reduceIte,reduceCtorEq,zpa,zpb,zpc,zpd,zpe,zpf,zpg,zph,zpi,zpj,zpk,zpl,zpm,zpn,zpo,zpp]; rfl) (Zq rfl ⟨_, rfl, rfl⟩)
def isBr (u : U) (bs : List Nat) : Prop := (u = .nils ∧ bs = []) ∨ u = .own 1 (un .u8 bs) ∨ u = .list false 1 (un .u8 bs)
set_option maxHeartbeats 4000000 in
theorem change_R {bs more : List Nat} {how at' x : Nat} (hne : bs ≠ []) (hb : ∀ c ∈ bs, c < 256) (hm : ∀ c ∈ more, c < 256) (hx : x < 256) (hh : how < 256) (ha : at' < 65536) (hl : bs.length ≤ 9000) (hml : more.length ≤ 100) :
  ∃ w l, GF gtab fid_archipelagoseat_Change [.list false 1 (un .u8 bs), .int .u8 how, .int .u16 at', .int .u8 x, .list false 1 (un .u8 more)] [] 0 = some (w, []) ∧ isBr w l ∧ (∀ c ∈ l, c < 256) ∧ l.length ≤ bs.length + more.length := by
 have key : ∃ u h', GF gtab fid_archipelagoseat_Change [.list false 1 (un .u8 bs), .int .u8 how, .int .u16 at', .int .u8 x, .list false 1 (un .u8 more)] [] 0 = some (u, h') ∧ h' = [] ∧ ∃ l, isBr u l ∧ (∀ c ∈ l, c < 256) ∧ l.length ≤ bs.length + more.length := by
  refine fnR_archipelagoseat_Change rfl ?_
  simp only [genvOf]
  have hpos := List.length_pos_iff.2 hne
  have hun : (un .u8 bs = []) = False := eq_false (by cases bs with
   | nil => exact absurd rfl hne
   | cons y ys => simp [un])
  have hr : (bs.length * 1 ≤ room) = True := eq_true (by unfold room; omega)
  have z1 : (((bs.length : Nat) : Int) == 0) = false := beq_eq_false_iff_ne.2 (by omega)
  have z2 : (((bs.length : Nat) : Int) = 0) = False := eq_false (by omega)
  have wa : IntKind.i64.wrap ((at' : Nat) : Int) = ((at' : Nat) : Int) := wrap_i64_nat (by omega)
  have ma : ((at' : Nat) : Int).tmod ((bs.length : Nat) : Int) = ((at' % bs.length : Nat) : Int) := rfl
  have hk := Nat.mod_lt at' hpos
  refine Zr rfl (by simp (maxSteps := 2000000) only [gs,zlr,reduceIte,reduceCtorEq,zpa,zpb,zpc,zpd,zpe,zpf,zpg,zph,zpi,zpj,zpk,zpl,zpm,zpn,zpo,zpp]; rfl) ?_
  refine Zr rfl (by simp (maxSteps := 2000000) only [gs,zlr,reduceIte,reduceCtorEq,zpa,zpb,zpc,zpd,zpe,zpf,zpg,zph,zpi,zpj,zpk,zpl,zpm,zpn,zpo,zpp, un_length, hun, hr]; rfl) ?_
  refine Zr rfl (by simp (maxSteps := 2000000) only [gs,zlr,reduceIte,reduceCtorEq,zpa,zpb,zpc,zpd,zpe,zpf,zpg,zph,zpi,zpj,zpk,zpl,zpm,zpn,zpo,zpp, z1]; rfl) (Zc rfl rfl (fun h => by cases h) (fun _ => ?_))
  refine Zr rfl (by simp (maxSteps := 2000000) only [gs,zlr,reduceIte,reduceCtorEq,zpa,zpb,zpc,zpd,zpe,zpf,zpg,zph,zpi,zpj,zpk,zpl,zpm,zpn,zpo,zpp, wa, ma, z2]; rfl) ?_
  generalize at' % bs.length = k at hk
  have m5 : ((how : Nat) : Int).tmod 5 = ((how % 5 : Nat) : Int) := rfl
  refine Zr rfl (by simp (maxSteps := 2000000) only [gs,zlr,reduceIte,reduceCtorEq,zpa,zpb,zpc,zpd,zpe,zpf,zpg,zph,zpi,zpj,zpk,zpl,zpm,zpn,zpo,zpp, m5]; rfl) ?_
  generalize how % 5 = q
  have n0 : ((0 : Int) ≤ (k : Int)) = True := eq_true (by omega)
  have n1 : ((k : Int) < (bs.length : Int)) = True := eq_true (by omega)
  have n2 : ((k : Int) ≤ (bs.length : Int)) = True := eq_true (by omega)
  have gx : bs[k]? = some (bs[k]'hk) := List.getElem?_eq_getElem _
  generalize bs[k]'hk = y at gx
  have hset : ∀ c ∈ bs.set k x, c < 256 := fun c hc => by
   rcases List.mem_or_eq_of_mem_set hc with h | rfl
   ·exact hb c h
   ·exact hx
  have hsl : (bs.set k x).length = bs.length := List.length_set
  have htk : (bs.set k x).take bs.length = bs.set k x := List.take_of_length_le (by omega)
  have hle : (bs.length ≤ (bs.set k x).length) = True := eq_true (by omega)
  have hkl : (k ≤ bs.length) = True := eq_true (by omega)
  have hkt : (bs.take k).length = k := by rw [List.length_take]; omega
  have hcut0 : cut (un .u8 (bs.set k x)) 0 bs.length = un .u8 (bs.set k x) := by rw [cut_un]; unfold cut; rw [List.drop_zero, htk]
  have hcut1 : cut (un .u8 bs) 0 k = un .u8 (bs.take k) := by rw [cut_un]; rfl
  have fe : ∀ j : Nat, q = j → (((q : Nat) : Int) == (j : Int)) = true := fun j h => by rw [h]; simp
  have fn : ∀ j : Nat, q ≠ j → (((q : Nat) : Int) == (j : Int)) = false := fun j h => beq_eq_false_iff_ne.2 (by omega)
  by_cases q0 : q = 0
  ·have c0 : (((q : Nat) : Int) == 0) = true := fe 0 q0
   refine Zr rfl (by simp (maxSteps := 2000000) only [gs,zlr,reduceIte,reduceCtorEq,zpa,zpb,zpc,zpd,zpe,zpf,zpg,zph,zpi,zpj,zpk,zpl,zpm,zpn,zpo,zpp, c0]; rfl) (Zc rfl rfl (fun _ => ?_) (fun h => by cases h))
   refine Zc rfl rfl (fun _ => ?_) (fun h => by cases h)
   refine Zr rfl (by simp (maxSteps := 2000000) only [gs,zlr,reduceIte,reduceCtorEq,zpa,zpb,zpc,zpd,zpe,zpf,zpg,zph,zpi,zpj,zpk,zpl,zpm,zpn,zpo,zpp, n0, n1, Nat.zero_add, un_get gx, un_set]; rfl) ?_
   refine Zr rfl (by simp (maxSteps := 2000000) only [gs,zlr,reduceIte,reduceCtorEq,zpa,zpb,zpc,zpd,zpe,zpf,zpg,zph,zpi,zpj,zpk,zpl,zpm,zpn,zpo,zpp]; rfl) (Zq rfl ⟨_, rfl, ?_⟩)
   simp only [gfin, outs, U.out, U.handed, U.share, U.rf, els, GEnv.get, if_true, Nat.reduceEqDiff, if_false, rfLL_un, Option.map_some, List.getElem?_cons_zero, un_length, hle, Nat.zero_add, hcut0, Nat.le_refl, and_self]
   exact ⟨_, _, rfl, rfl, bs.set k x, .inr (.inr rfl), hset, by omega⟩
  have c0 : (((q : Nat) : Int) == 0) = false := fn 0 q0
  by_cases q1 : q = 1
  ·have c1 : (((q : Nat) : Int) == 1) = true := fe 1 q1
   refine Zr rfl (by simp (maxSteps := 2000000) only [gs,zlr,reduceIte,reduceCtorEq,zpa,zpb,zpc,zpd,zpe,zpf,zpg,zph,zpi,zpj,zpk,zpl,zpm,zpn,zpo,zpp, c0]; rfl) (Zc rfl rfl (fun h => by cases h) (fun _ => ?_))
   refine Zr rfl (by simp (maxSteps := 2000000) only [gs,zlr,reduceIte,reduceCtorEq,zpa,zpb,zpc,zpd,zpe,zpf,zpg,zph,zpi,zpj,zpk,zpl,zpm,zpn,zpo,zpp, c1]; rfl) ?_
   refine Zc rfl rfl (fun _ => ?_) (fun h => by cases h)
   refine Zr rfl (by simp (maxSteps := 2000000) only [gs,zlr,reduceIte,reduceCtorEq,zpa,zpb,zpc,zpd,zpe,zpf,zpg,zph,zpi,zpj,zpk,zpl,zpm,zpn,zpo,zpp, n0, n1, Nat.zero_add, un_get gx, un_set]; rfl) ?_
   refine Zr rfl (by simp (maxSteps := 2000000) only [gs,zlr,reduceIte,reduceCtorEq,zpa,zpb,zpc,zpd,zpe,zpf,zpg,zph,zpi,zpj,zpk,zpl,zpm,zpn,zpo,zpp]; rfl) (Zq rfl ⟨_, rfl, ?_⟩)
   simp only [gfin, outs, U.out, U.handed, U.share, U.rf, els, GEnv.get, if_true, Nat.reduceEqDiff, if_false, rfLL_un, Option.map_some, List.getElem?_cons_zero, un_length, hle, Nat.zero_add, hcut0, Nat.le_refl, and_self]
   exact ⟨_, _, rfl, rfl, bs.set k x, .inr (.inr rfl), hset, by omega⟩
  have c1 : (((q : Nat) : Int) == 1) = false := fn 1 q1
  have hA : ∀ c ∈ bs.take k, c < 256 := fun c hc => hb c (List.mem_of_mem_take hc)
  have hB : ∀ j, ∀ c ∈ bs.drop j, c < 256 := fun j c hc => hb c (List.mem_of_mem_drop hc)
  by_cases q2 : q = 2
  ·have c2 : (((q : Nat) : Int) == 2) = true := fe 2 q2
   refine Zr rfl (by simp (maxSteps := 2000000) only [gs,zlr,reduceIte,reduceCtorEq,zpa,zpb,zpc,zpd,zpe,zpf,zpg,zph,zpi,zpj,zpk,zpl,zpm,zpn,zpo,zpp, c0]; rfl) (Zc rfl rfl (fun h => by cases h) (fun _ => ?_))
   refine Zr rfl (by simp (maxSteps := 2000000) only [gs,zlr,reduceIte,reduceCtorEq,zpa,zpb,zpc,zpd,zpe,zpf,zpg,zph,zpi,zpj,zpk,zpl,zpm,zpn,zpo,zpp, c1]; rfl) ?_
   refine Zc rfl rfl (fun h => by cases h) (fun _ => ?_)
   refine Zr rfl (by simp (maxSteps := 2000000) only [gs,zlr,reduceIte,reduceCtorEq,zpa,zpb,zpc,zpd,zpe,zpf,zpg,zph,zpi,zpj,zpk,zpl,zpm,zpn,zpo,zpp, c2]; rfl) (Zc rfl rfl (fun _ => ?_) (fun h => by cases h))
   have kk : ((0 : Int) ≤ (k : Int)) = True := eq_true (by omega)
   have hll : ((bs.length : Int) ≤ (bs.length : Int)) = True := eq_true (by omega)
   have hsb : ((bs.length : Int) - (k : Int)).toNat = bs.length - k := by omega
   have hdk : (bs.drop k).take (bs.length - k) = bs.drop k := List.take_of_length_le (by rw [List.length_drop]; omega)
   have hdl : (bs.drop k).length = bs.length - k := List.length_drop
   have hBn : (un .u8 (bs.drop k) = []) = False := eq_false (fun h => by have := congrArg List.length h; rw [un_length, hdl, List.length_nil] at this; omega)
   have hres : ∀ c ∈ bs.take k ++ (more ++ bs.drop k), c < 256 := fun c hc => by
    rcases List.mem_append.1 hc with hc | hc
    ·exact hA c hc
    ·rcases List.mem_append.1 hc with hc | hc
     ·exact hm c hc
     ·exact hB k c hc
   have hlen : (bs.take k ++ (more ++ bs.drop k)).length ≤ bs.length + more.length := by simp only [List.length_append, hkt, hdl]; omega
   by_cases k0 : k = 0
   ·have ht0 : bs.take k = [] := by rw [k0]; rfl
    rw [ht0, List.nil_append] at hres hlen
    have ut : un .u8 ([] : List Nat) = [] := rfl
    by_cases m0 : more = []
    ·subst m0
     rw [List.nil_append] at hres hlen
     have r1 : ((bs.drop k).length * 1 ≤ room) = True := eq_true (by rw [hdl]; unfold room; omega)
     refine Zd rfl (by simp (maxSteps := 2000000) only [gs,gd,zlr,id,reduceIte,reduceCtorEq,zpa,zpb,zpc,zpd,zpe,zpf,zpg,zph,zpi,zpj,zpk,zpl,zpm,zpn,zpo,zpp, n0, n2, kk, Int.sub_zero, hll, hsb, un_length, un_take, un_drop, Int.toNat_natCast, ht0, ut, hdk, hBn, r1]; rfl) (Zq rfl ⟨_, rfl, ?_⟩)
     simp only [gfin, outs, U.out, U.handed, U.share, U.rf, els, GEnv.get, if_true, Nat.reduceEqDiff, if_false, rfLL_un, Option.map_some]
     exact ⟨_, _, rfl, rfl, _, .inr (.inl rfl), hres, hlen⟩
    ·have hmn : (un .u8 more = []) = False := eq_false (fun h => m0 (List.eq_nil_of_length_eq_zero (by have := congrArg List.length h; rwa [un_length] at this)))
     have r1 : (more.length * 1 ≤ room) = True := eq_true (by unfold room; omega)
     have r2 : ((more.length + (bs.drop k).length) * 1 ≤ room) = True := eq_true (by rw [hdl]; unfold room; omega)
     refine Zd rfl (by simp (maxSteps := 2000000) only [gs,gd,zlr,id,reduceIte,reduceCtorEq,zpa,zpb,zpc,zpd,zpe,zpf,zpg,zph,zpi,zpj,zpk,zpl,zpm,zpn,zpo,zpp, n0, n2, kk, Int.sub_zero, hll, hsb, un_length, un_take, un_drop, Int.toNat_natCast, ht0, ut, hdk, hmn, r1, r2, un_append]; rfl) (Zq rfl ⟨_, rfl, ?_⟩)
     simp only [gfin, outs, U.out, U.handed, U.share, U.rf, els, GEnv.get, if_true, Nat.reduceEqDiff, if_false, rfLL_un, Option.map_some]
     exact ⟨_, _, rfl, rfl, _, .inr (.inl rfl), hres, hlen⟩
   ·have hAn : (un .u8 (bs.take k) = []) = False := eq_false (fun h => by have := congrArg List.length h; rw [un_length, hkt, List.length_nil] at this; omega)
    have r1 : ((bs.take k).length * 1 ≤ room) = True := eq_true (by rw [hkt]; unfold room; omega)
    have r2 : (((bs.take k).length + more.length) * 1 ≤ room) = True := eq_true (by rw [hkt]; unfold room; omega)
    have r3 : (((bs.take k ++ more).length + (bs.drop k).length) * 1 ≤ room) = True := eq_true (by rw [List.length_append, hkt, hdl]; unfold room; omega)
    rw [← List.append_assoc] at hres hlen
    refine Zd rfl (by simp (maxSteps := 2000000) only [gs,gd,zlr,id,reduceIte,reduceCtorEq,zpa,zpb,zpc,zpd,zpe,zpf,zpg,zph,zpi,zpj,zpk,zpl,zpm,zpn,zpo,zpp, n0, n2, kk, Int.sub_zero, Int.toNat_natCast, hll, hsb, un_length, un_take, un_drop, hdk, hAn, r1, r2, r3, un_append]; rfl) (Zq rfl ⟨_, rfl, ?_⟩)
    simp only [gfin, outs, U.out, U.handed, U.share, U.rf, els, GEnv.get, if_true, Nat.reduceEqDiff, if_false, rfLL_un, Option.map_some]
    exact ⟨_, _, rfl, rfl, _, .inr (.inl rfl), hres, hlen⟩
  have c2 : (((q : Nat) : Int) == 2) = false := fn 2 q2
  by_cases q3 : q = 3
  ·have c3 : (((q : Nat) : Int) == 3) = true := fe 3 q3
   refine Zr rfl (by simp (maxSteps := 2000000) only [gs,zlr,reduceIte,reduceCtorEq,zpa,zpb,zpc,zpd,zpe,zpf,zpg,zph,zpi,zpj,zpk,zpl,zpm,zpn,zpo,zpp, c0]; rfl) (Zc rfl rfl (fun h => by cases h) (fun _ => ?_))
   refine Zr rfl (by simp (maxSteps := 2000000) only [gs,zlr,reduceIte,reduceCtorEq,zpa,zpb,zpc,zpd,zpe,zpf,zpg,zph,zpi,zpj,zpk,zpl,zpm,zpn,zpo,zpp, c1]; rfl) ?_
   refine Zc rfl rfl (fun h => by cases h) (fun _ => ?_)
   refine Zr rfl (by simp (maxSteps := 2000000) only [gs,zlr,reduceIte,reduceCtorEq,zpa,zpb,zpc,zpd,zpe,zpf,zpg,zph,zpi,zpj,zpk,zpl,zpm,zpn,zpo,zpp, c2]; rfl) (Zc rfl rfl (fun h => by cases h) (fun _ => ?_))
   refine Zr rfl (by simp (maxSteps := 2000000) only [gs,zlr,reduceIte,reduceCtorEq,zpa,zpb,zpc,zpd,zpe,zpf,zpg,zph,zpi,zpj,zpk,zpl,zpm,zpn,zpo,zpp, c3]; rfl) (Zc rfl rfl (fun _ => ?_) (fun h => by cases h))
   have kk : ((0 : Int) ≤ (k : Int)) = True := eq_true (by omega)
   have s0 : ((k : Int) - 0).toNat = k := by omega
   refine Zr rfl (by simp (maxSteps := 2000000) only [gs,zlr,reduceIte,reduceCtorEq,zpa,zpb,zpc,zpd,zpe,zpf,zpg,zph,zpi,zpj,zpk,zpl,zpm,zpn,zpo,zpp, n0, n2, kk, s0, Int.sub_zero, Int.toNat_natCast, un_length]; rfl) (Zq rfl ⟨_, rfl, ?_⟩)
   simp only [gfin, outs, U.out, U.handed, U.share, U.rf, els, GEnv.get, if_true, Nat.reduceEqDiff, if_false, rfLL_un, Option.map_some, List.getElem?_cons_zero, un_length, hkl, Nat.zero_add, Nat.add_zero, hcut1, Nat.le_refl, and_self]
   exact ⟨_, _, rfl, rfl, bs.take k, .inr (.inr rfl), hA, by omega⟩
  have c3 : (((q : Nat) : Int) == 3) = false := fn 3 q3
  refine Zr rfl (by simp (maxSteps := 2000000) only [gs,zlr,reduceIte,reduceCtorEq,zpa,zpb,zpc,zpd,zpe,zpf,zpg,zph,zpi,zpj,zpk,zpl,zpm,zpn,zpo,zpp, c0]; rfl) (Zc rfl rfl (fun h => by cases h) (fun _ => ?_))
  refine Zr rfl (by simp (maxSteps := 2000000) only [gs,zlr,reduceIte,reduceCtorEq,zpa,zpb,zpc,zpd,zpe,zpf,zpg,zph,zpi,zpj,zpk,zpl,zpm,zpn,zpo,zpp, c1]; rfl) ?_
  refine Zc rfl rfl (fun h => by cases h) (fun _ => ?_)
  refine Zr rfl (by simp (maxSteps := 2000000) only [gs,zlr,reduceIte,reduceCtorEq,zpa,zpb,zpc,zpd,zpe,zpf,zpg,zph,zpi,zpj,zpk,zpl,zpm,zpn,zpo,zpp, c2]; rfl) (Zc rfl rfl (fun h => by cases h) (fun _ => ?_))
  refine Zr rfl (by simp (maxSteps := 2000000) only [gs,zlr,reduceIte,reduceCtorEq,zpa,zpb,zpc,zpd,zpe,zpf,zpg,zph,zpi,zpj,zpk,zpl,zpm,zpn,zpo,zpp, c3]; rfl) (Zc rfl rfl (fun h => by cases h) (fun _ => ?_))
  have kk : ((0 : Int) ≤ (k : Int)) = True := eq_true (by omega)
  have w1 : IntKind.i64.wrap ((k : Int) + 1) = ((k + 1 : Nat) : Int) := up64 (by omega)
  have kk1 : ((0 : Int) ≤ ((k + 1 : Nat) : Int)) = True := eq_true (by omega)
  have kk2 : (((k + 1 : Nat) : Int) ≤ (bs.length : Int)) = True := eq_true (by omega)
  have hll : ((bs.length : Int) ≤ (bs.length : Int)) = True := eq_true (by omega)
  have hsb : ((bs.length : Int) - ((k + 1 : Nat) : Int)).toNat = bs.length - (k + 1) := by omega
  have hdk : (bs.drop (k + 1)).take (bs.length - (k + 1)) = bs.drop (k + 1) := List.take_of_length_le (by rw [List.length_drop]; omega)
  have hdl : (bs.drop (k + 1)).length = bs.length - (k + 1) := List.length_drop
  have ut : un .u8 ([] : List Nat) = [] := rfl
  have hres : ∀ c ∈ bs.take k ++ bs.drop (k + 1), c < 256 := fun c hc => by
   rcases List.mem_append.1 hc with hc | hc
   ·exact hA c hc
   ·exact hB _ c hc
  have hlen : (bs.take k ++ bs.drop (k + 1)).length ≤ bs.length + more.length := by simp only [List.length_append, hkt, hdl]; omega
  by_cases k0 : k = 0
  ·have ht0 : bs.take k = [] := by rw [k0]; rfl
   rw [ht0, List.nil_append] at hres hlen
   by_cases b0 : bs.drop (k + 1) = []
   ·refine Zd rfl (by simp (maxSteps := 2000000) only [gs,gd,zlr,id,reduceIte,reduceCtorEq,zpa,zpb,zpc,zpd,zpe,zpf,zpg,zph,zpi,zpj,zpk,zpl,zpm,zpn,zpo,zpp, n0, n2, kk, kk1, kk2, w1, Int.sub_zero, Int.toNat_natCast, hll, hsb, un_length, un_take, un_drop, hdk, ht0, b0, ut, List.take_nil]; rfl) ?_
    exact Zr rfl (by simp (maxSteps := 2000000) only [gs,zlr,reduceIte,reduceCtorEq,zpa,zpb,zpc,zpd,zpe,zpf,zpg,zph,zpi,zpj,zpk,zpl,zpm,zpn,zpo,zpp]; rfl) (Zq rfl ⟨_, rfl, _, _, rfl, rfl, [], .inl ⟨rfl, rfl⟩, fun c hc => (by cases hc), by simp⟩)
   ·have hBn : (un .u8 (bs.drop (k + 1)) = []) = False := eq_false (fun h => b0 (List.eq_nil_of_length_eq_zero (by have := congrArg List.length h; rwa [un_length] at this)))
    have r1 : ((bs.drop (k + 1)).length * 1 ≤ room) = True := eq_true (by rw [hdl]; unfold room; omega)
    refine Zd rfl (by simp (maxSteps := 2000000) only [gs,gd,zlr,id,reduceIte,reduceCtorEq,zpa,zpb,zpc,zpd,zpe,zpf,zpg,zph,zpi,zpj,zpk,zpl,zpm,zpn,zpo,zpp, n0, n2, kk, kk1, kk2, w1, Int.sub_zero, Int.toNat_natCast, hll, hsb, un_length, un_take, un_drop, hdk, ht0, ut, hBn, r1]; rfl) ?_
    have hcB : cut (un .u8 (bs.drop (k + 1))) 0 (bs.drop (k + 1)).length = un .u8 (bs.drop (k + 1)) := by rw [cut_un]; unfold cut; rw [List.drop_zero, List.take_length]
    refine Zr rfl (by simp (maxSteps := 2000000) only [gs,zlr,reduceIte,reduceCtorEq,zpa,zpb,zpc,zpd,zpe,zpf,zpg,zph,zpi,zpj,zpk,zpl,zpm,zpn,zpo,zpp]; rfl) (Zq rfl ⟨_, rfl, ?_⟩)
    simp only [gfin, outs, U.out, U.handed, U.share, U.rf, els, GEnv.get, if_true, Nat.reduceEqDiff, if_false, rfLL_un, Option.map_some, List.getElem?_cons_zero, List.getElem?_cons_succ, un_length, Nat.zero_add, Nat.add_zero, hcB, Nat.le_refl, and_self]
    exact ⟨_, _, rfl, rfl, _, .inr (.inr rfl), hres, by omega⟩
  ·have hAn : (un .u8 (bs.take k) = []) = False := eq_false (fun h => by have := congrArg List.length h; rw [un_length, hkt, List.length_nil] at this; omega)
   have r1 : (k * 1 ≤ room) = True := eq_true (by unfold room; omega)
   by_cases b0 : bs.drop (k + 1) = []
   ·refine Zd rfl (by simp (maxSteps := 2000000) only [gs,gd,zlr,id,reduceIte,reduceCtorEq,zpa,zpb,zpc,zpd,zpe,zpf,zpg,zph,zpi,zpj,zpk,zpl,zpm,zpn,zpo,zpp, n0, n2, kk, kk1, kk2, w1, Int.sub_zero, Int.toNat_natCast, hll, hsb, un_length, un_take, un_drop, hdk, hAn, r1, b0, ut, List.take_nil, hkt]; rfl) ?_
    have hcA : cut (un .u8 (bs.take k)) 0 k = un .u8 (bs.take k) := by rw [cut_un]; unfold cut; rw [List.drop_zero, List.take_take, Nat.min_self]
    have hkk : (k ≤ (bs.take k).length) = True := eq_true (by omega)
    refine Zr rfl (by simp (maxSteps := 2000000) only [gs,zlr,reduceIte,reduceCtorEq,zpa,zpb,zpc,zpd,zpe,zpf,zpg,zph,zpi,zpj,zpk,zpl,zpm,zpn,zpo,zpp]; rfl) (Zq rfl ⟨_, rfl, ?_⟩)
    simp only [gfin, outs, U.out, U.handed, U.share, U.rf, els, GEnv.get, if_true, Nat.reduceEqDiff, if_false, rfLL_un, Option.map_some, List.getElem?_cons_zero, List.getElem?_cons_succ, un_length, Nat.zero_add, Nat.add_zero, hcA, hkt, hkk, Nat.le_refl, and_self]
    exact ⟨_, _, rfl, rfl, _, .inr (.inr rfl), hA, by omega⟩
   ·have hBn : (un .u8 (bs.drop (k + 1)) = []) = False := eq_false (fun h => b0 (List.eq_nil_of_length_eq_zero (by have := congrArg List.length h; rwa [un_length] at this)))
    have r2 : ((k + (bs.drop (k + 1)).length) * 1 ≤ room) = True := eq_true (by rw [hdl]; unfold room; omega)
    refine Zd rfl (by simp (maxSteps := 2000000) only [gs,gd,zlr,id,reduceIte,reduceCtorEq,zpa,zpb,zpc,zpd,zpe,zpf,zpg,zph,zpi,zpj,zpk,zpl,zpm,zpn,zpo,zpp, n0, n2, kk, kk1, kk2, w1, Int.sub_zero, Int.toNat_natCast, hll, hsb, un_length, un_take, un_drop, hdk, hAn, hBn, r1, r2, hkt]; rfl) ?_
    have hcC : cut (un .u8 (bs.take k ++ bs.drop (k + 1))) 0 (k + (bs.drop (k + 1)).length) = un .u8 (bs.take k ++ bs.drop (k + 1)) := by
     rw [cut_un]; unfold cut; rw [List.drop_zero, List.take_of_length_le (by rw [List.length_append, hkt]; omega)]
    have htt : (bs.take k).take k = bs.take k := by rw [List.take_take, Nat.min_self]
    have hcl : ((bs.take k ++ bs.drop (k + 1)).length) = k + (bs.drop (k + 1)).length := by rw [List.length_append, hkt]
    refine Zr rfl (by simp (maxSteps := 2000000) only [gs,zlr,reduceIte,reduceCtorEq,zpa,zpb,zpc,zpd,zpe,zpf,zpg,zph,zpi,zpj,zpk,zpl,zpm,zpn,zpo,zpp]; rfl) (Zq rfl ⟨_, rfl, ?_⟩)
    simp only [gfin, outs, U.out, U.handed, U.share, U.rf, els, GEnv.get, if_true, Nat.reduceEqDiff, if_false, rfLL_un, Option.map_some, List.getElem?_cons_zero, List.getElem?_cons_succ, un_length, Nat.zero_add, Nat.add_zero, List.drop_zero, un_take, htt, un_append, hcC, hcl, Nat.le_refl, Nat.zero_le, true_and, and_true, and_self]
    exact ⟨_, _, rfl, rfl, _, .inr (.inr rfl), hres, by omega⟩
 obtain ⟨u, h', h1, rfl, l, h2, h3, h4⟩ := key
 exact ⟨u, l, h1, h2, h3, h4⟩
end Go.Ab
