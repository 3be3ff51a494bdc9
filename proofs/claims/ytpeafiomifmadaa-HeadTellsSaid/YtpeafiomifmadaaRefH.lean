/- The document's heads of files on the machine of values. -/
import Derived.Test.YtpeafiomifmadaaHeadA
import Derived.Test.YtpeafiomifmadaaRefN
import Derived.Test.YtpeafiomifmadaaValN
namespace Go.Ab
open Go
open Nat renaming reduceEqDiff → zpa, reduceLT → zpb, reduceAdd → zpc, reduceSub → zpd, reduceLeDiff → zpe, reduceMul → zpf
open Int renaming reduceToNat → zpg, reduceLT → zph, reduceLE → zpi, reduceEq → zpj, reduceNe → zpk, reduceBEq → zpl, reduceBNe → zpm, reduceAdd → zpn, reduceSub → zpo, reduceNeg → zpp
open List renaming replicate → zlr
set_option linter.unusedVariables false
set_option linter.unusedSimpArgs false
set_option maxRecDepth 10000
theorem rhright_G (n k c : Int) : GF gtab fid_archipelagoref18_Right [hd n k c] [] 0 = some (.bool (decide (headOk n k c)), []) := by
 by_cases h : headOk n k c
 ·rw [decide_eq_true h]
  obtain ⟨h1, h2, h3, h4, h5⟩ := h
  have e1 := eq_true h1
  have e2 : (k ≥ 1) = True := eq_true h2
  have e3 := eq_true h3
  have e4 : (c ≥ 0) = True := eq_true h4
  have e5 := eq_true h5
  refine fn_archipelagoref18_Right rfl ?_
  simp only [genvOf, hd]
  refine Zr rfl (by simp (maxSteps := 2000000) only [gs,zlr,reduceIte,reduceCtorEq,zpa,zpb,zpc,zpd,zpe,zpf,zpg,zph,zpi,zpj,zpk,zpl,zpm,zpn,zpo,zpp]; rfl) ?_
  exact Zr rfl (by simp (maxSteps := 2000000) only [gs,zlr,reduceIte,reduceCtorEq,zpa,zpb,zpc,zpd,zpe,zpf,zpg,zph,zpi,zpj,zpk,zpl,zpm,zpn,zpo,zpp, e1, e2, e3, e4, e5]; rfl) (Zq rfl ⟨_, rfl, rfl⟩)
 ·rw [decide_eq_false h]
  refine fn_archipelagoref18_Right rfl ?_
  simp only [genvOf, hd]
  refine Zr rfl (by simp (maxSteps := 2000000) only [gs,zlr,reduceIte,reduceCtorEq,zpa,zpb,zpc,zpd,zpe,zpf,zpg,zph,zpi,zpj,zpk,zpl,zpm,zpn,zpo,zpp]; rfl) ?_
  by_cases h1 : n ≤ 4294967296
  case neg =>
   have e1 := eq_false h1
   exact Zr rfl (by simp (maxSteps := 2000000) only [gs,zlr,reduceIte,reduceCtorEq,zpa,zpb,zpc,zpd,zpe,zpf,zpg,zph,zpi,zpj,zpk,zpl,zpm,zpn,zpo,zpp, e1]; rfl) (Zq rfl ⟨_, rfl, rfl⟩)
  have e1 := eq_true h1
  by_cases h2 : k ≥ 1
  case neg =>
   have e2 := eq_false h2
   exact Zr rfl (by simp (maxSteps := 2000000) only [gs,zlr,reduceIte,reduceCtorEq,zpa,zpb,zpc,zpd,zpe,zpf,zpg,zph,zpi,zpj,zpk,zpl,zpm,zpn,zpo,zpp, e1, e2]; rfl) (Zq rfl ⟨_, rfl, rfl⟩)
  have e2 := eq_true h2
  by_cases h3 : k ≤ 1048576
  case neg =>
   have e3 := eq_false h3
   exact Zr rfl (by simp (maxSteps := 2000000) only [gs,zlr,reduceIte,reduceCtorEq,zpa,zpb,zpc,zpd,zpe,zpf,zpg,zph,zpi,zpj,zpk,zpl,zpm,zpn,zpo,zpp, e1, e2, e3]; rfl) (Zq rfl ⟨_, rfl, rfl⟩)
  have e3 := eq_true h3
  by_cases h4 : c ≥ 0
  case neg =>
   have e4 := eq_false h4
   exact Zr rfl (by simp (maxSteps := 2000000) only [gs,zlr,reduceIte,reduceCtorEq,zpa,zpb,zpc,zpd,zpe,zpf,zpg,zph,zpi,zpj,zpk,zpl,zpm,zpn,zpo,zpp, e1, e2, e3, e4]; rfl) (Zq rfl ⟨_, rfl, rfl⟩)
  have e4 := eq_true h4
  have e5 : (c ≤ 2147483648) = False := eq_false (fun h5 => h ⟨h1, h2, h3, h4, h5⟩)
  exact Zr rfl (by simp (maxSteps := 2000000) only [gs,zlr,reduceIte,reduceCtorEq,zpa,zpb,zpc,zpd,zpe,zpf,zpg,zph,zpi,zpj,zpk,zpl,zpm,zpn,zpo,zpp, e1, e2, e3, e4, e5]; rfl) (Zq rfl ⟨_, rfl, rfl⟩)
theorem rhblocks_G {N K C : Nat} (h : headOk N K C) : GF gtab fid_archipelagoref18_Blocks [hd N K C] [] 0 = some (.int .i64 (((C + K - 1) / K : Nat) : Int), []) := by
 have RR := rhright_G (N : Int) (K : Int) (C : Int)
 rw [decide_eq_true h] at RR
 obtain ⟨h1, h2, h3, h4, h5⟩ := h
 refine fn_archipelagoref18_Blocks rfl ?_
 simp only [genvOf, hd]
 unfold hd at RR
 have w1 : IntKind.i64.wrap ((C : Int) + (K : Int)) = ((C + K : Nat) : Int) := wrap_i64_nat (n := C + K) (by omega)
 have w2 : IntKind.i64.wrap (((C + K : Nat) : Int) - 1) = ((C + K - 1 : Nat) : Int) := by rw [wrap_i64 (by omega) (by omega)]; omega
 have hz : ((K : Int) = 0) = False := eq_false (by omega)
 have dq : ((C + K - 1 : Nat) : Int).tdiv (K : Int) = (((C + K - 1) / K : Nat) : Int) := rfl
 have w3 : IntKind.i64.wrap (((C + K - 1) / K : Nat) : Int) = (((C + K - 1) / K : Nat) : Int) := wrap_i64_nat (Nat.le_trans (Nat.div_le_self _ _) (by omega))
 refine Zr rfl (by simp (maxSteps := 2000000) only [gs,zlr,reduceIte,reduceCtorEq,zpa,zpb,zpc,zpd,zpe,zpf,zpg,zph,zpi,zpj,zpk,zpl,zpm,zpn,zpo,zpp]; rfl) ?_
 refine Zr rfl (by simp (maxSteps := 2000000) only [gs,zlr,reduceIte,reduceCtorEq,zpa,zpb,zpc,zpd,zpe,zpf,zpg,zph,zpi,zpj,zpk,zpl,zpm,zpn,zpo,zpp, gc_archipelagoref18_Right, RR]; rfl) (Zc rfl rfl (fun h => by cases h) (fun _ => ?_))
 exact Zr rfl (by simp (maxSteps := 2000000) only [gs,zlr,reduceIte,reduceCtorEq,zpa,zpb,zpc,zpd,zpe,zpf,zpg,zph,zpi,zpj,zpk,zpl,zpm,zpn,zpo,zpp, w1, w2, hz, dq, w3]; rfl) (Zq rfl ⟨_, rfl, rfl⟩)
theorem rhblocksNo_G {n k c : Int} (h : ¬ headOk n k c) : GF gtab fid_archipelagoref18_Blocks [hd n k c] [] 0 = some (.int .i64 0, []) := by
 have RR := rhright_G n k c
 rw [decide_eq_false h] at RR
 refine fn_archipelagoref18_Blocks rfl ?_
 simp only [genvOf, hd]
 unfold hd at RR
 refine Zr rfl (by simp (maxSteps := 2000000) only [gs,zlr,reduceIte,reduceCtorEq,zpa,zpb,zpc,zpd,zpe,zpf,zpg,zph,zpi,zpj,zpk,zpl,zpm,zpn,zpo,zpp]; rfl) ?_
 refine Zr rfl (by simp (maxSteps := 2000000) only [gs,zlr,reduceIte,reduceCtorEq,zpa,zpb,zpc,zpd,zpe,zpf,zpg,zph,zpi,zpj,zpk,zpl,zpm,zpn,zpo,zpp, gc_archipelagoref18_Right, RR]; rfl) (Zc rfl rfl (fun _ => ?_) (fun h => by cases h))
 exact Zr rfl (by simp (maxSteps := 2000000) only [gs,zlr,reduceIte,reduceCtorEq,zpa,zpb,zpc,zpd,zpe,zpf,zpg,zph,zpi,zpj,zpk,zpl,zpm,zpn,zpo,zpp]; rfl) (Zq rfl ⟨_, rfl, rfl⟩)
theorem rhsize_G {N K C i : Nat} (h : headOk N K C) (hi : i * K < C) (hib : i < (C + K - 1) / K) : GF gtab fid_archipelagoref18_Size [hd N K C, .int .i64 (i : Int)] [] 0 = some (.int .i64 ((min K (C - i * K) : Nat) : Int), []) := by
 have BB := rhblocks_G h
 obtain ⟨h1, h2, h3, h4, h5⟩ := h
 refine fn_archipelagoref18_Size rfl ?_
 simp only [genvOf, hd]
 unfold hd at BB
 have c1 : ((i : Int) < 0) = False := eq_false (by omega)
 have c2 : ((i : Int) ≥ (((C + K - 1) / K : Nat) : Int)) = False := eq_false (by omega)
 have w1 : IntKind.i64.wrap ((i : Int) * (K : Int)) = ((i * K : Nat) : Int) := by
  have : (i : Int) * (K : Int) = ((i * K : Nat) : Int) := by rw [Int.natCast_mul]
  rw [this]; exact wrap_i64_nat (by omega)
 have w2 : IntKind.i64.wrap ((C : Int) - ((i * K : Nat) : Int)) = ((C - i * K : Nat) : Int) := by rw [wrap_i64 (by omega) (by omega)]; omega
 have hm : (if ((C - i * K : Nat) : Int) < (K : Int) then ((C - i * K : Nat) : Int) else (K : Int)) = ((min K (C - i * K) : Nat) : Int) := by split <;> omega
 refine Zr rfl (by simp (maxSteps := 2000000) only [gs,zlr,reduceIte,reduceCtorEq,zpa,zpb,zpc,zpd,zpe,zpf,zpg,zph,zpi,zpj,zpk,zpl,zpm,zpn,zpo,zpp]; rfl) ?_
 refine Zr rfl (by simp (maxSteps := 2000000) only [gs,zlr,reduceIte,reduceCtorEq,zpa,zpb,zpc,zpd,zpe,zpf,zpg,zph,zpi,zpj,zpk,zpl,zpm,zpn,zpo,zpp, c1, gc_archipelagoref18_Blocks, BB, c2]; rfl) (Zc rfl rfl (fun h => by cases h) (fun _ => ?_))
 exact Zr rfl (by simp (maxSteps := 2000000) only [gs,zlr,reduceIte,reduceCtorEq,zpa,zpb,zpc,zpd,zpe,zpf,zpg,zph,zpi,zpj,zpk,zpl,zpm,zpn,zpo,zpp, w1, w2, hm]; rfl) (Zq rfl ⟨_, rfl, rfl⟩)
theorem rhsizeNeg_G {n k c i : Int} (hi : i < 0) : GF gtab fid_archipelagoref18_Size [hd n k c, .int .i64 i] [] 0 = some (.int .i64 0, []) := by
 refine fn_archipelagoref18_Size rfl ?_
 simp only [genvOf, hd]
 have c1 := eq_true hi
 refine Zr rfl (by simp (maxSteps := 2000000) only [gs,zlr,reduceIte,reduceCtorEq,zpa,zpb,zpc,zpd,zpe,zpf,zpg,zph,zpi,zpj,zpk,zpl,zpm,zpn,zpo,zpp]; rfl) ?_
 refine Zr rfl (by simp (maxSteps := 2000000) only [gs,zlr,reduceIte,reduceCtorEq,zpa,zpb,zpc,zpd,zpe,zpf,zpg,zph,zpi,zpj,zpk,zpl,zpm,zpn,zpo,zpp, c1]; rfl) (Zc rfl rfl (fun _ => ?_) (fun h => by cases h))
 exact Zr rfl (by simp (maxSteps := 2000000) only [gs,zlr,reduceIte,reduceCtorEq,zpa,zpb,zpc,zpd,zpe,zpf,zpg,zph,zpi,zpj,zpk,zpl,zpm,zpn,zpo,zpp]; rfl) (Zq rfl ⟨_, rfl, rfl⟩)
theorem rhsizeOver_G {n k c : Int} {m : Nat} (B : GF gtab fid_archipelagoref18_Blocks [hd n k c] [] 0 = some (.int .i64 (m : Int), [])) {i : Nat} (hi : m ≤ i) : GF gtab fid_archipelagoref18_Size [hd n k c, .int .i64 (i : Int)] [] 0 = some (.int .i64 0, []) := by
 refine fn_archipelagoref18_Size rfl ?_
 simp only [genvOf, hd]
 unfold hd at B
 have c1 : ((i : Int) < 0) = False := eq_false (by omega)
 have c2 : ((i : Int) ≥ (m : Int)) = True := eq_true (by omega)
 refine Zr rfl (by simp (maxSteps := 2000000) only [gs,zlr,reduceIte,reduceCtorEq,zpa,zpb,zpc,zpd,zpe,zpf,zpg,zph,zpi,zpj,zpk,zpl,zpm,zpn,zpo,zpp]; rfl) ?_
 refine Zr rfl (by simp (maxSteps := 2000000) only [gs,zlr,reduceIte,reduceCtorEq,zpa,zpb,zpc,zpd,zpe,zpf,zpg,zph,zpi,zpj,zpk,zpl,zpm,zpn,zpo,zpp, c1, gc_archipelagoref18_Blocks, B, c2]; rfl) (Zc rfl rfl (fun _ => ?_) (fun h => by cases h))
 exact Zr rfl (by simp (maxSteps := 2000000) only [gs,zlr,reduceIte,reduceCtorEq,zpa,zpb,zpc,zpd,zpe,zpf,zpg,zph,zpi,zpj,zpk,zpl,zpm,zpn,zpo,zpp]; rfl) (Zq rfl ⟨_, rfl, rfl⟩)
theorem rhput_G {N K C : Nat} (h : headOk N K C) : GF gtab fid_archipelagoref18_Put [hd N K C] [] 0 = some (.own 1 (un .u8 (headS N K C)), []) := by
 obtain ⟨h1, h2, h3, h4, h5⟩ := h
 have e0 : ([[U.int .u8 84], [.int .u8 71], [.int .u8 88], [.int .u8 49]] : List (List U)) = un .u8 magicB := rfl
 have hie : (un .u8 magicB).isEmpty = false := rfl
 have wk : IntKind.u64.wrap (K : Int) = (K : Int) := by rw [wrap_u64_nat, Nat.mod_eq_of_lt (by omega)]
 have wc : IntKind.u64.wrap (C : Int) = (C : Int) := by rw [wrap_u64_nat, Nat.mod_eq_of_lt (by omega)]
 have P1 : GF gtab fid_archipelagoref1_Fixed [.int .u64 N, .int .i64 8] [] 0 = some (.own 1 (un .u8 (leB 8 N)), []) := fixed_G (n := 8) (by omega) (by omega) (by omega)
 have P2 : GF gtab fid_archipelagoref1_Fixed [.int .u64 K, .int .i64 4] [] 0 = some (.own 1 (un .u8 (leB 4 K)), []) := fixed_G (n := 4) (by omega) (by omega) (by omega)
 have P3 : GF gtab fid_archipelagoref1_Fixed [.int .u64 C, .int .i64 4] [] 0 = some (.own 1 (un .u8 (leB 4 C)), []) := fixed_G (n := 4) (by omega) (by omega) (by omega)
 have r1 : ((magicB.length + 8) * 1 ≤ room) = True := eq_true (by unfold room; decide)
 have r2 : (((magicB ++ leB 8 N).length + 4) * 1 ≤ room) = True := eq_true (by rw [List.length_append, leB_length]; unfold room; decide)
 have r3 : (((magicB ++ leB 8 N ++ leB 4 K).length + 4) * 1 ≤ room) = True := eq_true (by rw [List.length_append, List.length_append, leB_length, leB_length]; unfold room; decide)
 have RR := rhright_G (N : Int) (K : Int) (C : Int)
 rw [decide_eq_true (show headOk N K C from ⟨h1, h2, h3, h4, h5⟩)] at RR
 have SE := rseal_G (bs := headB N K C) (headB_lt N K C) (by rw [headB_length]; omega)
 unfold headB at SE
 refine fn_archipelagoref18_Put rfl ?_
 simp only [genvOf, hd]
 unfold hd at RR
 refine Zr rfl (by simp (maxSteps := 2000000) only [gs,zlr,reduceIte,reduceCtorEq,zpa,zpb,zpc,zpd,zpe,zpf,zpg,zph,zpi,zpj,zpk,zpl,zpm,zpn,zpo,zpp]; rfl) ?_
 refine Zr rfl (by simp (maxSteps := 2000000) only [gs,zlr,reduceIte,reduceCtorEq,zpa,zpb,zpc,zpd,zpe,zpf,zpg,zph,zpi,zpj,zpk,zpl,zpm,zpn,zpo,zpp, gc_archipelagoref18_Right, RR]; rfl) (Zc rfl rfl (fun h => by cases h) (fun _ => ?_))
 refine Zr rfl (by simp (maxSteps := 2000000) only [gs,zlr,reduceIte,reduceCtorEq,zpa,zpb,zpc,zpd,zpe,zpf,zpg,zph,zpi,zpj,zpk,zpl,zpm,zpn,zpo,zpp, e0, hie, gc_archipelagoref1_Fixed, P1, un_length, leB_length, r1, un_append]; rfl) ?_
 refine Zd rfl (by simp (maxSteps := 2000000) only [gs,gd,zlr,id,reduceIte,reduceCtorEq,zpa,zpb,zpc,zpd,zpe,zpf,zpg,zph,zpi,zpj,zpk,zpl,zpm,zpn,zpo,zpp, wk, wc, gc_archipelagoref1_Fixed, iq_archipelagoref1_Fixed, P2, P3, un_length, leB_length, r2, r3, un_append]; rfl) ?_
 refine Zr rfl (by simp (maxSteps := 2000000) only [gs,zlr,reduceIte,reduceCtorEq,zpa,zpb,zpc,zpd,zpe,zpf,zpg,zph,zpi,zpj,zpk,zpl,zpm,zpn,zpo,zpp, gc_archipelagoref1_Seal, snapLL_un, SE]; rfl) (Zq rfl ⟨_, rfl, ?_⟩)
 simp only [gfin, outs, U.out, U.handed, U.share, GEnv.get, if_true, Nat.reduceEqDiff, if_false, rfLL_un, Option.map_some]
 rfl
theorem rhputNo_G {n k c : Int} (h : ¬ headOk n k c) : GF gtab fid_archipelagoref18_Put [hd n k c] [] 0 = some (.nils, []) := by
 have RR := rhright_G n k c
 rw [decide_eq_false h] at RR
 refine fn_archipelagoref18_Put rfl ?_
 simp only [genvOf, hd]
 unfold hd at RR
 refine Zr rfl (by simp (maxSteps := 2000000) only [gs,zlr,reduceIte,reduceCtorEq,zpa,zpb,zpc,zpd,zpe,zpf,zpg,zph,zpi,zpj,zpk,zpl,zpm,zpn,zpo,zpp]; rfl) ?_
 refine Zr rfl (by simp (maxSteps := 2000000) only [gs,zlr,reduceIte,reduceCtorEq,zpa,zpb,zpc,zpd,zpe,zpf,zpg,zph,zpi,zpj,zpk,zpl,zpm,zpn,zpo,zpp, gc_archipelagoref18_Right, RR]; rfl) (Zc rfl rfl (fun _ => ?_) (fun h => by cases h))
 exact Zr rfl (by simp (maxSteps := 2000000) only [gs,zlr,reduceIte,reduceCtorEq,zpa,zpb,zpc,zpd,zpe,zpf,zpg,zph,zpi,zpj,zpk,zpl,zpm,zpn,zpo,zpp]; rfl) (Zq rfl ⟨_, rfl, rfl⟩)
set_option maxHeartbeats 1000000 in
theorem rhread_G {bs : List Nat} (hb : ∀ b ∈ bs, b < 256) (hl : bs.length ≤ 1099511627776) : GF gtab fid_archipelagoref18_Read [.list false 1 (un .u8 bs)] [] 0 = some ((rdHead bs).u, []) := by
 refine fn_archipelagoref18_Read rfl ?_
 simp only [genvOf]
 unfold rdHead
 refine Zr rfl (by simp (maxSteps := 2000000) only [gs,zlr,reduceIte,reduceCtorEq,zpa,zpb,zpc,zpd,zpe,zpf,zpg,zph,zpi,zpj,zpk,zpl,zpm,zpn,zpo,zpp]; rfl) ?_
 by_cases h24 : bs.length < 24
 ·rw [if_pos h24]
  have c1 : ((bs.length : Int) < 24) = True := eq_true (by omega)
  refine Zr rfl (by simp (maxSteps := 2000000) only [gs,zlr,reduceIte,reduceCtorEq,zpa,zpb,zpc,zpd,zpe,zpf,zpg,zph,zpi,zpj,zpk,zpl,zpm,zpn,zpo,zpp, un_length, c1]; rfl) (Zc rfl rfl (fun _ => ?_) (fun h => by cases h))
  exact Zr rfl (by simp (maxSteps := 2000000) only [gs,zlr,reduceIte,reduceCtorEq,zpa,zpb,zpc,zpd,zpe,zpf,zpg,zph,zpi,zpj,zpk,zpl,zpm,zpn,zpo,zpp]; rfl) (Zq rfl ⟨_, rfl, rfl⟩)
 rw [if_neg h24]
 have c1 : ((bs.length : Int) < 24) = False := eq_false (by omega)
 refine Zr rfl (by simp (maxSteps := 2000000) only [gs,zlr,reduceIte,reduceCtorEq,zpa,zpb,zpc,zpd,zpe,zpf,zpg,zph,zpi,zpj,zpk,zpl,zpm,zpn,zpo,zpp, un_length, c1]; rfl) (Zc rfl rfl (fun h => by cases h) (fun _ => ?_))
 have l4 : ((4 : Int) ≤ (bs.length : Int)) = True := eq_true (by omega)
 have l24 : ((24 : Int) ≤ (bs.length : Int)) = True := eq_true (by omega)
 have l12 : ((12 : Int) ≤ (bs.length : Int)) = True := eq_true (by omega)
 have l16 : ((16 : Int) ≤ (bs.length : Int)) = True := eq_true (by omega)
 have l20 : ((20 : Int) ≤ (bs.length : Int)) = True := eq_true (by omega)
 have hm : (((bs.take 4).map fun (n : Nat) => (n : Int)) == [84, 71, 88, 49]) = decide (bs.take 4 = magicB) := by
  have := hbeq (bs.take 4) magicB
  rw [← this]; rfl
 by_cases hmg : bs.take 4 = magicB
 case neg =>
  rw [if_pos hmg]
  rw [decide_eq_false hmg] at hm
  refine Zr rfl (by simp (maxSteps := 2000000) only [gs,zlr,reduceIte,reduceCtorEq,zpa,zpb,zpc,zpd,zpe,zpf,zpg,zph,zpi,zpj,zpk,zpl,zpm,zpn,zpo,zpp, un_length, l4, un_take, gbytesOf_un, hm]; rfl) (Zc rfl rfl (fun _ => ?_) (fun h => by cases h))
  exact Zr rfl (by simp (maxSteps := 2000000) only [gs,zlr,reduceIte,reduceCtorEq,zpa,zpb,zpc,zpd,zpe,zpf,zpg,zph,zpi,zpj,zpk,zpl,zpm,zpn,zpo,zpp]; rfl) (Zq rfl ⟨_, rfl, rfl⟩)
 rw [if_neg (fun h => h hmg)]
 rw [decide_eq_true hmg] at hm
 refine Zr rfl (by simp (maxSteps := 2000000) only [gs,zlr,reduceIte,reduceCtorEq,zpa,zpb,zpc,zpd,zpe,zpf,zpg,zph,zpi,zpj,zpk,zpl,zpm,zpn,zpo,zpp, un_length, l4, un_take, gbytesOf_un, hm]; rfl) (Zc rfl rfl (fun h => by cases h) (fun _ => ?_))
 have htb : ∀ b ∈ bs.take 24, b < 256 := fun b h => hb b (List.mem_of_mem_take h)
 have O := ropen_G htb (by rw [List.length_take]; omega)
 cases hok : crcOk (bs.take 24) with
 | false =>
  rw [if_pos rfl]
  rw [hok, if_neg (by simp)] at O
  refine Zr rfl (by simp (maxSteps := 2000000) only [gs,zlr,reduceIte,reduceCtorEq,zpa,zpb,zpc,zpd,zpe,zpf,zpg,zph,zpi,zpj,zpk,zpl,zpm,zpn,zpo,zpp, un_length, l24, un_take, gc_archipelagoref1_Open, snapLL_un, O]; rfl) ?_
  refine Zr rfl (by simp (maxSteps := 2000000) only [gs,zlr,reduceIte,reduceCtorEq,zpa,zpb,zpc,zpd,zpe,zpf,zpg,zph,zpi,zpj,zpk,zpl,zpm,zpn,zpo,zpp]; rfl) (Zc rfl rfl (fun _ => ?_) (fun h => by cases h))
  exact Zr rfl (by simp (maxSteps := 2000000) only [gs,zlr,reduceIte,reduceCtorEq,zpa,zpb,zpc,zpd,zpe,zpf,zpg,zph,zpi,zpj,zpk,zpl,zpm,zpn,zpo,zpp]; rfl) (Zq rfl ⟨_, rfl, rfl⟩)
 | true =>
  rw [if_neg (by simp)]
  rw [hok, if_pos rfl] at O
  refine Zr rfl (by simp (maxSteps := 2000000) only [gs,zlr,reduceIte,reduceCtorEq,zpa,zpb,zpc,zpd,zpe,zpf,zpg,zph,zpi,zpj,zpk,zpl,zpm,zpn,zpo,zpp, un_length, l24, un_take, gc_archipelagoref1_Open, snapLL_un, O]; rfl) ?_
  refine Zr rfl (by simp (maxSteps := 2000000) only [gs,zlr,reduceIte,reduceCtorEq,zpa,zpb,zpc,zpd,zpe,zpf,zpg,zph,zpi,zpj,zpk,zpl,zpm,zpn,zpo,zpp]; rfl) (Zc rfl rfl (fun h => by cases h) (fun _ => ?_))
  have db : ∀ a m, ∀ b ∈ (bs.drop a).take m, b < 256 := fun a m b h => hb b (List.mem_of_mem_drop (List.mem_of_mem_take h))
  have T1 := number_G (bs := (bs.drop 4).take 8) (db 4 8) (by rw [List.length_take]; omega)
  have T2 := number_G (bs := (bs.drop 12).take 4) (db 12 4) (by rw [List.length_take]; omega)
  have T3 := number_G (bs := (bs.drop 16).take 4) (db 16 4) (by rw [List.length_take]; omega)
  have len4 : ∀ a, ((bs.drop a).take 4).length ≤ 4 := fun a => by rw [List.length_take]; omega
  have b2 : leN ((bs.drop 12).take 4) < 4294967296 := Nat.lt_of_lt_of_le (leN_lt _ (db 12 4)) (Nat.le_trans (Nat.pow_le_pow_right (by omega) (len4 12)) (by decide))
  have b3 : leN ((bs.drop 16).take 4) < 4294967296 := Nat.lt_of_lt_of_le (leN_lt _ (db 16 4)) (Nat.le_trans (Nat.pow_le_pow_right (by omega) (len4 16)) (by decide))
  have w2 : IntKind.i64.wrap ((leN ((bs.drop 12).take 4) : Nat) : Int) = ((leN ((bs.drop 12).take 4) : Nat) : Int) := wrap_i64_nat (by omega)
  have w3 : IntKind.i64.wrap ((leN ((bs.drop 16).take 4) : Nat) : Int) = ((leN ((bs.drop 16).take 4) : Nat) : Int) := wrap_i64_nat (by omega)
  have RR := rhright_G ((hN bs : Nat) : Int) ((hK bs : Nat) : Int) ((hC bs : Nat) : Int)
  have l412 : ((4 : Int) ≤ 12) = True := eq_true (by omega)
  refine Zd rfl (by simp (maxSteps := 2000000) only [gs,gd,zlr,id,reduceIte,reduceCtorEq,zpa,zpb,zpc,zpd,zpe,zpf,zpg,zph,zpi,zpj,zpk,zpl,zpm,zpn,zpo,zpp, un_length, l12, l16, l20, un_drop, un_take, gc_archipelagoref1_Number, iq_archipelagoref1_Number, snapLL_un, T1, T2, T3, w2, w3]; rfl) ?_
  by_cases ho : headOk (hN bs) (hK bs) (hC bs)
  ·rw [if_pos ho]
   rw [decide_eq_true ho] at RR
   unfold hd hN hK hC at RR
   refine Zr rfl (by simp (maxSteps := 2000000) only [gs,zlr,reduceIte,reduceCtorEq,zpa,zpb,zpc,zpd,zpe,zpf,zpg,zph,zpi,zpj,zpk,zpl,zpm,zpn,zpo,zpp, gc_archipelagoref18_Right, RR]; rfl) (Zc rfl rfl (fun h => by cases h) (fun _ => ?_))
   exact Zr rfl (by simp (maxSteps := 2000000) only [gs,zlr,reduceIte,reduceCtorEq,zpa,zpb,zpc,zpd,zpe,zpf,zpg,zph,zpi,zpj,zpk,zpl,zpm,zpn,zpo,zpp]; rfl) (Zq rfl ⟨_, rfl, rfl⟩)
  ·rw [if_neg ho]
   rw [decide_eq_false ho] at RR
   unfold hd hN hK hC at RR
   refine Zr rfl (by simp (maxSteps := 2000000) only [gs,zlr,reduceIte,reduceCtorEq,zpa,zpb,zpc,zpd,zpe,zpf,zpg,zph,zpi,zpj,zpk,zpl,zpm,zpn,zpo,zpp, gc_archipelagoref18_Right, RR]; rfl) (Zc rfl rfl (fun _ => ?_) (fun h => by cases h))
   exact Zr rfl (by simp (maxSteps := 2000000) only [gs,zlr,reduceIte,reduceCtorEq,zpa,zpb,zpc,zpd,zpe,zpf,zpg,zph,zpi,zpj,zpk,zpl,zpm,zpn,zpo,zpp]; rfl) (Zq rfl ⟨_, rfl, rfl⟩)
end Go.Ab
