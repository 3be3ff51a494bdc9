/- IdxH, IdxI. -/
import Derived.Test.YtnikphikjkfooaaIrdF
import Derived.Test.YtnikphikjkfooaaIrdD
import Derived.Test.YtnikphikjkfooaaValN
namespace Go.Ab
open Go
open Nat renaming reduceEqDiff → zpa, reduceLT → zpb, reduceAdd → zpc, reduceSub → zpd, reduceLeDiff → zpe, reduceMul → zpf
open Int renaming reduceToNat → zpg, reduceLT → zph, reduceLE → zpi, reduceEq → zpj, reduceNe → zpk, reduceBEq → zpl, reduceBNe → zpm, reduceAdd → zpn, reduceSub → zpo, reduceNeg → zpp
open List renaming replicate → zlr
set_option linter.unusedVariables false
set_option linter.unusedSimpArgs false
set_option maxRecDepth 10000
theorem itaken_G {bs : List Nat} (hb : ∀ b ∈ bs, b < 256) (hl : bs.length ≤ 8) : GF gtab fid_index_take [.list false 1 (un .u8 bs)] [] 0 = some (.int .u64 (leN bs : Nat), []) := by
 refine fn_index_take rfl ?_
 simp only [genvOf]
 refine Zr rfl (by simp (maxSteps := 2000000) only [gs,zlr,reduceIte,reduceCtorEq,zpa,zpb,zpc,zpd,zpe,zpf,zpg,zph,zpi,zpj,zpk,zpl,zpm,zpn,zpo,zpp]; rfl) ?_
 refine Zr rfl (by simp (maxSteps := 2000000) only [gs,zlr,reduceIte,reduceCtorEq,zpa,zpb,zpc,zpd,zpe,zpf,zpg,zph,zpi,zpj,zpk,zpl,zpm,zpn,zpo,zpp]; rfl) ?_
 refine Zr rfl (by simp (maxSteps := 2000000) only [gs,zlr,reduceIte,reduceCtorEq,zpa,zpb,zpc,zpd,zpe,zpf,zpg,zph,zpi,zpj,zpk,zpl,zpm,zpn,zpo,zpp, un_length]; rfl) ?_
 refine Zw rfl (fun n env h => h = [] ∧ ∃ i : Nat, GEnv.get env 3 = .int .u64 (leN (bs.take i) : Nat) ∧ GEnv.get env 6 = .list false 1 (un .u8 bs) ∧ GEnv.get env 7 = .int .i64 (bs.length : Int) ∧ GEnv.get env 8 = .int .i64 (i : Int) ∧ n + i = bs.length) bs.length ⟨rfl, 0, rfl, rfl, rfl, rfl, by omega⟩ ?_
 rintro n env h ⟨rfl, i, k3, k6, k7, k8, hn⟩
 simp only [GEnv.keep, k3, k6, k7, k8]
 refine Zr rfl (by simp (maxSteps := 2000000) only [gs,zlr,reduceIte,reduceCtorEq,zpa,zpb,zpc,zpd,zpe,zpf,zpg,zph,zpi,zpj,zpk,zpl,zpm,zpn,zpo,zpp]; rfl) (Zp rfl rfl (fun hi => ?_) (fun hi => ?_))
 ·have g1 : bs[i]? = some (bs[i]'(by omega)) := List.getElem?_eq_getElem _
  have n0 : (0 : Int) ≤ (i : Int) := by omega
  have hbi := hb _ (List.getElem_mem (show i < bs.length by omega))
  have hlt : (bs.take i).length = i := by rw [List.length_take]; omega
  have hlo := leN_lt (bs.take i) fun b h => hb b (List.mem_of_mem_take h)
  rw [hlt, show (256 : Nat) = 2 ^ 8 by decide, ← Nat.pow_mul] at hlo
  have e8 : IntKind.i64.wrap (8 * (i : Int)) = ((8 * i : Nat) : Int) := by
   have := wrap_i64_nat (n := 8 * i) (by omega)
   rw [← this]; congr 1
  have hneg : (((8 * i : Nat) : Int) < 0) = False := eq_false (by omega)
  have hcv : IntKind.u64.wrap ((bs[i]'(by omega) : Nat) : Int) = ((bs[i]'(by omega) : Nat) : Int) := by rw [wrap_u64_nat, Nat.mod_eq_of_lt (by omega)]
  have hsh := shl_u64 (a := bs[i]'(by omega)) (s := 8 * i)
  have hpow : 2 ^ (8 * i) ≤ 2 ^ 56 := Nat.pow_le_pow_right (by omega) (by omega)
  have hbig : (bs[i]'(by omega)) * 2 ^ (8 * i) < 18446744073709551616 := by
   have : (bs[i]'(by omega)) * 2 ^ (8 * i) ≤ 255 * 2 ^ 56 := Nat.mul_le_mul (by omega) hpow
   omega
  rw [Nat.mod_eq_of_lt hbig] at hsh
  simp only [Int.toNat_natCast] at hsh
  have hor := or_u64 (a := leN (bs.take i)) (b := (bs[i]'(by omega)) * 2 ^ (8 * i)) (by omega) hbig
  rw [or_high hlo] at hor
  have hnew : leN (bs.take i) + (bs[i]'(by omega)) * 2 ^ (8 * i) = leN (bs.take (i + 1)) := by
   have e : bs.take (i + 1) = bs.take i ++ [bs[i]'(by omega)] := by rw [List.take_add_one, g1]; rfl
   rw [e, leN_append, hlt, show (256 : Nat) = 2 ^ 8 by decide, ← Nat.pow_mul]
   simp [leN, Nat.mul_comm]
  rw [hnew] at hor
  refine Zr rfl (by simp (maxSteps := 2000000) only [gs,zlr,reduceIte,reduceCtorEq,zpa,zpb,zpc,zpd,zpe,zpf,zpg,zph,zpi,zpj,zpk,zpl,zpm,zpn,zpo,zpp, n0, un_get g1]; rfl) ?_
  refine Zr rfl (by simp (maxSteps := 2000000) only [gs,zlr,reduceIte,reduceCtorEq,zpa,zpb,zpc,zpd,zpe,zpf,zpg,zph,zpi,zpj,zpk,zpl,zpm,zpn,zpo,zpp, hcv, e8, hneg, hsh, hor]; rfl) ?_
  refine Zr rfl (by simp (maxSteps := 2000000) only [gs,zlr,reduceIte,reduceCtorEq,zpa,zpb,zpc,zpd,zpe,zpf,zpg,zph,zpi,zpj,zpk,zpl,zpm,zpn,zpo,zpp, up64 (show i < 9223372036854775807 by omega)]; rfl) ?_
  exact Za rfl ⟨n - 1, by omega, rfl, i + 1, rfl, rfl, rfl, rfl, by omega⟩
 ·have : i = bs.length := by omega
  subst this
  rw [List.take_length] at *
  exact Zr rfl (by simp (maxSteps := 2000000) only [gs,zlr,reduceIte,reduceCtorEq,zpa,zpb,zpc,zpd,zpe,zpf,zpg,zph,zpi,zpj,zpk,zpl,zpm,zpn,zpo,zpp]; rfl) (Zq rfl ⟨_, rfl, rfl⟩)
def rowOf (b : List Nat) (i : Nat) : Row3 := (((leN ((b.drop (16 * i)).take 4) : Nat) : Int), IntKind.i64.wrap ((leN (((b.drop (16 * i)).drop 4).take 8) : Nat) : Int), ((leN (((b.drop (16 * i)).drop 12).take 4) : Nat) : Int))
def rowsOf (b : List Nat) (n : Nat) : List Row3 := (List.range n).map (rowOf b)
theorem rowsOf_succ (b : List Nat) (n : Nat) : rowsOf b (n + 1) = rowsOf b n ++ [rowOf b n] := by simp [rowsOf, List.range_succ]
theorem rowsOf_length (b : List Nat) (n : Nat) : (rowsOf b n).length = n := by simp [rowsOf]
theorem rowsOf_get {b : List Nat} {n i : Nat} (h : i < n) : (rowsOf b n)[i]? = some (rowOf b i) := by simp [rowsOf, List.getElem?_range h]
theorem rowsOf_getD {b : List Nat} {n i : Nat} (h : i < n) : (rowsOf b n).getD i (0, 0, 0) = rowOf b i := by rw [List.getD_eq_getElem?_getD, rowsOf_get h]; rfl
theorem rowOf_rng {b : List Nat} (h : ∀ x ∈ b, x < 256) (i : Nat) : 0 ≤ (rowOf b i).1 ∧ (rowOf b i).1 ≤ 4294967295 := by
 have := take4_lt (b := b.drop (16 * i)) fun x hx => h x (List.mem_of_mem_drop hx)
 unfold rowOf
 simp only
 omega
theorem offS_rng {b : List Nat} (h : ∀ x ∈ b, x < 256) {n : Nat} : ∀ i, i ≤ n → 24 ≤ offS (rowsOf b n) i ∧ offS (rowsOf b n) i ≤ 24 + 4294967295 * (i : Int)
 | 0, _ => by simp [offS]
 | i + 1, hi => by
  have ih := offS_rng h (n := n) i (by omega)
  have := rowOf_rng h i
  rw [offS, rowsOf_getD (by omega)]
  omega
inductive IxR where
 | bad (e : Int)
 | ok (R : List Row3)
def ixTail (bs : List Nat) (bl : Nat) : List Nat := bs.drop (bs.length - (16 * bl + 8))
def ixP (bs : List Nat) (bl : Nat) : List Nat := (crcBody (ixTail bs bl)).take (16 * bl)
def rdIx (bs : List Nat) (bl : Nat) : IxR :=
 if bs.length < 24 + (16 * bl + 8) then .bad 20
 else if crcOk (ixTail bs bl) = false then .bad 28
 else if (crcBody (ixTail bs bl)).drop (16 * bl) ≠ ixMagic then .bad 27
 else if okN (rowsOf (ixP bs bl) bl) bl = true ∧ offS (rowsOf (ixP bs bl) bl) bl = ((bs.length - (16 * bl + 8) : Nat) : Int) then .ok (rowsOf (ixP bs bl) bl) else .bad 21
def IxIs (v : U) : IxR → Prop
 | .bad e => v = .tup [.nils, .int .i64 e]
 | .ok R => ∃ w, isRw w R ∧ v = .tup [w, .int .i64 0]
def isRwo (u : U) (R : List Row3) : Prop := (u = .nils ∧ R = []) ∨ u = .own 3 (ur R)
theorem iread_short {bs : List Nat} {n k c : Int} {bl : Nat} (hB : GF gtab fid_head_Blocks [hd n k c] [] 0 = some (.int .i64 ((bl : Nat) : Int), [])) (hbl : bl ≤ 4294967296) (hl : bs.length < 24 + (16 * bl + 8)) {w : U} (hw : w = .list false 1 (un .u8 bs) ∨ (w = .nils ∧ bs = [])) :
  GF gtab fid_index_Read [w, hd n k c] [] 0 = some (.tup [.nils, .int .i64 20], []) := by
 refine fn_index_Read rfl ?_
 simp only [genvOf, hd]
 unfold hd at hB
 have w1 : IntKind.i64.wrap ((bl : Int) * 16) = ((16 * bl : Nat) : Int) := by rw [show (bl : Int) * 16 = ((16 * bl : Nat) : Int) by omega]; exact wrap_i64_nat (by omega)
 have w2 : IntKind.i64.wrap (((16 * bl : Nat) : Int) + 8) = ((16 * bl + 8 : Nat) : Int) := wrap_i64_nat (n := 16 * bl + 8) (by omega)
 have w3 : IntKind.i64.wrap (((bs.length : Nat) : Int) - 24) = ((bs.length : Nat) : Int) - 24 := wrap_i64 (by omega) (by omega)
 have c1 : (((bs.length : Nat) : Int) - 24 < ((16 * bl + 8 : Nat) : Int)) = True := eq_true (by omega)
 refine Zr rfl (by simp (maxSteps := 2000000) only [gs,zlr,reduceIte,reduceCtorEq,zpa,zpb,zpc,zpd,zpe,zpf,zpg,zph,zpi,zpj,zpk,zpl,zpm,zpn,zpo,zpp]; rfl) ?_
 refine Zr rfl (by simp (maxSteps := 2000000) only [gs,zlr,reduceIte,reduceCtorEq,zpa,zpb,zpc,zpd,zpe,zpf,zpg,zph,zpi,zpj,zpk,zpl,zpm,zpn,zpo,zpp, gc_head_Blocks, hB, w1, w2]; rfl) ?_
 rcases hw with rfl | ⟨rfl, rfl⟩
 ·refine Zr rfl (by simp (maxSteps := 2000000) only [gs,zlr,reduceIte,reduceCtorEq,zpa,zpb,zpc,zpd,zpe,zpf,zpg,zph,zpi,zpj,zpk,zpl,zpm,zpn,zpo,zpp, un_length, w3, c1]; rfl) (Zc rfl rfl (fun _ => ?_) (fun h => by cases h))
  exact Zr rfl (by simp (maxSteps := 2000000) only [gs,zlr,reduceIte,reduceCtorEq,zpa,zpb,zpc,zpd,zpe,zpf,zpg,zph,zpi,zpj,zpk,zpl,zpm,zpn,zpo,zpp]; rfl) (Zq rfl ⟨_, rfl, rfl⟩)
 ·have w3' : IntKind.i64.wrap (0 - 24) = -24 := rfl
  have c1' : ((-24 : Int) < ((16 * bl + 8 : Nat) : Int)) = True := eq_true (by omega)
  refine Zr rfl (by simp (maxSteps := 2000000) only [gs,zlr,reduceIte,reduceCtorEq,zpa,zpb,zpc,zpd,zpe,zpf,zpg,zph,zpi,zpj,zpk,zpl,zpm,zpn,zpo,zpp, w3', c1']; rfl) (Zc rfl rfl (fun _ => ?_) (fun h => by cases h))
  exact Zr rfl (by simp (maxSteps := 2000000) only [gs,zlr,reduceIte,reduceCtorEq,zpa,zpb,zpc,zpd,zpe,zpf,zpg,zph,zpi,zpj,zpk,zpl,zpm,zpn,zpo,zpp]; rfl) (Zq rfl ⟨_, rfl, rfl⟩)
set_option maxHeartbeats 4000000 in
theorem iread_G {bs : List Nat} {n k c : Int} {bl : Nat} (hB : GF gtab fid_head_Blocks [hd n k c] [] 0 = some (.int .i64 ((bl : Nat) : Int), [])) (hbl : bl ≤ 4294967296) (hb : ∀ b ∈ bs, b < 256) (hl : bs.length ≤ 10000) :
  ∃ v, IxIs v (rdIx bs bl) ∧ GF gtab fid_index_Read [.list false 1 (un .u8 bs), hd n k c] [] 0 = some (v, []) := by
 by_cases hsh : bs.length < 24 + (16 * bl + 8)
 ·exact ⟨_, by rw [rdIx, if_pos hsh]; rfl, iread_short hB hbl hsh (.inl rfl)⟩
 have key : ∃ u h', GF gtab fid_index_Read [.list false 1 (un .u8 bs), hd n k c] [] 0 = some (u, h') ∧ h' = [] ∧ IxIs u (rdIx bs bl) := by
  have hX : rdIx bs bl = (if crcOk (ixTail bs bl) = false then .bad 28
    else if (crcBody (ixTail bs bl)).drop (16 * bl) ≠ ixMagic then .bad 27
    else if okN (rowsOf (ixP bs bl) bl) bl = true ∧ offS (rowsOf (ixP bs bl) bl) bl = ((bs.length - (16 * bl + 8) : Nat) : Int) then .ok (rowsOf (ixP bs bl) bl) else .bad 21) := by rw [rdIx, if_neg hsh]
  refine fnR_index_Read rfl ?_
  simp only [genvOf, hd]
  unfold hd at hB
  have w1 : IntKind.i64.wrap ((bl : Int) * 16) = ((16 * bl : Nat) : Int) := by rw [show (bl : Int) * 16 = ((16 * bl : Nat) : Int) by omega]; exact wrap_i64_nat (by omega)
  have w2 : IntKind.i64.wrap (((16 * bl : Nat) : Int) + 8) = ((16 * bl + 8 : Nat) : Int) := wrap_i64_nat (n := 16 * bl + 8) (by omega)
  have w3 : IntKind.i64.wrap (((bs.length : Nat) : Int) - 24) = ((bs.length : Nat) : Int) - 24 := wrap_i64 (by omega) (by omega)
  have c1 : (((bs.length : Nat) : Int) - 24 < ((16 * bl + 8 : Nat) : Int)) = False := eq_false (by omega)
  have w4 : IntKind.i64.wrap (((bs.length : Nat) : Int) - ((16 * bl + 8 : Nat) : Int)) = ((bs.length - (16 * bl + 8) : Nat) : Int) := by rw [wrap_i64 (by omega) (by omega)]; omega
  have p1 : ((0 : Int) ≤ ((bs.length - (16 * bl + 8) : Nat) : Int)) = True := eq_true (by omega)
  have p2 : (((bs.length - (16 * bl + 8) : Nat) : Int) ≤ ((bs.length : Nat) : Int)) = True := eq_true (by omega)
  have p3 : (((bs.length : Nat) : Int) ≤ ((bs.length : Nat) : Int)) = True := eq_true (by omega)
  have p4 : (((bs.length : Nat) : Int) - ((bs.length - (16 * bl + 8) : Nat) : Int)).toNat = 16 * bl + 8 := by omega
  have hE : (bs.drop (bs.length - (16 * bl + 8))).take (16 * bl + 8) = ixTail bs bl := List.take_of_length_le (by rw [List.length_drop]; omega)
  have hEl : (ixTail bs bl).length = 16 * bl + 8 := by unfold ixTail; rw [List.length_drop]; omega
  have hEb : ∀ b ∈ ixTail bs bl, b < 256 := fun b h => hb b (List.mem_of_mem_drop h)
  have O := open_G hEb (by rw [hEl]; omega)
  refine Zr rfl (by simp (maxSteps := 2000000) only [gs,zlr,reduceIte,reduceCtorEq,zpa,zpb,zpc,zpd,zpe,zpf,zpg,zph,zpi,zpj,zpk,zpl,zpm,zpn,zpo,zpp]; rfl) ?_
  refine Zr rfl (by simp (maxSteps := 2000000) only [gs,zlr,reduceIte,reduceCtorEq,zpa,zpb,zpc,zpd,zpe,zpf,zpg,zph,zpi,zpj,zpk,zpl,zpm,zpn,zpo,zpp, gc_head_Blocks, hB, w1, w2]; rfl) ?_
  refine Zr rfl (by simp (maxSteps := 2000000) only [gs,zlr,reduceIte,reduceCtorEq,zpa,zpb,zpc,zpd,zpe,zpf,zpg,zph,zpi,zpj,zpk,zpl,zpm,zpn,zpo,zpp, un_length, w3, c1]; rfl) (Zc rfl rfl (fun h => by cases h) (fun _ => ?_))
  cases hok : crcOk (ixTail bs bl) with
  | false =>
   rw [hok, if_pos rfl] at hX
   rw [hok, if_neg (by simp)] at O
   refine Zr rfl (by simp (maxSteps := 2000000) only [gs,zlr,reduceIte,reduceCtorEq,zpa,zpb,zpc,zpd,zpe,zpf,zpg,zph,zpi,zpj,zpk,zpl,zpm,zpn,zpo,zpp, un_length, w4, p1, p2, p3, p4, un_drop, un_take, Int.toNat_natCast, hE, snapLL_un, gc_crc_Open, O]; rfl) ?_
   refine Zr rfl (by simp (maxSteps := 2000000) only [gs,zlr,reduceIte,reduceCtorEq,zpa,zpb,zpc,zpd,zpe,zpf,zpg,zph,zpi,zpj,zpk,zpl,zpm,zpn,zpo,zpp]; rfl) (Zc rfl rfl (fun _ => ?_) (fun h => by cases h))
   exact Zr rfl (by simp (maxSteps := 2000000) only [gs,zlr,reduceIte,reduceCtorEq,zpa,zpb,zpc,zpd,zpe,zpf,zpg,zph,zpi,zpj,zpk,zpl,zpm,zpn,zpo,zpp]; rfl) (Zq rfl ⟨_, rfl, _, _, rfl, rfl, by rw [hX]; rfl⟩)
  | true =>
   rw [hok, if_neg (by simp)] at hX
   rw [hok, if_pos rfl] at O
   have hBl : (crcBody (ixTail bs bl)).length = 16 * bl + 4 := by unfold crcBody; rw [List.length_take, hEl]; omega
   have hBb : ∀ b ∈ crcBody (ixTail bs bl), b < 256 := fun b h => hEb b (List.mem_of_mem_take h)
   obtain ⟨body, hbody⟩ : ∃ body, body = crcBody (ixTail bs bl) := ⟨_, rfl⟩
   have hP : ixP bs bl = body.take (16 * bl) := by rw [hbody]; rfl
   rw [← hbody] at hX O hBl hBb
   have w5 : IntKind.i64.wrap (((16 * bl + 4 : Nat) : Int) - 4) = ((16 * bl : Nat) : Int) := by rw [wrap_i64 (by omega) (by omega)]; omega
   have q1 : ((0 : Int) ≤ ((16 * bl : Nat) : Int)) = True := eq_true (by omega)
   have q2 : (((16 * bl : Nat) : Int) ≤ ((16 * bl + 4 : Nat) : Int)) = True := eq_true (by omega)
   have q3 : (((16 * bl + 4 : Nat) : Int) ≤ ((16 * bl + 4 : Nat) : Int)) = True := eq_true (by omega)
   have q4 : (((16 * bl + 4 : Nat) : Int) - ((16 * bl : Nat) : Int)).toNat = 4 := by omega
   have hM : (body.drop (16 * bl)).take 4 = body.drop (16 * bl) := List.take_of_length_le (by rw [List.length_drop]; omega)
   have hmg : ((body.drop (16 * bl)).map fun (n : Nat) => (n : Int)) = [88, 71, 84, 49] ↔ body.drop (16 * bl) = ixMagic := by
    constructor
    ·intro h; exact hmap_inj (b := ixMagic) (h.trans rfl)
    ·intro h; rw [h]; rfl
   refine Zr rfl (by simp (maxSteps := 2000000) only [gs,zlr,reduceIte,reduceCtorEq,zpa,zpb,zpc,zpd,zpe,zpf,zpg,zph,zpi,zpj,zpk,zpl,zpm,zpn,zpo,zpp, un_length, w4, p1, p2, p3, p4, un_drop, un_take, Int.toNat_natCast, hE, snapLL_un, gc_crc_Open, O]; rfl) ?_
   refine Zr rfl (by simp (maxSteps := 2000000) only [gs,zlr,reduceIte,reduceCtorEq,zpa,zpb,zpc,zpd,zpe,zpf,zpg,zph,zpi,zpj,zpk,zpl,zpm,zpn,zpo,zpp]; rfl) (Zc rfl rfl (fun h => by cases h) (fun _ => ?_))
   refine Zr rfl (by simp (maxSteps := 2000000) only [gs,zlr,reduceIte,reduceCtorEq,zpa,zpb,zpc,zpd,zpe,zpf,zpg,zph,zpi,zpj,zpk,zpl,zpm,zpn,zpo,zpp, un_length, hBl, w5]; rfl) ?_
   by_cases hm : body.drop (16 * bl) = ixMagic
   case neg =>
    rw [if_pos hm] at hX
    have e : (((body.drop (16 * bl)).map fun (n : Nat) => (n : Int)) == [88, 71, 84, 49]) = false := beq_eq_false_iff_ne.2 fun h => hm (hmg.1 h)
    refine Zr rfl (by simp (maxSteps := 2000000) only [gs,zlr,reduceIte,reduceCtorEq,zpa,zpb,zpc,zpd,zpe,zpf,zpg,zph,zpi,zpj,zpk,zpl,zpm,zpn,zpo,zpp, un_length, hBl, q1, q2, q3, q4, un_drop, un_take, Int.toNat_natCast, hM, gbytesOf_un, e]; rfl) (Zc rfl rfl (fun _ => ?_) (fun h => by cases h))
    exact Zr rfl (by simp (maxSteps := 2000000) only [gs,zlr,reduceIte,reduceCtorEq,zpa,zpb,zpc,zpd,zpe,zpf,zpg,zph,zpi,zpj,zpk,zpl,zpm,zpn,zpo,zpp]; rfl) (Zq rfl ⟨_, rfl, _, _, rfl, rfl, by rw [hX]; rfl⟩)
   rw [if_neg (fun h => h hm)] at hX
   have e : (((body.drop (16 * bl)).map fun (n : Nat) => (n : Int)) == [88, 71, 84, 49]) = true := by rw [hmg.2 hm]; rfl
   have hP2 : ∀ b ∈ ixP bs bl, b < 256 := fun b h => by rw [hP] at h; exact hBb b (List.mem_of_mem_take h)
   have hPl : (ixP bs bl).length = 16 * bl := by rw [hP, List.length_take]; omega
   obtain ⟨P, hPP⟩ : ∃ P, P = ixP bs bl := ⟨_, rfl⟩
   rw [← hPP] at hX hP hP2 hPl
   have w6 : IntKind.i64.wrap (((bs.length : Nat) : Int) - 24 - ((16 * bl + 8 : Nat) : Int)) = ((bs.length : Nat) : Int) - 24 - ((16 * bl + 8 : Nat) : Int) := wrap_i64 (by omega) (by omega)
   have q5 : (((16 * bl : Nat) : Int) - 0).toNat = 16 * bl := by omega
   refine Zr rfl (by simp (maxSteps := 2000000) only [gs,zlr,reduceIte,reduceCtorEq,zpa,zpb,zpc,zpd,zpe,zpf,zpg,zph,zpi,zpj,zpk,zpl,zpm,zpn,zpo,zpp, un_length, hBl, q1, q2, q3, q4, un_drop, un_take, Int.toNat_natCast, hM, gbytesOf_un, e]; rfl) (Zc rfl rfl (fun h => by cases h) (fun _ => ?_))
   refine Zr rfl (by simp (maxSteps := 2000000) only [gs,zlr,reduceIte,reduceCtorEq,zpa,zpb,zpc,zpd,zpe,zpf,zpg,zph,zpi,zpj,zpk,zpl,zpm,zpn,zpo,zpp]; rfl) ?_
   refine Zr rfl (by simp (maxSteps := 2000000) only [gs,zlr,reduceIte,reduceCtorEq,zpa,zpb,zpc,zpd,zpe,zpf,zpg,zph,zpi,zpj,zpk,zpl,zpm,zpn,zpo,zpp, un_length, w3, w6]; rfl) ?_
   refine Zr rfl (by simp (maxSteps := 2000000) only [gs,zlr,reduceIte,reduceCtorEq,zpa,zpb,zpc,zpd,zpe,zpf,zpg,zph,zpi,zpj,zpk,zpl,zpm,zpn,zpo,zpp, un_length, hBl, q1, q2, q5, un_take, Int.sub_zero, Int.toNat_natCast]; rfl) ?_
   rw [← hP]
   refine Zw rfl (fun m env h => ∃ i : Nat, m + i = bl ∧ 1 ≤ h.length ∧ isRwo (GEnv.get env 10) (rowsOf P i) ∧ GEnv.get env 11 = .int .i64 (((bs.length : Nat) : Int) - ((16 * bl + 8 : Nat) : Int) - offS (rowsOf P bl) i) ∧ GEnv.get env 12 = .list false 1 (un .u8 (P.drop (16 * i)))) bl ⟨0, by omega, by simp, .inl ⟨rfl, rfl⟩, by rw [offS]; simp only [GEnv.get, if_true, Nat.reduceEqDiff, if_false]; congr 1; omega, rfl⟩ ?_
   rintro m env h ⟨i, hm, hh1, hr, k11, k12⟩
   simp only [GEnv.keep, k11, k12]
   generalize GEnv.get env 10 = s10 at hr ⊢
   have hDl : (P.drop (16 * i)).length = 16 * (bl - i) := by rw [List.length_drop, hPl]; omega
   by_cases hi : i < bl
   ·have g0 : (((16 * (bl - i) : Nat) : Int) > 0) = True := eq_true (by omega)
    obtain ⟨D, hD⟩ : ∃ D, D = P.drop (16 * i) := ⟨_, rfl⟩
    have hDb : ∀ b ∈ D, b < 256 := fun b h => by rw [hD] at h; exact hP2 b (List.mem_of_mem_drop h)
    rw [← hD] at hDl ⊢
    have T1 := itaken_G (bs := D.take 4) (fun b h => hDb b (List.mem_of_mem_take h)) (by rw [List.length_take]; omega)
    have T2 := itaken_G (bs := (D.drop 4).take 8) (fun b h => hDb b (List.mem_of_mem_drop (List.mem_of_mem_take h))) (by rw [List.length_take]; omega)
    have T3 := itaken_G (bs := (D.drop 12).take 4) (fun b h => hDb b (List.mem_of_mem_drop (List.mem_of_mem_take h))) (by rw [List.length_take]; omega)
    have b1 := take4_lt hDb
    have b3 := take4_lt (b := D.drop 12) fun b h => hDb b (List.mem_of_mem_drop h)
    have v1 : IntKind.i64.wrap ((leN (D.take 4) : Nat) : Int) = ((leN (D.take 4) : Nat) : Int) := wrap_i64_nat (by omega)
    have v3 : IntKind.u32.wrap ((leN ((D.drop 12).take 4) : Nat) : Int) = ((leN ((D.drop 12).take 4) : Nat) : Int) := by rw [wrap_u32_nat, Nat.mod_eq_of_lt b3]
    have z1 : ((4 : Int) ≤ ((16 * (bl - i) : Nat) : Int)) = True := eq_true (by omega)
    have z2 : ((12 : Int) ≤ ((16 * (bl - i) : Nat) : Int)) = True := eq_true (by omega)
    have z3 : ((16 : Int) ≤ ((16 * (bl - i) : Nat) : Int)) = True := eq_true (by omega)
    have z4 : ((4 : Int) ≤ 12) = True := eq_true (by omega)
    have z5 : ((12 : Int) ≤ 16) = True := eq_true (by omega)
    have hro : rowOf P i = (((leN (D.take 4) : Nat) : Int), IntKind.i64.wrap ((leN ((D.drop 4).take 8) : Nat) : Int), ((leN ((D.drop 12).take 4) : Nat) : Int)) := by rw [hD]; rfl
    refine Zr rfl (by simp (maxSteps := 2000000) only [gs,zlr,reduceIte,reduceCtorEq,zpa,zpb,zpc,zpd,zpe,zpf,zpg,zph,zpi,zpj,zpk,zpl,zpm,zpn,zpo,zpp, un_length, hDl, g0]; rfl) (Zc rfl rfl (fun _ => ?_) (fun h => by cases h))
    have ge : ∀ x : GObj, (h ++ [x])[h.length]? = some x := fun x => by simp
    have gs' : ∀ x y : GObj, (h ++ [x]).set h.length y = h ++ [y] := fun x y => by simp
    refine Zd rfl (by simp (maxSteps := 2000000) only [gs,gd,zlr,id,reduceIte,reduceCtorEq,zpa,zpb,zpc,zpd,zpe,zpf,zpg,zph,zpi,zpj,zpk,zpl,zpm,zpn,zpo,zpp, un_length, hDl, z1, z2, z3, z4, z5, un_drop, un_take, Int.sub_zero, snapLL_un, gc_index_take, iq_index_take, T1, T2, T3, v1, v3, ge, gs', Nat.zero_le]; rfl) ?_
    have hoff : offS (rowsOf P bl) (i + 1) = offS (rowsOf P bl) i + ((leN (D.take 4) : Nat) : Int) := by rw [offS, rowsOf_getD hi, hro]
    have hrg := offS_rng hP2 (n := bl) (i + 1) (by omega)
    have w7 : IntKind.i64.wrap (((bs.length : Nat) : Int) - ((16 * bl + 8 : Nat) : Int) - offS (rowsOf P bl) i - ((leN (D.take 4) : Nat) : Int)) = ((bs.length : Nat) : Int) - ((16 * bl + 8 : Nat) : Int) - offS (rowsOf P bl) (i + 1) := by
     rw [hoff, wrap_i64 (by omega) (by omega)]; omega
    have hs1 : ur (rowsOf P i) ++ [[.int .i64 ((leN (D.take 4) : Nat) : Int), .int .i64 (IntKind.i64.wrap ((leN ((D.drop 4).take 8) : Nat) : Int)), .int .u32 ((leN ((D.drop 12).take 4) : Nat) : Int)]] = ur (rowsOf P (i + 1)) := by rw [ur_snoc, rowsOf_succ, hro]
    have r0 : (1 * 24 ≤ room) = True := eq_true (by unfold room; omega)
    have r1 : ((i + 1) * 24 ≤ room) = True := eq_true (by unfold room; omega)
    have hDd : D.drop 16 = P.drop (16 * (i + 1)) := by rw [hD, List.drop_drop]; rfl
    have hDt : (D.drop 16).take (16 * (bl - i) - 16) = P.drop (16 * (i + 1)) := by rw [List.take_of_length_le (by rw [List.length_drop]; omega), hDd]
    have z6 : ((((16 * (bl - i) : Nat) : Int)) ≤ ((16 * (bl - i) : Nat) : Int)) = True := eq_true (by omega)
    have z7 : (((16 * (bl - i) : Nat) : Int) - 16).toNat = 16 * (bl - i) - 16 := by omega
    rcases hr with ⟨rfl, h0⟩ | rfl
    ·have hi0 : i = 0 := by have := congrArg List.length h0; rwa [rowsOf_length] at this
     have hs0 : ([[.int .i64 ((leN (D.take 4) : Nat) : Int), .int .i64 (IntKind.i64.wrap ((leN ((D.drop 4).take 8) : Nat) : Int)), .int .u32 ((leN ((D.drop 12).take 4) : Nat) : Int)]] : List (List U)) = ur (rowsOf P (i + 1)) := by rw [← hs1, h0]; rfl
     have hl1 : (ur (rowsOf P (i + 1))).length = 1 := by rw [ur_length, rowsOf_length, hi0]
     refine Zd rfl (by simp (maxSteps := 2000000) only [gs,gd,zlr,id,reduceIte,reduceCtorEq,zpa,zpb,zpc,zpd,zpe,zpf,zpg,zph,zpi,zpj,zpk,zpl,zpm,zpn,zpo,zpp, ge, hs0, hl1, r0, w7]; rfl) ?_
     refine Zr rfl (by simp (maxSteps := 2000000) only [gs,zlr,reduceIte,reduceCtorEq,zpa,zpb,zpc,zpd,zpe,zpf,zpg,zph,zpi,zpj,zpk,zpl,zpm,zpn,zpo,zpp, un_length, hDl, z3, z6, z7, un_drop, un_take, hDt]; rfl) ?_
     exact Za rfl ⟨m - 1, by omega, i + 1, by omega, by simp, .inr rfl, rfl, rfl⟩
    ·refine Zd rfl (by simp (maxSteps := 2000000) only [gs,gd,zlr,id,reduceIte,reduceCtorEq,zpa,zpb,zpc,zpd,zpe,zpf,zpg,zph,zpi,zpj,zpk,zpl,zpm,zpn,zpo,zpp, ge, ur_length, rowsOf_length, hs1, r1, w7]; rfl) ?_
     refine Zr rfl (by simp (maxSteps := 2000000) only [gs,zlr,reduceIte,reduceCtorEq,zpa,zpb,zpc,zpd,zpe,zpf,zpg,zph,zpi,zpj,zpk,zpl,zpm,zpn,zpo,zpp, un_length, hDl, z3, z6, z7, un_drop, un_take, hDt]; rfl) ?_
     exact Za rfl ⟨m - 1, by omega, i + 1, by omega, by simp, .inr rfl, rfl, rfl⟩
   ·have hib : bl = i := by omega
    subst hib
    have g0 : (((16 * (bl - bl) : Nat) : Int) > 0) = False := eq_false (by omega)
    refine Zr rfl (by simp (maxSteps := 2000000) only [gs,zlr,reduceIte,reduceCtorEq,zpa,zpb,zpc,zpd,zpe,zpf,zpg,zph,zpi,zpj,zpk,zpl,zpm,zpn,zpo,zpp, un_length, hDl, g0]; rfl) (Zc rfl rfl (fun h => by cases h) (fun _ => ?_))
    have hRl := rowsOf_length P bl
    have RI : GF gtab fid_index_Right [.list false 3 (ur (rowsOf P bl))] [] 0 = some (.bool (okN (rowsOf P bl) bl), []) := by
     have := rightAny_G (R := rowsOf P bl) (by rw [hRl]; omega)
     rwa [hRl] at this
    have hfin : (((bs.length : Nat) : Int) - ((16 * bl + 8 : Nat) : Int) - offS (rowsOf P bl) bl != 0) = !decide (offS (rowsOf P bl) bl = ((bs.length - (16 * bl + 8) : Nat) : Int)) := by
     by_cases h : offS (rowsOf P bl) bl = ((bs.length - (16 * bl + 8) : Nat) : Int)
     ·rw [decide_eq_true h, Bool.not_true]
      refine bne_eq_false_iff_eq.2 ?_
      omega
     ·rw [decide_eq_false h, Bool.not_false]
      refine bne_iff_ne.2 fun h2 => h ?_
      omega
    have RN : rowsOf P bl = [] → GF gtab fid_index_Right [.nils] [] 0 = some (.bool (okN (rowsOf P bl) bl), []) := fun h => by
     have hbl0 : bl = 0 := by rw [← hRl, h]; rfl
     rw [hbl0]; exact rightN_G
    cases hokn : okN (rowsOf P bl) bl with
    | false =>
     rw [hokn] at RI RN
     rw [hokn, if_neg (by simp)] at hX
     rcases hr with ⟨rfl, h0⟩ | rfl
     ·have RN := RN h0
      refine Zr rfl (by simp (maxSteps := 2000000) only [gs,zlr,reduceIte,reduceCtorEq,zpa,zpb,zpc,zpd,zpe,zpf,zpg,zph,zpi,zpj,zpk,zpl,zpm,zpn,zpo,zpp, gc_index_Right, RN]; rfl) (Zc rfl rfl (fun _ => ?_) (fun h => by cases h))
      exact Zr rfl (by simp (maxSteps := 2000000) only [gs,zlr,reduceIte,reduceCtorEq,zpa,zpb,zpc,zpd,zpe,zpf,zpg,zph,zpi,zpj,zpk,zpl,zpm,zpn,zpo,zpp]; rfl) (Zq rfl ⟨_, rfl, _, _, rfl, rfl, by rw [hX]; rfl⟩)
     ·refine Zr rfl (by simp (maxSteps := 2000000) only [gs,zlr,reduceIte,reduceCtorEq,zpa,zpb,zpc,zpd,zpe,zpf,zpg,zph,zpi,zpj,zpk,zpl,zpm,zpn,zpo,zpp, snapLL_ur, gc_index_Right, RI]; rfl) (Zc rfl rfl (fun _ => ?_) (fun h => by cases h))
      exact Zr rfl (by simp (maxSteps := 2000000) only [gs,zlr,reduceIte,reduceCtorEq,zpa,zpb,zpc,zpd,zpe,zpf,zpg,zph,zpi,zpj,zpk,zpl,zpm,zpn,zpo,zpp]; rfl) (Zq rfl ⟨_, rfl, _, _, rfl, rfl, by rw [hX]; rfl⟩)
    | true =>
     rw [hokn] at RI RN
     rw [hokn] at hX
     by_cases hz : offS (rowsOf P bl) bl = ((bs.length - (16 * bl + 8) : Nat) : Int)
     ·rw [decide_eq_true hz, Bool.not_true] at hfin
      rw [if_pos ⟨rfl, hz⟩] at hX
      rcases hr with ⟨rfl, h0⟩ | rfl
      ·have RN := RN h0
       refine Zr rfl (by simp (maxSteps := 2000000) only [gs,zlr,reduceIte,reduceCtorEq,zpa,zpb,zpc,zpd,zpe,zpf,zpg,zph,zpi,zpj,zpk,zpl,zpm,zpn,zpo,zpp, gc_index_Right, RN, hfin]; rfl) (Zc rfl rfl (fun h => by cases h) (fun _ => ?_))
       exact Zr rfl (by simp (maxSteps := 2000000) only [gs,zlr,reduceIte,reduceCtorEq,zpa,zpb,zpc,zpd,zpe,zpf,zpg,zph,zpi,zpj,zpk,zpl,zpm,zpn,zpo,zpp]; rfl) (Zq rfl ⟨_, rfl, _, _, rfl, rfl, by rw [hX]; exact ⟨.nils, .inr ⟨rfl, h0⟩, rfl⟩⟩)
      ·refine Zr rfl (by simp (maxSteps := 2000000) only [gs,zlr,reduceIte,reduceCtorEq,zpa,zpb,zpc,zpd,zpe,zpf,zpg,zph,zpi,zpj,zpk,zpl,zpm,zpn,zpo,zpp, snapLL_ur, gc_index_Right, RI, hfin]; rfl) (Zc rfl rfl (fun h => by cases h) (fun _ => ?_))
       refine Zr rfl (by simp (maxSteps := 2000000) only [gs,zlr,reduceIte,reduceCtorEq,zpa,zpb,zpc,zpd,zpe,zpf,zpg,zph,zpi,zpj,zpk,zpl,zpm,zpn,zpo,zpp]; rfl) (Zq rfl ⟨_, rfl, ?_⟩)
       simp only [gfin, outs, U.out, U.handed, U.share, U.rf, GEnv.get, if_true, Nat.reduceEqDiff, if_false, rfLL_ur, Option.map_some]
       exact ⟨_, _, rfl, rfl, by rw [hX]; exact ⟨_, .inl rfl, rfl⟩⟩
     ·rw [decide_eq_false hz, Bool.not_false] at hfin
      rw [if_neg (fun h => hz h.2)] at hX
      rcases hr with ⟨rfl, h0⟩ | rfl
      ·have RN := RN h0
       refine Zr rfl (by simp (maxSteps := 2000000) only [gs,zlr,reduceIte,reduceCtorEq,zpa,zpb,zpc,zpd,zpe,zpf,zpg,zph,zpi,zpj,zpk,zpl,zpm,zpn,zpo,zpp, gc_index_Right, RN, hfin]; rfl) (Zc rfl rfl (fun _ => ?_) (fun h => by cases h))
       exact Zr rfl (by simp (maxSteps := 2000000) only [gs,zlr,reduceIte,reduceCtorEq,zpa,zpb,zpc,zpd,zpe,zpf,zpg,zph,zpi,zpj,zpk,zpl,zpm,zpn,zpo,zpp]; rfl) (Zq rfl ⟨_, rfl, _, _, rfl, rfl, by rw [hX]; rfl⟩)
      ·refine Zr rfl (by simp (maxSteps := 2000000) only [gs,zlr,reduceIte,reduceCtorEq,zpa,zpb,zpc,zpd,zpe,zpf,zpg,zph,zpi,zpj,zpk,zpl,zpm,zpn,zpo,zpp, snapLL_ur, gc_index_Right, RI, hfin]; rfl) (Zc rfl rfl (fun _ => ?_) (fun h => by cases h))
       exact Zr rfl (by simp (maxSteps := 2000000) only [gs,zlr,reduceIte,reduceCtorEq,zpa,zpb,zpc,zpd,zpe,zpf,zpg,zph,zpi,zpj,zpk,zpl,zpm,zpn,zpo,zpp]; rfl) (Zq rfl ⟨_, rfl, _, _, rfl, rfl, by rw [hX]; rfl⟩)
 obtain ⟨u, h', h1, rfl, h2⟩ := key
 exact ⟨u, h2, h1⟩
theorem wrap_i64_hi {x : Nat} (h1 : 9223372036854775808 ≤ x) (h2 : x < 18446744073709551616) : IntKind.i64.wrap (x : Int) = (x : Int) - 18446744073709551616 := by
 simp only [IntKind.wrap, show (2 : Int) ^ IntKind.i64.bits = 18446744073709551616 from rfl, show (2 : Int) ^ (IntKind.i64.bits - 1) = 9223372036854775808 from rfl, show IntKind.i64.signed = true from rfl, Bool.true_and, decide_eq_true_eq]
 split <;> omega
theorem rread_short {bs : List Nat} {n k c : Int} {bl : Nat} (hB : GF gtab fid_archipelagoref18_Blocks [hd n k c] [] 0 = some (.int .i64 ((bl : Nat) : Int), [])) (hbl : bl ≤ 4294967296) (hl : bs.length < 24 + (16 * bl + 8)) {w : U} (hw : w = .list false 1 (un .u8 bs) ∨ (w = .nils ∧ bs = [])) :
  GF gtab fid_archipelagoref18_RowsRead [w, hd n k c] [] 0 = some (.tup [.nils, .int .i64 20], []) := by
 refine fn_archipelagoref18_RowsRead rfl ?_
 simp only [genvOf, hd]
 unfold hd at hB
 have w1 : IntKind.i64.wrap ((bl : Int) * 16) = ((16 * bl : Nat) : Int) := by rw [show (bl : Int) * 16 = ((16 * bl : Nat) : Int) by omega]; exact wrap_i64_nat (by omega)
 have w2 : IntKind.i64.wrap (((bs.length : Nat) : Int) - ((16 * bl : Nat) : Int)) = ((bs.length : Nat) : Int) - ((16 * bl : Nat) : Int) := wrap_i64 (by omega) (by omega)
 have w3 : IntKind.i64.wrap (((bs.length : Nat) : Int) - ((16 * bl : Nat) : Int) - 8) = ((bs.length : Nat) : Int) - ((16 * bl : Nat) : Int) - 8 := wrap_i64 (by omega) (by omega)
 have c1 : (((bs.length : Nat) : Int) - ((16 * bl : Nat) : Int) - 8 < 24) = True := eq_true (by omega)
 refine Zr rfl (by simp (maxSteps := 2000000) only [gs,zlr,reduceIte,reduceCtorEq,zpa,zpb,zpc,zpd,zpe,zpf,zpg,zph,zpi,zpj,zpk,zpl,zpm,zpn,zpo,zpp]; rfl) ?_
 refine Zr rfl (by simp (maxSteps := 2000000) only [gs,zlr,reduceIte,reduceCtorEq,zpa,zpb,zpc,zpd,zpe,zpf,zpg,zph,zpi,zpj,zpk,zpl,zpm,zpn,zpo,zpp, gc_archipelagoref18_Blocks, hB]; rfl) ?_
 rcases hw with rfl | ⟨rfl, rfl⟩
 ·refine Zr rfl (by simp (maxSteps := 2000000) only [gs,zlr,reduceIte,reduceCtorEq,zpa,zpb,zpc,zpd,zpe,zpf,zpg,zph,zpi,zpj,zpk,zpl,zpm,zpn,zpo,zpp, w1, un_length, w2, w3]; rfl) ?_
  refine Zr rfl (by simp (maxSteps := 2000000) only [gs,zlr,reduceIte,reduceCtorEq,zpa,zpb,zpc,zpd,zpe,zpf,zpg,zph,zpi,zpj,zpk,zpl,zpm,zpn,zpo,zpp, c1]; rfl) (Zc rfl rfl (fun _ => ?_) (fun h => by cases h))
  exact Zr rfl (by simp (maxSteps := 2000000) only [gs,zlr,reduceIte,reduceCtorEq,zpa,zpb,zpc,zpd,zpe,zpf,zpg,zph,zpi,zpj,zpk,zpl,zpm,zpn,zpo,zpp]; rfl) (Zq rfl ⟨_, rfl, rfl⟩)
 ·have w2' : IntKind.i64.wrap (0 - ((16 * bl : Nat) : Int)) = 0 - ((16 * bl : Nat) : Int) := wrap_i64 (by omega) (by omega)
  have w3' : IntKind.i64.wrap (0 - ((16 * bl : Nat) : Int) - 8) = 0 - ((16 * bl : Nat) : Int) - 8 := wrap_i64 (by omega) (by omega)
  have c1' : ((0 : Int) - ((16 * bl : Nat) : Int) - 8 < 24) = True := eq_true (by omega)
  refine Zr rfl (by simp (maxSteps := 2000000) only [gs,zlr,reduceIte,reduceCtorEq,zpa,zpb,zpc,zpd,zpe,zpf,zpg,zph,zpi,zpj,zpk,zpl,zpm,zpn,zpo,zpp, w1, w2', w3']; rfl) ?_
  refine Zr rfl (by simp (maxSteps := 2000000) only [gs,zlr,reduceIte,reduceCtorEq,zpa,zpb,zpc,zpd,zpe,zpf,zpg,zph,zpi,zpj,zpk,zpl,zpm,zpn,zpo,zpp, c1']; rfl) (Zc rfl rfl (fun _ => ?_) (fun h => by cases h))
  exact Zr rfl (by simp (maxSteps := 2000000) only [gs,zlr,reduceIte,reduceCtorEq,zpa,zpb,zpc,zpd,zpe,zpf,zpg,zph,zpi,zpj,zpk,zpl,zpm,zpn,zpo,zpp]; rfl) (Zq rfl ⟨_, rfl, rfl⟩)
def RdSt (b : GObj) (u : U) (h : GH) (R : List Row3) : Prop := (u = .nils ∧ R = [] ∧ h = [b]) ∨ ∃ g : Nat, u = .asl none 1 g 0 R.length 3 ∧ h = [b, .arr (ur R) g 0]
set_option maxHeartbeats 4000000 in
theorem rread_G {bs : List Nat} {n k c : Int} {bl : Nat} (hB : GF gtab fid_archipelagoref18_Blocks [hd n k c] [] 0 = some (.int .i64 ((bl : Nat) : Int), [])) (hbl : bl ≤ 4294967296) (hb : ∀ b ∈ bs, b < 256) (hl : bs.length ≤ 10000) :
  ∃ v, IxIs v (rdIx bs bl) ∧ GF gtab fid_archipelagoref18_RowsRead [.list false 1 (un .u8 bs), hd n k c] [] 0 = some (v, []) := by
 by_cases hsh : bs.length < 24 + (16 * bl + 8)
 ·exact ⟨_, by rw [rdIx, if_pos hsh]; rfl, rread_short hB hbl hsh (.inl rfl)⟩
 have key : ∃ u h', GF gtab fid_archipelagoref18_RowsRead [.list false 1 (un .u8 bs), hd n k c] [] 0 = some (u, h') ∧ h' = [] ∧ IxIs u (rdIx bs bl) := by
  have hX : rdIx bs bl = (if crcOk (ixTail bs bl) = false then .bad 28
    else if (crcBody (ixTail bs bl)).drop (16 * bl) ≠ ixMagic then .bad 27
    else if okN (rowsOf (ixP bs bl) bl) bl = true ∧ offS (rowsOf (ixP bs bl) bl) bl = ((bs.length - (16 * bl + 8) : Nat) : Int) then .ok (rowsOf (ixP bs bl) bl) else .bad 21) := by rw [rdIx, if_neg hsh]
  refine fnR_archipelagoref18_RowsRead rfl ?_
  simp only [genvOf, hd]
  unfold hd at hB
  have w1 : IntKind.i64.wrap ((bl : Int) * 16) = ((16 * bl : Nat) : Int) := by rw [show (bl : Int) * 16 = ((16 * bl : Nat) : Int) by omega]; exact wrap_i64_nat (by omega)
  have w2 : IntKind.i64.wrap (((bs.length : Nat) : Int) - ((16 * bl : Nat) : Int)) = ((bs.length : Nat) : Int) - ((16 * bl : Nat) : Int) := wrap_i64 (by omega) (by omega)
  have w3 : IntKind.i64.wrap (((bs.length : Nat) : Int) - ((16 * bl : Nat) : Int) - 8) = ((bs.length - (16 * bl + 8) : Nat) : Int) := by rw [wrap_i64 (by omega) (by omega)]; omega
  have c1 : (((bs.length - (16 * bl + 8) : Nat) : Int) < 24) = False := eq_false (by omega)
  have p1 : ((0 : Int) ≤ ((bs.length - (16 * bl + 8) : Nat) : Int)) = True := eq_true (by omega)
  have p2 : (((bs.length - (16 * bl + 8) : Nat) : Int) ≤ ((bs.length : Nat) : Int)) = True := eq_true (by omega)
  have p3 : (((bs.length : Nat) : Int) ≤ ((bs.length : Nat) : Int)) = True := eq_true (by omega)
  have p4 : (((bs.length : Nat) : Int) - ((bs.length - (16 * bl + 8) : Nat) : Int)).toNat = 16 * bl + 8 := by omega
  have hE : (bs.drop (bs.length - (16 * bl + 8))).take (16 * bl + 8) = ixTail bs bl := List.take_of_length_le (by rw [List.length_drop]; omega)
  have hEl : (ixTail bs bl).length = 16 * bl + 8 := by unfold ixTail; rw [List.length_drop]; omega
  have hEb : ∀ b ∈ ixTail bs bl, b < 256 := fun b h => hb b (List.mem_of_mem_drop h)
  have O := ropen_G hEb (by rw [hEl]; omega)
  refine Zr rfl (by simp (maxSteps := 2000000) only [gs,zlr,reduceIte,reduceCtorEq,zpa,zpb,zpc,zpd,zpe,zpf,zpg,zph,zpi,zpj,zpk,zpl,zpm,zpn,zpo,zpp]; rfl) ?_
  refine Zr rfl (by simp (maxSteps := 2000000) only [gs,zlr,reduceIte,reduceCtorEq,zpa,zpb,zpc,zpd,zpe,zpf,zpg,zph,zpi,zpj,zpk,zpl,zpm,zpn,zpo,zpp, gc_archipelagoref18_Blocks, hB]; rfl) ?_
  refine Zr rfl (by simp (maxSteps := 2000000) only [gs,zlr,reduceIte,reduceCtorEq,zpa,zpb,zpc,zpd,zpe,zpf,zpg,zph,zpi,zpj,zpk,zpl,zpm,zpn,zpo,zpp, w1, un_length, w2, w3]; rfl) ?_
  refine Zr rfl (by simp (maxSteps := 2000000) only [gs,zlr,reduceIte,reduceCtorEq,zpa,zpb,zpc,zpd,zpe,zpf,zpg,zph,zpi,zpj,zpk,zpl,zpm,zpn,zpo,zpp, c1]; rfl) (Zc rfl rfl (fun h => by cases h) (fun _ => ?_))
  cases hok : crcOk (ixTail bs bl) with
  | false =>
   rw [hok, if_pos rfl] at hX
   rw [hok, if_neg (by simp)] at O
   refine Zr rfl (by simp (maxSteps := 2000000) only [gs,zlr,reduceIte,reduceCtorEq,zpa,zpb,zpc,zpd,zpe,zpf,zpg,zph,zpi,zpj,zpk,zpl,zpm,zpn,zpo,zpp, un_length, p1, p2, p3, p4, un_drop, un_take, Int.toNat_natCast, hE, snapLL_un, gc_archipelagoref1_Open, O]; rfl) ?_
   refine Zr rfl (by simp (maxSteps := 2000000) only [gs,zlr,reduceIte,reduceCtorEq,zpa,zpb,zpc,zpd,zpe,zpf,zpg,zph,zpi,zpj,zpk,zpl,zpm,zpn,zpo,zpp]; rfl) (Zc rfl rfl (fun _ => ?_) (fun h => by cases h))
   exact Zr rfl (by simp (maxSteps := 2000000) only [gs,zlr,reduceIte,reduceCtorEq,zpa,zpb,zpc,zpd,zpe,zpf,zpg,zph,zpi,zpj,zpk,zpl,zpm,zpn,zpo,zpp]; rfl) (Zq rfl ⟨_, rfl, _, _, rfl, rfl, by rw [hX]; rfl⟩)
  | true =>
   rw [hok, if_neg (by simp)] at hX
   rw [hok, if_pos rfl] at O
   have hBl : (crcBody (ixTail bs bl)).length = 16 * bl + 4 := by unfold crcBody; rw [List.length_take, hEl]; omega
   have hBb : ∀ b ∈ crcBody (ixTail bs bl), b < 256 := fun b h => hEb b (List.mem_of_mem_take h)
   obtain ⟨body, hbody⟩ : ∃ body, body = crcBody (ixTail bs bl) := ⟨_, rfl⟩
   have hP : ixP bs bl = body.take (16 * bl) := by rw [hbody]; rfl
   rw [← hbody] at hX O hBl hBb
   have w5 : IntKind.i64.wrap (((16 * bl + 4 : Nat) : Int) - 4) = ((16 * bl : Nat) : Int) := by rw [wrap_i64 (by omega) (by omega)]; omega
   have q1 : ((0 : Int) ≤ ((16 * bl : Nat) : Int)) = True := eq_true (by omega)
   have q2 : (((16 * bl : Nat) : Int) ≤ ((16 * bl + 4 : Nat) : Int)) = True := eq_true (by omega)
   have q3 : (((16 * bl + 4 : Nat) : Int) ≤ ((16 * bl + 4 : Nat) : Int)) = True := eq_true (by omega)
   have q4 : (((16 * bl + 4 : Nat) : Int) - ((16 * bl : Nat) : Int)).toNat = 4 := by omega
   have hM : (body.drop (16 * bl)).take 4 = body.drop (16 * bl) := List.take_of_length_le (by rw [List.length_drop]; omega)
   have hmg : ((body.drop (16 * bl)).map fun (n : Nat) => (n : Int)) = [88, 71, 84, 49] ↔ body.drop (16 * bl) = ixMagic := by
    constructor
    ·intro h; exact hmap_inj (b := ixMagic) (h.trans rfl)
    ·intro h; rw [h]; rfl
   refine Zr rfl (by simp (maxSteps := 2000000) only [gs,zlr,reduceIte,reduceCtorEq,zpa,zpb,zpc,zpd,zpe,zpf,zpg,zph,zpi,zpj,zpk,zpl,zpm,zpn,zpo,zpp, un_length, p1, p2, p3, p4, un_drop, un_take, Int.toNat_natCast, hE, snapLL_un, gc_archipelagoref1_Open, O]; rfl) ?_
   refine Zr rfl (by simp (maxSteps := 2000000) only [gs,zlr,reduceIte,reduceCtorEq,zpa,zpb,zpc,zpd,zpe,zpf,zpg,zph,zpi,zpj,zpk,zpl,zpm,zpn,zpo,zpp]; rfl) (Zc rfl rfl (fun h => by cases h) (fun _ => ?_))
   by_cases hm : body.drop (16 * bl) = ixMagic
   case neg =>
    rw [if_pos hm] at hX
    have e : (((body.drop (16 * bl)).map fun (n : Nat) => (n : Int)) == [88, 71, 84, 49]) = false := beq_eq_false_iff_ne.2 fun h => hm (hmg.1 h)
    refine Zr rfl (by simp (maxSteps := 2000000) only [gs,zlr,reduceIte,reduceCtorEq,zpa,zpb,zpc,zpd,zpe,zpf,zpg,zph,zpi,zpj,zpk,zpl,zpm,zpn,zpo,zpp, un_length, hBl, w5, q1, q2, q3, q4, un_drop, un_take, Int.toNat_natCast, hM, gbytesOf_un, e]; rfl) (Zc rfl rfl (fun _ => ?_) (fun h => by cases h))
    exact Zr rfl (by simp (maxSteps := 2000000) only [gs,zlr,reduceIte,reduceCtorEq,zpa,zpb,zpc,zpd,zpe,zpf,zpg,zph,zpi,zpj,zpk,zpl,zpm,zpn,zpo,zpp]; rfl) (Zq rfl ⟨_, rfl, _, _, rfl, rfl, by rw [hX]; rfl⟩)
   rw [if_neg (fun h => h hm)] at hX
   have e : (((body.drop (16 * bl)).map fun (n : Nat) => (n : Int)) == [88, 71, 84, 49]) = true := by rw [hmg.2 hm]; rfl
   have hP2 : ∀ b ∈ ixP bs bl, b < 256 := fun b h => by rw [hP] at h; exact hBb b (List.mem_of_mem_take h)
   have hPl : (ixP bs bl).length = 16 * bl := by rw [hP, List.length_take]; omega
   obtain ⟨P, hPP⟩ : ∃ P, P = ixP bs bl := ⟨_, rfl⟩
   rw [← hPP] at hX hP hP2 hPl
   refine Zr rfl (by simp (maxSteps := 2000000) only [gs,zlr,reduceIte,reduceCtorEq,zpa,zpb,zpc,zpd,zpe,zpf,zpg,zph,zpi,zpj,zpk,zpl,zpm,zpn,zpo,zpp, un_length, hBl, w5, q1, q2, q3, q4, un_drop, un_take, Int.toNat_natCast, hM, gbytesOf_un, e]; rfl) (Zc rfl rfl (fun h => by cases h) (fun _ => ?_))
   refine Zr rfl (by simp (maxSteps := 2000000) only [gs,zlr,reduceIte,reduceCtorEq,zpa,zpb,zpc,zpd,zpe,zpf,zpg,zph,zpi,zpj,zpk,zpl,zpm,zpn,zpo,zpp]; rfl) ?_
   refine Zr rfl (by simp (maxSteps := 2000000) only [gs,zlr,reduceIte,reduceCtorEq,zpa,zpb,zpc,zpd,zpe,zpf,zpg,zph,zpi,zpj,zpk,zpl,zpm,zpn,zpo,zpp]; rfl) ?_
   refine Zr rfl (by simp (maxSteps := 2000000) only [gs,zlr,reduceIte,reduceCtorEq,zpa,zpb,zpc,zpd,zpe,zpf,zpg,zph,zpi,zpj,zpk,zpl,zpm,zpn,zpo,zpp]; rfl) ?_
   refine Zw rfl (fun m env h => ∃ i : Nat, m + i = bl ∧ (∀ j, j < i → 0 ≤ (rowOf P j).2.1) ∧ RdSt (.box [.int .u64 n, .int .i64 k, .int .i64 c]) (GEnv.get env 10) h (rowsOf P i) ∧ GEnv.get env 6 = .int .i64 ((bl : Nat) : Int) ∧ GEnv.get env 7 = .int .i64 ((bs.length - (16 * bl + 8) : Nat) : Int) ∧ GEnv.get env 8 = .list false 1 (un .u8 body) ∧ GEnv.get env 11 = .int .i64 (offS (rowsOf P bl) i - 24) ∧ GEnv.get env 12 = .int .i64 (i : Int)) bl ⟨0, by omega, fun j h => by omega, .inl ⟨rfl, rfl, rfl⟩, rfl, rfl, rfl, rfl, rfl⟩ ?_
   rintro m env h ⟨i, hm, hpos, hr, k6, k7, k8, k11, k12⟩
   simp only [GEnv.keep, k6, k7, k8, k11, k12]
   generalize GEnv.get env 10 = s10 at hr ⊢
   by_cases hi : i < bl
   ·have g0 : ((i : Int) < ((bl : Nat) : Int)) = True := eq_true (by omega)
    have x1 : IntKind.i64.wrap (16 * (i : Int)) = ((16 * i : Nat) : Int) := by rw [show 16 * (i : Int) = ((16 * i : Nat) : Int) by omega]; exact wrap_i64_nat (by omega)
    have x2 : IntKind.i64.wrap (((16 * i : Nat) : Int) + 16) = ((16 * i + 16 : Nat) : Int) := wrap_i64_nat (n := 16 * i + 16) (by omega)
    have y1 : ((0 : Int) ≤ ((16 * i : Nat) : Int)) = True := eq_true (by omega)
    have y2 : (((16 * i : Nat) : Int) ≤ ((16 * i + 16 : Nat) : Int)) = True := eq_true (by omega)
    have y3 : (((16 * i + 16 : Nat) : Int) ≤ ((16 * bl + 4 : Nat) : Int)) = True := eq_true (by omega)
    have y4 : (((16 * i + 16 : Nat) : Int) - ((16 * i : Nat) : Int)).toNat = 16 := by omega
    obtain ⟨E, hEE⟩ : ∃ E, E = P.drop (16 * i) := ⟨_, rfl⟩
    have hEEl : E.length = 16 * (bl - i) := by rw [hEE, List.length_drop, hPl]; omega
    obtain ⟨D, hD⟩ : ∃ D, D = (body.drop (16 * i)).take 16 := ⟨_, rfl⟩
    have hDE : D = E.take 16 := by rw [hD, hEE, hP, List.drop_take, List.take_take, show min 16 (16 * bl - 16 * i) = 16 by omega]
    have hDl : D.length = 16 := by rw [hDE, List.length_take]; omega
    have hDb : ∀ b ∈ D, b < 256 := fun b h => by rw [hD] at h; exact hBb b (List.mem_of_mem_drop (List.mem_of_mem_take h))
    have d1 : D.take 4 = E.take 4 := by rw [hDE, List.take_take]; rfl
    have d2 : (D.drop 4).take 8 = (E.drop 4).take 8 := by rw [hDE, List.drop_take, List.take_take]; rfl
    have d3 : (D.drop 12).take 4 = (E.drop 12).take 4 := by rw [hDE, List.drop_take, List.take_take]; rfl
    have hro : rowOf P i = (((leN (D.take 4) : Nat) : Int), IntKind.i64.wrap ((leN ((D.drop 4).take 8) : Nat) : Int), ((leN ((D.drop 12).take 4) : Nat) : Int)) := by rw [d1, d2, d3, hEE]; rfl
    have T1 := number_G (bs := D.take 4) (fun b h => hDb b (List.mem_of_mem_take h)) (by rw [List.length_take]; omega)
    have T2 := number_G (bs := (D.drop 4).take 8) (fun b h => hDb b (List.mem_of_mem_drop (List.mem_of_mem_take h))) (by rw [List.length_take]; omega)
    have T3 := number_G (bs := (D.drop 12).take 4) (fun b h => hDb b (List.mem_of_mem_drop (List.mem_of_mem_take h))) (by rw [List.length_take]; omega)
    have b1 := take4_lt hDb
    have b2 := take8_lt (b := D.drop 4) fun b h => hDb b (List.mem_of_mem_drop h)
    have b3 := take4_lt (b := D.drop 12) fun b h => hDb b (List.mem_of_mem_drop h)
    have v1 : IntKind.i64.wrap ((leN (D.take 4) : Nat) : Int) = ((leN (D.take 4) : Nat) : Int) := wrap_i64_nat (by omega)
    have v3 : IntKind.u32.wrap ((leN ((D.drop 12).take 4) : Nat) : Int) = ((leN ((D.drop 12).take 4) : Nat) : Int) := by rw [wrap_u32_nat, Nat.mod_eq_of_lt b3]
    have z1 : ((4 : Int) ≤ 16) = True := eq_true (by omega)
    have z2 : ((4 : Int) ≤ 12) = True := eq_true (by omega)
    have z3 : ((12 : Int) ≤ 16) = True := eq_true (by omega)
    have l16 : ((16 : Nat) : Int) = 16 := rfl
    refine Zr rfl (by simp (maxSteps := 2000000) only [gs,zlr,reduceIte,reduceCtorEq,zpa,zpb,zpc,zpd,zpe,zpf,zpg,zph,zpi,zpj,zpk,zpl,zpm,zpn,zpo,zpp, g0]; rfl) (Zc rfl rfl (fun _ => ?_) (fun h => by cases h))
    refine Zr rfl (by simp (maxSteps := 2000000) only [gs,zlr,reduceIte,reduceCtorEq,zpa,zpb,zpc,zpd,zpe,zpf,zpg,zph,zpi,zpj,zpk,zpl,zpm,zpn,zpo,zpp, x1, x2, un_length, hBl, y1, y2, y3, y4, un_drop, un_take, Int.toNat_natCast]; rfl) ?_
    rw [← hD]
    refine Zr rfl (by simp (maxSteps := 2000000) only [gs,zlr,reduceIte,reduceCtorEq,zpa,zpb,zpc,zpd,zpe,zpf,zpg,zph,zpi,zpj,zpk,zpl,zpm,zpn,zpo,zpp, un_length, hDl, l16, z1, z2, z3, un_drop, un_take, snapLL_un, gc_archipelagoref1_Number, T2]; rfl) ?_
    by_cases hf : leN ((D.drop 4).take 8) ≤ 4611686018427387903
    case neg =>
     have gf : (((leN ((D.drop 4).take 8) : Nat) : Int) > 4611686018427387903) = True := eq_true (by omega)
     have hbad : okN (rowsOf P bl) bl = false := by
      refine okN_false (i := i) ?_ bl hi
      unfold okAt
      rw [rowsOf_get hi, hro]
      simp only
      refine decide_eq_false fun hh => ?_
      obtain ⟨_, _, h3, h4⟩ := hh
      have hprev : 0 ≤ (if i = 0 then (0 : Int) else ((rowsOf P bl).getD (i - 1) (0, 0, 0)).2.1) := by
       by_cases h0 : i = 0
       ·rw [if_pos h0]; omega
       ·rw [if_neg h0, rowsOf_getD (by omega)]; exact hpos _ (by omega)
      have h5 := Int.le_trans hprev h3
      by_cases hlt : leN ((D.drop 4).take 8) < 9223372036854775808
      ·rw [wrap_i64_nat (by omega)] at h4; omega
      ·have := wrap_i64_hi (x := leN ((D.drop 4).take 8)) (by omega) b2
       rw [this] at h5; omega
     rw [hbad, if_neg (by simp)] at hX
     refine Zr rfl (by simp (maxSteps := 2000000) only [gs,zlr,reduceIte,reduceCtorEq,zpa,zpb,zpc,zpd,zpe,zpf,zpg,zph,zpi,zpj,zpk,zpl,zpm,zpn,zpo,zpp, gf]; rfl) (Zc rfl rfl (fun _ => ?_) (fun h => by cases h))
     refine Zr rfl (by simp (maxSteps := 2000000) only [gs,zlr,reduceIte,reduceCtorEq,zpa,zpb,zpc,zpd,zpe,zpf,zpg,zph,zpi,zpj,zpk,zpl,zpm,zpn,zpo,zpp]; rfl) (Zq rfl ⟨_, rfl, ?_⟩)
     exact ⟨_, _, rfl, rfl, by rw [hX]; rfl⟩
    have gf : (((leN ((D.drop 4).take 8) : Nat) : Int) > 4611686018427387903) = False := eq_false (by omega)
    have hfw : IntKind.i64.wrap ((leN ((D.drop 4).take 8) : Nat) : Int) = ((leN ((D.drop 4).take 8) : Nat) : Int) := wrap_i64_nat (by omega)
    have hpos' : ∀ j, j < i + 1 → 0 ≤ (rowOf P j).2.1 := fun j hj => by
     by_cases e : j = i
     ·rw [e, hro]; simp only; rw [hfw]; omega
     ·exact hpos j (by omega)
    refine Zr rfl (by simp (maxSteps := 2000000) only [gs,zlr,reduceIte,reduceCtorEq,zpa,zpb,zpc,zpd,zpe,zpf,zpg,zph,zpi,zpj,zpk,zpl,zpm,zpn,zpo,zpp, gf]; rfl) (Zc rfl rfl (fun h => by cases h) (fun _ => ?_))
    have hoff : offS (rowsOf P bl) (i + 1) = offS (rowsOf P bl) i + ((leN (D.take 4) : Nat) : Int) := by rw [offS, rowsOf_getD hi, hro]
    have hrg := offS_rng hP2 (n := bl) (i + 1) (by omega)
    have w7 : IntKind.i64.wrap (offS (rowsOf P bl) i - 24 + ((leN (D.take 4) : Nat) : Int)) = offS (rowsOf P bl) (i + 1) - 24 := by
     rw [hoff, wrap_i64 (by omega) (by omega)]; omega
    have w8 : IntKind.i64.wrap ((i : Int) + 1) = ((i + 1 : Nat) : Int) := wrap_i64_nat (n := i + 1) (by omega)
    have hs1 : ur (rowsOf P i) ++ [[.int .i64 ((leN (D.take 4) : Nat) : Int), .int .i64 ((leN ((D.drop 4).take 8) : Nat) : Int), .int .u32 ((leN ((D.drop 12).take 4) : Nat) : Int)]] = ur (rowsOf P (i + 1)) := by rw [ur_snoc, rowsOf_succ, hro, hfw]
    have hgi : (rowsOf P (i + 1))[i]? = some (((leN (D.take 4) : Nat) : Int), ((leN ((D.drop 4).take 8) : Nat) : Int), ((leN ((D.drop 12).take 4) : Nat) : Int)) := by rw [rowsOf_get (by omega), hro, hfw]
    have r1 : ((i + 1) * 24 ≤ room) = True := eq_true (by unfold room; omega)
    have r0 : (1 * 24 ≤ room) = True := eq_true (by unfold room; omega)
    have n0 : ((0 : Int) ≤ (i : Int)) = True := eq_true (by omega)
    have n1 : ((i : Int) < ((i + 1 : Nat) : Int)) = True := eq_true (by omega)
    rcases hr with ⟨rfl, h0, rfl⟩ | ⟨g, rfl, rfl⟩
    ·have hi0 : i = 0 := by have := congrArg List.length h0; rwa [rowsOf_length] at this
     subst hi0
     have hs0 : ([[.int .i64 ((leN (D.take 4) : Nat) : Int), .int .i64 ((leN ((D.drop 4).take 8) : Nat) : Int), .int .u32 ((leN ((D.drop 12).take 4) : Nat) : Int)]] : List (List U)) = ur (rowsOf P 1) := by rw [← hs1]; rfl
     have hl1 : (ur (rowsOf P 1)).length = 1 := by rw [ur_length, rowsOf_length]
     refine Zd rfl (by simp (maxSteps := 2000000) only [gs,gd,zlr,id,reduceIte,reduceCtorEq,zpa,zpb,zpc,zpd,zpe,zpf,zpg,zph,zpi,zpj,zpk,zpl,zpm,zpn,zpo,zpp, un_length, hDl, l16, z1, z2, z3, un_drop, un_take, Int.sub_zero, snapLL_un, gc_archipelagoref1_Number, iq_archipelagoref1_Number, T1, T3, v1, v3, hfw, hs0, hl1, r0]; rfl) ?_
     refine Zr rfl (by simp (maxSteps := 2000000) only [gs,zlr,reduceIte,reduceCtorEq,zpa,zpb,zpc,zpd,zpe,zpf,zpg,zph,zpi,zpj,zpk,zpl,zpm,zpn,zpo,zpp, n0, ur_get hgi, w7, hs0, Int.ofNat_zero, Int.natCast_zero, List.getElem?_cons_zero]; rfl) ?_
     refine Zr rfl (by simp (maxSteps := 2000000) only [gs,zlr,reduceIte,reduceCtorEq,zpa,zpb,zpc,zpd,zpe,zpf,zpg,zph,zpi,zpj,zpk,zpl,zpm,zpn,zpo,zpp, w8]; rfl) ?_
     exact Za rfl ⟨m - 1, by omega, 1, by omega, hpos', .inr ⟨0, by rw [rowsOf_length]; rfl, rfl⟩, rfl, rfl, rfl, rfl, rfl⟩
    ·have ht : (ur (rowsOf P i)).take i = ur (rowsOf P i) := List.take_of_length_le (by rw [ur_length, rowsOf_length]; omega)
     refine Zd rfl (by simp (maxSteps := 2000000) only [gs,gd,zlr,id,reduceIte,reduceCtorEq,zpa,zpb,zpc,zpd,zpe,zpf,zpg,zph,zpi,zpj,zpk,zpl,zpm,zpn,zpo,zpp, un_length, hDl, l16, z1, z2, z3, un_drop, un_take, Int.sub_zero, snapLL_un, gc_archipelagoref1_Number, iq_archipelagoref1_Number, T1, T3, v1, v3, hfw, rowsOf_length, ur_length, r1, ht, hs1]; rfl) ?_
     refine Zr rfl (by simp (maxSteps := 2000000) only [gs,zlr,reduceIte,reduceCtorEq,zpa,zpb,zpc,zpd,zpe,zpf,zpg,zph,zpi,zpj,zpk,zpl,zpm,zpn,zpo,zpp, n0, n1, Nat.zero_add, ur_get hgi, w7]; rfl) ?_
     refine Zr rfl (by simp (maxSteps := 2000000) only [gs,zlr,reduceIte,reduceCtorEq,zpa,zpb,zpc,zpd,zpe,zpf,zpg,zph,zpi,zpj,zpk,zpl,zpm,zpn,zpo,zpp, w8]; rfl) ?_
     exact Za rfl ⟨m - 1, by omega, i + 1, by omega, hpos', .inr ⟨g + 1, by rw [rowsOf_length]; rfl, rfl⟩, rfl, rfl, rfl, rfl, rfl⟩
   ·have hib : bl = i := by omega
    subst hib
    have g0 : (((bl : Nat) : Int) < ((bl : Nat) : Int)) = False := eq_false (by omega)
    refine Zr rfl (by simp (maxSteps := 2000000) only [gs,zlr,reduceIte,reduceCtorEq,zpa,zpb,zpc,zpd,zpe,zpf,zpg,zph,zpi,zpj,zpk,zpl,zpm,zpn,zpo,zpp, g0]; rfl) (Zc rfl rfl (fun h => by cases h) (fun _ => ?_))
    have hRl := rowsOf_length P bl
    have RI : GF gtab fid_archipelagoref18_RowsRight [.list false 3 (ur (rowsOf P bl))] [] 0 = some (.bool (okN (rowsOf P bl) bl), []) := by
     have := rrightAny_G (R := rowsOf P bl) (by rw [hRl]; omega)
     rwa [hRl] at this
    have RN : rowsOf P bl = [] → GF gtab fid_archipelagoref18_RowsRight [.nils] [] 0 = some (.bool (okN (rowsOf P bl) bl), []) := fun h => by
     have hbl0 : bl = 0 := by rw [← hRl, h]; rfl
     rw [hbl0]; exact rrightN_G
    have o24 := (offS_rng hP2 (n := bl) bl (Nat.le_refl _)).1
    have o25 := (offS_rng hP2 (n := bl) bl (Nat.le_refl _)).2
    have w9 : IntKind.i64.wrap (((bs.length - (16 * bl + 8) : Nat) : Int) - 24) = ((bs.length - (16 * bl + 8) : Nat) : Int) - 24 := wrap_i64 (by omega) (by omega)
    have hfin : (offS (rowsOf P bl) bl - 24 != ((bs.length - (16 * bl + 8) : Nat) : Int) - 24) = !decide (offS (rowsOf P bl) bl = ((bs.length - (16 * bl + 8) : Nat) : Int)) := by
     by_cases h : offS (rowsOf P bl) bl = ((bs.length - (16 * bl + 8) : Nat) : Int)
     ·rw [decide_eq_true h, Bool.not_true]
      refine bne_eq_false_iff_eq.2 ?_
      omega
     ·rw [decide_eq_false h, Bool.not_false]
      refine bne_iff_ne.2 fun h2 => h ?_
      omega
    have hcut : cut (ur (rowsOf P bl)) 0 bl = ur (rowsOf P bl) := by unfold cut; rw [List.drop_zero, List.take_of_length_le (by rw [ur_length, hRl]; omega)]
    have hcut2 : (ur (rowsOf P bl)).take bl = ur (rowsOf P bl) := List.take_of_length_le (by rw [ur_length, hRl]; omega)
    cases hokn : okN (rowsOf P bl) bl with
    | false =>
     rw [hokn] at RI RN
     rw [hokn, if_neg (by simp)] at hX
     rcases hr with ⟨rfl, h0, rfl⟩ | ⟨g, rfl, rfl⟩
     ·have RN := RN h0
      refine Zr rfl (by simp (maxSteps := 2000000) only [gs,zlr,reduceIte,reduceCtorEq,zpa,zpb,zpc,zpd,zpe,zpf,zpg,zph,zpi,zpj,zpk,zpl,zpm,zpn,zpo,zpp, gc_archipelagoref18_RowsRight, RN]; rfl) (Zc rfl rfl (fun _ => ?_) (fun h => by cases h))
      exact Zr rfl (by simp (maxSteps := 2000000) only [gs,zlr,reduceIte,reduceCtorEq,zpa,zpb,zpc,zpd,zpe,zpf,zpg,zph,zpi,zpj,zpk,zpl,zpm,zpn,zpo,zpp]; rfl) (Zq rfl ⟨_, rfl, _, _, rfl, rfl, by rw [hX]; rfl⟩)
     ·refine Zr rfl (by simp (maxSteps := 2000000) only [gs,zlr,reduceIte,reduceCtorEq,zpa,zpb,zpc,zpd,zpe,zpf,zpg,zph,zpi,zpj,zpk,zpl,zpm,zpn,zpo,zpp, els, List.getElem?_cons_succ, List.getElem?_cons_zero, hRl, ur_length, Nat.zero_add, Nat.le_refl, hcut, hcut2, rfLL_ur, snapLL_ur, gc_archipelagoref18_RowsRight, RI]; rfl) (Zc rfl rfl (fun _ => ?_) (fun h => by cases h))
      exact Zr rfl (by simp (maxSteps := 2000000) only [gs,zlr,reduceIte,reduceCtorEq,zpa,zpb,zpc,zpd,zpe,zpf,zpg,zph,zpi,zpj,zpk,zpl,zpm,zpn,zpo,zpp]; rfl) (Zq rfl ⟨_, rfl, _, _, rfl, rfl, by rw [hX]; rfl⟩)
    | true =>
     rw [hokn] at RI RN
     rw [hokn] at hX
     by_cases hz : offS (rowsOf P bl) bl = ((bs.length - (16 * bl + 8) : Nat) : Int)
     ·rw [decide_eq_true hz, Bool.not_true] at hfin
      rw [if_pos ⟨rfl, hz⟩] at hX
      rcases hr with ⟨rfl, h0, rfl⟩ | ⟨g, rfl, rfl⟩
      ·have RN := RN h0
       refine Zr rfl (by simp (maxSteps := 2000000) only [gs,zlr,reduceIte,reduceCtorEq,zpa,zpb,zpc,zpd,zpe,zpf,zpg,zph,zpi,zpj,zpk,zpl,zpm,zpn,zpo,zpp, gc_archipelagoref18_RowsRight, RN, w9, hfin]; rfl) (Zc rfl rfl (fun h => by cases h) (fun _ => ?_))
       exact Zr rfl (by simp (maxSteps := 2000000) only [gs,zlr,reduceIte,reduceCtorEq,zpa,zpb,zpc,zpd,zpe,zpf,zpg,zph,zpi,zpj,zpk,zpl,zpm,zpn,zpo,zpp]; rfl) (Zq rfl ⟨_, rfl, _, _, rfl, rfl, by rw [hX]; exact ⟨.nils, .inr ⟨rfl, h0⟩, rfl⟩⟩)
      ·refine Zr rfl (by simp (maxSteps := 2000000) only [gs,zlr,reduceIte,reduceCtorEq,zpa,zpb,zpc,zpd,zpe,zpf,zpg,zph,zpi,zpj,zpk,zpl,zpm,zpn,zpo,zpp, els, List.getElem?_cons_succ, List.getElem?_cons_zero, hRl, ur_length, Nat.zero_add, Nat.le_refl, hcut, hcut2, rfLL_ur, snapLL_ur, gc_archipelagoref18_RowsRight, RI, w9, hfin]; rfl) (Zc rfl rfl (fun h => by cases h) (fun _ => ?_))
       refine Zr rfl (by simp (maxSteps := 2000000) only [gs,zlr,reduceIte,reduceCtorEq,zpa,zpb,zpc,zpd,zpe,zpf,zpg,zph,zpi,zpj,zpk,zpl,zpm,zpn,zpo,zpp]; rfl) (Zq rfl ⟨_, rfl, ?_⟩)
       simp only [gfin, outs, U.out, U.handed, U.share, U.rf, els, GEnv.get, if_true, Nat.reduceEqDiff, if_false, rfLL_ur, Option.map_some, List.getElem?_cons_succ, List.getElem?_cons_zero, hRl, ur_length, Nat.zero_add, hcut, Nat.le_refl, Nat.zero_le, and_self]
       exact ⟨_, _, rfl, rfl, by rw [hX]; exact ⟨_, .inl rfl, rfl⟩⟩
     ·rw [decide_eq_false hz, Bool.not_false] at hfin
      rw [if_neg (fun h => hz h.2)] at hX
      rcases hr with ⟨rfl, h0, rfl⟩ | ⟨g, rfl, rfl⟩
      ·have RN := RN h0
       refine Zr rfl (by simp (maxSteps := 2000000) only [gs,zlr,reduceIte,reduceCtorEq,zpa,zpb,zpc,zpd,zpe,zpf,zpg,zph,zpi,zpj,zpk,zpl,zpm,zpn,zpo,zpp, gc_archipelagoref18_RowsRight, RN, w9, hfin]; rfl) (Zc rfl rfl (fun _ => ?_) (fun h => by cases h))
       exact Zr rfl (by simp (maxSteps := 2000000) only [gs,zlr,reduceIte,reduceCtorEq,zpa,zpb,zpc,zpd,zpe,zpf,zpg,zph,zpi,zpj,zpk,zpl,zpm,zpn,zpo,zpp]; rfl) (Zq rfl ⟨_, rfl, _, _, rfl, rfl, by rw [hX]; rfl⟩)
      ·refine Zr rfl (by simp (maxSteps := 2000000) only [gs,zlr,reduceIte,reduceCtorEq,zpa,zpb,zpc,zpd,zpe,zpf,zpg,zph,zpi,zpj,zpk,zpl,zpm,zpn,zpo,zpp, els, List.getElem?_cons_succ, List.getElem?_cons_zero, hRl, ur_length, Nat.zero_add, Nat.le_refl, hcut, hcut2, rfLL_ur, snapLL_ur, gc_archipelagoref18_RowsRight, RI, w9, hfin]; rfl) (Zc rfl rfl (fun _ => ?_) (fun h => by cases h))
       exact Zr rfl (by simp (maxSteps := 2000000) only [gs,zlr,reduceIte,reduceCtorEq,zpa,zpb,zpc,zpd,zpe,zpf,zpg,zph,zpi,zpj,zpk,zpl,zpm,zpn,zpo,zpp]; rfl) (Zq rfl ⟨_, rfl, _, _, rfl, rfl, by rw [hX]; rfl⟩)
 obtain ⟨u, h', h1, rfl, h2⟩ := key
 exact ⟨u, h2, h1⟩
end Go.Ab
