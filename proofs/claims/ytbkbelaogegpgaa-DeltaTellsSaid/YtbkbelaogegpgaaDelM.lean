/- DeltaTells: the document's bits and events, Change; the law. -/
import Derived.KernelRfl
import Derived.Test.YtbkbelaogegpgaaArgA
import Derived.Test.YtbkbelaogegpgaaBitPure
import Derived.Test.YtbkbelaogegpgaaDelC
import Derived.Test.YtbkbelaogegpgaaDelK
import Derived.Test.YtbkbelaogegpgaaDelW
import Derived.Test.YtbkbelaogegpgaaGt
import Derived.Test.YtbkbelaogegpgaaValN
namespace Go.Ab
open Go
open Nat renaming reduceEqDiff → zpa, reduceLT → zpb, reduceAdd → zpc, reduceSub → zpd, reduceLeDiff → zpe, reduceMul → zpf
open Int renaming reduceToNat → zpg, reduceLT → zph, reduceLE → zpi, reduceEq → zpj, reduceNe → zpk, reduceBEq → zpl, reduceBNe → zpm, reduceAdd → zpn, reduceSub → zpo, reduceNeg → zpp
open List renaming replicate → zlr
set_option linter.unusedVariables false
set_option linter.unusedSimpArgs false
set_option maxRecDepth 10000
def RwV (h : GH) (o : Nat) (l : List Bool) : Prop := (l = [] ∧ h[o]? = some (.box [.nils])) ∨ h[o]? = some (.box [.own 1 (ub l)])
theorem ub_snoc {a : List Bool} {b : Bool} : ub a ++ [[.bool b]] = ub (a ++ [b]) := by simp [ub]
theorem rwput_G {h : GH} {lo o v : Nat} {n : Int} {l : List Bool} (w : RwV h o l) (hlo : lo ≤ o) (hv : v < 18446744073709551616) (hl : l.length + 64 ≤ 1099511627776) :
  ∃ h', GF gtab fid_archipelagoref1_Writer_Put [.ptr o 0 0 0, .int .u64 v, .int .i64 n] h lo = some (.tup [], h') ∧ RwV h' o (l ++ top v (clamp n)) ∧ h'.length = h.length ∧ ∀ p, p ≠ o → h'[p]? = h[p]? := by
 have key : ∃ u h', GF gtab fid_archipelagoref1_Writer_Put [.ptr o 0 0 0, .int .u64 v, .int .i64 n] h lo = some (u, h') ∧ (u = .tup [] ∧ RwV h' o (l ++ top v (clamp n)) ∧ h'.length = h.length ∧ ∀ p, p ≠ o → h'[p]? = h[p]?) := by
  refine fnR_archipelagoref1_Writer_Put rfl ?_
  simp only [genvOf]
  have hcl := clamp_le n
  have h1 : (if (0 : Int) > n then 0 else n) = max n 0 := by split <;> omega
  have h2 : (if (64 : Int) < max n 0 then 64 else max n 0) = (clamp n : Int) := by unfold clamp; split <;> omega
  have hw1 : IntKind.i64.wrap ((clamp n : Int) - 1) = (clamp n : Int) - 1 := wrap_i64 (by omega) (by omega)
  refine Zr rfl (by simp (maxSteps := 2000000) only [gs,zlr,reduceIte,reduceCtorEq,zpa,zpb,zpc,zpd,zpe,zpf,zpg,zph,zpi,zpj,zpk,zpl,zpm,zpn,zpo,zpp, h1, h2, hw1]; rfl) ?_
  refine Zw rfl (fun m env h1 => ∃ l1, m ≤ 64 ∧ GEnv.get env 0 = .ptr o 0 0 0 ∧ GEnv.get env 1 = .int .u64 (v : Int) ∧ GEnv.get env 6 = .int .i64 ((m : Int) - 1) ∧ RwV h1 o l1 ∧ h1.length = h.length ∧ (∀ p, p ≠ o → h1[p]? = h[p]?) ∧ l1 ++ top v m = l ++ top v (clamp n)) (clamp n) ⟨l, hcl, rfl, rfl, rfl, w, rfl, fun _ _ => rfl, rfl⟩ ?_
  rintro m env h1 ⟨l1, hm, k0, k1, k6, w1, hl1, hoth, hb⟩
  simp only [GEnv.keep, k0, k1, k6]
  cases m with
  | zero =>
   have g0 : ((((0 : Nat) : Int)) - 1 ≥ 0) = False := eq_false (by omega)
   simp only [top, List.append_nil] at hb
   rw [hb] at w1
   refine Zr rfl (by simp (maxSteps := 2000000) only [gs,zlr,reduceIte,reduceCtorEq,zpa,zpb,zpc,zpd,zpe,zpf,zpg,zph,zpi,zpj,zpk,zpl,zpm,zpn,zpo,zpp, g0]; rfl) (Zc rfl rfl (fun h => by cases h) (fun _ => ?_))
   exact Zq rfl ⟨_, rfl, _, _, rfl, rfl, w1, hl1, hoth⟩
  | succ m =>
   have e1 : ((m + 1 : Nat) : Int) - 1 = (m : Int) := by omega
   rw [e1]
   have g0 : ((m : Int) ≥ 0) = True := eq_true (by omega)
   have hlen := congrArg List.length hb
   simp only [List.length_append, top_length] at hlen
   have hlo' : (lo ≤ o) = True := eq_true hlo
   refine Zr rfl (by simp (maxSteps := 2000000) only [gs,zlr,reduceIte,reduceCtorEq,zpa,zpb,zpc,zpd,zpe,zpf,zpg,zph,zpi,zpj,zpk,zpl,zpm,zpn,zpo,zpp, g0]; rfl) (Zc rfl rfl (fun _ => ?_) (fun h => by cases h))
   have m0 : ((m : Int) < 0) = False := eq_false (by omega)
   have hsh := shr_nat (k := .u64) (a := v) (s := m) hv
   simp only [Int.toNat_natCast] at hsh
   have hand := bit_of (v := v) (i := m) hv
   have heq : ((((v.testBit m).toNat : Nat) : Int) == 1) = v.testBit m := by cases v.testBit m <;> rfl
   have hdec : IntKind.i64.wrap ((m : Int) - 1) = (m : Int) - 1 := wrap_i64 (by omega) (by omega)
   have hfin : (l1 ++ [v.testBit m]) ++ top v m = l ++ top v (clamp n) := by rw [← hb]; simp [top]
   have ho : o < h1.length := by rcases w1 with ⟨_, k⟩ | k <;> exact get_lt k
   rcases w1 with ⟨rfl, k⟩ | k
   ·have r1 : (1 ≤ room) = True := eq_true (by unfold room; omega)
    refine Zd rfl (by simp (maxSteps := 2000000) only [gs,gd,zlr,id,reduceIte,reduceCtorEq,zpa,zpb,zpc,zpd,zpe,zpf,zpg,zph,zpi,zpj,zpk,zpl,zpm,zpn,zpo,zpp, k, m0, hsh, hand, heq, r1, hlo']; rfl) ?_
    refine Zr rfl (by simp (maxSteps := 2000000) only [gs,zlr,reduceIte,reduceCtorEq,zpa,zpb,zpc,zpd,zpe,zpf,zpg,zph,zpi,zpj,zpk,zpl,zpm,zpn,zpo,zpp, hdec]; rfl) ?_
    refine Za rfl ⟨m, by omega, _, by omega, rfl, rfl, rfl, .inr (set_eq ho), by simpa using hl1, fun p hp => by rw [set_ne hp]; exact hoth p hp, hfin⟩
   ·have q : (h1.set o (.box [.list false 1 (ub l1)]))[o]? = some (.box [.list false 1 (ub l1)]) := set_eq ho
    have r1 : ((l1.length + 1) * 1 ≤ room) = True := eq_true (by unfold room; omega)
    refine Zd rfl (by simp (maxSteps := 2000000) only [gs,gd,zlr,id,reduceIte,reduceCtorEq,zpa,zpb,zpc,zpd,zpe,zpf,zpg,zph,zpi,zpj,zpk,zpl,zpm,zpn,zpo,zpp, k, q, m0, hsh, hand, heq, ub_length, ub_snoc, r1, hlo', List.set_set]; rfl) ?_
    refine Zr rfl (by simp (maxSteps := 2000000) only [gs,zlr,reduceIte,reduceCtorEq,zpa,zpb,zpc,zpd,zpe,zpf,zpg,zph,zpi,zpj,zpk,zpl,zpm,zpn,zpo,zpp, hdec]; rfl) ?_
    refine Za rfl ⟨m, by omega, _, by omega, rfl, rfl, rfl, .inr (set_eq ho), by simpa using hl1, fun p hp => by rw [set_ne hp]; exact hoth p hp, hfin⟩
 obtain ⟨u, h', h1, rfl, h2⟩ := key
 exact ⟨h', h1, h2⟩
end Go.Ab
namespace Go.Ab
open Go
open Nat renaming reduceEqDiff → zpa, reduceLT → zpb, reduceAdd → zpc, reduceSub → zpd, reduceLeDiff → zpe, reduceMul → zpf
open Int renaming reduceToNat → zpg, reduceLT → zph, reduceLE → zpi, reduceEq → zpj, reduceNe → zpk, reduceBEq → zpl, reduceBNe → zpm, reduceAdd → zpn, reduceSub → zpo, reduceNeg → zpp
open List renaming replicate → zlr
set_option linter.unusedVariables false
set_option linter.unusedSimpArgs false
set_option maxRecDepth 10000
theorem PackedN.zero (n : Nat) : PackedN (List.replicate n 0) [] n := by
 refine ⟨by simp, fun b hb => by rw [(List.mem_replicate.1 hb).2]; omega, fun i hi => ?_⟩
 rw [List.getD_eq_getElem?_getD, List.getElem?_replicate, if_pos (by omega)]
 simp
theorem un_replicate (k : IntKind) (n : Nat) : List.replicate n [U.int k 0] = un k (List.replicate n 0) := by
 unfold un; rw [List.map_replicate]; rfl
theorem RwV.load {h : GH} {o : Nat} {l : List Bool} (w : RwV h o l) : (l = [] ∧ h[o]? = some (.box [.nils])) ∨ h[o]? = some (.box [.own 1 (ub l)]) := w
set_option maxHeartbeats 1000000 in
theorem rwbytes_G {h : GH} {lo o : Nat} {l : List Bool} (w : RwV h o l) (hl : l.length ≤ 1099511627776) (hlo : lo ≤ h.length) :
  ∃ bs, Packed bs l ∧ GF gtab fid_archipelagoref1_Writer_Bytes [.ptr o 0 0 0] h lo = some (.asl none h.length 0 0 bs.length 1, h ++ [.arr (un .u8 bs) 0 0]) := by
 obtain ⟨n, hn⟩ : ∃ n, n = (l.length + 7) / 8 := ⟨_, rfl⟩
 have key : ∃ u h', GF gtab fid_archipelagoref1_Writer_Bytes [.ptr o 0 0 0] h lo = some (u, h') ∧ ∃ bs, Packed bs l ∧ u = .asl none h.length 0 0 bs.length 1 ∧ h' = h ++ [.arr (un .u8 bs) 0 0] := by
  refine fnR_archipelagoref1_Writer_Bytes rfl ?_
  simp only [genvOf]
  have wa : IntKind.i64.wrap ((l.length : Int) + 7) = ((l.length + 7 : Nat) : Int) := wrap_i64_nat (n := l.length + 7) (by omega)
  have dq : ((l.length + 7 : Nat) : Int).tdiv 8 = ((n : Nat) : Int) := by rw [hn]; rfl
  have wq : IntKind.i64.wrap ((n : Nat) : Int) = ((n : Nat) : Int) := wrap_i64_nat (by omega)
  have n0 : ((0 : Int) ≤ ((n : Nat) : Int)) = True := eq_true (by omega)
  have hr : (((n : Nat) : Int) * ((1 : Nat) : Int) ≤ ((room : Nat) : Int)) = True := eq_true (by unfold room; omega)
  have hr' : (((n : Nat) : Int) * 1 ≤ ((room : Nat) : Int)) = True := eq_true (by unfold room; omega)
  have hle : (((n : Nat) : Int) ≤ ((n : Nat) : Int)) = True := eq_true (by omega)
  have ho : o < h.length := by rcases w with ⟨_, k⟩ | k <;> exact get_lt k
  have hlh : (lo ≤ h.length) = True := eq_true hlo
  refine Zr rfl (by simp (maxSteps := 2000000) only [gs,zlr,reduceIte,reduceCtorEq,zpa,zpb,zpc,zpd,zpe,zpf,zpg,zph,zpi,zpj,zpk,zpl,zpm,zpn,zpo,zpp]; rfl) ?_
  refine Zj rfl (fun env h1 => h1 = h ++ [.arr (un .u8 (List.replicate n 0)) 0 0] ∧ GEnv.get env 0 = .ptr o 0 0 0 ∧ GEnv.get env 3 = .asl none h.length 0 0 n 1) ?_ ?_
  ·rcases w with ⟨rfl, k⟩ | k
   ·simp only [List.length_nil, Int.natCast_zero, Int.cast_ofNat_Int, Nat.zero_add] at wa dq
    have z7 : IntKind.i64.wrap 7 = 7 := rfl
    have dq7 : (7 : Int).tdiv 8 = ((n : Nat) : Int) := dq
    refine Zr rfl (by simp (maxSteps := 2000000) only [gs,zlr,reduceIte,reduceCtorEq,zpa,zpb,zpc,zpd,zpe,zpf,zpg,zph,zpi,zpj,zpk,zpl,zpm,zpn,zpo,zpp, k, z7, dq7, wq, n0, hr, hr', hle, List.length_replicate, un_replicate, un_length]; rfl) ?_
    exact Za rfl ⟨rfl, rfl, rfl⟩
   ·refine Zr rfl (by simp (maxSteps := 2000000) only [gs,zlr,reduceIte,reduceCtorEq,zpa,zpb,zpc,zpd,zpe,zpf,zpg,zph,zpi,zpj,zpk,zpl,zpm,zpn,zpo,zpp, k, ub_length, wa, dq, wq, n0, hr, hr', hle, List.length_replicate, un_replicate, un_length]; rfl) ?_
    exact Za rfl ⟨rfl, rfl, rfl⟩
  rintro env h1 ⟨rfl, k0, k3⟩
  refine Zr rfl (by simp (maxSteps := 2000000) only [gs,zlr,reduceIte,reduceCtorEq,zpa,zpb,zpc,zpd,zpe,zpf,zpg,zph,zpi,zpj,zpk,zpl,zpm,zpn,zpo,zpp]; rfl) ?_
  refine Zw rfl (fun m env h1 => ∃ (i : Nat) (bs : List Nat), h1 = h ++ [.arr (un .u8 bs) 0 0] ∧ PackedN bs (l.take i) n ∧ GEnv.get env 0 = .ptr o 0 0 0 ∧ GEnv.get env 3 = .asl none h.length 0 0 n 1 ∧ GEnv.get env 4 = .int .i64 (i : Int) ∧ m + i = l.length) l.length ⟨0, _, rfl, .zero n, by simp [GEnv.get, k0], by simp [GEnv.get, k3], by simp [GEnv.get], rfl⟩ ?_
  rintro m env h1 ⟨i, bs, rfl, hp, k0, k3, k4, hm⟩
  simp only [GEnv.keep, k0, k3, k4]
  have hpl := hp.len
  by_cases hi : i < l.length
  ·have gi : ((i : Int) < (l.length : Int)) = True := eq_true (by omega)
   have k : h[o]? = some (.box [.own 1 (ub l)]) := by
    rcases w with ⟨e, _⟩ | k
    ·rw [e] at hi; simp at hi
    ·exact k
   have kk : ∀ x, (h ++ [x])[o]? = some (.box [.own 1 (ub l)]) := fun x => by rw [app_lt ho, k]
   have gx : l[i]? = some (l[i]'hi) := List.getElem?_eq_getElem _
   have i0 : ((0 : Int) ≤ (i : Int)) = True := eq_true (by omega)
   refine Zr rfl (by simp (maxSteps := 2000000) only [gs,zlr,reduceIte,reduceCtorEq,zpa,zpb,zpc,zpd,zpe,zpf,zpg,zph,zpi,zpj,zpk,zpl,zpm,zpn,zpo,zpp, kk, ub_length, gi]; rfl) (Zc rfl rfl (fun _ => ?_) (fun h => by cases h))
   refine Zr rfl (by simp (maxSteps := 2000000) only [gs,zlr,reduceIte,reduceCtorEq,zpa,zpb,zpc,zpd,zpe,zpf,zpg,zph,zpi,zpj,zpk,zpl,zpm,zpn,zpo,zpp, kk, i0, ub_get gx]; rfl) ?_
   have hinc : IntKind.i64.wrap ((i : Int) + 1) = ((i + 1 : Nat) : Int) := up64 (by omega)
   have htl : (l.take i).length = i := by rw [List.length_take]; omega
   have hs := hp.snoc (by rw [htl]; omega) (l[i]'hi)
   rw [htl] at hs
   have htk : l.take i ++ [l[i]'hi] = l.take (i + 1) := by rw [List.take_add_one, gx]; rfl
   rw [htk] at hs
   have gb : bs[i / 8]? = some (bs.getD (i / 8) 0) := by rw [List.getD_eq_getElem?_getD, List.getElem?_eq_getElem (by omega)]; rfl
   cases hb : l[i]'hi with
   | false =>
    rw [hb] at hs
    have e : bs.set (i / 8) (bs.getD (i / 8) 0 ||| false.toNat * 2 ^ (i % 8)) = bs := by
     rw [Bool.toNat_false, Nat.zero_mul, Nat.or_zero]
     apply List.ext_getElem?
     intro j
     rw [List.getElem?_set]
     split
     ·rename_i e; subst e; rw [gb, if_pos (by omega)]
     ·rfl
    rw [e] at hs
    refine Zc rfl rfl (fun h => by cases h) (fun _ => ?_)
    refine Zr rfl (by simp (maxSteps := 2000000) only [gs,zlr,reduceIte,reduceCtorEq,zpa,zpb,zpc,zpd,zpe,zpf,zpg,zph,zpi,zpj,zpk,zpl,zpm,zpn,zpo,zpp, hinc]; rfl) ?_
    exact Za rfl ⟨m - 1, by omega, i + 1, bs, rfl, hs, rfl, rfl, rfl, by omega⟩
   | true =>
    rw [hb] at hs
    rw [Bool.toNat_true, Nat.one_mul] at hs
    refine Zc rfl rfl (fun _ => ?_) (fun h => by cases h)
    have dq : ((i : Nat) : Int).tdiv 8 = ((i / 8 : Nat) : Int) := rfl
    have dm : ((i : Nat) : Int).tmod 8 = ((i % 8 : Nat) : Int) := rfl
    have wq : IntKind.i64.wrap ((i / 8 : Nat) : Int) = ((i / 8 : Nat) : Int) := wrap_i64_nat (by omega)
    have q0 : ((0 : Int) ≤ ((i / 8 : Nat) : Int)) = True := eq_true (by omega)
    have q1 : (((i / 8 : Nat) : Int) < ((n : Nat) : Int)) = True := eq_true (by omega)
    have q8 : (((i % 8 : Nat) : Int) < 0) = False := eq_false (by omega)
    have hso := shl_one (k := i % 8) (by omega)
    have hor := or_u8 (hp.lt _ (List.mem_of_getElem? gb)) (pow_u8 (k := i % 8) (by omega))
    refine Zd rfl (by simp (maxSteps := 2000000) only [gs,gd,zlr,id,reduceIte,reduceCtorEq,zpa,zpb,zpc,zpd,zpe,zpf,zpg,zph,zpi,zpj,zpk,zpl,zpm,zpn,zpo,zpp, app_eq, app_set, hlh, dq, dm, wq, q0, q1, q8, un_get gb, hso, hor, un_set]; rfl) ?_
    refine Zr rfl (by simp (maxSteps := 2000000) only [gs,zlr,reduceIte,reduceCtorEq,zpa,zpb,zpc,zpd,zpe,zpf,zpg,zph,zpi,zpj,zpk,zpl,zpm,zpn,zpo,zpp, hinc]; rfl) ?_
    exact Za rfl ⟨m - 1, by omega, i + 1, _, rfl, hs, rfl, rfl, rfl, by omega⟩
  ·have gi : ((i : Int) < (l.length : Int)) = False := eq_false (by omega)
   have hil : l.take i = l := List.take_of_length_le (by omega)
   rw [hil] at hp
   have hpk : Packed bs l := by unfold Packed; rw [← hn]; exact hp
   rcases w with ⟨e, k⟩ | k
   ·subst e
    have i0 : i = 0 := by simp at hm; omega
    subst i0
    have kk : ∀ x, (h ++ [x])[o]? = some (.box [.nils]) := fun x => by rw [app_lt ho, k]
    refine Zr rfl (by simp (maxSteps := 2000000) only [gs,zlr,reduceIte,reduceCtorEq,zpa,zpb,zpc,zpd,zpe,zpf,zpg,zph,zpi,zpj,zpk,zpl,zpm,zpn,zpo,zpp, kk]; rfl) (Zc rfl rfl (fun h => by cases h) (fun _ => ?_))
    refine Zr rfl (by simp (maxSteps := 2000000) only [gs,zlr,reduceIte,reduceCtorEq,zpa,zpb,zpc,zpd,zpe,zpf,zpg,zph,zpi,zpj,zpk,zpl,zpm,zpn,zpo,zpp]; rfl) (Zq rfl ⟨_, rfl, _, _, rfl, bs, hpk, ?_, rfl⟩)
    rw [hpl]; rfl
   ·have kk : ∀ x, (h ++ [x])[o]? = some (.box [.own 1 (ub l)]) := fun x => by rw [app_lt ho, k]
    refine Zr rfl (by simp (maxSteps := 2000000) only [gs,zlr,reduceIte,reduceCtorEq,zpa,zpb,zpc,zpd,zpe,zpf,zpg,zph,zpi,zpj,zpk,zpl,zpm,zpn,zpo,zpp, kk, ub_length, gi]; rfl) (Zc rfl rfl (fun h => by cases h) (fun _ => ?_))
    refine Zr rfl (by simp (maxSteps := 2000000) only [gs,zlr,reduceIte,reduceCtorEq,zpa,zpb,zpc,zpd,zpe,zpf,zpg,zph,zpi,zpj,zpk,zpl,zpm,zpn,zpo,zpp]; rfl) (Zq rfl ⟨_, rfl, _, _, rfl, bs, hpk, ?_, rfl⟩)
    rw [hpl]; rfl
 obtain ⟨u, h', e, bs, h1, rfl, rfl⟩ := key
 exact ⟨bs, h1, e⟩
end Go.Ab
namespace Go.Ab
open Go
open Nat renaming reduceEqDiff → zpa, reduceLT → zpb, reduceAdd → zpc, reduceSub → zpd, reduceLeDiff → zpe, reduceMul → zpf
open Int renaming reduceToNat → zpg, reduceLT → zph, reduceLE → zpi, reduceEq → zpj, reduceNe → zpk, reduceBEq → zpl, reduceBNe → zpm, reduceAdd → zpn, reduceSub → zpo, reduceNeg → zpp
open List renaming replicate → zlr
set_option linter.unusedVariables false
set_option linter.unusedSimpArgs false
set_option maxRecDepth 10000
theorem RwV.other {h h' : GH} {o : Nat} {l : List Bool} (w : RwV h o l) (k : h'[o]? = h[o]?) : RwV h' o l := by
 rcases w with ⟨e, k1⟩ | k1
 ·exact .inl ⟨e, by rw [k]; exact k1⟩
 ·exact .inr (by rw [k]; exact k1)
theorem RwV.lt {h : GH} {o : Nat} {l : List Bool} (w : RwV h o l) : o < h.length := by rcases w with ⟨_, k⟩ | k <;> exact get_lt k
theorem RwV.box {h : GH} {o : Nat} {l : List Bool} (w : RwV h o l) : ∃ cs, h[o]? = some (.box cs) := by rcases w with ⟨_, k⟩ | k <;> exact ⟨_, k⟩
def rgtR (h : GH) (o : Nat) (bs : List Nat) (p : Nat) : Option (Nat × Nat) → Option (U × GH)
 | some (v, q) => some (.tup [.int .u64 (v : Int), .bool true], h.set o (rdBox bs q))
 | none => some (.tup [.int .u64 0, .bool false], h)
set_option maxHeartbeats 1000000 in
theorem rgtake_G {h : GH} {lo o p : Nat} {bs : List Nat} (k : h[o]? = some (rdBox bs p)) (hb : ∀ b ∈ bs, b < 256) (hl : bs.length ≤ 1099511627776) (hp : p ≤ 8 * bs.length) (hlo : lo ≤ o) :
  GF gtab fid_archipelagoref1_GammaTake [.ptr o 0 0 0] h lo = rgtR h o bs p (gt bs p 64 0) := by
 obtain ⟨R, hR⟩ : ∃ R, R = gt bs p 64 0 := ⟨_, rfl⟩
 rw [← hR]
 have ho := get_lt k
 have hlo' := eq_true hlo
 obtain ⟨w, h', e⟩ : ∃ w h', rgtR h o bs p R = some (w, h') := by
  cases R with
  | none => exact ⟨_, _, rfl⟩
  | some r => exact ⟨_, _, rfl⟩
 rw [e]
 have k' := k
 unfold rdBox at k'
 refine fn_archipelagoref1_GammaTake rfl ?_
 simp only [genvOf]
 refine Zr rfl (by simp (maxSteps := 2000000) only [gs,zlr,reduceIte,reduceCtorEq,zpa,zpb,zpc,zpd,zpe,zpf,zpg,zph,zpi,zpj,zpk,zpl,zpm,zpn,zpo,zpp]; rfl) ?_
 refine Zr rfl (by simp (maxSteps := 2000000) only [gs,zlr,reduceIte,reduceCtorEq,zpa,zpb,zpc,zpd,zpe,zpf,zpg,zph,zpi,zpj,zpk,zpl,zpm,zpn,zpo,zpp, k']; rfl) ?_
 refine Zr rfl (by simp (maxSteps := 2000000) only [gs,zlr,reduceIte,reduceCtorEq,zpa,zpb,zpc,zpd,zpe,zpf,zpg,zph,zpi,zpj,zpk,zpl,zpm,zpn,zpo,zpp]; rfl) ?_
 have hgo : ∀ (x : GObj), (h.set o x)[o]? = some x := fun x => set_eq ho
 have hss : ∀ (x z : GObj), (h.set o x).set o z = h.set o z := fun x z => List.set_set ..
 refine Zw rfl (fun m env h1 => ∃ i : Nat, i ≤ 64 ∧ p + i ≤ 8 * bs.length ∧ h1 = h.set o (rdBox bs (p + i)) ∧ GEnv.get env 0 = .ptr o 0 0 0 ∧ GEnv.get env 4 = .int .i64 (p : Int) ∧ GEnv.get env 5 = .int .i64 (i : Int) ∧ gt bs p (64 - i) i = R ∧ m + i = 64) 64 ⟨0, by omega, hp, (gset_same k).symm, rfl, rfl, rfl, hR.symm, rfl⟩ ?_
 rintro m env h1 ⟨i, hi64, hpi, rfl, k0, k4, k14, hg⟩
 obtain ⟨hg, hm⟩ := hg
 simp only [GEnv.keep, k0, k4, k14]
 have hlo2 : ∀ (q : Nat), (h.set o (rdBox bs q))[o]? = some (.box [.list false 1 (un .u8 bs), .int .i64 (q : Int)]) := fun q => hgo _
 have hback : ∀ q : Nat, (h.set o (rdBox bs q)).set o (.box [.list false 1 (un .u8 bs), .int .i64 (p : Int)]) = h := fun q => by
  rw [hss]
  exact gset_same k
 refine Zr rfl (by simp (maxSteps := 2000000) only [gs,zlr,reduceIte,reduceCtorEq,zpa,zpb,zpc,zpd,zpe,zpf,zpg,zph,zpi,zpj,zpk,zpl,zpm,zpn,zpo,zpp]; rfl) (Zp rfl rfl (fun hi => ?_) (fun hi => ?_))
 ·have hi' : i < 64 := by omega
  rw [show 64 - i = (64 - (i + 1)) + 1 by omega, gt] at hg
  by_cases c1 : p + i + 1 ≤ 8 * bs.length
  ·rw [if_pos c1] at hg
   have T1 := rtake_G (lo := lo) (c := 1) (n := p + i) (hgo (rdBox bs (p + i))) hb hl c1 hlo
   rw [clamp1, rnum1, hss] at T1
   refine Zr rfl (by simp (maxSteps := 2000000) only [gs,zlr,reduceIte,reduceCtorEq,zpa,zpb,zpc,zpd,zpe,zpf,zpg,zph,zpi,zpj,zpk,zpl,zpm,zpn,zpo,zpp, gc_archipelagoref1_Reader_Take, T1]; rfl) ?_
   refine Zr rfl (by simp (maxSteps := 2000000) only [gs,zlr,reduceIte,reduceCtorEq,zpa,zpb,zpc,zpd,zpe,zpf,zpg,zph,zpi,zpj,zpk,zpl,zpm,zpn,zpo,zpp]; rfl) (Zc rfl rfl (fun h => by cases h) (fun _ => ?_))
   cases hbit : rbit bs (p + i) with
   | false =>
    rw [hbit, if_neg (by simp)] at hg
    refine Zr rfl (by simp (maxSteps := 2000000) only [gs,zlr,reduceIte,reduceCtorEq,zpa,zpb,zpc,zpd,zpe,zpf,zpg,zph,zpi,zpj,zpk,zpl,zpm,zpn,zpo,zpp, Bool.toNat_false]; rfl) (Zc rfl rfl (fun _ => ?_) (fun h => by cases h))
    have hinc : IntKind.i64.wrap ((i : Int) + 1) = ((i + 1 : Nat) : Int) := up64 (by omega)
    refine Zr rfl (by simp (maxSteps := 2000000) only [gs,zlr,reduceIte,reduceCtorEq,zpa,zpb,zpc,zpd,zpe,zpf,zpg,zph,zpi,zpj,zpk,zpl,zpm,zpn,zpo,zpp, hinc]; rfl) ?_
    exact Za rfl ⟨m - 1, by omega, i + 1, by omega, by omega, rfl, rfl, rfl, rfl, hg, by omega⟩
   | true =>
    rw [hbit, if_pos rfl] at hg
    refine Zr rfl (by simp (maxSteps := 2000000) only [gs,zlr,reduceIte,reduceCtorEq,zpa,zpb,zpc,zpd,zpe,zpf,zpg,zph,zpi,zpj,zpk,zpl,zpm,zpn,zpo,zpp, Bool.toNat_true]; rfl) (Zc rfl rfl (fun h => by cases h) (fun _ => ?_))
    by_cases c2 : p + i + 1 + i ≤ 8 * bs.length
    ·rw [if_pos c2] at hg
     have T2 := rtake_G (lo := lo) (c := (i : Int)) (n := p + i + 1) (hgo (rdBox bs (p + i + 1))) hb hl (by rw [clamp_nat (by omega)]; exact c2) hlo
     rw [clamp_nat (by omega), hss] at T2
     have hsl := shl1_pow hi'
     have n0 : ((i : Int) < 0) = False := eq_false (by omega)
     have p1 : 2 ^ i < 18446744073709551616 := Nat.lt_of_lt_of_le (Nat.pow_lt_pow_right (a := 2) (by omega) hi') (Nat.le_refl _)
     have p2 : rnum bs (p + i + 1) i < 18446744073709551616 := Nat.lt_trans (rnum_lt _ _ _) p1
     have hor := or_u64 p1 p2
     refine Zr rfl (by simp (maxSteps := 2000000) only [gs,zlr,reduceIte,reduceCtorEq,zpa,zpb,zpc,zpd,zpe,zpf,zpg,zph,zpi,zpj,zpk,zpl,zpm,zpn,zpo,zpp, gc_archipelagoref1_Reader_Take, T2]; rfl) ?_
     refine Zr rfl (by simp (maxSteps := 2000000) only [gs,zlr,reduceIte,reduceCtorEq,zpa,zpb,zpc,zpd,zpe,zpf,zpg,zph,zpi,zpj,zpk,zpl,zpm,zpn,zpo,zpp]; rfl) (Zc rfl rfl (fun h => by cases h) (fun _ => ?_))
     subst hg
     simp only [rgtR, Option.some.injEq, Prod.mk.injEq] at e
     obtain ⟨rfl, rfl⟩ := e
     exact Zr rfl (by simp (maxSteps := 2000000) only [gs,zlr,reduceIte,reduceCtorEq,zpa,zpb,zpc,zpd,zpe,zpf,zpg,zph,zpi,zpj,zpk,zpl,zpm,zpn,zpo,zpp, n0, hsl, hor]; rfl) (Zq rfl ⟨_, rfl, rfl⟩)
    ·rw [if_neg c2] at hg
     subst hg
     simp only [rgtR, Option.some.injEq, Prod.mk.injEq] at e
     obtain ⟨rfl, rfl⟩ := e
     have T2 := rtakeNo_G (lo := lo) (c := (i : Int)) (n := p + i + 1) (hgo (rdBox bs (p + i + 1))) hl (by omega) (by rw [clamp_nat (by omega)]; omega)
     refine Zr rfl (by simp (maxSteps := 2000000) only [gs,zlr,reduceIte,reduceCtorEq,zpa,zpb,zpc,zpd,zpe,zpf,zpg,zph,zpi,zpj,zpk,zpl,zpm,zpn,zpo,zpp, gc_archipelagoref1_Reader_Take, T2]; rfl) ?_
     refine Zr rfl (by simp (maxSteps := 2000000) only [gs,zlr,reduceIte,reduceCtorEq,zpa,zpb,zpc,zpd,zpe,zpf,zpg,zph,zpi,zpj,zpk,zpl,zpm,zpn,zpo,zpp]; rfl) (Zc rfl rfl (fun _ => ?_) (fun h => by cases h))
     refine Zr rfl (by simp (maxSteps := 2000000) only [gs,zlr,reduceIte,reduceCtorEq,zpa,zpb,zpc,zpd,zpe,zpf,zpg,zph,zpi,zpj,zpk,zpl,zpm,zpn,zpo,zpp, hlo2, hlo', hback]; rfl) ?_
     exact Zr rfl (by simp (maxSteps := 2000000) only [gs,zlr,reduceIte,reduceCtorEq,zpa,zpb,zpc,zpd,zpe,zpf,zpg,zph,zpi,zpj,zpk,zpl,zpm,zpn,zpo,zpp]; rfl) (Zq rfl ⟨_, rfl, rfl⟩)
  ·rw [if_neg c1] at hg
   subst hg
   simp only [rgtR, Option.some.injEq, Prod.mk.injEq] at e
   obtain ⟨rfl, rfl⟩ := e
   have T1 := rtakeNo_G (lo := lo) (c := 1) (n := p + i) (hgo (rdBox bs (p + i))) hl (by omega) (by rw [clamp1]; omega)
   refine Zr rfl (by simp (maxSteps := 2000000) only [gs,zlr,reduceIte,reduceCtorEq,zpa,zpb,zpc,zpd,zpe,zpf,zpg,zph,zpi,zpj,zpk,zpl,zpm,zpn,zpo,zpp, gc_archipelagoref1_Reader_Take, T1]; rfl) ?_
   refine Zr rfl (by simp (maxSteps := 2000000) only [gs,zlr,reduceIte,reduceCtorEq,zpa,zpb,zpc,zpd,zpe,zpf,zpg,zph,zpi,zpj,zpk,zpl,zpm,zpn,zpo,zpp]; rfl) (Zc rfl rfl (fun _ => ?_) (fun h => by cases h))
   refine Zr rfl (by simp (maxSteps := 2000000) only [gs,zlr,reduceIte,reduceCtorEq,zpa,zpb,zpc,zpd,zpe,zpf,zpg,zph,zpi,zpj,zpk,zpl,zpm,zpn,zpo,zpp, hlo2, hlo', hback]; rfl) ?_
   exact Zr rfl (by simp (maxSteps := 2000000) only [gs,zlr,reduceIte,reduceCtorEq,zpa,zpb,zpc,zpd,zpe,zpf,zpg,zph,zpi,zpj,zpk,zpl,zpm,zpn,zpo,zpp]; rfl) (Zq rfl ⟨_, rfl, rfl⟩)
 ·have : i = 64 := by omega
  subst this
  simp only [Nat.sub_self, gt] at hg
  subst hg
  simp only [rgtR, Option.some.injEq, Prod.mk.injEq] at e
  obtain ⟨rfl, rfl⟩ := e
  refine Zr rfl (by simp (maxSteps := 2000000) only [gs,zlr,reduceIte,reduceCtorEq,zpa,zpb,zpc,zpd,zpe,zpf,zpg,zph,zpi,zpj,zpk,zpl,zpm,zpn,zpo,zpp, hlo2, hlo', hback]; rfl) ?_
  exact Zr rfl (by simp (maxSteps := 2000000) only [gs,zlr,reduceIte,reduceCtorEq,zpa,zpb,zpc,zpd,zpe,zpf,zpg,zph,zpi,zpj,zpk,zpl,zpm,zpn,zpo,zpp]; rfl) (Zq rfl ⟨_, rfl, rfl⟩)
theorem shr_any {v s : Nat} (hv : v < 18446744073709551616) : (v : Int).fdiv (2 ^ min s IntKind.u64.bits) = ((v / 2 ^ s : Nat) : Int) := by
 have := shr_nat (k := .u64) (a := v) (s := s) hv
 simp only [Int.toNat_natCast] at this
 exact this
theorem rlength_G {v : Nat} (hv : v < 18446744073709551616) : GF gtab fid_archipelagoref1_length [.int .u64 v] [] 0 = some (.int .i64 (nb v : Nat), []) := by
 refine fn_archipelagoref1_length rfl ?_
 simp only [genvOf]
 have hnb := nb_bound (v := v) (n := 64) hv
 refine Zr rfl (by simp (maxSteps := 2000000) only [gs,zlr,reduceIte,reduceCtorEq,zpa,zpb,zpc,zpd,zpe,zpf,zpg,zph,zpi,zpj,zpk,zpl,zpm,zpn,zpo,zpp]; rfl) ?_
 refine Zr rfl (by simp (maxSteps := 2000000) only [gs,zlr,reduceIte,reduceCtorEq,zpa,zpb,zpc,zpd,zpe,zpf,zpg,zph,zpi,zpj,zpk,zpl,zpm,zpn,zpo,zpp]; rfl) ?_
 refine Zw rfl (fun m env h => h = [] ∧ ∃ z n : Nat, GEnv.get env 0 = .int .u64 (z : Int) ∧ GEnv.get env 3 = .int .i64 (n : Int) ∧ z ≤ v ∧ n + nb z = nb v ∧ m = nb z) (nb v) ⟨rfl, v, 0, rfl, rfl, Nat.le_refl _, by omega, rfl⟩ ?_
 rintro m env h ⟨rfl, z, n, k0, k3, hz, hn, rfl⟩
 simp only [GEnv.keep, k0, k3]
 refine Zr rfl (by simp (maxSteps := 2000000) only [gs,zlr,reduceIte,reduceCtorEq,zpa,zpb,zpc,zpd,zpe,zpf,zpg,zph,zpi,zpj,zpk,zpl,zpm,zpn,zpo,zpp]; rfl) (Zp rfl rfl (fun hi => ?_) (fun hi => ?_))
 ·have hz0 : z ≠ 0 := by omega
  have hnp := nb_pos hz0
  have hsf : nb z = 1 + nb (z / 2) := by
   by_cases h1 : z = 1
   ·subst h1; kernel_rfl
   ·have := nb_shift (v := z) (s := 1) (by omega)
    rwa [Nat.pow_one] at this
  have hnn : IntKind.i64.wrap ((n : Int) + 1) = ((n + 1 : Nat) : Int) := up64 (by omega)
  have hsh : (z : Int).fdiv (2 ^ min 1 IntKind.u64.bits) = ((z / 2 : Nat) : Int) := by
   have := shr_any (v := z) (s := 1) (by omega)
   rwa [Nat.pow_one] at this
  refine Zr rfl (by simp (maxSteps := 2000000) only [gs,zlr,reduceIte,reduceCtorEq,zpa,zpb,zpc,zpd,zpe,zpf,zpg,zph,zpi,zpj,zpk,zpl,zpm,zpn,zpo,zpp, hnn, hsh]; rfl) ?_
  exact Za rfl ⟨nb (z / 2), by omega, rfl, z / 2, n + 1, rfl, rfl, by omega, by omega, rfl⟩
 ·have hz0 : z = 0 := by omega
  subst hz0
  have : n = nb v := by rw [← hn]; rfl
  subst this
  exact Zr rfl (by simp (maxSteps := 2000000) only [gs,zlr,reduceIte,reduceCtorEq,zpa,zpb,zpc,zpd,zpe,zpf,zpg,zph,zpi,zpj,zpk,zpl,zpm,zpn,zpo,zpp]; rfl) (Zq rfl ⟨_, rfl, rfl⟩)
theorem rgput_G {h : GH} {lo o v : Nat} {l : List Bool} (w : RwV h o l) (hlo : lo ≤ o) (hv : v < 18446744073709551616) (hl : l.length + 128 ≤ 1099511627776) :
  ∃ h', GF gtab fid_archipelagoref1_GammaPut [.ptr o 0 0 0, .int .u64 v] h lo = some (.tup [], h') ∧ RwV h' o (l ++ gbits v) ∧ h'.length = h.length ∧ ∀ p, p ≠ o → h'[p]? = h[p]? := by
 by_cases h0 : v = 0
 ·subst h0
  refine ⟨h, fn_archipelagoref1_GammaPut rfl ?_, by simpa [gbits, nb, top] using w, rfl, fun _ _ => rfl⟩
  simp only [genvOf]
  have S0 : GF gtab fid_archipelagoref1_length [.int .u64 0] [] 0 = some (.int .i64 0, []) := rlength_G (v := 0) (by omega)
  refine Zr rfl (by simp (maxSteps := 2000000) only [gs,zlr,reduceIte,reduceCtorEq,zpa,zpb,zpc,zpd,zpe,zpf,zpg,zph,zpi,zpj,zpk,zpl,zpm,zpn,zpo,zpp, Int.natCast_zero, gc_archipelagoref1_length, S0]; rfl) ?_
  refine Zr rfl (by simp (maxSteps := 2000000) only [gs,zlr,reduceIte,reduceCtorEq,zpa,zpb,zpc,zpd,zpe,zpf,zpg,zph,zpi,zpj,zpk,zpl,zpm,zpn,zpo,zpp]; rfl) (Zc rfl rfl (fun h => by cases h) (fun _ => ?_))
  exact Zq rfl ⟨_, rfl, rfl⟩
 ·have hnb := nb_bound (v := v) (n := 64) hv
  have hnp := nb_pos h0
  have e1 : ((nb v : Nat) : Int) - 1 = ((nb v - 1 : Nat) : Int) := by omega
  have w1 : IntKind.i64.wrap (((nb v : Nat) : Int) - 1) = ((nb v - 1 : Nat) : Int) := by rw [e1]; exact wrap_i64_nat (by omega)
  obtain ⟨h1, p1, p2, p3, p4⟩ := rwput_G (lo := lo) (n := ((nb v - 1 : Nat) : Int)) (v := 0) w hlo (by omega) (by omega)
  rw [clamp_nat (by omega)] at p2
  obtain ⟨h2, q1, q2, q3, q4⟩ := rwput_G (lo := lo) (n := ((nb v : Nat) : Int)) (v := v) p2 hlo hv (by rw [List.length_append, top_length]; omega)
  rw [clamp_nat (by omega), List.append_assoc] at q2
  refine ⟨h2, fn_archipelagoref1_GammaPut rfl ?_, q2, q3.trans p3, fun p hp => (q4 p hp).trans (p4 p hp)⟩
  simp only [genvOf]
  have hz : (((nb v : Nat) : Int) > 0) = True := eq_true (by omega)
  simp only [Int.natCast_zero] at p1
  refine Zr rfl (by simp (maxSteps := 2000000) only [gs,zlr,reduceIte,reduceCtorEq,zpa,zpb,zpc,zpd,zpe,zpf,zpg,zph,zpi,zpj,zpk,zpl,zpm,zpn,zpo,zpp, gc_archipelagoref1_length, rlength_G hv]; rfl) ?_
  refine Zr rfl (by simp (maxSteps := 2000000) only [gs,zlr,reduceIte,reduceCtorEq,zpa,zpb,zpc,zpd,zpe,zpf,zpg,zph,zpi,zpj,zpk,zpl,zpm,zpn,zpo,zpp, hz]; rfl) (Zc rfl rfl (fun _ => ?_) (fun h => by cases h))
  refine Zr rfl (by simp (maxSteps := 2000000) only [gs,zlr,reduceIte,reduceCtorEq,zpa,zpb,zpc,zpd,zpe,zpf,zpg,zph,zpi,zpj,zpk,zpl,zpm,zpn,zpo,zpp, w1, gc_archipelagoref1_Writer_Put, p1]; rfl) ?_
  refine Zr rfl (by simp (maxSteps := 2000000) only [gs,zlr,reduceIte,reduceCtorEq,zpa,zpb,zpc,zpd,zpe,zpf,zpg,zph,zpi,zpj,zpk,zpl,zpm,zpn,zpo,zpp, gc_archipelagoref1_Writer_Put, q1]; rfl) (Zq rfl ⟨_, rfl, rfl⟩)
end Go.Ab
namespace Go.Ab
open Go
open Nat renaming reduceEqDiff → zpa, reduceLT → zpb, reduceAdd → zpc, reduceSub → zpd, reduceLeDiff → zpe, reduceMul → zpf
open Int renaming reduceToNat → zpg, reduceLT → zph, reduceLE → zpi, reduceEq → zpj, reduceNe → zpk, reduceBEq → zpl, reduceBNe → zpm, reduceAdd → zpn, reduceSub → zpo, reduceNeg → zpp
open List renaming replicate → zlr
set_option linter.unusedVariables false
set_option linter.unusedSimpArgs false
set_option maxRecDepth 10000
def isBr (u : U) (bs : List Nat) : Prop := (u = .nils ∧ bs = []) ∨ u = .own 1 (un .u8 bs) ∨ u = .list false 1 (un .u8 bs)
set_option maxHeartbeats 4000000 in
theorem change_R {bs more : List Nat} {how at' x : Nat} (hne : bs ≠ []) (hb : ∀ c ∈ bs, c < 256) (hm : ∀ c ∈ more, c < 256) (hx : x < 256) (hh : how < 256) (ha : at' < 65536) (hl : bs.length ≤ 9000) (hml : more.length ≤ 8) :
  ∃ w l, GF gtab fid_archipelagoseat_Change [.list false 1 (un .u8 bs), .int .u8 how, .int .u16 at', .int .u8 x, .list false 1 (un .u8 more)] [] 0 = some (w, []) ∧ isBr w l ∧ (∀ c ∈ l, c < 256) ∧ l.length ≤ bs.length + more.length := by
 have key : ∃ u h', GF gtab fid_archipelagoseat_Change [.list false 1 (un .u8 bs), .int .u8 how, .int .u16 at', .int .u8 x, .list false 1 (un .u8 more)] [] 0 = some (u, h') ∧ h' = [] ∧ ∃ l, isBr u l ∧ (∀ c ∈ l, c < 256) ∧ l.length ≤ bs.length + more.length := by
  refine fnR_archipelagoseat_Change rfl ?_
  simp only [genvOf]
  have hpos := List.length_pos_iff.2 hne
  have hun : (un .u8 bs = []) = False := eq_false (by cases bs with
   | nil => exact absurd rfl hne
   | cons y ys => simp [un])
  have hr : (bs.length * 1 ≤ room) = True := eq_true (by unfold room; omega)
  have z1 : (((bs.length : Nat) : Int) == 0) = false := beq_eq_false_iff_ne.2 (by omega)
  have z2 : (((bs.length : Nat) : Int) = 0) = False := eq_false (by omega)
  have wa : IntKind.i64.wrap ((at' : Nat) : Int) = ((at' : Nat) : Int) := wrap_i64_nat (by omega)
  have ma : ((at' : Nat) : Int).tmod ((bs.length : Nat) : Int) = ((at' % bs.length : Nat) : Int) := rfl
  have hk := Nat.mod_lt at' hpos
  refine Zr rfl (by simp (maxSteps := 2000000) only [gs,zlr,reduceIte,reduceCtorEq,zpa,zpb,zpc,zpd,zpe,zpf,zpg,zph,zpi,zpj,zpk,zpl,zpm,zpn,zpo,zpp]; rfl) ?_
  refine Zr rfl (by simp (maxSteps := 2000000) only [gs,zlr,reduceIte,reduceCtorEq,zpa,zpb,zpc,zpd,zpe,zpf,zpg,zph,zpi,zpj,zpk,zpl,zpm,zpn,zpo,zpp, un_length, hun, hr]; rfl) ?_
  refine Zr rfl (by simp (maxSteps := 2000000) only [gs,zlr,reduceIte,reduceCtorEq,zpa,zpb,zpc,zpd,zpe,zpf,zpg,zph,zpi,zpj,zpk,zpl,zpm,zpn,zpo,zpp, z1]; rfl) (Zc rfl rfl (fun h => by cases h) (fun _ => ?_))
  refine Zr rfl (by simp (maxSteps := 2000000) only [gs,zlr,reduceIte,reduceCtorEq,zpa,zpb,zpc,zpd,zpe,zpf,zpg,zph,zpi,zpj,zpk,zpl,zpm,zpn,zpo,zpp, wa, ma, z2]; rfl) ?_
  generalize at' % bs.length = k at hk
  have m5 : ((how : Nat) : Int).tmod 5 = ((how % 5 : Nat) : Int) := rfl
  refine Zr rfl (by simp (maxSteps := 2000000) only [gs,zlr,reduceIte,reduceCtorEq,zpa,zpb,zpc,zpd,zpe,zpf,zpg,zph,zpi,zpj,zpk,zpl,zpm,zpn,zpo,zpp, m5]; rfl) ?_
  generalize how % 5 = q
  have n0 : ((0 : Int) ≤ (k : Int)) = True := eq_true (by omega)
  have n1 : ((k : Int) < (bs.length : Int)) = True := eq_true (by omega)
  have n2 : ((k : Int) ≤ (bs.length : Int)) = True := eq_true (by omega)
  have gx : bs[k]? = some (bs[k]'hk) := List.getElem?_eq_getElem _
  generalize bs[k]'hk = y at gx
  have hset : ∀ c ∈ bs.set k x, c < 256 := fun c hc => by
   rcases List.mem_or_eq_of_mem_set hc with h | rfl
   ·exact hb c h
   ·exact hx
  have hsl : (bs.set k x).length = bs.length := List.length_set
  have htk : (bs.set k x).take bs.length = bs.set k x := List.take_of_length_le (by omega)
  have hle : (bs.length ≤ (bs.set k x).length) = True := eq_true (by omega)
  have hkl : (k ≤ bs.length) = True := eq_true (by omega)
  have hkt : (bs.take k).length = k := by rw [List.length_take]; omega
  have hcut0 : cut (un .u8 (bs.set k x)) 0 bs.length = un .u8 (bs.set k x) := by rw [cut_un]; unfold cut; rw [List.drop_zero, htk]
  have hcut1 : cut (un .u8 bs) 0 k = un .u8 (bs.take k) := by rw [cut_un]; rfl
  have fe : ∀ j : Nat, q = j → (((q : Nat) : Int) == (j : Int)) = true := fun j h => by rw [h]; simp
  have fn : ∀ j : Nat, q ≠ j → (((q : Nat) : Int) == (j : Int)) = false := fun j h => beq_eq_false_iff_ne.2 (by omega)
  by_cases q0 : q = 0
  ·have c0 : (((q : Nat) : Int) == 0) = true := fe 0 q0
   refine Zr rfl (by simp (maxSteps := 2000000) only [gs,zlr,reduceIte,reduceCtorEq,zpa,zpb,zpc,zpd,zpe,zpf,zpg,zph,zpi,zpj,zpk,zpl,zpm,zpn,zpo,zpp, c0]; rfl) (Zc rfl rfl (fun _ => ?_) (fun h => by cases h))
   refine Zc rfl rfl (fun _ => ?_) (fun h => by cases h)
   refine Zr rfl (by simp (maxSteps := 2000000) only [gs,zlr,reduceIte,reduceCtorEq,zpa,zpb,zpc,zpd,zpe,zpf,zpg,zph,zpi,zpj,zpk,zpl,zpm,zpn,zpo,zpp, n0, n1, Nat.zero_add, un_get gx, un_set]; rfl) ?_
   refine Zr rfl (by simp (maxSteps := 2000000) only [gs,zlr,reduceIte,reduceCtorEq,zpa,zpb,zpc,zpd,zpe,zpf,zpg,zph,zpi,zpj,zpk,zpl,zpm,zpn,zpo,zpp]; rfl) (Zq rfl ⟨_, rfl, ?_⟩)
   simp only [gfin, outs, U.out, U.handed, U.share, U.rf, els, GEnv.get, if_true, Nat.reduceEqDiff, if_false, rfLL_un, Option.map_some, List.getElem?_cons_zero, un_length, hle, Nat.zero_add, hcut0, Nat.le_refl, and_self]
   exact ⟨_, _, rfl, rfl, bs.set k x, .inr (.inr rfl), hset, by omega⟩
  have c0 : (((q : Nat) : Int) == 0) = false := fn 0 q0
  by_cases q1 : q = 1
  ·have c1 : (((q : Nat) : Int) == 1) = true := fe 1 q1
   refine Zr rfl (by simp (maxSteps := 2000000) only [gs,zlr,reduceIte,reduceCtorEq,zpa,zpb,zpc,zpd,zpe,zpf,zpg,zph,zpi,zpj,zpk,zpl,zpm,zpn,zpo,zpp, c0]; rfl) (Zc rfl rfl (fun h => by cases h) (fun _ => ?_))
   refine Zr rfl (by simp (maxSteps := 2000000) only [gs,zlr,reduceIte,reduceCtorEq,zpa,zpb,zpc,zpd,zpe,zpf,zpg,zph,zpi,zpj,zpk,zpl,zpm,zpn,zpo,zpp, c1]; rfl) ?_
   refine Zc rfl rfl (fun _ => ?_) (fun h => by cases h)
   refine Zr rfl (by simp (maxSteps := 2000000) only [gs,zlr,reduceIte,reduceCtorEq,zpa,zpb,zpc,zpd,zpe,zpf,zpg,zph,zpi,zpj,zpk,zpl,zpm,zpn,zpo,zpp, n0, n1, Nat.zero_add, un_get gx, un_set]; rfl) ?_
   refine Zr rfl (by simp (maxSteps := 2000000) only [gs,zlr,reduceIte,reduceCtorEq,zpa,zpb,zpc,zpd,zpe,zpf,zpg,zph,zpi,zpj,zpk,zpl,zpm,zpn,zpo,zpp]; rfl) (Zq rfl ⟨_, rfl, ?_⟩)
   simp only [gfin, outs, U.out, U.handed, U.share, U.rf, els, GEnv.get, if_true, Nat.reduceEqDiff, if_false, rfLL_un, Option.map_some, List.getElem?_cons_zero, un_length, hle, Nat.zero_add, hcut0, Nat.le_refl, and_self]
   exact ⟨_, _, rfl, rfl, bs.set k x, .inr (.inr rfl), hset, by omega⟩
  have c1 : (((q : Nat) : Int) == 1) = false := fn 1 q1
  have hA : ∀ c ∈ bs.take k, c < 256 := fun c hc => hb c (List.mem_of_mem_take hc)
  have hB : ∀ j, ∀ c ∈ bs.drop j, c < 256 := fun j c hc => hb c (List.mem_of_mem_drop hc)
  by_cases q2 : q = 2
  ·have c2 : (((q : Nat) : Int) == 2) = true := fe 2 q2
   refine Zr rfl (by simp (maxSteps := 2000000) only [gs,zlr,reduceIte,reduceCtorEq,zpa,zpb,zpc,zpd,zpe,zpf,zpg,zph,zpi,zpj,zpk,zpl,zpm,zpn,zpo,zpp, c0]; rfl) (Zc rfl rfl (fun h => by cases h) (fun _ => ?_))
   refine Zr rfl (by simp (maxSteps := 2000000) only [gs,zlr,reduceIte,reduceCtorEq,zpa,zpb,zpc,zpd,zpe,zpf,zpg,zph,zpi,zpj,zpk,zpl,zpm,zpn,zpo,zpp, c1]; rfl) ?_
   refine Zc rfl rfl (fun h => by cases h) (fun _ => ?_)
   refine Zr rfl (by simp (maxSteps := 2000000) only [gs,zlr,reduceIte,reduceCtorEq,zpa,zpb,zpc,zpd,zpe,zpf,zpg,zph,zpi,zpj,zpk,zpl,zpm,zpn,zpo,zpp, c2]; rfl) (Zc rfl rfl (fun _ => ?_) (fun h => by cases h))
   have kk : ((0 : Int) ≤ (k : Int)) = True := eq_true (by omega)
   have hll : ((bs.length : Int) ≤ (bs.length : Int)) = True := eq_true (by omega)
   have hsb : ((bs.length : Int) - (k : Int)).toNat = bs.length - k := by omega
   have hdk : (bs.drop k).take (bs.length - k) = bs.drop k := List.take_of_length_le (by rw [List.length_drop]; omega)
   have hdl : (bs.drop k).length = bs.length - k := List.length_drop
   have hBn : (un .u8 (bs.drop k) = []) = False := eq_false (fun h => by have := congrArg List.length h; rw [un_length, hdl, List.length_nil] at this; omega)
   have hres : ∀ c ∈ bs.take k ++ (more ++ bs.drop k), c < 256 := fun c hc => by
    rcases List.mem_append.1 hc with hc | hc
    ·exact hA c hc
    ·rcases List.mem_append.1 hc with hc | hc
     ·exact hm c hc
     ·exact hB k c hc
   have hlen : (bs.take k ++ (more ++ bs.drop k)).length ≤ bs.length + more.length := by simp only [List.length_append, hkt, hdl]; omega
   by_cases k0 : k = 0
   ·have ht0 : bs.take k = [] := by rw [k0]; rfl
    rw [ht0, List.nil_append] at hres hlen
    have ut : un .u8 ([] : List Nat) = [] := rfl
    by_cases m0 : more = []
    ·subst m0
     rw [List.nil_append] at hres hlen
     have r1 : ((bs.drop k).length * 1 ≤ room) = True := eq_true (by rw [hdl]; unfold room; omega)
     refine Zd rfl (by simp (maxSteps := 2000000) only [gs,gd,zlr,id,reduceIte,reduceCtorEq,zpa,zpb,zpc,zpd,zpe,zpf,zpg,zph,zpi,zpj,zpk,zpl,zpm,zpn,zpo,zpp, n0, n2, kk, Int.sub_zero, hll, hsb, un_length, un_take, un_drop, Int.toNat_natCast, ht0, ut, hdk, hBn, r1]; rfl) (Zq rfl ⟨_, rfl, ?_⟩)
     simp only [gfin, outs, U.out, U.handed, U.share, U.rf, els, GEnv.get, if_true, Nat.reduceEqDiff, if_false, rfLL_un, Option.map_some]
     exact ⟨_, _, rfl, rfl, _, .inr (.inl rfl), hres, hlen⟩
    ·have hmn : (un .u8 more = []) = False := eq_false (fun h => m0 (List.eq_nil_of_length_eq_zero (by have := congrArg List.length h; rwa [un_length] at this)))
     have r1 : (more.length * 1 ≤ room) = True := eq_true (by unfold room; omega)
     have r2 : ((more.length + (bs.drop k).length) * 1 ≤ room) = True := eq_true (by rw [hdl]; unfold room; omega)
     refine Zd rfl (by simp (maxSteps := 2000000) only [gs,gd,zlr,id,reduceIte,reduceCtorEq,zpa,zpb,zpc,zpd,zpe,zpf,zpg,zph,zpi,zpj,zpk,zpl,zpm,zpn,zpo,zpp, n0, n2, kk, Int.sub_zero, hll, hsb, un_length, un_take, un_drop, Int.toNat_natCast, ht0, ut, hdk, hmn, r1, r2, un_append]; rfl) (Zq rfl ⟨_, rfl, ?_⟩)
     simp only [gfin, outs, U.out, U.handed, U.share, U.rf, els, GEnv.get, if_true, Nat.reduceEqDiff, if_false, rfLL_un, Option.map_some]
     exact ⟨_, _, rfl, rfl, _, .inr (.inl rfl), hres, hlen⟩
   ·have hAn : (un .u8 (bs.take k) = []) = False := eq_false (fun h => by have := congrArg List.length h; rw [un_length, hkt, List.length_nil] at this; omega)
    have r1 : ((bs.take k).length * 1 ≤ room) = True := eq_true (by rw [hkt]; unfold room; omega)
    have r2 : (((bs.take k).length + more.length) * 1 ≤ room) = True := eq_true (by rw [hkt]; unfold room; omega)
    have r3 : (((bs.take k ++ more).length + (bs.drop k).length) * 1 ≤ room) = True := eq_true (by rw [List.length_append, hkt, hdl]; unfold room; omega)
    rw [← List.append_assoc] at hres hlen
    refine Zd rfl (by simp (maxSteps := 2000000) only [gs,gd,zlr,id,reduceIte,reduceCtorEq,zpa,zpb,zpc,zpd,zpe,zpf,zpg,zph,zpi,zpj,zpk,zpl,zpm,zpn,zpo,zpp, n0, n2, kk, Int.sub_zero, Int.toNat_natCast, hll, hsb, un_length, un_take, un_drop, hdk, hAn, r1, r2, r3, un_append]; rfl) (Zq rfl ⟨_, rfl, ?_⟩)
    simp only [gfin, outs, U.out, U.handed, U.share, U.rf, els, GEnv.get, if_true, Nat.reduceEqDiff, if_false, rfLL_un, Option.map_some]
    exact ⟨_, _, rfl, rfl, _, .inr (.inl rfl), hres, hlen⟩
  have c2 : (((q : Nat) : Int) == 2) = false := fn 2 q2
  by_cases q3 : q = 3
  ·have c3 : (((q : Nat) : Int) == 3) = true := fe 3 q3
   refine Zr rfl (by simp (maxSteps := 2000000) only [gs,zlr,reduceIte,reduceCtorEq,zpa,zpb,zpc,zpd,zpe,zpf,zpg,zph,zpi,zpj,zpk,zpl,zpm,zpn,zpo,zpp, c0]; rfl) (Zc rfl rfl (fun h => by cases h) (fun _ => ?_))
   refine Zr rfl (by simp (maxSteps := 2000000) only [gs,zlr,reduceIte,reduceCtorEq,zpa,zpb,zpc,zpd,zpe,zpf,zpg,zph,zpi,zpj,zpk,zpl,zpm,zpn,zpo,zpp, c1]; rfl) ?_
   refine Zc rfl rfl (fun h => by cases h) (fun _ => ?_)
   refine Zr rfl (by simp (maxSteps := 2000000) only [gs,zlr,reduceIte,reduceCtorEq,zpa,zpb,zpc,zpd,zpe,zpf,zpg,zph,zpi,zpj,zpk,zpl,zpm,zpn,zpo,zpp, c2]; rfl) (Zc rfl rfl (fun h => by cases h) (fun _ => ?_))
   refine Zr rfl (by simp (maxSteps := 2000000) only [gs,zlr,reduceIte,reduceCtorEq,zpa,zpb,zpc,zpd,zpe,zpf,zpg,zph,zpi,zpj,zpk,zpl,zpm,zpn,zpo,zpp, c3]; rfl) (Zc rfl rfl (fun _ => ?_) (fun h => by cases h))
   have kk : ((0 : Int) ≤ (k : Int)) = True := eq_true (by omega)
   have s0 : ((k : Int) - 0).toNat = k := by omega
   refine Zr rfl (by simp (maxSteps := 2000000) only [gs,zlr,reduceIte,reduceCtorEq,zpa,zpb,zpc,zpd,zpe,zpf,zpg,zph,zpi,zpj,zpk,zpl,zpm,zpn,zpo,zpp, n0, n2, kk, s0, Int.sub_zero, Int.toNat_natCast, un_length]; rfl) (Zq rfl ⟨_, rfl, ?_⟩)
   simp only [gfin, outs, U.out, U.handed, U.share, U.rf, els, GEnv.get, if_true, Nat.reduceEqDiff, if_false, rfLL_un, Option.map_some, List.getElem?_cons_zero, un_length, hkl, Nat.zero_add, Nat.add_zero, hcut1, Nat.le_refl, and_self]
   exact ⟨_, _, rfl, rfl, bs.take k, .inr (.inr rfl), hA, by omega⟩
  have c3 : (((q : Nat) : Int) == 3) = false := fn 3 q3
  refine Zr rfl (by simp (maxSteps := 2000000) only [gs,zlr,reduceIte,reduceCtorEq,zpa,zpb,zpc,zpd,zpe,zpf,zpg,zph,zpi,zpj,zpk,zpl,zpm,zpn,zpo,zpp, c0]; rfl) (Zc rfl rfl (fun h => by cases h) (fun _ => ?_))
  refine Zr rfl (by simp (maxSteps := 2000000) only [gs,zlr,reduceIte,reduceCtorEq,zpa,zpb,zpc,zpd,zpe,zpf,zpg,zph,zpi,zpj,zpk,zpl,zpm,zpn,zpo,zpp, c1]; rfl) ?_
  refine Zc rfl rfl (fun h => by cases h) (fun _ => ?_)
  refine Zr rfl (by simp (maxSteps := 2000000) only [gs,zlr,reduceIte,reduceCtorEq,zpa,zpb,zpc,zpd,zpe,zpf,zpg,zph,zpi,zpj,zpk,zpl,zpm,zpn,zpo,zpp, c2]; rfl) (Zc rfl rfl (fun h => by cases h) (fun _ => ?_))
  refine Zr rfl (by simp (maxSteps := 2000000) only [gs,zlr,reduceIte,reduceCtorEq,zpa,zpb,zpc,zpd,zpe,zpf,zpg,zph,zpi,zpj,zpk,zpl,zpm,zpn,zpo,zpp, c3]; rfl) (Zc rfl rfl (fun h => by cases h) (fun _ => ?_))
  have kk : ((0 : Int) ≤ (k : Int)) = True := eq_true (by omega)
  have w1 : IntKind.i64.wrap ((k : Int) + 1) = ((k + 1 : Nat) : Int) := up64 (by omega)
  have kk1 : ((0 : Int) ≤ ((k + 1 : Nat) : Int)) = True := eq_true (by omega)
  have kk2 : (((k + 1 : Nat) : Int) ≤ (bs.length : Int)) = True := eq_true (by omega)
  have hll : ((bs.length : Int) ≤ (bs.length : Int)) = True := eq_true (by omega)
  have hsb : ((bs.length : Int) - ((k + 1 : Nat) : Int)).toNat = bs.length - (k + 1) := by omega
  have hdk : (bs.drop (k + 1)).take (bs.length - (k + 1)) = bs.drop (k + 1) := List.take_of_length_le (by rw [List.length_drop]; omega)
  have hdl : (bs.drop (k + 1)).length = bs.length - (k + 1) := List.length_drop
  have ut : un .u8 ([] : List Nat) = [] := rfl
  have hres : ∀ c ∈ bs.take k ++ bs.drop (k + 1), c < 256 := fun c hc => by
   rcases List.mem_append.1 hc with hc | hc
   ·exact hA c hc
   ·exact hB _ c hc
  have hlen : (bs.take k ++ bs.drop (k + 1)).length ≤ bs.length + more.length := by simp only [List.length_append, hkt, hdl]; omega
  by_cases k0 : k = 0
  ·have ht0 : bs.take k = [] := by rw [k0]; rfl
   rw [ht0, List.nil_append] at hres hlen
   by_cases b0 : bs.drop (k + 1) = []
   ·refine Zd rfl (by simp (maxSteps := 2000000) only [gs,gd,zlr,id,reduceIte,reduceCtorEq,zpa,zpb,zpc,zpd,zpe,zpf,zpg,zph,zpi,zpj,zpk,zpl,zpm,zpn,zpo,zpp, n0, n2, kk, kk1, kk2, w1, Int.sub_zero, Int.toNat_natCast, hll, hsb, un_length, un_take, un_drop, hdk, ht0, b0, ut, List.take_nil]; rfl) ?_
    exact Zr rfl (by simp (maxSteps := 2000000) only [gs,zlr,reduceIte,reduceCtorEq,zpa,zpb,zpc,zpd,zpe,zpf,zpg,zph,zpi,zpj,zpk,zpl,zpm,zpn,zpo,zpp]; rfl) (Zq rfl ⟨_, rfl, _, _, rfl, rfl, [], .inl ⟨rfl, rfl⟩, fun c hc => (by cases hc), by simp⟩)
   ·have hBn : (un .u8 (bs.drop (k + 1)) = []) = False := eq_false (fun h => b0 (List.eq_nil_of_length_eq_zero (by have := congrArg List.length h; rwa [un_length] at this)))
    have r1 : ((bs.drop (k + 1)).length * 1 ≤ room) = True := eq_true (by rw [hdl]; unfold room; omega)
    refine Zd rfl (by simp (maxSteps := 2000000) only [gs,gd,zlr,id,reduceIte,reduceCtorEq,zpa,zpb,zpc,zpd,zpe,zpf,zpg,zph,zpi,zpj,zpk,zpl,zpm,zpn,zpo,zpp, n0, n2, kk, kk1, kk2, w1, Int.sub_zero, Int.toNat_natCast, hll, hsb, un_length, un_take, un_drop, hdk, ht0, ut, hBn, r1]; rfl) ?_
    have hcB : cut (un .u8 (bs.drop (k + 1))) 0 (bs.drop (k + 1)).length = un .u8 (bs.drop (k + 1)) := by rw [cut_un]; unfold cut; rw [List.drop_zero, List.take_length]
    refine Zr rfl (by simp (maxSteps := 2000000) only [gs,zlr,reduceIte,reduceCtorEq,zpa,zpb,zpc,zpd,zpe,zpf,zpg,zph,zpi,zpj,zpk,zpl,zpm,zpn,zpo,zpp]; rfl) (Zq rfl ⟨_, rfl, ?_⟩)
    simp only [gfin, outs, U.out, U.handed, U.share, U.rf, els, GEnv.get, if_true, Nat.reduceEqDiff, if_false, rfLL_un, Option.map_some, List.getElem?_cons_zero, List.getElem?_cons_succ, un_length, Nat.zero_add, Nat.add_zero, hcB, Nat.le_refl, and_self]
    exact ⟨_, _, rfl, rfl, _, .inr (.inr rfl), hres, by omega⟩
  ·have hAn : (un .u8 (bs.take k) = []) = False := eq_false (fun h => by have := congrArg List.length h; rw [un_length, hkt, List.length_nil] at this; omega)
   have r1 : (k * 1 ≤ room) = True := eq_true (by unfold room; omega)
   by_cases b0 : bs.drop (k + 1) = []
   ·refine Zd rfl (by simp (maxSteps := 2000000) only [gs,gd,zlr,id,reduceIte,reduceCtorEq,zpa,zpb,zpc,zpd,zpe,zpf,zpg,zph,zpi,zpj,zpk,zpl,zpm,zpn,zpo,zpp, n0, n2, kk, kk1, kk2, w1, Int.sub_zero, Int.toNat_natCast, hll, hsb, un_length, un_take, un_drop, hdk, hAn, r1, b0, ut, List.take_nil, hkt]; rfl) ?_
    have hcA : cut (un .u8 (bs.take k)) 0 k = un .u8 (bs.take k) := by rw [cut_un]; unfold cut; rw [List.drop_zero, List.take_take, Nat.min_self]
    have hkk : (k ≤ (bs.take k).length) = True := eq_true (by omega)
    refine Zr rfl (by simp (maxSteps := 2000000) only [gs,zlr,reduceIte,reduceCtorEq,zpa,zpb,zpc,zpd,zpe,zpf,zpg,zph,zpi,zpj,zpk,zpl,zpm,zpn,zpo,zpp]; rfl) (Zq rfl ⟨_, rfl, ?_⟩)
    simp only [gfin, outs, U.out, U.handed, U.share, U.rf, els, GEnv.get, if_true, Nat.reduceEqDiff, if_false, rfLL_un, Option.map_some, List.getElem?_cons_zero, List.getElem?_cons_succ, un_length, Nat.zero_add, Nat.add_zero, hcA, hkt, hkk, Nat.le_refl, and_self]
    exact ⟨_, _, rfl, rfl, _, .inr (.inr rfl), hA, by omega⟩
   ·have hBn : (un .u8 (bs.drop (k + 1)) = []) = False := eq_false (fun h => b0 (List.eq_nil_of_length_eq_zero (by have := congrArg List.length h; rwa [un_length] at this)))
    have r2 : ((k + (bs.drop (k + 1)).length) * 1 ≤ room) = True := eq_true (by rw [hdl]; unfold room; omega)
    refine Zd rfl (by simp (maxSteps := 2000000) only [gs,gd,zlr,id,reduceIte,reduceCtorEq,zpa,zpb,zpc,zpd,zpe,zpf,zpg,zph,zpi,zpj,zpk,zpl,zpm,zpn,zpo,zpp, n0, n2, kk, kk1, kk2, w1, Int.sub_zero, Int.toNat_natCast, hll, hsb, un_length, un_take, un_drop, hdk, hAn, hBn, r1, r2, hkt]; rfl) ?_
    have hcC : cut (un .u8 (bs.take k ++ bs.drop (k + 1))) 0 (k + (bs.drop (k + 1)).length) = un .u8 (bs.take k ++ bs.drop (k + 1)) := by
     rw [cut_un]; unfold cut; rw [List.drop_zero, List.take_of_length_le (by rw [List.length_append, hkt]; omega)]
    have htt : (bs.take k).take k = bs.take k := by rw [List.take_take, Nat.min_self]
    have hcl : ((bs.take k ++ bs.drop (k + 1)).length) = k + (bs.drop (k + 1)).length := by rw [List.length_append, hkt]
    refine Zr rfl (by simp (maxSteps := 2000000) only [gs,zlr,reduceIte,reduceCtorEq,zpa,zpb,zpc,zpd,zpe,zpf,zpg,zph,zpi,zpj,zpk,zpl,zpm,zpn,zpo,zpp]; rfl) (Zq rfl ⟨_, rfl, ?_⟩)
    simp only [gfin, outs, U.out, U.handed, U.share, U.rf, els, GEnv.get, if_true, Nat.reduceEqDiff, if_false, rfLL_un, Option.map_some, List.getElem?_cons_zero, List.getElem?_cons_succ, un_length, Nat.zero_add, Nat.add_zero, List.drop_zero, un_take, htt, un_append, hcC, hcl, Nat.le_refl, Nat.zero_le, true_and, and_true, and_self]
    exact ⟨_, _, rfl, rfl, _, .inr (.inr rfl), hres, by omega⟩
 obtain ⟨u, h', h1, rfl, l, h2, h3, h4⟩ := key
 exact ⟨u, l, h1, h2, h3, h4⟩
end Go.Ab
namespace Go.Ab
open Go
open Nat renaming reduceEqDiff → zpa, reduceLT → zpb, reduceAdd → zpc, reduceSub → zpd, reduceLeDiff → zpe, reduceMul → zpf
open Int renaming reduceToNat → zpg, reduceLT → zph, reduceLE → zpi, reduceEq → zpj, reduceNe → zpk, reduceBEq → zpl, reduceBNe → zpm, reduceAdd → zpn, reduceSub → zpo, reduceNeg → zpp
open List renaming replicate → zlr
set_option linter.unusedVariables false
set_option linter.unusedSimpArgs false
set_option maxRecDepth 10000
def dChk (first : Int) (l : List Ev) (j : Nat) (e : Ev) : Prop := (0 ≤ e.1 ∧ e.1 ≤ 4611686018427387903 ∧ e.2.1 < e.2.2.1) ∧ (j = 0 → e.1 = first) ∧ ∀ d, 0 < j → l[j - 1]? = some d → ltV d e
theorem right_chk {first : Int} {l : List Ev} (h : ∀ (j : Nat) (e : Ev), l[j]? = some e → dChk first l j e) : RightD first l := by
 refine ⟨fun e he => ?_, ris_adj (R := ltV) (fun h k => ltV_trans h k) (fun i x y hx hy => (h (i + 1) y hy).2.2 x (by omega) hx), fun e r hl => (h 0 e (by rw [hl]; rfl)).2.1 rfl⟩
 obtain ⟨i, hi⟩ := List.mem_iff_getElem?.1 he
 exact (h i e hi).1
theorem chk_right {first : Int} {l : List Ev} (h : RightD first l) {j : Nat} {e : Ev} (he : l[j]? = some e) : dChk first l j e := by
 refine ⟨h.1 e (List.mem_of_getElem? he), fun h0 => ?_, fun d hj hd => ?_⟩
 ·subst h0
  cases l with
  | nil => cases he
  | cons x r => cases he; exact h.2.2 _ _ rfl
 ·have h1 := (List.getElem?_eq_some_iff.1 hd)
  have h2 := (List.getElem?_eq_some_iff.1 he)
  obtain ⟨p1, q1⟩ := h1
  obtain ⟨p2, q2⟩ := h2
  have := (List.pairwise_iff_getElem.1 h.2.1) (j - 1) j p1 p2 (by omega)
  rw [q1, q2] at this
  exact this
def evBox (e : Ev) : GObj := .box [.int .i64 e.1, .int .u32 e.2.1, .int .u32 e.2.2.1, .bool e.2.2.2]
set_option maxHeartbeats 4000000 in
theorem rdput_R {w : U} {l : List Ev} {first : Int} (hw : isVa w l) (hl : l.length ≤ 1000) (ho : EvOk l) :
  (∃ bs, RightD first l ∧ Packed bs (db first l) ∧ GF gtab fid_archipelagoref15_DeltaPut [.int .i64 first, w] [] 0 = some (.tup [.list false 1 (un .u8 bs), .int .i64 0], [])) ∨ (¬ RightD first l ∧ GF gtab fid_archipelagoref15_DeltaPut [.int .i64 first, w] [] 0 = some (.tup [.nils, .int .i64 23], [])) := by
 have key : ∃ u h', GF gtab fid_archipelagoref15_DeltaPut [.int .i64 first, w] [] 0 = some (u, h') ∧ h' = [] ∧ ((∃ bs, RightD first l ∧ Packed bs (db first l) ∧ u = .tup [.list false 1 (un .u8 bs), .int .i64 0]) ∨ (¬ RightD first l ∧ u = .tup [.nils, .int .i64 23])) := by
  refine fnR_archipelagoref15_DeltaPut rfl ?_
  simp only [genvOf]
  refine Zr rfl (by simp (maxSteps := 2000000) only [gs,zlr,reduceIte,reduceCtorEq,zpa,zpb,zpc,zpd,zpe,zpf,zpg,zph,zpi,zpj,zpk,zpl,zpm,zpn,zpo,zpp]; rfl) ?_
  refine Zr rfl (by simp (maxSteps := 2000000) only [gs,zlr,reduceIte,reduceCtorEq,zpa,zpb,zpc,zpd,zpe,zpf,zpg,zph,zpi,zpj,zpk,zpl,zpm,zpn,zpo,zpp]; rfl) ?_
  refine Zr rfl (by simp (maxSteps := 2000000) only [gs,zlr,reduceIte,reduceCtorEq,zpa,zpb,zpc,zpd,zpe,zpf,zpg,zph,zpi,zpj,zpk,zpl,zpm,zpn,zpo,zpp]; rfl) ?_
  refine Zr rfl (by simp (maxSteps := 2000000) only [gs,zlr,reduceIte,reduceCtorEq,zpa,zpb,zpc,zpd,zpe,zpf,zpg,zph,zpi,zpj,zpk,zpl,zpm,zpn,zpo,zpp]; rfl) ?_
  refine Zw rfl (fun n env h => ∃ (i : Nat) (B : List Bool) (last : Ev), n + i = l.length ∧ RwV h 0 B ∧ h[1]? = some (evBox last) ∧ B.length ≤ 400 * i ∧ B ++ dall last (decide (0 < i)) (l.drop i) = db first l ∧ ((i = 0 ∧ last = ev0 first) ∨ (0 < i ∧ l[i - 1]? = some last)) ∧ (∀ (j : Nat) (e : Ev), j < i → l[j]? = some e → dChk first l j e) ∧ GEnv.get env 0 = .int .i64 first ∧ GEnv.get env 1 = w ∧ GEnv.get env 6 = .ptr 0 0 0 0 ∧ GEnv.get env 7 = .ptr 1 0 0 0 ∧ GEnv.get env 8 = .int .i64 ((i : Nat) : Int)) l.length ⟨0, [], ev0 first, by omega, .inl ⟨rfl, rfl⟩, rfl, by simp, rfl, .inl ⟨rfl, rfl⟩, fun j e h => by omega, rfl, rfl, rfl, rfl, rfl⟩ ?_
  rintro n env h ⟨i, B, last, hn, hwr, hk, hB, hbits, hla, hchk, k0, k1, k6, k7, k8⟩
  simp only [GEnv.keep, k0, k1, k6, k7, k8]
  rcases hw with rfl | ⟨rfl, rfl⟩
  case inr =>
   have hi0 : i = 0 := by simp at hn; omega
   subst hi0
   simp only [dall, List.drop_nil, List.append_nil] at hbits
   obtain ⟨bs, hpk, hby⟩ := rwbytes_G (lo := max 0 h.length) hwr (by omega) (by omega)
   have hR : RightD first [] := ⟨fun e he => absurd he (by simp), .nil, fun e r h => (by cases h)⟩
   have hcut : cut (un .u8 bs) 0 bs.length = un .u8 bs := by rw [cut_un]; unfold cut; rw [List.drop_zero, List.take_length]
   refine Zr rfl (by simp (maxSteps := 2000000) only [gs,zlr,reduceIte,reduceCtorEq,zpa,zpb,zpc,zpd,zpe,zpf,zpg,zph,zpi,zpj,zpk,zpl,zpm,zpn,zpo,zpp]; rfl) (Zc rfl rfl (fun h => by cases h) (fun _ => ?_))
   refine Zr rfl (by simp (maxSteps := 2000000) only [gs,zlr,reduceIte,reduceCtorEq,zpa,zpb,zpc,zpd,zpe,zpf,zpg,zph,zpi,zpj,zpk,zpl,zpm,zpn,zpo,zpp, gc_archipelagoref1_Writer_Bytes, hby]; rfl) (Zq rfl ⟨_, rfl, ?_⟩)
   simp only [gfin, outs, U.out, U.handed, U.share, U.rf, els, GEnv.get, if_true, Nat.reduceEqDiff, if_false, rfLL_un, Option.map_some, app_eq, un_length, Nat.zero_add, Nat.add_zero, hcut, Nat.le_refl, and_self]
   exact ⟨_, _, rfl, rfl, .inl ⟨bs, hR, by rw [← hbits]; exact hpk, rfl⟩⟩
  have hl1 := get_lt hk
  unfold evBox at hk
  by_cases hi : i < l.length
  case neg =>
   have hil : i = l.length := by omega
   subst hil
   rw [List.drop_length] at hbits
   simp only [dall, List.append_nil] at hbits
   obtain ⟨bs, hpk, hby⟩ := rwbytes_G (lo := max 0 h.length) hwr (by omega) (by omega)
   have hR : RightD first l := right_chk fun j e he => hchk j e (List.getElem?_eq_some_iff.1 he).1 he
   have hcut : cut (un .u8 bs) 0 bs.length = un .u8 bs := by rw [cut_un]; unfold cut; rw [List.drop_zero, List.take_length]
   have g0 : ((l.length : Int) < (l.length : Int)) = False := eq_false (by omega)
   refine Zr rfl (by simp (maxSteps := 2000000) only [gs,zlr,reduceIte,reduceCtorEq,zpa,zpb,zpc,zpd,zpe,zpf,zpg,zph,zpi,zpj,zpk,zpl,zpm,zpn,zpo,zpp, uvs_length, g0]; rfl) (Zc rfl rfl (fun h => by cases h) (fun _ => ?_))
   refine Zr rfl (by simp (maxSteps := 2000000) only [gs,zlr,reduceIte,reduceCtorEq,zpa,zpb,zpc,zpd,zpe,zpf,zpg,zph,zpi,zpj,zpk,zpl,zpm,zpn,zpo,zpp, gc_archipelagoref1_Writer_Bytes, hby]; rfl) (Zq rfl ⟨_, rfl, ?_⟩)
   simp only [gfin, outs, U.out, U.handed, U.share, U.rf, els, GEnv.get, if_true, Nat.reduceEqDiff, if_false, rfLL_un, Option.map_some, app_eq, un_length, Nat.zero_add, Nat.add_zero, hcut, Nat.le_refl, and_self]
   exact ⟨_, _, rfl, rfl, .inl ⟨bs, hR, by rw [← hbits]; exact hpk, rfl⟩⟩
  have gi : ((i : Int) < (l.length : Int)) = True := eq_true (by omega)
  have gx : l[i]? = some (l[i]'hi) := List.getElem?_eq_getElem _
  have hdr : l.drop i = l[i]'hi :: l.drop (i + 1) := List.drop_eq_getElem_cons hi
  generalize l[i]'hi = e at gx hdr
  rw [hdr, dall] at hbits
  have heo := ho e (List.mem_of_getElem? gx)
  have n0 : ((0 : Int) ≤ (i : Int)) = True := eq_true (by omega)
  have k21 : ∀ x : GObj, (h ++ [x])[1]? = some (.box [.int .i64 last.1, .int .u32 last.2.1, .int .u32 last.2.2.1, .bool last.2.2.2]) := fun x => by rw [app_lt hl1, hk]
  refine Zr rfl (by simp (maxSteps := 2000000) only [gs,zlr,reduceIte,reduceCtorEq,zpa,zpb,zpc,zpd,zpe,zpf,zpg,zph,zpi,zpj,zpk,zpl,zpm,zpn,zpo,zpp, uvs_length, gi]; rfl) (Zc rfl rfl (fun _ => ?_) (fun h => by cases h))
  refine Zr rfl (by simp (maxSteps := 2000000) only [gs,zlr,reduceIte,reduceCtorEq,zpa,zpb,zpc,zpd,zpe,zpf,zpg,zph,zpi,zpj,zpk,zpl,zpm,zpn,zpo,zpp, n0, uvs_get gx, dapp_eq, dapp_set]; rfl) ?_
  have no : ¬ dChk first l i e → ((∃ bs, RightD first l ∧ Packed bs (db first l) ∧ U.tup [.nils, .int .i64 23] = .tup [.list false 1 (un .u8 bs), .int .i64 0]) ∨ (¬ RightD first l ∧ U.tup [.nils, .int .i64 23] = .tup [.nils, .int .i64 23])) := fun h => .inr ⟨fun hr => h (chk_right hr gx), rfl⟩
  by_cases b1 : e.1 < 0
  ·have c1 := eq_true b1
   refine Zr rfl (by simp (maxSteps := 2000000) only [gs,zlr,reduceIte,reduceCtorEq,zpa,zpb,zpc,zpd,zpe,zpf,zpg,zph,zpi,zpj,zpk,zpl,zpm,zpn,zpo,zpp, dapp_eq, c1, decide_true]; rfl) (Zc rfl rfl (fun _ => ?_) (fun h => by cases h))
   exact Zr rfl (by simp (maxSteps := 2000000) only [gs,zlr,reduceIte,reduceCtorEq,zpa,zpb,zpc,zpd,zpe,zpf,zpg,zph,zpi,zpj,zpk,zpl,zpm,zpn,zpo,zpp]; rfl) (Zq rfl ⟨_, rfl, _, _, rfl, rfl, no fun h => by have := h.1; omega⟩)
  have c1 := eq_false b1
  by_cases b2 : e.1 > 4611686018427387903
  ·have c2 := eq_true b2
   refine Zr rfl (by simp (maxSteps := 2000000) only [gs,zlr,reduceIte,reduceCtorEq,zpa,zpb,zpc,zpd,zpe,zpf,zpg,zph,zpi,zpj,zpk,zpl,zpm,zpn,zpo,zpp, dapp_eq, c1, c2, decide_true, decide_false]; rfl) (Zc rfl rfl (fun _ => ?_) (fun h => by cases h))
   exact Zr rfl (by simp (maxSteps := 2000000) only [gs,zlr,reduceIte,reduceCtorEq,zpa,zpb,zpc,zpd,zpe,zpf,zpg,zph,zpi,zpj,zpk,zpl,zpm,zpn,zpo,zpp]; rfl) (Zq rfl ⟨_, rfl, _, _, rfl, rfl, no fun h => by have := h.1; omega⟩)
  have c2 := eq_false b2
  by_cases b3 : e.2.1 ≥ e.2.2.1
  ·have c3 := eq_true b3
   refine Zr rfl (by simp (maxSteps := 2000000) only [gs,zlr,reduceIte,reduceCtorEq,zpa,zpb,zpc,zpd,zpe,zpf,zpg,zph,zpi,zpj,zpk,zpl,zpm,zpn,zpo,zpp, dapp_eq, c1, c2, c3, decide_true, decide_false]; rfl) (Zc rfl rfl (fun _ => ?_) (fun h => by cases h))
   exact Zr rfl (by simp (maxSteps := 2000000) only [gs,zlr,reduceIte,reduceCtorEq,zpa,zpb,zpc,zpd,zpe,zpf,zpg,zph,zpi,zpj,zpk,zpl,zpm,zpn,zpo,zpp]; rfl) (Zq rfl ⟨_, rfl, _, _, rfl, rfl, no fun h => by have := h.1; omega⟩)
  have c3 := eq_false b3
  refine Z_nrm 1 (Zj2 (fun env h' => h' = h ++ [.box [.int .i64 e.1, .int .u32 e.2.1, .int .u32 e.2.2.1, .bool e.2.2.2]] ∧ dChk first l i e ∧ GEnv.get env 0 = .int .i64 first ∧ GEnv.get env 1 = .list false 4 (uvs l) ∧ GEnv.get env 6 = .ptr 0 0 0 0 ∧ GEnv.get env 7 = .ptr 1 0 0 0 ∧ GEnv.get env 8 = .int .i64 ((i : Nat) : Int) ∧ GEnv.get env 9 = .ptr h.length 0 0 0) ?_ ?_)
  ·rcases hla with ⟨hi0, hla0⟩ | ⟨hi0, hla1⟩
   ·have f0 : ((i : Int) == 0) = true := by rw [hi0]; rfl
    have f1 : ((i : Int) > 0) = False := eq_false (by omega)
    by_cases b4 : e.1 = first
    ·have c4 : (e.1 != first) = false := by rw [b4]; exact bne_self_eq_false _
     refine Zr rfl (by simp (maxSteps := 2000000) only [gs,zlr,reduceIte,reduceCtorEq,zpa,zpb,zpc,zpd,zpe,zpf,zpg,zph,zpi,zpj,zpk,zpl,zpm,zpn,zpo,zpp, dapp_eq, c1, c2, c3, f0, f1, c4, decide_true, decide_false]; rfl) (Zc rfl rfl (fun h => by cases h) (fun _ => ?_))
     exact Za rfl ⟨rfl, ⟨by omega, fun _ => b4, fun d h => by omega⟩, rfl, rfl, rfl, rfl, rfl, rfl⟩
    ·have c4 : (e.1 != first) = true := bne_iff_ne.2 b4
     refine Zr rfl (by simp (maxSteps := 2000000) only [gs,zlr,reduceIte,reduceCtorEq,zpa,zpb,zpc,zpd,zpe,zpf,zpg,zph,zpi,zpj,zpk,zpl,zpm,zpn,zpo,zpp, dapp_eq, c1, c2, c3, f0, f1, c4, decide_true, decide_false]; rfl) (Zc rfl rfl (fun _ => ?_) (fun h => by cases h))
     exact Zr rfl (by simp (maxSteps := 2000000) only [gs,zlr,reduceIte,reduceCtorEq,zpa,zpb,zpc,zpd,zpe,zpf,zpg,zph,zpi,zpj,zpk,zpl,zpm,zpn,zpo,zpp]; rfl) (Zq rfl ⟨_, rfl, _, _, rfl, rfl, no fun h => b4 (h.2.1 hi0)⟩)
   ·have f0 : ((i : Int) == 0) = false := beq_eq_false_iff_ne.2 (by omega)
    have f1 : ((i : Int) > 0) = True := eq_true (by omega)
    have BE := before8_H last e
    by_cases b4 : ltV last e
    ·rw [decide_eq_true b4] at BE
     refine Zr rfl (by simp (maxSteps := 2000000) only [gs,zlr,reduceIte,reduceCtorEq,zpa,zpb,zpc,zpd,zpe,zpf,zpg,zph,zpi,zpj,zpk,zpl,zpm,zpn,zpo,zpp, dapp_eq, c1, c2, c3, f0, f1, k21, gc_archipelagoref8_Before, BE, decide_true, decide_false]; rfl) (Zc rfl rfl (fun h => by cases h) (fun _ => ?_))
     exact Za rfl ⟨rfl, ⟨by omega, fun h => by omega, fun d _ hd => by rw [hla1] at hd; cases hd; exact b4⟩, rfl, rfl, rfl, rfl, rfl, rfl⟩
    ·rw [decide_eq_false b4] at BE
     refine Zr rfl (by simp (maxSteps := 2000000) only [gs,zlr,reduceIte,reduceCtorEq,zpa,zpb,zpc,zpd,zpe,zpf,zpg,zph,zpi,zpj,zpk,zpl,zpm,zpn,zpo,zpp, dapp_eq, c1, c2, c3, f0, f1, k21, gc_archipelagoref8_Before, BE, decide_true, decide_false]; rfl) (Zc rfl rfl (fun _ => ?_) (fun h => by cases h))
     exact Zr rfl (by simp (maxSteps := 2000000) only [gs,zlr,reduceIte,reduceCtorEq,zpa,zpb,zpc,zpd,zpe,zpf,zpg,zph,zpi,zpj,zpk,zpl,zpm,zpn,zpo,zpp]; rfl) (Zq rfl ⟨_, rfl, _, _, rfl, rfl, no fun h => b4 (h.2.2 last hi0 hla1)⟩)
  clear k0 k1 k6 k7 k8
  rintro env h' ⟨rfl, hck, k0, k1, k6, k7, k8, k9⟩
  obtain ⟨any, hany⟩ : ∃ any, any = decide (0 < i) := ⟨_, rfl⟩
  rw [← hany] at hbits
  have hd : DNext last any e := by
   rcases hla with ⟨hi0, hla0⟩ | ⟨hi0, hla1⟩
   ·subst hla0
    have h1 := hck.2.1 hi0
    have h2 := hck.1
    have : any = false := by rw [hany]; simp [hi0]
    subst this
    unfold ev0
    exact ⟨by simp only; omega, ⟨heo.1.1, h2.2.2, heo.2.2⟩, by simp only; omega, fun h => (by cases h), fun h => (by cases h)⟩
   ·have h1 := hck.2.2 last hi0 hla1
    have h2 := hck.1
    have h3 := (hchk (i - 1) last (by omega) hla1).1
    have h4 := ho last (List.mem_of_getElem? hla1)
    have : any = true := by rw [hany]; simp [hi0]
    subst this
    have h5 := ltV_le h1
    refine ⟨by omega, ⟨heo.1.1, h2.2.2, heo.2.2⟩, ⟨h4.1.1, h4.1.2, h4.2.1, h4.2.2⟩, fun _ => h3.2.2, fun _ ht => ?_⟩
    unfold ltV ltE edOf at h1
    simp only at h1
    omega
  have hdl := dbits_le hd
  have hB4 : B.length ≤ 400000 := by omega
  obtain ⟨T0, U0, V0, A0⟩ := last
  obtain ⟨T, U, V, A⟩ := e
  have hgap := hd.gap
  have hu := hd.u
  have hv := hd.v
  have hf0 : ((i : Int) == 0) = !any := by
   rw [hany]
   by_cases h : i = 0
   ·rw [h]; rfl
   ·rw [beq_eq_false_iff_ne.2 (by omega), decide_eq_true (by omega)]; rfl
  obtain ⟨⟨d1, d2, d3⟩, ⟨d4, d5, d6⟩, ⟨d7, d8, d9, d10⟩, d11, d12⟩ := hd
  simp only at d1 d2 d3 d4 d5 d6 d7 d8 d9 d10 d11 d12
  obtain ⟨U, rfl⟩ : ∃ n : Nat, U = (n : Int) := ⟨U.toNat, by omega⟩
  obtain ⟨V, rfl⟩ : ∃ n : Nat, V = (n : Int) := ⟨V.toNat, by omega⟩
  obtain ⟨U0, rfl⟩ : ∃ n : Nat, U0 = (n : Int) := ⟨U0.toNat, by omega⟩
  obtain ⟨V0, rfl⟩ : ∃ n : Nat, V0 = (n : Int) := ⟨V0.toNat, by omega⟩
  have hsame : dsame (T0, (U0 : Int), (V0 : Int), A0) any (T, (U : Int), (V : Int), A) = (any && decide (T = T0)) := rfl
  have hdu : du (T0, (U0 : Int), (V0 : Int), A0) any (T, (U : Int), (V : Int), A) = if (any && decide (T = T0)) = true then U + 1 - U0 else U + 1 := by
   unfold du; rw [hsame]; simp only; split <;> omega
  have hdv : dv (T0, (U0 : Int), (V0 : Int), A0) any (T, (U : Int), (V : Int), A) = if (any && decide (T = T0)) = true ∧ U = U0 then V - V0 else V - U := by
   unfold dv; rw [hsame]; simp only [Int.ofNat_inj]; split <;> omega
  have hdg : dgap (T0, (U0 : Int), (V0 : Int), A0) (T, (U : Int), (V : Int), A) = (T - T0 + 1).toNat := rfl
  have hbt : dbits (T0, (U0 : Int), (V0 : Int), A0) any (T, (U : Int), (V : Int), A) = gbits (dgap (T0, (U0 : Int), (V0 : Int), A0) (T, (U : Int), (V : Int), A)) ++ ([A] ++ (gbits (du (T0, (U0 : Int), (V0 : Int), A0) any (T, (U : Int), (V : Int), A)) ++ gbits (dv (T0, (U0 : Int), (V0 : Int), A0) any (T, (U : Int), (V : Int), A)))) := rfl
  generalize dbits (T0, (U0 : Int), (V0 : Int), A0) any (T, (U : Int), (V : Int), A) = db1 at *
  generalize dgap (T0, (U0 : Int), (V0 : Int), A0) (T, (U : Int), (V : Int), A) = g at *
  generalize du (T0, (U0 : Int), (V0 : Int), A0) any (T, (U : Int), (V : Int), A) = uu at *
  generalize dv (T0, (U0 : Int), (V0 : Int), A0) any (T, (U : Int), (V : Int), A) = vv at *
  have f1 : IntKind.i64.wrap (T - T0) = ((g - 1 : Nat) : Int) := by rw [wrap_i64 (by omega) (by omega)]; omega
  have f2 : IntKind.u64.wrap ((g - 1 : Nat) : Int) = ((g - 1 : Nat) : Int) := by rw [wrap_u64_nat, Nat.mod_eq_of_lt (by omega)]
  have f3 : IntKind.u64.wrap (((g - 1 : Nat) : Int) + 1) = ((g : Nat) : Int) := by
   rw [show ((g - 1 : Nat) : Int) + 1 = ((g : Nat) : Int) by omega, wrap_u64_nat, Nat.mod_eq_of_lt (by omega)]
  have c1 : IntKind.u64.wrap ((U : Nat) : Int) = ((U : Nat) : Int) := by rw [wrap_u64_nat, Nat.mod_eq_of_lt (by omega)]
  have c2 : IntKind.u64.wrap ((V : Nat) : Int) = ((V : Nat) : Int) := by rw [wrap_u64_nat, Nat.mod_eq_of_lt (by omega)]
  have c3 : IntKind.u64.wrap (((U : Nat) : Int) + 1) = ((U + 1 : Nat) : Int) := by
   rw [show ((U : Nat) : Int) + 1 = ((U + 1 : Nat) : Int) by omega, wrap_u64_nat, Nat.mod_eq_of_lt (by omega)]
  have c4 : IntKind.u64.wrap (((V : Nat) : Int) - ((U : Nat) : Int)) = ((V - U : Nat) : Int) := by
   rw [show ((V : Nat) : Int) - ((U : Nat) : Int) = ((V - U : Nat) : Int) by omega, wrap_u64_nat, Nat.mod_eq_of_lt (by omega)]
  have c5 : IntKind.u64.wrap ((U0 : Nat) : Int) = ((U0 : Nat) : Int) := by rw [wrap_u64_nat, Nat.mod_eq_of_lt (by omega)]
  have c6 : IntKind.u64.wrap ((V0 : Nat) : Int) = ((V0 : Nat) : Int) := by rw [wrap_u64_nat, Nat.mod_eq_of_lt (by omega)]
  have hn1 : h.length ≠ 0 := by omega
  obtain ⟨eB, heB⟩ : ∃ x, x = GObj.box [.int .i64 T, .int .u32 (U : Int), .int .u32 (V : Int), .bool A] := ⟨_, rfl⟩
  obtain ⟨h2, G1, w2, l2, s2⟩ := rgput_G (lo := 0) (v := g) (hwr.other (h' := h ++ [eB]) (by rw [app_lt (by omega)])) (Nat.zero_le _) (by omega) (by omega)
  have hlen1 : (h ++ [eB]).length = h.length + 1 := by simp
  have k2n := s2 h.length hn1
  rw [dapp_eq, heB] at k2n
  have k2l := s2 1 (by omega)
  rw [k21] at k2l
  have hsg : A.toNat < 18446744073709551616 := by cases A <;> decide
  obtain ⟨h3, G2, w3, l3, s3⟩ := rwput_G (lo := 0) (v := A.toNat) (n := 1) w2 (Nat.zero_le _) hsg (by rw [List.length_append]; have := gbits_le (v := g) (by omega); omega)
  have htop : top A.toNat (clamp 1) = [A] := by cases A <;> rfl
  rw [htop] at w3
  have k3n := (s3 h.length hn1).trans k2n
  have k3l := (s3 1 (by omega)).trans k2l
  rw [heB] at G1 
  refine Zr rfl (by simp (maxSteps := 2000000) only [gs,zlr,reduceIte,reduceCtorEq,zpa,zpb,zpc,zpd,zpe,zpf,zpg,zph,zpi,zpj,zpk,zpl,zpm,zpn,zpo,zpp, k6, k7, k9, k21, dapp_eq, f1, f2, f3, gc_archipelagoref1_GammaPut, G1]; rfl) ?_
  refine Zr rfl (by simp (maxSteps := 2000000) only [gs,zlr,reduceIte,reduceCtorEq,zpa,zpb,zpc,zpd,zpe,zpf,zpg,zph,zpi,zpj,zpk,zpl,zpm,zpn,zpo,zpp]; rfl) ?_
  refine Z_nrm 1 (Zj2 (fun env h' => h' = h2 ∧ GEnv.get env 0 = .int .i64 first ∧ GEnv.get env 1 = .list false 4 (uvs l) ∧ GEnv.get env 6 = .ptr 0 0 0 0 ∧ GEnv.get env 7 = .ptr 1 0 0 0 ∧ GEnv.get env 8 = .int .i64 ((i : Nat) : Int) ∧ GEnv.get env 9 = .ptr h.length 0 0 0 ∧ GEnv.get env 10 = .int .u64 ((A.toNat : Nat) : Int)) ?_ ?_)
  ·cases A with
   | true =>
    refine Zr rfl (by simp (maxSteps := 2000000) only [gs,zlr,reduceIte,reduceCtorEq,zpa,zpb,zpc,zpd,zpe,zpf,zpg,zph,zpi,zpj,zpk,zpl,zpm,zpn,zpo,zpp, k9, k2n]; rfl) (Zc rfl rfl (fun _ => ?_) (fun h => by cases h))
    refine Zr rfl (by simp (maxSteps := 2000000) only [gs,zlr,reduceIte,reduceCtorEq,zpa,zpb,zpc,zpd,zpe,zpf,zpg,zph,zpi,zpj,zpk,zpl,zpm,zpn,zpo,zpp]; rfl) ?_
    exact Za rfl ⟨rfl, by simp [GEnv.get, k0], by simp [GEnv.get, k1], by simp [GEnv.get, k6], by simp [GEnv.get, k7], by simp [GEnv.get, k8], by simp [GEnv.get, k9], rfl⟩
   | false =>
    refine Zr rfl (by simp (maxSteps := 2000000) only [gs,zlr,reduceIte,reduceCtorEq,zpa,zpb,zpc,zpd,zpe,zpf,zpg,zph,zpi,zpj,zpk,zpl,zpm,zpn,zpo,zpp, k9, k2n]; rfl) (Zc rfl rfl (fun h => by cases h) (fun _ => ?_))
    exact Za rfl ⟨rfl, by simp [GEnv.get, k0], by simp [GEnv.get, k1], by simp [GEnv.get, k6], by simp [GEnv.get, k7], by simp [GEnv.get, k8], by simp [GEnv.get, k9], rfl⟩
  clear k0 k1 k6 k7 k8 k9
  rintro env h' ⟨rfl, k0, k1, k6, k7, k8, k9, k10⟩
  refine Zr rfl (by simp (maxSteps := 2000000) only [gs,zlr,reduceIte,reduceCtorEq,zpa,zpb,zpc,zpd,zpe,zpf,zpg,zph,zpi,zpj,zpk,zpl,zpm,zpn,zpo,zpp, k6, k10, gc_archipelagoref1_Writer_Put, G2]; rfl) ?_
  refine Zd rfl (by simp (maxSteps := 2000000) only [gs,gd,zlr,id,reduceIte,reduceCtorEq,zpa,zpb,zpc,zpd,zpe,zpf,zpg,zph,zpi,zpj,zpk,zpl,zpm,zpn,zpo,zpp, k9, k3n, c1, c2]; rfl) ?_
  have hlg := gbits_le (v := g) (by omega)
  have hB3 : (B ++ gbits g ++ [A]).length ≤ 400000 + 200 := by simp only [List.length_append, List.length_singleton]; omega
  have hlu := gbits_le (v := uu) (by omega)
  obtain ⟨h4, G3, w4, l4, s4⟩ := rgput_G (lo := 0) (v := uu) w3 (Nat.zero_le _) (by omega) (by omega)
  obtain ⟨h5, G4, w5, l5, s5⟩ := rgput_G (lo := 0) (v := vv) w4 (Nat.zero_le _) (by omega) (by rw [List.length_append]; omega)
  have k4n := (s4 h.length hn1).trans k3n
  have k4l := (s4 1 (by omega)).trans k3l
  have k5n := (s5 h.length hn1).trans k4n
  have k5l := (s5 1 (by omega)).trans k4l
  have hl5 := get_lt k5l
  refine Z_nrm 1 (Zj2 (fun env h' => h' = h5 ∧ GEnv.get env 0 = .int .i64 first ∧ GEnv.get env 1 = .list false 4 (uvs l) ∧ GEnv.get env 6 = .ptr 0 0 0 0 ∧ GEnv.get env 7 = .ptr 1 0 0 0 ∧ GEnv.get env 8 = .int .i64 ((i : Nat) : Int) ∧ GEnv.get env 9 = .ptr h.length 0 0 0) ?_ ?_)
  ·by_cases hs : any = true ∧ T = T0
   case neg =>
    rw [if_neg (by simp only [Bool.and_eq_true, decide_eq_true_eq]; exact hs)] at hdu
    rw [if_neg (by simp only [Bool.and_eq_true, decide_eq_true_eq]; exact fun h => hs h.1)] at hdv
    rw [hdu] at G3
    rw [hdv] at G4
    refine Zj rfl (fun env h' => h' = h3 ∧ GEnv.get env 100 = .bool true ∧ GEnv.get env 0 = .int .i64 first ∧ GEnv.get env 1 = .list false 4 (uvs l) ∧ GEnv.get env 6 = .ptr 0 0 0 0 ∧ GEnv.get env 7 = .ptr 1 0 0 0 ∧ GEnv.get env 8 = .int .i64 ((i : Nat) : Int) ∧ GEnv.get env 9 = .ptr h.length 0 0 0 ∧ GEnv.get env 11 = .int .u64 ((U : Nat) : Int) ∧ GEnv.get env 12 = .int .u64 ((V : Nat) : Int)) ?_ ?_
    ·cases any with
     | false =>
      refine Zr rfl (by simp (maxSteps := 2000000) only [gs,zlr,reduceIte,reduceCtorEq,zpa,zpb,zpc,zpd,zpe,zpf,zpg,zph,zpi,zpj,zpk,zpl,zpm,zpn,zpo,zpp, k8, k9, hf0]; rfl) ?_
      exact Za rfl ⟨rfl, rfl, by simp [GEnv.get, k0], by simp [GEnv.get, k1], by simp [GEnv.get, k6], by simp [GEnv.get, k7], by simp [GEnv.get, k8], by simp [GEnv.get, k9], by simp [GEnv.get], by simp [GEnv.get]⟩
     | true =>
      have hT : (T != T0) = true := bne_iff_ne.2 fun h => hs ⟨rfl, h⟩
      refine Zr rfl (by simp (maxSteps := 2000000) only [gs,zlr,reduceIte,reduceCtorEq,zpa,zpb,zpc,zpd,zpe,zpf,zpg,zph,zpi,zpj,zpk,zpl,zpm,zpn,zpo,zpp, k8, k9, k7, hf0, k3n, k3l, hT]; rfl) ?_
      exact Za rfl ⟨rfl, rfl, by simp [GEnv.get, k0], by simp [GEnv.get, k1], by simp [GEnv.get, k6], by simp [GEnv.get, k7], by simp [GEnv.get, k8], by simp [GEnv.get, k9], by simp [GEnv.get], by simp [GEnv.get]⟩
    clear k0 k1 k6 k7 k8 k9 k10
    rintro env h' ⟨rfl, k100, k0, k1, k6, k7, k8, k9, k11, k12⟩
    refine Zc rfl (x := true) k100 (fun _ => ?_) (fun h => by cases h)
    refine Zr rfl (by simp (maxSteps := 2000000) only [gs,zlr,reduceIte,reduceCtorEq,zpa,zpb,zpc,zpd,zpe,zpf,zpg,zph,zpi,zpj,zpk,zpl,zpm,zpn,zpo,zpp, k6, k11, c3, gc_archipelagoref1_GammaPut, G3]; rfl) ?_
    refine Zr rfl (by simp (maxSteps := 2000000) only [gs,zlr,reduceIte,reduceCtorEq,zpa,zpb,zpc,zpd,zpe,zpf,zpg,zph,zpi,zpj,zpk,zpl,zpm,zpn,zpo,zpp, k6, k11, k12, c4, gc_archipelagoref1_GammaPut, G4]; rfl) ?_
    exact Za rfl ⟨rfl, by simp [GEnv.get, k0], by simp [GEnv.get, k1], by simp [GEnv.get, k6], by simp [GEnv.get, k7], by simp [GEnv.get, k8], by simp [GEnv.get, k9]⟩
   obtain ⟨rfl, hT⟩ := hs
   have hTb : (T != T0) = false := by rw [hT]; exact bne_self_eq_false _
   have h12 := d12 rfl hT
   rw [if_pos (by simp [hT])] at hdu
   have q1 : IntKind.u64.wrap (((U : Nat) : Int) - ((U0 : Nat) : Int)) = ((U - U0 : Nat) : Int) := by
    rw [show ((U : Nat) : Int) - ((U0 : Nat) : Int) = ((U - U0 : Nat) : Int) by omega, wrap_u64_nat, Nat.mod_eq_of_lt (by omega)]
   have q2 : IntKind.u64.wrap (((U - U0 : Nat) : Int) + 1) = ((uu : Nat) : Int) := by
    rw [show ((U - U0 : Nat) : Int) + 1 = ((uu : Nat) : Int) by omega, wrap_u64_nat, Nat.mod_eq_of_lt (by omega)]
   refine Zr rfl (by simp (maxSteps := 2000000) only [gs,zlr,reduceIte,reduceCtorEq,zpa,zpb,zpc,zpd,zpe,zpf,zpg,zph,zpi,zpj,zpk,zpl,zpm,zpn,zpo,zpp, k8, k9, k7, hf0, k3n, k3l, hTb, Bool.not_true]; rfl) (Zc rfl rfl (fun h => by cases h) (fun _ => ?_))
   by_cases hU : U = U0
   ·have hbU : (((U : Nat) : Int) == ((U0 : Nat) : Int)) = true := by rw [hU]; exact beq_self_eq_true _
    rw [if_pos ⟨by simp [hT], hU⟩] at hdv
    have hu1 : uu = 1 := by omega
    rw [hu1] at G3
    have G3 : GF gtab fid_archipelagoref1_GammaPut [.ptr 0 0 0 0, .int .u64 1] h3 0 = some (.tup [], h4) := G3
    have q3 : IntKind.u64.wrap (((V : Nat) : Int) - ((V0 : Nat) : Int)) = ((vv : Nat) : Int) := by
     have := h12.2 (by rw [hU])
     rw [show ((V : Nat) : Int) - ((V0 : Nat) : Int) = ((vv : Nat) : Int) by omega, wrap_u64_nat, Nat.mod_eq_of_lt (by omega)]
    refine Zr rfl (by simp (maxSteps := 2000000) only [gs,zlr,reduceIte,reduceCtorEq,zpa,zpb,zpc,zpd,zpe,zpf,zpg,zph,zpi,zpj,zpk,zpl,zpm,zpn,zpo,zpp, k9, k7, k3n, k3l, hbU]; rfl) (Zc rfl rfl (fun _ => ?_) (fun h => by cases h))
    refine Zr rfl (by simp (maxSteps := 2000000) only [gs,zlr,reduceIte,reduceCtorEq,zpa,zpb,zpc,zpd,zpe,zpf,zpg,zph,zpi,zpj,zpk,zpl,zpm,zpn,zpo,zpp, k6, gc_archipelagoref1_GammaPut, G3]; rfl) ?_
    refine Zr rfl (by simp (maxSteps := 2000000) only [gs,zlr,reduceIte,reduceCtorEq,zpa,zpb,zpc,zpd,zpe,zpf,zpg,zph,zpi,zpj,zpk,zpl,zpm,zpn,zpo,zpp, k6, k7, k4l, c6, q3, gc_archipelagoref1_GammaPut, G4]; rfl) ?_
    exact Za rfl ⟨rfl, by simp [GEnv.get, k0], by simp [GEnv.get, k1], by simp [GEnv.get, k6], by simp [GEnv.get, k7], by simp [GEnv.get, k8], by simp [GEnv.get, k9]⟩
   ·have hbU : (((U : Nat) : Int) == ((U0 : Nat) : Int)) = false := beq_eq_false_iff_ne.2 (by omega)
    rw [if_neg (fun h => hU h.2)] at hdv
    rw [hdv] at G4
    refine Zr rfl (by simp (maxSteps := 2000000) only [gs,zlr,reduceIte,reduceCtorEq,zpa,zpb,zpc,zpd,zpe,zpf,zpg,zph,zpi,zpj,zpk,zpl,zpm,zpn,zpo,zpp, k9, k7, k3n, k3l, hbU]; rfl) (Zc rfl rfl (fun h => by cases h) (fun _ => ?_))
    refine Zr rfl (by simp (maxSteps := 2000000) only [gs,zlr,reduceIte,reduceCtorEq,zpa,zpb,zpc,zpd,zpe,zpf,zpg,zph,zpi,zpj,zpk,zpl,zpm,zpn,zpo,zpp, k6, k7, k3l, c5, q1, q2, gc_archipelagoref1_GammaPut, G3]; rfl) ?_
    refine Zr rfl (by simp (maxSteps := 2000000) only [gs,zlr,reduceIte,reduceCtorEq,zpa,zpb,zpc,zpd,zpe,zpf,zpg,zph,zpi,zpj,zpk,zpl,zpm,zpn,zpo,zpp, k6, c4, gc_archipelagoref1_GammaPut, G4]; rfl) ?_
    exact Za rfl ⟨rfl, by simp [GEnv.get, k0], by simp [GEnv.get, k1], by simp [GEnv.get, k6], by simp [GEnv.get, k7], by simp [GEnv.get, k8], by simp [GEnv.get, k9]⟩
  clear k0 k1 k6 k7 k8 k9 k10
  rintro env h' ⟨rfl, k0, k1, k6, k7, k8, k9⟩
  refine Zr rfl (by simp (maxSteps := 2000000) only [gs,zlr,reduceIte,reduceCtorEq,zpa,zpb,zpc,zpd,zpe,zpf,zpg,zph,zpi,zpj,zpk,zpl,zpm,zpn,zpo,zpp, k7, k9, k5n, k5l]; rfl) ?_
  have hinc : IntKind.i64.wrap ((i : Int) + 1) = ((i + 1 : Nat) : Int) := up64 (by omega)
  refine Zr rfl (by simp (maxSteps := 2000000) only [gs,zlr,reduceIte,reduceCtorEq,zpa,zpb,zpc,zpd,zpe,zpf,zpg,zph,zpi,zpj,zpk,zpl,zpm,zpn,zpo,zpp, k8, hinc]; rfl) ?_
  refine Za rfl ⟨n - 1, by omega, i + 1, B ++ db1, (T, (U : Int), (V : Int), A), by omega, ?_, set_eq hl5, by rw [List.length_append]; omega, ?_, .inr ⟨by omega, gx⟩, fun j x hj hx => ?_, by simp [GEnv.get, k0], by simp [GEnv.get, k1], by simp [GEnv.get, k6], by simp [GEnv.get, k7], by simp [GEnv.get]⟩
  ·have := w5.other (h' := h'.set 1 (.box [.int .i64 T, .int .u32 (U : Int), .int .u32 (V : Int), .bool A])) (set_ne (by omega))
   rw [hbt]
   simp only [List.append_assoc] at this
   exact this
  ·rw [decide_eq_true (by omega : 0 < i + 1), List.append_assoc]; exact hbits
  ·by_cases hji : j = i
   ·subst hji; rw [gx] at hx; cases hx; exact hck
   ·exact hchk j x (by omega) hx
 obtain ⟨u, h', h1, rfl, h2 | h2⟩ := key
 ·obtain ⟨bs, a, b, rfl⟩ := h2
  exact .inl ⟨bs, a, b, h1⟩
 ·obtain ⟨a, rfl⟩ := h2
  exact .inr ⟨a, h1⟩
end Go.Ab
namespace Go.Ab
open Go
open Nat renaming reduceEqDiff → zpa, reduceLT → zpb, reduceAdd → zpc, reduceSub → zpd, reduceLeDiff → zpe, reduceMul → zpf
open Int renaming reduceToNat → zpg, reduceLT → zph, reduceLE → zpi, reduceEq → zpj, reduceNe → zpk, reduceBEq → zpl, reduceBNe → zpm, reduceAdd → zpn, reduceSub → zpo, reduceNeg → zpp
open List renaming replicate → zlr
set_option linter.unusedVariables false
set_option linter.unusedSimpArgs false
set_option maxRecDepth 10000
structure Rd8 (bs : List Nat) (h h' : GH) (q : Nat) : Prop where
 rd : h'[0]? = some (rdBox bs q)
 le : q ≤ 8 * bs.length
 len : h.length ≤ h'.length
 same : ∀ j, 1 ≤ j → j < h.length → h'[j]? = h[j]?
theorem Rd8.trans {bs : List Nat} {a b c : GH} {p q : Nat} (h : Rd8 bs a b p) (k : Rd8 bs b c q) : Rd8 bs a c q :=
 ⟨k.rd, k.le, Nat.le_trans h.len k.len, fun j h1 h2 => by rw [k.same j h1 (Nat.lt_of_lt_of_le h2 h.len), h.same j h1 h2]⟩
theorem rgt_step {h : GH} {bs : List Nat} {p : Nat} (k : h[0]? = some (rdBox bs p)) (hp : p ≤ 8 * bs.length) (hb : ∀ b ∈ bs, b < 256) (hl : bs.length ≤ 1099511627776) :
  ∃ v ok q h', GF gtab fid_archipelagoref1_GammaTake [.ptr 0 0 0 0] h 0 = some (.tup [.int .u64 ((v : Nat) : Int), .bool ok], h') ∧ Rd8 bs h h' q ∧ ((ok = true ∧ gt bs p 64 0 = some (v, q)) ∨ (ok = false ∧ v = 0 ∧ gt bs p 64 0 = none)) := by
 have T := rgtake_G (lo := 0) k hb hl hp (Nat.zero_le _)
 cases hg : gt bs p 64 0 with
 | none =>
  rw [hg] at T
  exact ⟨0, false, p, h, T, ⟨k, hp, Nat.le_refl _, fun _ _ _ => rfl⟩, .inr ⟨rfl, rfl, rfl⟩⟩
 | some r =>
  obtain ⟨v, q⟩ := r
  rw [hg] at T
  have hr := gt_rng 64 0 (by omega) hg
  exact ⟨v, true, q, _, T, ⟨set_eq (get_lt k), hr.2.2.2, by simp, fun j h1 h2 => set_ne (by omega)⟩, .inl ⟨rfl, rfl⟩⟩
theorem rt1_step {h : GH} {bs : List Nat} {p : Nat} (k : h[0]? = some (rdBox bs p)) (hp : p ≤ 8 * bs.length) (hb : ∀ b ∈ bs, b < 256) (hl : bs.length ≤ 1099511627776) :
  ∃ sg is q h', GF gtab fid_archipelagoref1_Reader_Take [.ptr 0 0 0 0, .int .i64 1] h 0 = some (.tup [.int .u64 ((sg : Nat) : Int), .bool is], h') ∧ Rd8 bs h h' q ∧ ((is = true ∧ q = p + 1 ∧ sg = (rbit bs p).toNat) ∨ (is = false ∧ 8 * bs.length < p + 1)) := by
 by_cases hc : p + 1 ≤ 8 * bs.length
 ·have T := rtake_G (lo := 0) (c := 1) k hb hl (by rw [clamp1]; exact hc) (Nat.zero_le _)
  rw [clamp1, rnum1] at T
  exact ⟨_, true, p + 1, _, T, ⟨set_eq (get_lt k), hc, by simp, fun j h1 h2 => set_ne (by omega)⟩, .inl ⟨rfl, rfl, rfl⟩⟩
 ·have T := rtakeNo_G (lo := 0) (c := 1) k hl hp (by rw [clamp1]; omega)
  exact ⟨0, false, p, h, T, ⟨k, hp, Nat.le_refl _, fun _ _ _ => rfl⟩, .inr ⟨rfl, by omega⟩⟩
theorem comp_ev {bs : List Nat} {p : Nat} {last e0 : Ev} {any : Bool} {pre post : List Bool} (hd : DNext last any e0) (hp : Packed bs (pre ++ (dbits last any e0 ++ post))) (hpl : p = pre.length) :
  ∃ q1 q3, gt bs p 64 0 = some (dgap last e0, q1) ∧ q1 + 1 ≤ 8 * bs.length ∧ (rbit bs q1).toNat = e0.2.2.2.toNat ∧ gt bs (q1 + 1) 64 0 = some (du last any e0, q3) ∧ gt bs q3 64 0 = some (dv last any e0, (pre ++ dbits last any e0).length) := by
 have a1 := hd.gap
 have a2 := hd.u
 have a3 := hd.v
 have hp1 : Packed bs (pre ++ gbits (dgap last e0) ++ ([e0.2.2.2] ++ (gbits (du last any e0) ++ gbits (dv last any e0)) ++ post)) := by
  have : pre ++ (dbits last any e0 ++ post) = pre ++ gbits (dgap last e0) ++ ([e0.2.2.2] ++ (gbits (du last any e0) ++ gbits (dv last any e0)) ++ post) := by unfold dbits; simp only [List.append_assoc]
  rw [← this]; exact hp
 have g1 := gt_packed hp1 (by omega) (by omega)
 rw [← hpl] at g1
 have hle := packed_le hp1
 simp only [List.length_append, List.length_singleton] at hle
 have hbit := Packed.rbit hp1 (pre ++ gbits (dgap last e0)).length
 rw [List.getD_eq_getElem?_getD, List.getElem?_append_right (Nat.le_refl _), Nat.sub_self] at hbit
 simp only [List.singleton_append, List.cons_append, List.getElem?_cons_zero, Option.getD_some] at hbit
 have hp2 : Packed bs ((pre ++ gbits (dgap last e0) ++ [e0.2.2.2]) ++ gbits (du last any e0) ++ (gbits (dv last any e0) ++ post)) := by
  have : pre ++ (dbits last any e0 ++ post) = (pre ++ gbits (dgap last e0) ++ [e0.2.2.2]) ++ gbits (du last any e0) ++ (gbits (dv last any e0) ++ post) := by unfold dbits; simp only [List.append_assoc]
  rw [← this]; exact hp
 have g2 := gt_packed hp2 (by omega) (by omega)
 have hp3 : Packed bs ((pre ++ gbits (dgap last e0) ++ [e0.2.2.2] ++ gbits (du last any e0)) ++ gbits (dv last any e0) ++ post) := by
  have : pre ++ (dbits last any e0 ++ post) = (pre ++ gbits (dgap last e0) ++ [e0.2.2.2] ++ gbits (du last any e0)) ++ gbits (dv last any e0) ++ post := by unfold dbits; simp only [List.append_assoc]
  rw [← this]; exact hp
 have g3 := gt_packed hp3 (by omega) (by omega)
 refine ⟨_, (pre ++ gbits (dgap last e0) ++ [e0.2.2.2] ++ gbits (du last any e0)).length, g1, ?_, by rw [hbit], ?_, ?_⟩
 rotate_left
 ·rw [← g2]; simp only [List.length_append, List.length_singleton]
 ·have : (pre ++ dbits last any e0).length = (pre ++ gbits (dgap last e0) ++ [e0.2.2.2] ++ gbits (du last any e0) ++ gbits (dv last any e0)).length := by unfold dbits; simp only [List.append_assoc]
  rw [this]; exact g3
 ·simp only [List.length_append]; omega
set_option maxHeartbeats 4000000 in
theorem event8_G {h : GH} {bs : List Nat} {p : Nat} {last : Ev} {any : Bool} (s : h[0]? = some (rdBox bs p)) (hp : p ≤ 8 * bs.length) (hb : ∀ b ∈ bs, b < 256) (hl : bs.length ≤ 1099511627776) (hT : 0 ≤ last.1 ∧ last.1 ≤ 4611686018427387903)
  (hUV : (0 ≤ last.2.1 ∧ last.2.1 ≤ 4294967295) ∧ (0 ≤ last.2.2.1 ∧ last.2.2.1 ≤ 4294967295)) :
  ∃ (e : Ev) (ok : Bool) (q : Nat) (h' : GH), GF gtab fid_archipelagoref15_event [.ptr 0 0 0 0, .agg [.int .i64 last.1, .int .u32 last.2.1, .int .u32 last.2.2.1, .bool last.2.2.2], .bool (!any)] h 0 = some (.tup [.agg [.int .i64 e.1, .int .u32 e.2.1, .int .u32 e.2.2.1, .bool e.2.2.2], .bool ok], h') ∧ Rd8 bs h h' q ∧
   ((0 ≤ e.2.1 ∧ e.2.1 ≤ 4294967295) ∧ (0 ≤ e.2.2.1 ∧ e.2.2.1 ≤ 4294967295)) ∧ (ok = true → 0 ≤ e.1 ∧ e.1 ≤ 4611686018427387903) ∧
   (∀ (e0 : Ev) (pre post : List Bool), DNext last any e0 → Packed bs (pre ++ (dbits last any e0 ++ post)) → p = pre.length → ok = true ∧ e = e0 ∧ q = (pre ++ dbits last any e0).length) := by
 have key : ∃ u h', GF gtab fid_archipelagoref15_event [.ptr 0 0 0 0, .agg [.int .i64 last.1, .int .u32 last.2.1, .int .u32 last.2.2.1, .bool last.2.2.2], .bool (!any)] h 0 = some (u, h') ∧ ∃ (e : Ev) (ok : Bool) (q : Nat), u = .tup [.agg [.int .i64 e.1, .int .u32 e.2.1, .int .u32 e.2.2.1, .bool e.2.2.2], .bool ok] ∧ Rd8 bs h h' q ∧
   ((0 ≤ e.2.1 ∧ e.2.1 ≤ 4294967295) ∧ (0 ≤ e.2.2.1 ∧ e.2.2.1 ≤ 4294967295)) ∧ (ok = true → 0 ≤ e.1 ∧ e.1 ≤ 4611686018427387903) ∧
   (∀ (e0 : Ev) (pre post : List Bool), DNext last any e0 → Packed bs (pre ++ (dbits last any e0 ++ post)) → p = pre.length → ok = true ∧ e = e0 ∧ q = (pre ++ dbits last any e0).length) := by
  obtain ⟨T0, U0, V0, A0⟩ := last
  simp only at hT hUV
  obtain ⟨U0, rfl⟩ : ∃ n : Nat, U0 = (n : Int) := ⟨U0.toNat, by omega⟩
  obtain ⟨V0, rfl⟩ : ∃ n : Nat, V0 = (n : Int) := ⟨V0.toNat, by omega⟩
  have hl0 := get_lt s
  refine fnR_archipelagoref15_event rfl ?_
  simp only [genvOf]
  obtain ⟨h1, hh1⟩ : ∃ h1, h1 = h ++ [GObj.box [.int .i64 T0, .int .u32 (U0 : Int), .int .u32 (V0 : Int), .bool A0]] ++ [GObj.box [.int .i64 0, .int .u32 0, .int .u32 0, .bool false]] := ⟨_, rfl⟩
  have hlenA : ∀ x : GObj, (h ++ [x]).length = h.length + 1 := fun x => by simp
  have L1 : h1[h.length]? = some (.box [.int .i64 T0, .int .u32 (U0 : Int), .int .u32 (V0 : Int), .bool A0]) := by rw [hh1, app_lt (by rw [hlenA]; omega), dapp_eq]
  have Z1 : h1[h.length + 1]? = some (.box [.int .i64 0, .int .u32 0, .int .u32 0, .bool false]) := by rw [hh1, ← hlenA (.box [.int .i64 T0, .int .u32 (U0 : Int), .int .u32 (V0 : Int), .bool A0]), dapp_eq]
  have R1 : Rd8 bs h h1 p := ⟨by rw [hh1, app_lt (by rw [hlenA]; omega), app_lt (by omega)]; exact s, hp, by rw [hh1]; simp, fun j a b => by rw [hh1, app_lt (by rw [hlenA]; omega), app_lt b]⟩
  have hlen1 : h1.length = h.length + 2 := by rw [hh1]; simp
  obtain ⟨t, ok1, q1, h2, G1, r1, c1⟩ := rgt_step R1.rd R1.le hb hl
  obtain ⟨sg, is, q2, h3, G2, r2, c2⟩ := rt1_step r1.rd r1.le hb hl
  obtain ⟨a, ok3, q3, h4, G3, r3, c3⟩ := rgt_step r2.rd r2.le hb hl
  obtain ⟨b, ok4, q4, h5, G4, r4, c4⟩ := rgt_step r3.rd r3.le hb hl
  have R15 := r1.trans (r2.trans (r3.trans r4))
  have R5 := R1.trans R15
  have L5 := R15.same h.length (by omega) (by omega)
  rw [L1] at L5
  have Z5 := R15.same (h.length + 1) (by omega) (by omega)
  rw [Z1] at Z5
  have hlen5 := R15.len
  refine Zj rfl (fun env h' => h' = h1 ∧ GEnv.get env 0 = .ptr 0 0 0 0 ∧ GEnv.get env 2 = .bool (!any) ∧ GEnv.get env 4 = .ptr h.length 0 0 0 ∧ GEnv.get env 6 = .ptr (h.length + 1) 0 0 0) ?_ ?_
  ·refine Zr rfl (by simp (maxSteps := 2000000) only [gs,zlr,reduceIte,reduceCtorEq,zpa,zpb,zpc,zpd,zpe,zpf,zpg,zph,zpi,zpj,zpk,zpl,zpm,zpn,zpo,zpp, hlenA]; rfl) ?_
   exact Za rfl ⟨hh1.symm, rfl, rfl, rfl, rfl⟩
  rintro env h' ⟨rfl, k0, k2, k4, k6⟩
  refine Zr rfl (by simp (maxSteps := 2000000) only [gs,zlr,reduceIte,reduceCtorEq,zpa,zpb,zpc,zpd,zpe,zpf,zpg,zph,zpi,zpj,zpk,zpl,zpm,zpn,zpo,zpp, k0, gc_archipelagoref1_GammaTake, G1]; rfl) ?_
  refine Zr rfl (by simp (maxSteps := 2000000) only [gs,zlr,reduceIte,reduceCtorEq,zpa,zpb,zpc,zpd,zpe,zpf,zpg,zph,zpi,zpj,zpk,zpl,zpm,zpn,zpo,zpp, k0, gc_archipelagoref1_Reader_Take, G2]; rfl) ?_
  refine Zr rfl (by simp (maxSteps := 2000000) only [gs,zlr,reduceIte,reduceCtorEq,zpa,zpb,zpc,zpd,zpe,zpf,zpg,zph,zpi,zpj,zpk,zpl,zpm,zpn,zpo,zpp, k0, gc_archipelagoref1_GammaTake, G3]; rfl) ?_
  refine Zr rfl (by simp (maxSteps := 2000000) only [gs,zlr,reduceIte,reduceCtorEq,zpa,zpb,zpc,zpd,zpe,zpf,zpg,zph,zpi,zpj,zpk,zpl,zpm,zpn,zpo,zpp, k0, gc_archipelagoref1_GammaTake, G4]; rfl) ?_
  have W : ∀ {n : Nat}, 1 ≤ n → n < 18446744073709551616 → IntKind.u64.wrap ((n : Int) - 1) = ((n - 1 : Nat) : Int) := fun {n} h1 h2 => by
   rw [show ((n : Nat) : Int) - 1 = ((n - 1 : Nat) : Int) by omega, wrap_u64_nat, Nat.mod_eq_of_lt (by omega)]
  obtain ⟨M, hM⟩ : ∃ M : Nat, M = (4611686018427387903 - T0).toNat := ⟨_, rfl⟩
  obtain ⟨good, hgood⟩ : ∃ good : Bool, good = (ok1 && (is && (ok3 && (ok4 && (decide (t - 1 ≤ M) && (decide (a ≤ 4294967296) && decide (b ≤ 4294967296))))))) := ⟨_, rfl⟩
  have m1 : IntKind.i64.wrap (4611686018427387903 - T0) = ((M : Nat) : Int) := by rw [wrap_i64 (by omega) (by omega)]; omega
  have m2 : IntKind.u64.wrap ((M : Nat) : Int) = ((M : Nat) : Int) := by rw [wrap_u64_nat, Nat.mod_eq_of_lt (by omega)]
  refine Zj rfl (fun env h' => h' = h5 ∧ GEnv.get env 69 = .bool (!good) ∧ GEnv.get env 2 = .bool (!any) ∧ GEnv.get env 4 = .ptr h.length 0 0 0 ∧ GEnv.get env 6 = .ptr (h.length + 1) 0 0 0 ∧ GEnv.get env 8 = .int .u64 (t : Int) ∧ GEnv.get env 10 = .int .u64 (sg : Int) ∧ GEnv.get env 12 = .int .u64 (a : Int) ∧ GEnv.get env 14 = .int .u64 (b : Int)) ?_ ?_
  ·cases ok1 with
   | false =>
    refine Zr rfl (by simp (maxSteps := 2000000) only [gs,zlr,reduceIte,reduceCtorEq,zpa,zpb,zpc,zpd,zpe,zpf,zpg,zph,zpi,zpj,zpk,zpl,zpm,zpn,zpo,zpp, k4, L5]; rfl) ?_
    exact Za rfl ⟨rfl, by rw [hgood]; rfl, by simp [GEnv.get, k2], by simp [GEnv.get, k4], by simp [GEnv.get, k6], rfl, rfl, rfl, rfl⟩
   | true =>
   have ht : 1 ≤ t ∧ t < 18446744073709551616 := by
    rcases c1 with ⟨_, e1⟩ | ⟨h, _⟩
    ·have := gt_rng 64 0 (by omega) e1; omega
    ·cases h
   have w1 := W ht.1 ht.2
   cases is with
   | false =>
    refine Zr rfl (by simp (maxSteps := 2000000) only [gs,zlr,reduceIte,reduceCtorEq,zpa,zpb,zpc,zpd,zpe,zpf,zpg,zph,zpi,zpj,zpk,zpl,zpm,zpn,zpo,zpp, k4, L5]; rfl) ?_
    exact Za rfl ⟨rfl, by rw [hgood]; rfl, by simp [GEnv.get, k2], by simp [GEnv.get, k4], by simp [GEnv.get, k6], rfl, rfl, rfl, rfl⟩
   | true =>
   cases ok3 with
   | false =>
    refine Zr rfl (by simp (maxSteps := 2000000) only [gs,zlr,reduceIte,reduceCtorEq,zpa,zpb,zpc,zpd,zpe,zpf,zpg,zph,zpi,zpj,zpk,zpl,zpm,zpn,zpo,zpp, k4, L5]; rfl) ?_
    exact Za rfl ⟨rfl, by rw [hgood]; rfl, by simp [GEnv.get, k2], by simp [GEnv.get, k4], by simp [GEnv.get, k6], rfl, rfl, rfl, rfl⟩
   | true =>
   cases ok4 with
   | false =>
    refine Zr rfl (by simp (maxSteps := 2000000) only [gs,zlr,reduceIte,reduceCtorEq,zpa,zpb,zpc,zpd,zpe,zpf,zpg,zph,zpi,zpj,zpk,zpl,zpm,zpn,zpo,zpp, k4, L5]; rfl) ?_
    exact Za rfl ⟨rfl, by rw [hgood]; rfl, by simp [GEnv.get, k2], by simp [GEnv.get, k4], by simp [GEnv.get, k6], rfl, rfl, rfl, rfl⟩
   | true =>
   by_cases x1 : t - 1 ≤ M
   case neg =>
    have y1 : (((t - 1 : Nat) : Int) > ((M : Nat) : Int)) = True := eq_true (by omega)
    refine Zr rfl (by simp (maxSteps := 2000000) only [gs,zlr,reduceIte,reduceCtorEq,zpa,zpb,zpc,zpd,zpe,zpf,zpg,zph,zpi,zpj,zpk,zpl,zpm,zpn,zpo,zpp, k4, L5, w1, m1, m2, y1, decide_true]; rfl) ?_
    exact Za rfl ⟨rfl, by rw [hgood, decide_eq_false x1]; rfl, by simp [GEnv.get, k2], by simp [GEnv.get, k4], by simp [GEnv.get, k6], rfl, rfl, rfl, rfl⟩
   have y1 : (((t - 1 : Nat) : Int) > ((M : Nat) : Int)) = False := eq_false (by omega)
   by_cases x2 : a ≤ 4294967296
   case neg =>
    have y2 : (((a : Nat) : Int) > 4294967296) = True := eq_true (by omega)
    refine Zr rfl (by simp (maxSteps := 2000000) only [gs,zlr,reduceIte,reduceCtorEq,zpa,zpb,zpc,zpd,zpe,zpf,zpg,zph,zpi,zpj,zpk,zpl,zpm,zpn,zpo,zpp, k4, L5, w1, m1, m2, y1, y2, decide_true, decide_false]; rfl) ?_
    exact Za rfl ⟨rfl, by rw [hgood, decide_eq_true x1, decide_eq_false x2]; rfl, by simp [GEnv.get, k2], by simp [GEnv.get, k4], by simp [GEnv.get, k6], rfl, rfl, rfl, rfl⟩
   have y2 : (((a : Nat) : Int) > 4294967296) = False := eq_false (by omega)
   by_cases x3 : b ≤ 4294967296
   ·have y3 : (((b : Nat) : Int) > 4294967296) = False := eq_false (by omega)
    refine Zr rfl (by simp (maxSteps := 2000000) only [gs,zlr,reduceIte,reduceCtorEq,zpa,zpb,zpc,zpd,zpe,zpf,zpg,zph,zpi,zpj,zpk,zpl,zpm,zpn,zpo,zpp, k4, L5, w1, m1, m2, y1, y2, y3, decide_true, decide_false]; rfl) ?_
    exact Za rfl ⟨rfl, by rw [hgood, decide_eq_true x1, decide_eq_true x2, decide_eq_true x3]; rfl, by simp [GEnv.get, k2], by simp [GEnv.get, k4], by simp [GEnv.get, k6], rfl, rfl, rfl, rfl⟩
   ·have y3 : (((b : Nat) : Int) > 4294967296) = True := eq_true (by omega)
    refine Zr rfl (by simp (maxSteps := 2000000) only [gs,zlr,reduceIte,reduceCtorEq,zpa,zpb,zpc,zpd,zpe,zpf,zpg,zph,zpi,zpj,zpk,zpl,zpm,zpn,zpo,zpp, k4, L5, w1, m1, m2, y1, y2, y3, decide_true, decide_false]; rfl) ?_
    exact Za rfl ⟨rfl, by rw [hgood, decide_eq_true x1, decide_eq_true x2, decide_eq_false x3]; rfl, by simp [GEnv.get, k2], by simp [GEnv.get, k4], by simp [GEnv.get, k6], rfl, rfl, rfl, rfl⟩
  clear k0 k2 k4 k6
  rintro env h' ⟨rfl, k69, k2, k4, k6, k8, k10, k12, k14⟩
  have COMP : ∀ (e0 : Ev) (pre post : List Bool), DNext (T0, (U0 : Int), (V0 : Int), A0) any e0 → Packed bs (pre ++ (dbits (T0, (U0 : Int), (V0 : Int), A0) any e0 ++ post)) → p = pre.length → good = true ∧ t = dgap (T0, (U0 : Int), (V0 : Int), A0) e0 ∧ sg = e0.2.2.2.toNat ∧ a = du (T0, (U0 : Int), (V0 : Int), A0) any e0 ∧ b = dv (T0, (U0 : Int), (V0 : Int), A0) any e0 ∧ q4 = (pre ++ dbits (T0, (U0 : Int), (V0 : Int), A0) any e0).length := by
   intro e0 pre post hd hpk hpl
   obtain ⟨z1, z3, g1, g2, g3, g4, g5⟩ := comp_ev hd hpk hpl
   have d2 := hd.u
   have d3 := hd.v
   have d1 := hd.1
   rcases c1 with ⟨i1, e1⟩ | ⟨_, _, e1⟩
   rotate_left
   ·rw [g1] at e1; cases e1
   rw [g1] at e1
   simp only [Option.some.injEq, Prod.mk.injEq] at e1
   obtain ⟨e1, e2⟩ := e1
   subst e2
   rcases c2 with ⟨i2, e3, e4⟩ | ⟨_, e3⟩
   rotate_left
   ·omega
   subst e3
   rcases c3 with ⟨i3, e5⟩ | ⟨_, _, e5⟩
   rotate_left
   ·rw [g4] at e5; cases e5
   rw [g4] at e5
   simp only [Option.some.injEq, Prod.mk.injEq] at e5
   obtain ⟨e5, e6⟩ := e5
   subst e6
   rcases c4 with ⟨i4, e7⟩ | ⟨_, _, e7⟩
   rotate_left
   ·rw [g5] at e7; cases e7
   rw [g5] at e7
   simp only [Option.some.injEq, Prod.mk.injEq] at e7
   obtain ⟨e7, e8⟩ := e7
   refine ⟨?_, e1.symm, by rw [e4, g3], e5.symm, e7.symm, e8.symm⟩
   have hdg : dgap (T0, (U0 : Int), (V0 : Int), A0) e0 = (e0.1 - T0 + 1).toNat := rfl
   simp only at d1
   rw [hgood, i1, i2, i3, i4]
   simp only [Bool.true_and, Bool.and_eq_true, decide_eq_true_eq]
   omega
  have hl5 := get_lt Z5
  have hfr : ∀ (X : GObj) (q : Nat), h'[0]? = some (rdBox bs q) → q ≤ 8 * bs.length → Rd8 bs h (h'.set (h.length + 1) X) q := fun X q a1 a2 =>
   ⟨by rw [set_ne (by omega)]; exact a1, a2, by simp only [List.length_set]; omega, fun j a b => by rw [set_ne (by omega)]; exact R5.same j a b⟩
  cases good with
  | false =>
   have no := fun e0 pre post a b c => (COMP e0 pre post a b c).1
   have hzz : ∀ X : GObj, (h'.set (h.length + 1) X)[h.length + 1]? = some X := fun X => set_eq hl5
   refine Zc rfl (x := true) k69 (fun _ => ?_) (fun h => by cases h)
   refine Zr rfl (by simp (maxSteps := 2000000) only [gs,zlr,reduceIte,reduceCtorEq,zpa,zpb,zpc,zpd,zpe,zpf,zpg,zph,zpi,zpj,zpk,zpl,zpm,zpn,zpo,zpp, k6, Z5, Nat.zero_le]; rfl) (Zq rfl ⟨_, (by simp [gres, gload, GEnv.get, k6, hzz, gof, cut, shares, U.share, U.handed]; rfl), _, _, rfl, (0, 0, 0, false), false, q4, rfl, hfr _ _ R5.rd R5.le, by decide, fun h => (by cases h), fun e0 pre post a b c => absurd (no e0 pre post a b c) (by simp)⟩)
  | true =>
   refine Zc rfl (x := false) k69 (fun h => by cases h) (fun _ => ?_)
   have hg := hgood.symm
   simp only [Bool.and_eq_true, decide_eq_true_eq] at hg
   obtain ⟨rfl, rfl, rfl, rfl, x1, x2, x3⟩ := hg
   have ht : 1 ≤ t ∧ t < 18446744073709551616 := by
    rcases c1 with ⟨_, e1⟩ | ⟨h, _⟩
    ·have := gt_rng 64 0 (by omega) e1; omega
    ·cases h
   have ha1 : 1 ≤ a := by
    rcases c3 with ⟨_, e1⟩ | ⟨h, _⟩
    ·have := gt_rng 64 0 (by omega) e1; omega
    ·cases h
   have hb1 : 1 ≤ b := by
    rcases c4 with ⟨_, e1⟩ | ⟨h, _⟩
    ·have := gt_rng 64 0 (by omega) e1; omega
    ·cases h
   have w1 := W ht.1 ht.2
   have w2 : IntKind.i64.wrap ((t - 1 : Nat) : Int) = ((t - 1 : Nat) : Int) := wrap_i64_nat (by omega)
   have w3 : IntKind.i64.wrap (T0 + ((t - 1 : Nat) : Int)) = T0 + ((t - 1 : Nat) : Int) := wrap_i64 (by omega) (by omega)
   have w4 := W ha1 (by omega)
   have w5 : IntKind.u64.wrap (((a - 1 : Nat) : Int) + ((b : Nat) : Int)) = ((a - 1 + b : Nat) : Int) := by rw [u64_sum, Nat.mod_eq_of_lt (by omega)]
   have hsg : (((sg : Nat) : Int) == 1) = decide (sg = 1) := by
    by_cases h : sg = 1
    ·subst h; rfl
    ·rw [beq_eq_false_iff_ne.2 (by omega), decide_eq_false h]
   obtain ⟨u1, hu1⟩ : ∃ u1, u1 = (a - 1) + (if any = true ∧ t = 1 then U0 else 0) := ⟨_, rfl⟩
   obtain ⟨v1, hv1⟩ : ∃ v1, v1 = if (any = true ∧ t = 1) ∧ a = 1 then V0 + b else u1 + b := ⟨_, rfl⟩
   have hu1b : u1 ≤ 8589934592 := by rw [hu1]; split <;> omega
   have hv1b : v1 ≤ 17179869184 := by rw [hv1]; split <;> omega
   have COMP2 : ∀ (e0 : Ev) (pre post : List Bool), DNext (T0, (U0 : Int), (V0 : Int), A0) any e0 → Packed bs (pre ++ (dbits (T0, (U0 : Int), (V0 : Int), A0) any e0 ++ post)) → p = pre.length → ((T0 + ((t - 1 : Nat) : Int), ((u1 % 4294967296 : Nat) : Int), ((v1 % 4294967296 : Nat) : Int), decide (sg = 1)) : Ev) = e0 ∧ u1 ≤ 4294967295 ∧ v1 ≤ 4294967295 ∧ q4 = (pre ++ dbits (T0, (U0 : Int), (V0 : Int), A0) any e0).length := fun e0 pre post x y z => by
    obtain ⟨_, e1, e2, e3, e4, e5⟩ := COMP e0 pre post x y z
    obtain ⟨z1, z2, z3, z4⟩ := ev_back (base := if (any = true ∧ t = 1) ∧ u1 = U0 then V0 - U0 else 0) x e1 e3 e4 e2 hu1 rfl
    have hva : b + (u1 + (if (any = true ∧ t = 1) ∧ u1 = U0 then V0 - U0 else 0)) = v1 := by
     rw [hv1]
     by_cases hc : any = true ∧ t = 1
     ·rw [if_pos hc] at hu1
      have hUV0 := x.2.2.2.1 hc.1
      simp only at hUV0
      by_cases h1 : a = 1
      ·rw [if_pos ⟨hc, by omega⟩, if_pos ⟨hc, h1⟩]; omega
      ·rw [if_neg (fun h => by have := h.2; omega), if_neg (fun h => h1 h.2)]; omega
     ·rw [if_neg (fun h => hc h.1), if_neg (fun h => hc h.1)]; omega
    rw [hva] at z1 z4
    exact ⟨z1, z3, z4, e5⟩
   refine Zr rfl (by simp (maxSteps := 2000000) only [gs,zlr,reduceIte,reduceCtorEq,zpa,zpb,zpc,zpd,zpe,zpf,zpg,zph,zpi,zpj,zpk,zpl,zpm,zpn,zpo,zpp, k4, k8, k10, L5, w1, w2, w3, hsg, dapp_eq, dapp_set, Nat.zero_le]; rfl) ?_
   refine Zr rfl (by simp (maxSteps := 2000000) only [gs,zlr,reduceIte,reduceCtorEq,zpa,zpb,zpc,zpd,zpe,zpf,zpg,zph,zpi,zpj,zpk,zpl,zpm,zpn,zpo,zpp, k12, k14, w4, w5]; rfl) ?_
   have hE : ∀ x : GObj, (h' ++ [x])[h.length]? = some (.box [.int .i64 T0, .int .u32 (U0 : Int), .int .u32 (V0 : Int), .bool A0]) := fun x => by rw [app_lt (by omega), L5]
   refine Z_nrm 1 (Zj2 (fun env h6 => h6 = h' ++ [GObj.box [.int .i64 (T0 + ((t - 1 : Nat) : Int)), .int .u32 0, .int .u32 0, .bool (decide (sg = 1))]] ∧ GEnv.get env 6 = .ptr (h.length + 1) 0 0 0 ∧ GEnv.get env 16 = .ptr h'.length 0 0 0 ∧ GEnv.get env 17 = .int .u64 ((u1 : Nat) : Int) ∧ GEnv.get env 18 = .int .u64 ((v1 : Nat) : Int)) ?_ ?_)
   ·cases any with
    | false =>
     rw [if_neg (by simp)] at hu1
     rw [if_neg (by simp)] at hv1
     have hv2 : v1 = a - 1 + b := by omega
     refine Zr rfl (by simp (maxSteps := 2000000) only [gs,zlr,reduceIte,reduceCtorEq,zpa,zpb,zpc,zpd,zpe,zpf,zpg,zph,zpi,zpj,zpk,zpl,zpm,zpn,zpo,zpp, k2, Bool.not_false, Bool.not_true]; rfl) (Zc rfl rfl (fun h => by cases h) (fun _ => ?_))
     exact Za rfl ⟨rfl, by simp [GEnv.get, k6], by simp [GEnv.get], by simp [GEnv.get, hu1], by simp [GEnv.get, hv2]⟩
    | true =>
     by_cases htt : t = 1
     case neg =>
      have hb0 : (((t : Nat) : Int) == 1) = false := beq_eq_false_iff_ne.2 (by omega)
      rw [if_neg (fun h => htt h.2)] at hu1
      rw [if_neg (fun h => htt h.1.2)] at hv1
      have hv2 : v1 = a - 1 + b := by omega
      refine Zr rfl (by simp (maxSteps := 2000000) only [gs,zlr,reduceIte,reduceCtorEq,zpa,zpb,zpc,zpd,zpe,zpf,zpg,zph,zpi,zpj,zpk,zpl,zpm,zpn,zpo,zpp, k2, k8, hb0, Bool.not_false, Bool.not_true]; rfl) (Zc rfl rfl (fun h => by cases h) (fun _ => ?_))
      exact Za rfl ⟨rfl, by simp [GEnv.get, k6], by simp [GEnv.get], by simp [GEnv.get, hu1], by simp [GEnv.get, hv2]⟩
     have hb0 : (((t : Nat) : Int) == 1) = true := by rw [htt]; rfl
     rw [if_pos ⟨rfl, htt⟩] at hu1
     have w6 : IntKind.u64.wrap ((U0 : Nat) : Int) = ((U0 : Nat) : Int) := by rw [wrap_u64_nat, Nat.mod_eq_of_lt (by omega)]
     have w7 : IntKind.u64.wrap (((U0 : Nat) : Int) + ((a : Nat) : Int)) = ((U0 + a : Nat) : Int) := by rw [u64_sum, Nat.mod_eq_of_lt (by omega)]
     have w8 : IntKind.u64.wrap (((U0 + a : Nat) : Int) - 1) = ((u1 : Nat) : Int) := by rw [W (by omega) (by omega)]; congr 1; omega
     have w9 : IntKind.u64.wrap (((u1 : Nat) : Int) + ((b : Nat) : Int)) = ((u1 + b : Nat) : Int) := by rw [u64_sum, Nat.mod_eq_of_lt (by omega)]
     refine Zr rfl (by simp (maxSteps := 2000000) only [gs,zlr,reduceIte,reduceCtorEq,zpa,zpb,zpc,zpd,zpe,zpf,zpg,zph,zpi,zpj,zpk,zpl,zpm,zpn,zpo,zpp, k2, k8, hb0, Bool.not_false, Bool.not_true]; rfl) (Zc rfl rfl (fun _ => ?_) (fun h => by cases h))
     refine Zr rfl (by simp (maxSteps := 2000000) only [gs,zlr,reduceIte,reduceCtorEq,zpa,zpb,zpc,zpd,zpe,zpf,zpg,zph,zpi,zpj,zpk,zpl,zpm,zpn,zpo,zpp, k4, k12, hE, w6, w7, w8]; rfl) ?_
     refine Zr rfl (by simp (maxSteps := 2000000) only [gs,zlr,reduceIte,reduceCtorEq,zpa,zpb,zpc,zpd,zpe,zpf,zpg,zph,zpi,zpj,zpk,zpl,zpm,zpn,zpo,zpp, k14, w9]; rfl) ?_
     by_cases h1 : a = 1
     ·have hb1 : (((a : Nat) : Int) == 1) = true := by rw [h1]; rfl
      rw [if_pos ⟨⟨rfl, htt⟩, h1⟩] at hv1
      have wA : IntKind.u64.wrap ((V0 : Nat) : Int) = ((V0 : Nat) : Int) := by rw [wrap_u64_nat, Nat.mod_eq_of_lt (by omega)]
      have wB : IntKind.u64.wrap (((V0 : Nat) : Int) + ((b : Nat) : Int)) = ((v1 : Nat) : Int) := by rw [u64_sum, Nat.mod_eq_of_lt (by omega), hv1]
      refine Zr rfl (by simp (maxSteps := 2000000) only [gs,zlr,reduceIte,reduceCtorEq,zpa,zpb,zpc,zpd,zpe,zpf,zpg,zph,zpi,zpj,zpk,zpl,zpm,zpn,zpo,zpp, k12, hb1]; rfl) (Zc rfl rfl (fun _ => ?_) (fun h => by cases h))
      refine Zr rfl (by simp (maxSteps := 2000000) only [gs,zlr,reduceIte,reduceCtorEq,zpa,zpb,zpc,zpd,zpe,zpf,zpg,zph,zpi,zpj,zpk,zpl,zpm,zpn,zpo,zpp, k4, k14, hE, wA, wB]; rfl) ?_
      exact Za rfl ⟨rfl, by simp [GEnv.get, k6], by simp [GEnv.get], by simp [GEnv.get], by simp [GEnv.get]⟩
     ·have hb1 : (((a : Nat) : Int) == 1) = false := beq_eq_false_iff_ne.2 (by omega)
      rw [if_neg (fun h => h1 h.2)] at hv1
      refine Zr rfl (by simp (maxSteps := 2000000) only [gs,zlr,reduceIte,reduceCtorEq,zpa,zpb,zpc,zpd,zpe,zpf,zpg,zph,zpi,zpj,zpk,zpl,zpm,zpn,zpo,zpp, k12, hb1]; rfl) (Zc rfl rfl (fun h => by cases h) (fun _ => ?_))
      exact Za rfl ⟨rfl, by simp [GEnv.get, k6], by simp [GEnv.get], by simp [GEnv.get], by simp [GEnv.get, hv1]⟩
   clear k2 k4 k6 k8 k10 k12 k14
   rintro env h6 ⟨hh6, k6, k16, k17, k18⟩
   have Z6 : h6[h.length + 1]? = some (.box [.int .i64 0, .int .u32 0, .int .u32 0, .bool false]) := by rw [hh6, app_lt hl5, Z5]
   have E6 : h6[h'.length]? = some (.box [.int .i64 (T0 + ((t - 1 : Nat) : Int)), .int .u32 0, .int .u32 0, .bool (decide (sg = 1))]) := by rw [hh6, dapp_eq]
   have R6 : Rd8 bs h h6 q4 := ⟨by rw [hh6, app_lt (by omega)]; exact R5.rd, R5.le, by rw [hh6, List.length_append]; omega, fun j x y => by rw [hh6, app_lt (by omega)]; exact R5.same j x y⟩
   have hl6 := get_lt Z6
   have hne : h.length + 1 ≠ h'.length := by omega
   by_cases hbad : u1 ≤ 4294967295 ∧ v1 ≤ 4294967295
   case neg =>
    have no : ∀ (e0 : Ev) (pre post : List Bool), DNext (T0, (U0 : Int), (V0 : Int), A0) any e0 → Packed bs (pre ++ (dbits (T0, (U0 : Int), (V0 : Int), A0) any e0 ++ post)) → p = pre.length → False := fun e0 pre post x y z => hbad ⟨(COMP2 e0 pre post x y z).2.1, (COMP2 e0 pre post x y z).2.2.1⟩
    have hzz : ∀ X : GObj, (h6.set (h.length + 1) X)[h.length + 1]? = some X := fun X => set_eq hl6
    have hfr6 : ∀ X : GObj, Rd8 bs h (h6.set (h.length + 1) X) q4 := fun X => ⟨by rw [set_ne (by omega)]; exact R6.rd, R6.le, by simp only [List.length_set]; exact R6.len, fun j x y => by rw [set_ne (by omega)]; exact R6.same j x y⟩
    by_cases hb1 : u1 ≤ 4294967295
    ·have y1 : (((u1 : Nat) : Int) ≥ 4294967296) = False := eq_false (by omega)
     have y2 : (((v1 : Nat) : Int) ≥ 4294967296) = True := eq_true (by omega)
     refine Zr rfl (by simp (maxSteps := 2000000) only [gs,zlr,reduceIte,reduceCtorEq,zpa,zpb,zpc,zpd,zpe,zpf,zpg,zph,zpi,zpj,zpk,zpl,zpm,zpn,zpo,zpp, k17, k18, y1, y2, decide_true, decide_false]; rfl) (Zc rfl rfl (fun _ => ?_) (fun h => by cases h))
     refine Zr rfl (by simp (maxSteps := 2000000) only [gs,zlr,reduceIte,reduceCtorEq,zpa,zpb,zpc,zpd,zpe,zpf,zpg,zph,zpi,zpj,zpk,zpl,zpm,zpn,zpo,zpp, k6, Z6, Nat.zero_le]; rfl) (Zq rfl ⟨_, (by simp [gres, gload, GEnv.get, k6, hzz, gof, cut, shares, U.share, U.handed]; rfl), _, _, rfl, (0, 0, 0, false), false, q4, rfl, hfr6 _, by decide, fun h => (by cases h), fun e0 pre post a b c => absurd (no e0 pre post a b c) (by simp)⟩)
    ·have y1 : (((u1 : Nat) : Int) ≥ 4294967296) = True := eq_true (by omega)
     refine Zr rfl (by simp (maxSteps := 2000000) only [gs,zlr,reduceIte,reduceCtorEq,zpa,zpb,zpc,zpd,zpe,zpf,zpg,zph,zpi,zpj,zpk,zpl,zpm,zpn,zpo,zpp, k17, k18, y1, decide_true, decide_false]; rfl) (Zc rfl rfl (fun _ => ?_) (fun h => by cases h))
     refine Zr rfl (by simp (maxSteps := 2000000) only [gs,zlr,reduceIte,reduceCtorEq,zpa,zpb,zpc,zpd,zpe,zpf,zpg,zph,zpi,zpj,zpk,zpl,zpm,zpn,zpo,zpp, k6, Z6, Nat.zero_le]; rfl) (Zq rfl ⟨_, (by simp [gres, gload, GEnv.get, k6, hzz, gof, cut, shares, U.share, U.handed]; rfl), _, _, rfl, (0, 0, 0, false), false, q4, rfl, hfr6 _, by decide, fun h => (by cases h), fun e0 pre post a b c => absurd (no e0 pre post a b c) (by simp)⟩)
   have y1 : (((u1 : Nat) : Int) ≥ 4294967296) = False := eq_false (by omega)
   have y2 : (((v1 : Nat) : Int) ≥ 4294967296) = False := eq_false (by omega)
   have z5 : IntKind.u32.wrap ((u1 : Nat) : Int) = ((u1 % 4294967296 : Nat) : Int) := wrap_u32_nat u1
   have z6 : IntKind.u32.wrap ((v1 : Nat) : Int) = ((v1 % 4294967296 : Nat) : Int) := wrap_u32_nat v1
   refine Zr rfl (by simp (maxSteps := 2000000) only [gs,zlr,reduceIte,reduceCtorEq,zpa,zpb,zpc,zpd,zpe,zpf,zpg,zph,zpi,zpj,zpk,zpl,zpm,zpn,zpo,zpp, k17, k18, y1, y2, decide_true, decide_false]; rfl) (Zc rfl rfl (fun h => by cases h) (fun _ => ?_))
   refine Zr rfl (by simp (maxSteps := 2000000) only [gs,zlr,reduceIte,reduceCtorEq,zpa,zpb,zpc,zpd,zpe,zpf,zpg,zph,zpi,zpj,zpk,zpl,zpm,zpn,zpo,zpp, k16, k17, k18, z5, z6, E6, Nat.zero_le]; rfl) ?_
   have hset : ∀ X : GObj, (h6.set h'.length X)[h'.length]? = some X := fun X => set_eq (get_lt E6)
   have hset2 : ∀ X : GObj, (h6.set h'.length X)[h.length + 1]? = some (.box [.int .i64 0, .int .u32 0, .int .u32 0, .bool false]) := fun X => by rw [set_ne hne, Z6]
   have hzz : ∀ X Y : GObj, ((h6.set h'.length Y).set (h.length + 1) X)[h.length + 1]? = some X := fun X Y => set_eq (by rw [List.length_set]; exact hl6)
   have hfr6 : ∀ X Y : GObj, Rd8 bs h ((h6.set h'.length Y).set (h.length + 1) X) q4 := fun X Y => ⟨by rw [set_ne (by omega), set_ne (by omega)]; exact R6.rd, R6.le, by simp only [List.length_set]; exact R6.len, fun j x y => by rw [set_ne (by omega), set_ne (by omega)]; exact R6.same j x y⟩
   refine Zr rfl (by simp (maxSteps := 2000000) only [gs,zlr,reduceIte,reduceCtorEq,zpa,zpb,zpc,zpd,zpe,zpf,zpg,zph,zpi,zpj,zpk,zpl,zpm,zpn,zpo,zpp, k6, k16, hset, hset2, Nat.zero_le]; rfl) (Zq rfl ⟨_, (by simp [gres, gload, GEnv.get, k6, hzz, gof, cut, shares, U.share, U.handed]; rfl), _, _, rfl, (T0 + ((t - 1 : Nat) : Int), ((u1 % 4294967296 : Nat) : Int), ((v1 % 4294967296 : Nat) : Int), decide (sg = 1)), true, q4, rfl, hfr6 _ _, ⟨by simp only; omega, by simp only; omega⟩, fun _ => by simp only; omega, fun e0 pre post x y z => ?_⟩)
   obtain ⟨z1, _, _, z4⟩ := COMP2 e0 pre post x y z
   exact ⟨rfl, z1, z4⟩
 obtain ⟨u, h', h1, e, ok, q, rfl, h2⟩ := key
 exact ⟨e, ok, q, h', h1, h2⟩
end Go.Ab
namespace Go.Ab
open Go
open Nat renaming reduceEqDiff → zpa, reduceLT → zpb, reduceAdd → zpc, reduceSub → zpd, reduceLeDiff → zpe, reduceMul → zpf
open Int renaming reduceToNat → zpg, reduceLT → zph, reduceLE → zpi, reduceEq → zpj, reduceNe → zpk, reduceBEq → zpl, reduceBNe → zpm, reduceAdd → zpn, reduceSub → zpo, reduceNeg → zpp
open List renaming replicate → zlr
set_option linter.unusedVariables false
set_option linter.unusedSimpArgs false
set_option maxRecDepth 10000
theorem dall_ge : ∀ (l : List Ev) (last : Ev) (any : Bool), l.length ≤ (dall last any l).length
 | [], _, _ => by simp
 | e :: r, last, any => by
  have := dall_ge r e true
  rw [dall, List.length_append, List.length_cons]
  unfold dbits
  simp only [List.length_append, List.length_singleton]
  omega
set_option maxHeartbeats 4000000 in
theorem rdread_R {bs : List Nat} {first count : Int} {n : Nat} (hb : ∀ b ∈ bs, b < 256) (hl : bs.length ≤ 1000000) (hf : -9223372036854775808 ≤ first ∧ first ≤ 9223372036854775807) (hc : -9223372036854775808 ≤ count ∧ count ≤ 1000) (hn : n < 18446744073709551616) :
  ∃ u, ReadD first count n bs u ∧ GF gtab fid_archipelagoref15_DeltaRead [.list false 1 (un .u8 bs), .int .i64 first, .int .i64 count, .int .u64 (n : Int)] [] 0 = some (u, []) := by
 have key : ∃ u h', GF gtab fid_archipelagoref15_DeltaRead [.list false 1 (un .u8 bs), .int .i64 first, .int .i64 count, .int .u64 (n : Int)] [] 0 = some (u, h') ∧ h' = [] ∧ ReadD first count n bs u := by
  have no : (¬ ∃ l, DIs first count n bs l) → ReadD first count n bs (.tup [.nils, .int .i64 21]) := fun h => .inr ⟨h, rfl⟩
  refine fnR_archipelagoref15_DeltaRead rfl ?_
  simp only [genvOf]
  have w8 : IntKind.i64.wrap (8 * ((bs.length : Nat) : Int)) = ((8 * bs.length : Nat) : Int) := by
   rw [show 8 * ((bs.length : Nat) : Int) = ((8 * bs.length : Nat) : Int) by omega]; exact wrap_i64_nat (by omega)
  refine Zr rfl (by simp (maxSteps := 2000000) only [gs,zlr,reduceIte,reduceCtorEq,zpa,zpb,zpc,zpd,zpe,zpf,zpg,zph,zpi,zpj,zpk,zpl,zpm,zpn,zpo,zpp]; rfl) ?_
  by_cases hneg : count < 0
  ·have c2 := eq_true hneg
   refine Zr rfl (by simp (maxSteps := 2000000) only [gs,zlr,reduceIte,reduceCtorEq,zpa,zpb,zpc,zpd,zpe,zpf,zpg,zph,zpi,zpj,zpk,zpl,zpm,zpn,zpo,zpp, c2, decide_true]; rfl) (Zc rfl rfl (fun _ => ?_) (fun h => by cases h))
   exact Zr rfl (by simp (maxSteps := 2000000) only [gs,zlr,reduceIte,reduceCtorEq,zpa,zpb,zpc,zpd,zpe,zpf,zpg,zph,zpi,zpj,zpk,zpl,zpm,zpn,zpo,zpp]; rfl) (Zq rfl ⟨_, rfl, _, _, rfl, rfl, no fun ⟨l, hl⟩ => by have := hl.1.1; omega⟩)
  have c2 := eq_false hneg
  by_cases hbig : count > ((8 * bs.length : Nat) : Int)
  ·have c1 := eq_true hbig
   refine Zr rfl (by simp (maxSteps := 2000000) only [gs,zlr,reduceIte,reduceCtorEq,zpa,zpb,zpc,zpd,zpe,zpf,zpg,zph,zpi,zpj,zpk,zpl,zpm,zpn,zpo,zpp, c2, un_length, w8, c1, decide_true, decide_false]; rfl) (Zc rfl rfl (fun _ => ?_) (fun h => by cases h))
   exact Zr rfl (by simp (maxSteps := 2000000) only [gs,zlr,reduceIte,reduceCtorEq,zpa,zpb,zpc,zpd,zpe,zpf,zpg,zph,zpi,zpj,zpk,zpl,zpm,zpn,zpo,zpp]; rfl) (Zq rfl ⟨_, rfl, _, _, rfl, rfl, no fun ⟨l, hl⟩ => by
    have h1 := hl.1.2.2
    have h2 := packed_le hl.2.2.2.2
    have h3 := dall_ge l (ev0 first) false
    unfold db at h2
    omega⟩)
  have c1 := eq_false hbig
  by_cases hbad : count > 0 ∧ (first < 0 ∨ first > 4611686018427387903)
  ·have c0 : (count > 0) = True := eq_true hbad.1
   have hno : ReadD first count n bs (.tup [.nils, .int .i64 21]) := no fun ⟨l, hl⟩ => by have := hl.1.2.1 hbad.1; have := hbad.2; omega
   by_cases hf0 : first < 0
   ·have c3 := eq_true hf0
    refine Zr rfl (by simp (maxSteps := 2000000) only [gs,zlr,reduceIte,reduceCtorEq,zpa,zpb,zpc,zpd,zpe,zpf,zpg,zph,zpi,zpj,zpk,zpl,zpm,zpn,zpo,zpp, c0, c1, c2, c3, un_length, w8, decide_true, decide_false]; rfl) (Zc rfl rfl (fun _ => ?_) (fun h => by cases h))
    exact Zr rfl (by simp (maxSteps := 2000000) only [gs,zlr,reduceIte,reduceCtorEq,zpa,zpb,zpc,zpd,zpe,zpf,zpg,zph,zpi,zpj,zpk,zpl,zpm,zpn,zpo,zpp]; rfl) (Zq rfl ⟨_, rfl, _, _, rfl, rfl, hno⟩)
   ·have c3 := eq_false hf0
    have c4 : (first > 4611686018427387903) = True := eq_true (by omega)
    refine Zr rfl (by simp (maxSteps := 2000000) only [gs,zlr,reduceIte,reduceCtorEq,zpa,zpb,zpc,zpd,zpe,zpf,zpg,zph,zpi,zpj,zpk,zpl,zpm,zpn,zpo,zpp, c0, c1, c2, c3, c4, un_length, w8, decide_true, decide_false]; rfl) (Zc rfl rfl (fun _ => ?_) (fun h => by cases h))
    exact Zr rfl (by simp (maxSteps := 2000000) only [gs,zlr,reduceIte,reduceCtorEq,zpa,zpb,zpc,zpd,zpe,zpf,zpg,zph,zpi,zpj,zpk,zpl,zpm,zpn,zpo,zpp]; rfl) (Zq rfl ⟨_, rfl, _, _, rfl, rfl, hno⟩)
  have hfc : 0 < count → 0 ≤ first ∧ first ≤ 4611686018427387903 := fun h => by omega
  refine Z_nrm 1 (Zj2 (fun env h => h = [] ∧ GEnv.get env 0 = .list false 1 (un .u8 bs) ∧ GEnv.get env 1 = .int .i64 first ∧ GEnv.get env 2 = .int .i64 count ∧ GEnv.get env 3 = .int .u64 (n : Int)) ?_ ?_)
  ·by_cases hp : count > 0
   ·have c0 : (count > 0) = True := eq_true hp
    have c3 : (first < 0) = False := eq_false (by omega)
    have c4 : (first > 4611686018427387903) = False := eq_false (by omega)
    refine Zr rfl (by simp (maxSteps := 2000000) only [gs,zlr,reduceIte,reduceCtorEq,zpa,zpb,zpc,zpd,zpe,zpf,zpg,zph,zpi,zpj,zpk,zpl,zpm,zpn,zpo,zpp, c0, c1, c2, c3, c4, un_length, w8, decide_true, decide_false]; rfl) (Zc rfl rfl (fun h => by cases h) (fun _ => ?_))
    exact Za rfl ⟨rfl, rfl, rfl, rfl, rfl⟩
   ·have c0 : (count > 0) = False := eq_false hp
    by_cases hx : first < 0
    ·have c3 := eq_true hx
     have c4 : (first > 4611686018427387903) = False := eq_false (by omega)
     refine Zr rfl (by simp (maxSteps := 2000000) only [gs,zlr,reduceIte,reduceCtorEq,zpa,zpb,zpc,zpd,zpe,zpf,zpg,zph,zpi,zpj,zpk,zpl,zpm,zpn,zpo,zpp, c0, c1, c2, c3, c4, un_length, w8, decide_true, decide_false]; rfl) (Zc rfl rfl (fun h => by cases h) (fun _ => ?_))
     exact Za rfl ⟨rfl, rfl, rfl, rfl, rfl⟩
    ·have c3 := eq_false hx
     by_cases hy : first > 4611686018427387903
     ·have c4 := eq_true hy
      refine Zr rfl (by simp (maxSteps := 2000000) only [gs,zlr,reduceIte,reduceCtorEq,zpa,zpb,zpc,zpd,zpe,zpf,zpg,zph,zpi,zpj,zpk,zpl,zpm,zpn,zpo,zpp, c0, c1, c2, c3, c4, un_length, w8, decide_true, decide_false]; rfl) (Zc rfl rfl (fun h => by cases h) (fun _ => ?_))
      exact Za rfl ⟨rfl, rfl, rfl, rfl, rfl⟩
     ·have c4 := eq_false hy
      refine Zr rfl (by simp (maxSteps := 2000000) only [gs,zlr,reduceIte,reduceCtorEq,zpa,zpb,zpc,zpd,zpe,zpf,zpg,zph,zpi,zpj,zpk,zpl,zpm,zpn,zpo,zpp, c0, c1, c2, c3, c4, un_length, w8, decide_true, decide_false]; rfl) (Zc rfl rfl (fun h => by cases h) (fun _ => ?_))
      exact Za rfl ⟨rfl, rfl, rfl, rfl, rfl⟩
  rintro env h ⟨rfl, k0, k1, k2, k3⟩
  obtain ⟨C, rfl⟩ : ∃ C : Nat, count = (C : Int) := ⟨count.toNat, by omega⟩
  refine Zr rfl (by simp (maxSteps := 2000000) only [gs,zlr,reduceIte,reduceCtorEq,zpa,zpb,zpc,zpd,zpe,zpf,zpg,zph,zpi,zpj,zpk,zpl,zpm,zpn,zpo,zpp, k0]; rfl) ?_
  refine Zr rfl (by simp (maxSteps := 2000000) only [gs,zlr,reduceIte,reduceCtorEq,zpa,zpb,zpc,zpd,zpe,zpf,zpg,zph,zpi,zpj,zpk,zpl,zpm,zpn,zpo,zpp, k1]; rfl) ?_
  refine Zr rfl (by simp (maxSteps := 2000000) only [gs,zlr,reduceIte,reduceCtorEq,zpa,zpb,zpc,zpd,zpe,zpf,zpg,zph,zpi,zpj,zpk,zpl,zpm,zpn,zpo,zpp]; rfl) ?_
  refine Zr rfl (by simp (maxSteps := 2000000) only [gs,zlr,reduceIte,reduceCtorEq,zpa,zpb,zpc,zpd,zpe,zpf,zpg,zph,zpi,zpj,zpk,zpl,zpm,zpn,zpo,zpp]; rfl) ?_
  refine Zw rfl (fun m env h => ∃ (i p : Nat) (last : Ev) (out : List Ev), m + i = C ∧ h[0]? = some (rdBox bs p) ∧ p ≤ 8 * bs.length ∧ h[1]? = some (evBox last) ∧ isVo (GEnv.get env 12) out ∧ EvOk out ∧ out.length = i ∧ (0 < C → 0 ≤ last.1 ∧ last.1 ≤ 4611686018427387903) ∧ ((0 ≤ last.2.1 ∧ last.2.1 ≤ 4294967295) ∧ (0 ≤ last.2.2.1 ∧ last.2.2.1 ≤ 4294967295)) ∧ (∀ e ∈ out, e.2.2.1 < (n : Int)) ∧
    (∀ l, DIs first (C : Int) n bs l → ∃ rest B, l = out ++ rest ∧ B ++ dall last (decide (0 < i)) rest = db first l ∧ DCh last (decide (0 < i)) rest ∧ p = B.length) ∧ GEnv.get env 0 = .list false 1 (un .u8 bs) ∧ GEnv.get env 1 = .int .i64 first ∧ GEnv.get env 2 = .int .i64 (C : Int) ∧ GEnv.get env 3 = .int .u64 (n : Int) ∧ GEnv.get env 10 = .ptr 0 0 0 0 ∧ GEnv.get env 11 = .ptr 1 0 0 0 ∧ GEnv.get env 13 = .int .i64 ((i : Nat) : Int)) C
    ⟨0, 0, ev0 first, [], by omega, rfl, Nat.zero_le _, rfl, .inl ⟨rfl, rfl⟩, fun e he => (by cases he), rfl, fun h => hfc (by omega), by unfold ev0; simp only; omega, fun e he => (by cases he), fun l hl => ⟨l, [], rfl, rfl, hl.2.1.chain hl.2.2.1, rfl⟩, by simp [GEnv.get, k0], by simp [GEnv.get, k1], by simp [GEnv.get, k2], by simp [GEnv.get, k3], by simp [GEnv.get], by simp [GEnv.get], by simp [GEnv.get]⟩ ?_
  clear k0 k1 k2 k3
  rintro m env h ⟨i, p, last, out, hm, hrd, hpl, hla, hvo, hev, hlen, hlt, hlr, hbn, hcom, k0, k1, k2, k3, k10, k11, k13⟩
  simp only [GEnv.keep, k0, k1, k2, k3, k10, k11, k13]
  generalize GEnv.get env 12 = s12 at hvo ⊢
  by_cases hi : i < C
  ·have gi : ((i : Int) < (C : Int)) = True := eq_true (by omega)
   obtain ⟨e, ok, q, h2, E1, R2, eb, e3, e4⟩ := event8_G (any := decide (0 < i)) hrd hpl hb (by omega) (hlt (by omega)) hlr
   have hf0 : ((i : Int) == 0) = !decide (0 < i) := by
    by_cases h : i = 0
    ·rw [h]; rfl
    ·rw [beq_eq_false_iff_ne.2 (by omega), decide_eq_true (by omega)]; rfl
   have hl1 := get_lt hla
   have hl2 : 1 < h2.length := Nat.lt_of_lt_of_le hl1 R2.len
   have la2 : h2[1]? = some (evBox last) := by rw [R2.same 1 (by omega) hl1]; exact hla
   unfold evBox at hla
   refine Zr rfl (by simp (maxSteps := 2000000) only [gs,zlr,reduceIte,reduceCtorEq,zpa,zpb,zpc,zpd,zpe,zpf,zpg,zph,zpi,zpj,zpk,zpl,zpm,zpn,zpo,zpp, gi]; rfl) (Zc rfl rfl (fun _ => ?_) (fun h => by cases h))
   refine Zr rfl (by simp (maxSteps := 2000000) only [gs,zlr,reduceIte,reduceCtorEq,zpa,zpb,zpc,zpd,zpe,zpf,zpg,zph,zpi,zpj,zpk,zpl,zpm,zpn,zpo,zpp, hla, hf0, gc_archipelagoref15_event, E1, dapp_eq, dapp_set, Nat.zero_le]; rfl) ?_
   have hcom1 : ∀ l, DIs first (C : Int) n bs l → ∃ e0 r B, l = out ++ e0 :: r ∧ B ++ dall last (decide (0 < i)) (e0 :: r) = db first l ∧ DCh last (decide (0 < i)) (e0 :: r) ∧ ok = true ∧ e = e0 ∧ q = (B ++ dbits last (decide (0 < i)) e0).length := fun l hl => by
    obtain ⟨rest, B, d1, d2, d3, d4⟩ := hcom l hl
    have h1 := hl.1.2.2
    have h3 := congrArg List.length d1
    rw [List.length_append] at h3
    obtain ⟨e0, r, rfl⟩ := List.exists_cons_of_ne_nil (l := rest) (fun h0 => by rw [h0, List.length_nil] at h3; omega)
    have hpk := hl.2.2.2.2
    rw [← d2, dall] at hpk
    obtain ⟨y1, y2, y3⟩ := e4 e0 B (dall e0 true r) d3.1 hpk d4
    exact ⟨e0, r, B, d1, d2, d3, y1, y2, y3⟩
   have RG := right8_G (u := e.2.1) (v := e.2.2.1) (n := (n : Int)) ⟨eb.2.1, eb.2.2⟩
   cases ok with
   | false =>
    refine Zr rfl (by simp (maxSteps := 2000000) only [gs,zlr,reduceIte,reduceCtorEq,zpa,zpb,zpc,zpd,zpe,zpf,zpg,zph,zpi,zpj,zpk,zpl,zpm,zpn,zpo,zpp]; rfl) (Zc rfl rfl (fun _ => ?_) (fun h => by cases h))
    exact Zr rfl (by simp (maxSteps := 2000000) only [gs,zlr,reduceIte,reduceCtorEq,zpa,zpb,zpc,zpd,zpe,zpf,zpg,zph,zpi,zpj,zpk,zpl,zpm,zpn,zpo,zpp]; rfl) (Zq rfl ⟨_, rfl, _, _, rfl, rfl, no fun ⟨l, hl⟩ => by
     obtain ⟨_, _, _, _, _, _, y, _⟩ := hcom1 l hl
     cases y⟩)
   | true =>
   by_cases hrt : e.2.1 < e.2.2.1 ∧ e.2.2.1 < (n : Int)
   case neg =>
    rw [show (decide (e.2.1 < e.2.2.1) && decide (e.2.2.1 < (n : Int))) = false by rw [Bool.and_eq_false_iff, decide_eq_false_iff_not, decide_eq_false_iff_not]; omega] at RG
    refine Zr rfl (by simp (maxSteps := 2000000) only [gs,zlr,reduceIte,reduceCtorEq,zpa,zpb,zpc,zpd,zpe,zpf,zpg,zph,zpi,zpj,zpk,zpl,zpm,zpn,zpo,zpp, dapp_eq, gc_archipelagoref8_Right, RG]; rfl) (Zc rfl rfl (fun _ => ?_) (fun h => by cases h))
    exact Zr rfl (by simp (maxSteps := 2000000) only [gs,zlr,reduceIte,reduceCtorEq,zpa,zpb,zpc,zpd,zpe,zpf,zpg,zph,zpi,zpj,zpk,zpl,zpm,zpn,zpo,zpp]; rfl) (Zq rfl ⟨_, rfl, _, _, rfl, rfl, no fun ⟨l, hl⟩ => by
     obtain ⟨e0, r, B, d1, d2, d3, _, y, _⟩ := hcom1 l hl
     subst y
     exact hrt ⟨d3.1.2.1.2.1, hl.2.2.2.1 e (by rw [d1]; simp)⟩⟩)
   rw [show (decide (e.2.1 < e.2.2.1) && decide (e.2.2.1 < (n : Int))) = true by rw [Bool.and_eq_true, decide_eq_true_eq, decide_eq_true_eq]; exact hrt] at RG
   refine Zr rfl (by simp (maxSteps := 2000000) only [gs,zlr,reduceIte,reduceCtorEq,zpa,zpb,zpc,zpd,zpe,zpf,zpg,zph,zpi,zpj,zpk,zpl,zpm,zpn,zpo,zpp, dapp_eq, gc_archipelagoref8_Right, RG]; rfl) (Zc rfl rfl (fun h => by cases h) (fun _ => ?_))
   have hr0 : (1 * 24 ≤ room) = True := eq_true (by unfold room; omega)
   have hr1 : ((out.length + 1) * 24 ≤ room) = True := eq_true (by unfold room; omega)
   have hone : ([[U.int .i64 e.1, .int .u32 e.2.1, .int .u32 e.2.2.1, .bool e.2.2.2]] : List (List U)) = uvs [e] := rfl
   have hone' : uvs [e] = ([[U.int .i64 e.1, .int .u32 e.2.1, .int .u32 e.2.2.1, .bool e.2.2.2]] : List (List U)) := rfl
   have la3 : (h2 ++ [GObj.box [.int .i64 e.1, .int .u32 e.2.1, .int .u32 e.2.2.1, .bool e.2.2.2]])[1]? = some (.box [.int .i64 last.1, .int .u32 last.2.1, .int .u32 last.2.2.1, .bool last.2.2.2]) := by rw [app_lt hl2, la2]; rfl
   have hinc : IntKind.i64.wrap ((i : Int) + 1) = ((i + 1 : Nat) : Int) := up64 (by omega)
   have hset : ((h2 ++ [GObj.box [.int .i64 e.1, .int .u32 e.2.1, .int .u32 e.2.2.1, .bool e.2.2.2]]).set 1 (.box [.int .i64 e.1, .int .u32 e.2.1, .int .u32 e.2.2.1, .bool e.2.2.2]))[1]? = some (evBox e) := set_eq (by rw [List.length_append]; omega)
   have hrd3 : ((h2 ++ [GObj.box [.int .i64 e.1, .int .u32 e.2.1, .int .u32 e.2.2.1, .bool e.2.2.2]]).set 1 (.box [.int .i64 e.1, .int .u32 e.2.1, .int .u32 e.2.2.1, .bool e.2.2.2]))[0]? = some (rdBox bs q) := by rw [set_ne (by omega), app_lt (by omega)]; exact R2.rd
   have hbn2 : ∀ x ∈ out ++ [e], x.2.2.1 < (n : Int) := fun x hx => by
    rcases List.mem_append.1 hx with hx | hx
    ·exact hbn x hx
    ·rw [List.mem_singleton.1 hx]; exact hrt.2
   have hcom2 : ∀ l, DIs first (C : Int) n bs l → ∃ rest B, l = (out ++ [e]) ++ rest ∧ B ++ dall e (decide (0 < i + 1)) rest = db first l ∧ DCh e (decide (0 < i + 1)) rest ∧ q = B.length := fun l hl => by
    obtain ⟨e0, r, B, d1, d2, d3, _, y, z⟩ := hcom1 l hl
    subst y
    rw [decide_eq_true (by omega : 0 < i + 1)]
    exact ⟨r, B ++ dbits last (decide (0 < i)) e, by rw [d1]; simp, by rw [List.append_assoc, ← d2, dall], d3.2, z⟩
   rcases hvo with ⟨rfl, h0⟩ | rfl
   ·subst h0
    refine Zd rfl (by simp (maxSteps := 2000000) only [gs,gd,zlr,id,reduceIte,reduceCtorEq,zpa,zpb,zpc,zpd,zpe,zpf,zpg,zph,zpi,zpj,zpk,zpl,zpm,zpn,zpo,zpp, hone, dapp_eq, la3, uvs_length, List.length_singleton, hr0]; rfl) ?_
    refine Zr rfl (by simp (maxSteps := 2000000) only [gs,zlr,reduceIte,reduceCtorEq,zpa,zpb,zpc,zpd,zpe,zpf,zpg,zph,zpi,zpj,zpk,zpl,zpm,zpn,zpo,zpp, hinc]; rfl) ?_
    exact Za rfl ⟨m - 1, by omega, i + 1, q, e, [e], by omega, hrd3, R2.le, hset, .inr (by simp [GEnv.get]), hev.snoc eb, by simp only [List.length_singleton]; simp only [List.length_nil] at hlen; omega, fun _ => e3 rfl, eb, hbn2, hcom2, by simp [GEnv.get], by simp [GEnv.get], by simp [GEnv.get], by simp [GEnv.get], by simp [GEnv.get], by simp [GEnv.get], by simp [GEnv.get]⟩
   ·have hap : uvs out ++ [[U.int .i64 e.1, .int .u32 e.2.1, .int .u32 e.2.2.1, .bool e.2.2.2]] = uvs (out ++ [e]) := by rw [hone, uvs_append]
    refine Zd rfl (by simp (maxSteps := 2000000) only [gs,gd,zlr,id,reduceIte,reduceCtorEq,zpa,zpb,zpc,zpd,zpe,zpf,zpg,zph,zpi,zpj,zpk,zpl,zpm,zpn,zpo,zpp, dapp_eq, la3, uvs_length, hr1, hap]; rfl) ?_
    refine Zr rfl (by simp (maxSteps := 2000000) only [gs,zlr,reduceIte,reduceCtorEq,zpa,zpb,zpc,zpd,zpe,zpf,zpg,zph,zpi,zpj,zpk,zpl,zpm,zpn,zpo,zpp, hinc]; rfl) ?_
    exact Za rfl ⟨m - 1, by omega, i + 1, q, e, out ++ [e], by omega, hrd3, R2.le, hset, .inr (by simp [GEnv.get]), hev.snoc eb, by rw [List.length_append, List.length_singleton]; omega, fun _ => e3 rfl, eb, hbn2, hcom2, by simp [GEnv.get], by simp [GEnv.get], by simp [GEnv.get], by simp [GEnv.get], by simp [GEnv.get], by simp [GEnv.get], by simp [GEnv.get]⟩
  have gi : ((i : Int) < (C : Int)) = False := eq_false (by omega)
  have hiC : i = C := by omega
  have hcom3 : ∀ l, DIs first (C : Int) n bs l → l = out := fun l hl => by
   obtain ⟨rest, B, d1, _⟩ := hcom l hl
   have h1 := hl.1.2.2
   have h2 := congrArg List.length d1
   rw [List.length_append] at h2
   have : rest = [] := List.eq_nil_of_length_eq_zero (by omega)
   rw [this, List.append_nil] at d1
   exact d1
  have hno2 : ¬ RightD first out → ReadD first (C : Int) n bs (.tup [.nils, .int .i64 21]) := fun h => no fun ⟨l, hl⟩ => h (by rw [← hcom3 l hl]; exact hl.2.1)
  have hno3 : ∀ bs', Packed bs' (db first out) → bs' ≠ bs → ReadD first (C : Int) n bs (.tup [.nils, .int .i64 21]) := fun bs' h1 h2 => no fun ⟨l, hl⟩ => h2 (by
   have h3 := hl.2.2.2.2
   rw [hcom3 l hl] at h3
   exact PackedN.unique h1 h3)
  have hyes : ∀ v, RightD first out → Packed bs (db first out) → isVa v out → ReadD first (C : Int) n bs (.tup [v, .int .i64 0]) := fun v h2 h3 h4 => .inl ⟨out, v, ⟨⟨by omega, hfc, by omega⟩, h2, hev, hbn, h3⟩, h4, rfl⟩
  have hq := fun (x : List Nat) => ebeq x bs
  have hq2 : ∀ a b : List Int, (a != b) = !(a == b) := fun a b => rfl
  have hol : out.length ≤ 1000 := by omega
  rcases hvo with ⟨rfl, h0⟩ | rfl
  ·rcases rdput_R (w := .nils) (l := out) (first := first) (.inr ⟨rfl, h0⟩) hol hev with ⟨bs', g1, g2, g3⟩ | ⟨g1, g3⟩
   ·have hqG := hq bs'
    refine Zr rfl (by simp (maxSteps := 2000000) only [gs,zlr,reduceIte,reduceCtorEq,zpa,zpb,zpc,zpd,zpe,zpf,zpg,zph,zpi,zpj,zpk,zpl,zpm,zpn,zpo,zpp, gi]; rfl) (Zc rfl rfl (fun h => by cases h) (fun _ => ?_))
    refine Zr rfl (by simp (maxSteps := 2000000) only [gs,zlr,reduceIte,reduceCtorEq,zpa,zpb,zpc,zpd,zpe,zpf,zpg,zph,zpi,zpj,zpk,zpl,zpm,zpn,zpo,zpp, gc_archipelagoref15_DeltaPut, g3]; rfl) ?_
    by_cases he : bs' = bs
    ·rw [decide_eq_true he] at hqG
     rw [he] at g2
     refine Zr rfl (by simp (maxSteps := 2000000) only [gs,zlr,reduceIte,reduceCtorEq,zpa,zpb,zpc,zpd,zpe,zpf,zpg,zph,zpi,zpj,zpk,zpl,zpm,zpn,zpo,zpp, bne_self_eq_false, gbytesOf_un, hq2, hqG, Bool.not_true, Bool.not_false]; rfl) (Zc rfl rfl (fun h => by cases h) (fun _ => ?_))
     exact Zr rfl (by simp (maxSteps := 2000000) only [gs,zlr,reduceIte,reduceCtorEq,zpa,zpb,zpc,zpd,zpe,zpf,zpg,zph,zpi,zpj,zpk,zpl,zpm,zpn,zpo,zpp]; rfl) (Zq rfl ⟨_, rfl, _, _, rfl, rfl, hyes _ g1 g2 (.inr ⟨rfl, h0⟩)⟩)
    ·rw [decide_eq_false he] at hqG
     refine Zr rfl (by simp (maxSteps := 2000000) only [gs,zlr,reduceIte,reduceCtorEq,zpa,zpb,zpc,zpd,zpe,zpf,zpg,zph,zpi,zpj,zpk,zpl,zpm,zpn,zpo,zpp, bne_self_eq_false, gbytesOf_un, hq2, hqG, Bool.not_true, Bool.not_false]; rfl) (Zc rfl rfl (fun _ => ?_) (fun h => by cases h))
     exact Zr rfl (by simp (maxSteps := 2000000) only [gs,zlr,reduceIte,reduceCtorEq,zpa,zpb,zpc,zpd,zpe,zpf,zpg,zph,zpi,zpj,zpk,zpl,zpm,zpn,zpo,zpp]; rfl) (Zq rfl ⟨_, rfl, _, _, rfl, rfl, hno3 _ g2 he⟩)
   ·refine Zr rfl (by simp (maxSteps := 2000000) only [gs,zlr,reduceIte,reduceCtorEq,zpa,zpb,zpc,zpd,zpe,zpf,zpg,zph,zpi,zpj,zpk,zpl,zpm,zpn,zpo,zpp, gi]; rfl) (Zc rfl rfl (fun h => by cases h) (fun _ => ?_))
    refine Zr rfl (by simp (maxSteps := 2000000) only [gs,zlr,reduceIte,reduceCtorEq,zpa,zpb,zpc,zpd,zpe,zpf,zpg,zph,zpi,zpj,zpk,zpl,zpm,zpn,zpo,zpp, gc_archipelagoref15_DeltaPut, g3]; rfl) ?_
    refine Zr rfl (by simp (maxSteps := 2000000) only [gs,zlr,reduceIte,reduceCtorEq,zpa,zpb,zpc,zpd,zpe,zpf,zpg,zph,zpi,zpj,zpk,zpl,zpm,zpn,zpo,zpp]; rfl) (Zc rfl rfl (fun _ => ?_) (fun h => by cases h))
    exact Zr rfl (by simp (maxSteps := 2000000) only [gs,zlr,reduceIte,reduceCtorEq,zpa,zpb,zpc,zpd,zpe,zpf,zpg,zph,zpi,zpj,zpk,zpl,zpm,zpn,zpo,zpp]; rfl) (Zq rfl ⟨_, rfl, _, _, rfl, rfl, hno2 g1⟩)
  ·rcases rdput_R (w := .list false 4 (uvs out)) (l := out) (first := first) (.inl rfl) hol hev with ⟨bs', g1, g2, g3⟩ | ⟨g1, g3⟩
   ·have hqG := hq bs'
    refine Zr rfl (by simp (maxSteps := 2000000) only [gs,zlr,reduceIte,reduceCtorEq,zpa,zpb,zpc,zpd,zpe,zpf,zpg,zph,zpi,zpj,zpk,zpl,zpm,zpn,zpo,zpp, gi]; rfl) (Zc rfl rfl (fun h => by cases h) (fun _ => ?_))
    refine Zr rfl (by simp (maxSteps := 2000000) only [gs,zlr,reduceIte,reduceCtorEq,zpa,zpb,zpc,zpd,zpe,zpf,zpg,zph,zpi,zpj,zpk,zpl,zpm,zpn,zpo,zpp, snapLL_uvs, gc_archipelagoref15_DeltaPut, g3]; rfl) ?_
    by_cases he : bs' = bs
    ·rw [decide_eq_true he] at hqG
     rw [he] at g2
     refine Zr rfl (by simp (maxSteps := 2000000) only [gs,zlr,reduceIte,reduceCtorEq,zpa,zpb,zpc,zpd,zpe,zpf,zpg,zph,zpi,zpj,zpk,zpl,zpm,zpn,zpo,zpp, bne_self_eq_false, gbytesOf_un, hq2, hqG, Bool.not_true, Bool.not_false]; rfl) (Zc rfl rfl (fun h => by cases h) (fun _ => ?_))
     refine Zr rfl (by simp (maxSteps := 2000000) only [gs,zlr,reduceIte,reduceCtorEq,zpa,zpb,zpc,zpd,zpe,zpf,zpg,zph,zpi,zpj,zpk,zpl,zpm,zpn,zpo,zpp]; rfl) (Zq rfl ⟨_, rfl, ?_⟩)
     simp only [gfin, outs, U.out, U.handed, U.share, U.rf, GEnv.get, if_true, Nat.reduceEqDiff, if_false, rfLL_uvs, Option.map_some]
     exact ⟨_, _, rfl, rfl, hyes _ g1 g2 (.inl rfl)⟩
    ·rw [decide_eq_false he] at hqG
     refine Zr rfl (by simp (maxSteps := 2000000) only [gs,zlr,reduceIte,reduceCtorEq,zpa,zpb,zpc,zpd,zpe,zpf,zpg,zph,zpi,zpj,zpk,zpl,zpm,zpn,zpo,zpp, bne_self_eq_false, gbytesOf_un, hq2, hqG, Bool.not_true, Bool.not_false]; rfl) (Zc rfl rfl (fun _ => ?_) (fun h => by cases h))
     exact Zr rfl (by simp (maxSteps := 2000000) only [gs,zlr,reduceIte,reduceCtorEq,zpa,zpb,zpc,zpd,zpe,zpf,zpg,zph,zpi,zpj,zpk,zpl,zpm,zpn,zpo,zpp]; rfl) (Zq rfl ⟨_, rfl, _, _, rfl, rfl, hno3 _ g2 he⟩)
   ·refine Zr rfl (by simp (maxSteps := 2000000) only [gs,zlr,reduceIte,reduceCtorEq,zpa,zpb,zpc,zpd,zpe,zpf,zpg,zph,zpi,zpj,zpk,zpl,zpm,zpn,zpo,zpp, gi]; rfl) (Zc rfl rfl (fun h => by cases h) (fun _ => ?_))
    refine Zr rfl (by simp (maxSteps := 2000000) only [gs,zlr,reduceIte,reduceCtorEq,zpa,zpb,zpc,zpd,zpe,zpf,zpg,zph,zpi,zpj,zpk,zpl,zpm,zpn,zpo,zpp, snapLL_uvs, gc_archipelagoref15_DeltaPut, g3]; rfl) ?_
    refine Zr rfl (by simp (maxSteps := 2000000) only [gs,zlr,reduceIte,reduceCtorEq,zpa,zpb,zpc,zpd,zpe,zpf,zpg,zph,zpi,zpj,zpk,zpl,zpm,zpn,zpo,zpp]; rfl) (Zc rfl rfl (fun _ => ?_) (fun h => by cases h))
    exact Zr rfl (by simp (maxSteps := 2000000) only [gs,zlr,reduceIte,reduceCtorEq,zpa,zpb,zpc,zpd,zpe,zpf,zpg,zph,zpi,zpj,zpk,zpl,zpm,zpn,zpo,zpp]; rfl) (Zq rfl ⟨_, rfl, _, _, rfl, rfl, hno2 g1⟩)
 obtain ⟨u, h', h1, rfl, h2⟩ := key
 exact ⟨u, h2, h1⟩
end Go.Ab
namespace Go.Ab
open Go
open Nat renaming reduceEqDiff → zpa, reduceLT → zpb, reduceAdd → zpc, reduceSub → zpd, reduceLeDiff → zpe, reduceMul → zpf
open Int renaming reduceToNat → zpg, reduceLT → zph, reduceLE → zpi, reduceEq → zpj, reduceNe → zpk, reduceBEq → zpl, reduceBNe → zpm, reduceAdd → zpn, reduceSub → zpo, reduceNeg → zpp
open List renaming replicate → zlr
set_option linter.unusedVariables false
set_option linter.unusedSimpArgs false
set_option maxRecDepth 10000
abbrev nilBox : GObj := .box [.nils, .int .i64 0]
theorem leftN_G {h : GH} {lo : Nat} (k : h[0]? = some nilBox) : GF gtab fid_bits_Reader_Left [.ptr 0 0 0 0] h lo = some (.int .i64 0, h) := by
 have w0 : IntKind.i64.wrap 0 = 0 := rfl
 refine fn_bits_Reader_Left rfl ?_
 simp only [genvOf]
 refine Zr rfl (by simp (maxSteps := 2000000) only [gs,zlr,reduceIte,reduceCtorEq,zpa,zpb,zpc,zpd,zpe,zpf,zpg,zph,zpi,zpj,zpk,zpl,zpm,zpn,zpo,zpp]; rfl) ?_
 refine Zd rfl (by simp (maxSteps := 2000000) only [gs,gd,zlr,id,reduceIte,reduceCtorEq,zpa,zpb,zpc,zpd,zpe,zpf,zpg,zph,zpi,zpj,zpk,zpl,zpm,zpn,zpo,zpp, k, w0, Int.zero_mul, Int.sub_self]; rfl) ?_
 exact Zq rfl ⟨_, rfl, rfl⟩
theorem takeN_G {h : GH} {lo : Nat} {c : Int} (k : h[0]? = some nilBox) (hc : 0 < clamp c) : GF gtab fid_bits_Reader_Take [.ptr 0 0 0 0, .int .i64 c] h lo = some (.tup [.int .u64 0, .bool false], h) := by
 refine fn_bits_Reader_Take rfl ?_
 simp only [genvOf]
 have g1 : ((clamp c : Int) > 0) = True := eq_true (by omega)
 refine Zr rfl (by simp (maxSteps := 2000000) only [gs,zlr,reduceIte,reduceCtorEq,zpa,zpb,zpc,zpd,zpe,zpf,zpg,zph,zpi,zpj,zpk,zpl,zpm,zpn,zpo,zpp]; rfl) ?_
 refine Zr rfl (by simp (maxSteps := 2000000) only [gs,zlr,reduceIte,reduceCtorEq,zpa,zpb,zpc,zpd,zpe,zpf,zpg,zph,zpi,zpj,zpk,zpl,zpm,zpn,zpo,zpp, gc_bits_bound, bound_G]; rfl) ?_
 refine Zr rfl (by simp (maxSteps := 2000000) only [gs,zlr,reduceIte,reduceCtorEq,zpa,zpb,zpc,zpd,zpe,zpf,zpg,zph,zpi,zpj,zpk,zpl,zpm,zpn,zpo,zpp, gc_bits_Reader_Left, leftN_G k, g1]; rfl) (Zc rfl rfl (fun _ => ?_) (fun h => by cases h))
 exact Zr rfl (by simp (maxSteps := 2000000) only [gs,zlr,reduceIte,reduceCtorEq,zpa,zpb,zpc,zpd,zpe,zpf,zpg,zph,zpi,zpj,zpk,zpl,zpm,zpn,zpo,zpp]; rfl) (Zq rfl ⟨_, rfl, rfl⟩)
theorem gtakeN_G {h : GH} (k : h[0]? = some nilBox) : GF gtab fid_gamma_Take [.ptr 0 0 0 0] h 0 = some (.tup [.int .u64 0, .bool false], h ++ [nilBox]) := by
 have h0 := get_lt k
 have hk : ∀ x : GObj, (h ++ [x])[0]? = some nilBox := fun x => by rw [app_lt h0, k]
 have hback : ∀ x : GObj, (h ++ [x]).set 0 nilBox = h ++ [x] := fun x => by rw [set_app h0, gset_same k]
 refine fn_gamma_Take rfl ?_
 simp only [genvOf]
 refine Zr rfl (by simp (maxSteps := 2000000) only [gs,zlr,reduceIte,reduceCtorEq,zpa,zpb,zpc,zpd,zpe,zpf,zpg,zph,zpi,zpj,zpk,zpl,zpm,zpn,zpo,zpp]; rfl) ?_
 refine Zr rfl (by simp (maxSteps := 2000000) only [gs,zlr,reduceIte,reduceCtorEq,zpa,zpb,zpc,zpd,zpe,zpf,zpg,zph,zpi,zpj,zpk,zpl,zpm,zpn,zpo,zpp]; rfl) (Zc rfl rfl (fun h => by cases h) (fun _ => ?_))
 refine Zr rfl (by simp (maxSteps := 2000000) only [gs,zlr,reduceIte,reduceCtorEq,zpa,zpb,zpc,zpd,zpe,zpf,zpg,zph,zpi,zpj,zpk,zpl,zpm,zpn,zpo,zpp, k, app_eq, app_set, Nat.zero_le]; rfl) ?_
 refine Zr rfl (by simp (maxSteps := 2000000) only [gs,zlr,reduceIte,reduceCtorEq,zpa,zpb,zpc,zpd,zpe,zpf,zpg,zph,zpi,zpj,zpk,zpl,zpm,zpn,zpo,zpp]; rfl) ?_
 refine Zw rfl (fun m env h1 => h1 = h ++ [nilBox] ∧ GEnv.get env 0 = .ptr 0 0 0 0 ∧ GEnv.get env 4 = .ptr h.length 0 0 0 ∧ GEnv.get env 14 = .int .i64 0) 0 ⟨rfl, rfl, rfl, rfl⟩ ?_
 rintro m env h1 ⟨rfl, k0, k4, k14⟩
 simp only [GEnv.keep, k0, k4, k14]
 refine Zr rfl (by simp (maxSteps := 2000000) only [gs,zlr,reduceIte,reduceCtorEq,zpa,zpb,zpc,zpd,zpe,zpf,zpg,zph,zpi,zpj,zpk,zpl,zpm,zpn,zpo,zpp]; rfl) (Zc rfl rfl (fun _ => ?_) (fun h => by cases h))
 refine Zr rfl (by simp (maxSteps := 2000000) only [gs,zlr,reduceIte,reduceCtorEq,zpa,zpb,zpc,zpd,zpe,zpf,zpg,zph,zpi,zpj,zpk,zpl,zpm,zpn,zpo,zpp]; rfl) ?_
 refine Zr rfl (by simp (maxSteps := 2000000) only [gs,zlr,reduceIte,reduceCtorEq,zpa,zpb,zpc,zpd,zpe,zpf,zpg,zph,zpi,zpj,zpk,zpl,zpm,zpn,zpo,zpp, gc_bits_Reader_Take, takeN_G (c := 1) (hk _) (by rw [clamp1]; omega)]; rfl) ?_
 refine Zr rfl (by simp (maxSteps := 2000000) only [gs,zlr,reduceIte,reduceCtorEq,zpa,zpb,zpc,zpd,zpe,zpf,zpg,zph,zpi,zpj,zpk,zpl,zpm,zpn,zpo,zpp]; rfl) (Zc rfl rfl (fun _ => ?_) (fun h => by cases h))
 refine Zr rfl (by simp (maxSteps := 2000000) only [gs,zlr,reduceIte,reduceCtorEq,zpa,zpb,zpc,zpd,zpe,zpf,zpg,zph,zpi,zpj,zpk,zpl,zpm,zpn,zpo,zpp, app_eq, hk, hback, Nat.zero_le]; rfl) ?_
 exact Zr rfl (by simp (maxSteps := 2000000) only [gs,zlr,reduceIte,reduceCtorEq,zpa,zpb,zpc,zpd,zpe,zpf,zpg,zph,zpi,zpj,zpk,zpl,zpm,zpn,zpo,zpp]; rfl) (Zq rfl ⟨_, rfl, rfl⟩)
structure RdN (h : GH) (last : Ev) (any ok : Bool) : Prop where
 rd : h[0]? = some nilBox
 bx : h[1]? = some (rBox last.1 last.2.1 last.2.2.1 last.2.2.2 any ok)
theorem numN_G {h : GH} {M : Nat} {last : Ev} {any ok : Bool} (s : RdN h last any ok) :
  ∃ h', GF gtab fid_delta_reader_num [.ptr 1 0 0 0, .int .u64 (M : Int)] h 0 = some (.int .u64 0, h') ∧ RdN h' last any false ∧ KpR h h' := by
 obtain ⟨s1, s2⟩ := s
 have l1 := get_lt s2
 have T := gtakeN_G s1
 unfold rBox at s2
 have k1 : (h ++ [nilBox])[1]? = some (.box [.ptr 0 0 0 0, .int .i64 last.1, .int .u32 last.2.1, .int .u32 last.2.2.1, .bool last.2.2.2, .bool any, .bool ok]) := by rw [app_lt l1, s2]
 refine ⟨(h ++ [nilBox]).set 1 (rBox last.1 last.2.1 last.2.2.1 last.2.2.2 any false), ?_, ⟨by rw [set_ne (by omega), app_lt (by omega)]; exact s1, set_eq (by rw [List.length_append]; omega)⟩, ⟨by simp, fun j h1 h2 => by rw [set_ne (by omega), app_lt h2]⟩⟩
 refine fn_delta_reader_num rfl ?_
 simp only [genvOf]
 refine Zr rfl (by simp (maxSteps := 2000000) only [gs,zlr,reduceIte,reduceCtorEq,zpa,zpb,zpc,zpd,zpe,zpf,zpg,zph,zpi,zpj,zpk,zpl,zpm,zpn,zpo,zpp]; rfl) ?_
 refine Zr rfl (by simp (maxSteps := 2000000) only [gs,zlr,reduceIte,reduceCtorEq,zpa,zpb,zpc,zpd,zpe,zpf,zpg,zph,zpi,zpj,zpk,zpl,zpm,zpn,zpo,zpp, s2, gc_gamma_Take, T]; rfl) ?_
 cases ok with
 | true =>
  refine Zr rfl (by simp (maxSteps := 2000000) only [gs,zlr,reduceIte,reduceCtorEq,zpa,zpb,zpc,zpd,zpe,zpf,zpg,zph,zpi,zpj,zpk,zpl,zpm,zpn,zpo,zpp, k1]; rfl) ?_
  exact Zr rfl (by simp (maxSteps := 2000000) only [gs,zlr,reduceIte,reduceCtorEq,zpa,zpb,zpc,zpd,zpe,zpf,zpg,zph,zpi,zpj,zpk,zpl,zpm,zpn,zpo,zpp]; rfl) (Zq rfl ⟨_, rfl, rfl⟩)
 | false =>
  refine Zr rfl (by simp (maxSteps := 2000000) only [gs,zlr,reduceIte,reduceCtorEq,zpa,zpb,zpc,zpd,zpe,zpf,zpg,zph,zpi,zpj,zpk,zpl,zpm,zpn,zpo,zpp, k1]; rfl) ?_
  exact Zr rfl (by simp (maxSteps := 2000000) only [gs,zlr,reduceIte,reduceCtorEq,zpa,zpb,zpc,zpd,zpe,zpf,zpg,zph,zpi,zpj,zpk,zpl,zpm,zpn,zpo,zpp]; rfl) (Zq rfl ⟨_, rfl, rfl⟩)
set_option maxHeartbeats 1000000 in
theorem eventN_G {h : GH} {last : Ev} {any : Bool} (s : RdN h last any true) :
  ∃ h', GF gtab fid_delta_reader_event [.ptr 1 0 0 0] h 0 = some (.agg [.int .i64 0, .int .u32 0, .int .u32 0, .bool false], h') ∧ RdN h' last any false := by
 have key : ∃ u h', GF gtab fid_delta_reader_event [.ptr 1 0 0 0] h 0 = some (u, h') ∧ u = .agg [.int .i64 0, .int .u32 0, .int .u32 0, .bool false] ∧ RdN h' last any false := by
  have hl1 := get_lt s.bx
  have s1 : RdN (h ++ [GObj.box [.int .i64 0, .int .u32 0, .int .u32 0, .bool false]]) last any true := ⟨by rw [app_lt (by omega)]; exact s.rd, by rw [app_lt hl1]; exact s.bx⟩
  have hz1 : (h ++ [GObj.box [.int .i64 0, .int .u32 0, .int .u32 0, .bool false]])[h.length]? = some (GObj.box [.int .i64 0, .int .u32 0, .int .u32 0, .bool false]) := dapp_eq
  have hlen1 : (h ++ [GObj.box [.int .i64 0, .int .u32 0, .int .u32 0, .bool false]]).length = h.length + 1 := by simp
  obtain ⟨h2, G1, s2, kp1⟩ := numN_G (M := 4611686018427387904) s1
  have G1 : GF gtab fid_delta_reader_num [.ptr 1 0 0 0, .int .u64 4611686018427387904] (h ++ [GObj.box [.int .i64 0, .int .u32 0, .int .u32 0, .bool false]]) 0 = some (.int .u64 0, h2) := G1
  have G2 := takeN_G (lo := 0) (c := 1) s2.rd (by rw [clamp1]; omega)
  obtain ⟨h4, G3, s4, kp3⟩ := numN_G (M := 4294967296) s2
  have G3 : GF gtab fid_delta_reader_num [.ptr 1 0 0 0, .int .u64 4294967296] h2 0 = some (.int .u64 0, h4) := G3
  obtain ⟨h5, G4, s5, kp4⟩ := numN_G (M := 4294967296) s4
  have G4 : GF gtab fid_delta_reader_num [.ptr 1 0 0 0, .int .u64 4294967296] h4 0 = some (.int .u64 0, h5) := G4
  have KP := kp1.trans (kp3.trans kp4)
  have hz5 := KP.2 h.length (by omega) (by rw [hlen1]; omega)
  rw [hz1] at hz5
  have hl5 := get_lt hz5
  have b2 := s2.bx
  have b5 := s5.bx
  unfold rBox at b2 b5
  refine fnR_delta_reader_event rfl ?_
  simp only [genvOf]
  refine Zr rfl (by simp (maxSteps := 2000000) only [gs,zlr,reduceIte,reduceCtorEq,zpa,zpb,zpc,zpd,zpe,zpf,zpg,zph,zpi,zpj,zpk,zpl,zpm,zpn,zpo,zpp]; rfl) ?_
  refine Zr rfl (by simp (maxSteps := 2000000) only [gs,zlr,reduceIte,reduceCtorEq,zpa,zpb,zpc,zpd,zpe,zpf,zpg,zph,zpi,zpj,zpk,zpl,zpm,zpn,zpo,zpp, gc_delta_reader_num, G1]; rfl) ?_
  refine Zr rfl (by simp (maxSteps := 2000000) only [gs,zlr,reduceIte,reduceCtorEq,zpa,zpb,zpc,zpd,zpe,zpf,zpg,zph,zpi,zpj,zpk,zpl,zpm,zpn,zpo,zpp, b2, gc_bits_Reader_Take, G2]; rfl) ?_
  refine Zr rfl (by simp (maxSteps := 2000000) only [gs,zlr,reduceIte,reduceCtorEq,zpa,zpb,zpc,zpd,zpe,zpf,zpg,zph,zpi,zpj,zpk,zpl,zpm,zpn,zpo,zpp, gc_delta_reader_num, G3, G4]; rfl) ?_
  have hb5 := get_lt b5
  have k6 : ∀ x : GObj, (h5.set 1 x)[1]? = some x := fun x => set_eq hb5
  have z6 : ∀ x : GObj, (h5.set 1 x)[h.length]? = some (GObj.box [.int .i64 0, .int .u32 0, .int .u32 0, .bool false]) := fun x => by rw [set_ne (by omega), hz5]
  have hzz : ∀ X Y : GObj, ((h5.set 1 Y).set h.length X)[h.length]? = some X := fun X Y => set_eq (by rw [List.length_set]; exact hl5)
  refine Zr rfl (by simp (maxSteps := 2000000) only [gs,zlr,reduceIte,reduceCtorEq,zpa,zpb,zpc,zpd,zpe,zpf,zpg,zph,zpi,zpj,zpk,zpl,zpm,zpn,zpo,zpp, b5]; rfl) ?_
  refine Zr rfl (by simp (maxSteps := 2000000) only [gs,zlr,reduceIte,reduceCtorEq,zpa,zpb,zpc,zpd,zpe,zpf,zpg,zph,zpi,zpj,zpk,zpl,zpm,zpn,zpo,zpp, k6]; rfl) (Zc rfl rfl (fun _ => ?_) (fun h => by cases h))
  refine Zr rfl (by simp (maxSteps := 2000000) only [gs,zlr,reduceIte,reduceCtorEq,zpa,zpb,zpc,zpd,zpe,zpf,zpg,zph,zpi,zpj,zpk,zpl,zpm,zpn,zpo,zpp, z6, Nat.zero_le]; rfl) (Zq rfl ⟨_, (by simp [gres, gload, GEnv.get, hzz, gof, cut, shares, U.share, U.handed]; rfl), _, _, rfl, rfl, ⟨by rw [set_ne (by omega), set_ne (by omega)]; exact s5.rd, by rw [set_ne (by omega), set_eq hb5]; rfl⟩⟩)
 obtain ⟨u, h', h1, rfl, h2⟩ := key
 exact ⟨h', h1, h2⟩
theorem packed_nil {first : Int} {out : List Ev} (h : Packed [] (db first out)) : out = [] := by
 have h1 := packed_le h
 have h2 := dall_ge out (ev0 first) false
 unfold db at h1
 rw [List.length_nil] at h1
 exact List.eq_nil_of_length_eq_zero (by omega)
theorem nil_right {first : Int} : RightD first [] := ⟨fun e he => absurd he (by simp), .nil, fun e r h => (by cases h)⟩
theorem nil_packed {first : Int} : Packed [] (db first []) := by
 unfold Packed db
 rw [dall]
 exact PackedN.zero 0
theorem eequalN_G {x : List Nat} : GF gtab fid_bytes_Equal [.list false 1 (un .u8 x), .nils] [] 0 = some (.bool (decide (x = [])), []) := by
 refine fn_bytes_Equal rfl ?_
 simp only [genvOf]
 have h := ebeq x []
 rw [List.map_nil] at h
 have e0 : gbytesOf [] = some [] := rfl
 refine Zr rfl (by simp (maxSteps := 2000000) only [gs,zlr,reduceIte,reduceCtorEq,zpa,zpb,zpc,zpd,zpe,zpf,zpg,zph,zpi,zpj,zpk,zpl,zpm,zpn,zpo,zpp]; rfl) ?_
 exact Zr rfl (by simp (maxSteps := 2000000) only [gs,zlr,reduceIte,reduceCtorEq,zpa,zpb,zpc,zpd,zpe,zpf,zpg,zph,zpi,zpj,zpk,zpl,zpm,zpn,zpo,zpp, gbytesOf_un, e0, h]; rfl) (Zq rfl ⟨_, rfl, rfl⟩)
set_option maxHeartbeats 4000000 in
theorem dreadN_R {first count : Int} {n : Nat} (hf : -9223372036854775808 ≤ first ∧ first ≤ 9223372036854775807) (hc : -9223372036854775808 ≤ count ∧ count ≤ 1000) (hn : n < 18446744073709551616) :
  ∃ u, ReadD first count n [] u ∧ GF gtab fid_delta_Read [.nils, .int .i64 first, .int .i64 count, .int .u64 (n : Int)] [] 0 = some (u, []) := by
 have key : ∃ u h', GF gtab fid_delta_Read [.nils, .int .i64 first, .int .i64 count, .int .u64 (n : Int)] [] 0 = some (u, h') ∧ h' = [] ∧ ReadD first count n [] u := by
  have no : (¬ ∃ l, DIs first count n [] l) → ReadD first count n [] (.tup [.nils, .int .i64 21]) := fun h => .inr ⟨h, rfl⟩
  have nol : count ≠ 0 → ReadD first count n [] (.tup [.nils, .int .i64 21]) := fun h => no fun ⟨l, hl⟩ => by
   have h1 := packed_nil hl.2.2.2.2
   subst h1
   exact h hl.1.2.2.symm
  have hN : ∀ lo, GF gtab fid_bits_NewReader [.nils] [] lo = some (.ptr 0 0 0 0, [nilBox]) := fun lo => by
   refine fn_bits_NewReader rfl ?_
   simp only [genvOf]
   refine Zr rfl (by simp (maxSteps := 2000000) only [gs,zlr,reduceIte,reduceCtorEq,zpa,zpb,zpc,zpd,zpe,zpf,zpg,zph,zpi,zpj,zpk,zpl,zpm,zpn,zpo,zpp]; rfl) ?_
   exact Zr rfl (by simp (maxSteps := 2000000) only [gs,zlr,reduceIte,reduceCtorEq,zpa,zpb,zpc,zpd,zpe,zpf,zpg,zph,zpi,zpj,zpk,zpl,zpm,zpn,zpo,zpp]; rfl) (Zq rfl ⟨_, rfl, rfl⟩)
  refine fnR_delta_Read rfl ?_
  simp only [genvOf]
  refine Zr rfl (by simp (maxSteps := 2000000) only [gs,zlr,reduceIte,reduceCtorEq,zpa,zpb,zpc,zpd,zpe,zpf,zpg,zph,zpi,zpj,zpk,zpl,zpm,zpn,zpo,zpp]; rfl) ?_
  by_cases hneg : count < 0
  ·have c1 : (count > 0) = False := eq_false (by omega)
   have c2 := eq_true hneg
   refine Zr rfl (by simp (maxSteps := 2000000) only [gs,zlr,reduceIte,reduceCtorEq,zpa,zpb,zpc,zpd,zpe,zpf,zpg,zph,zpi,zpj,zpk,zpl,zpm,zpn,zpo,zpp, c1, c2]; rfl) (Zc rfl rfl (fun _ => ?_) (fun h => by cases h))
   exact Zr rfl (by simp (maxSteps := 2000000) only [gs,zlr,reduceIte,reduceCtorEq,zpa,zpb,zpc,zpd,zpe,zpf,zpg,zph,zpi,zpj,zpk,zpl,zpm,zpn,zpo,zpp]; rfl) (Zq rfl ⟨_, rfl, _, _, rfl, rfl, nol (by omega)⟩)
  have c2 := eq_false hneg
  by_cases hbad : count > 0 ∧ (first < 0 ∨ first > 4611686018427387903)
  ·have c1 : (count > 0) = True := eq_true hbad.1
   by_cases hf0 : first < 0
   ·have c3 := eq_true hf0
    refine Zr rfl (by simp (maxSteps := 2000000) only [gs,zlr,reduceIte,reduceCtorEq,zpa,zpb,zpc,zpd,zpe,zpf,zpg,zph,zpi,zpj,zpk,zpl,zpm,zpn,zpo,zpp, c1, c3, decide_true]; rfl) (Zc rfl rfl (fun _ => ?_) (fun h => by cases h))
    exact Zr rfl (by simp (maxSteps := 2000000) only [gs,zlr,reduceIte,reduceCtorEq,zpa,zpb,zpc,zpd,zpe,zpf,zpg,zph,zpi,zpj,zpk,zpl,zpm,zpn,zpo,zpp]; rfl) (Zq rfl ⟨_, rfl, _, _, rfl, rfl, nol (by omega)⟩)
   ·have c3 := eq_false hf0
    have c4 : (first > 4611686018427387903) = True := eq_true (by omega)
    refine Zr rfl (by simp (maxSteps := 2000000) only [gs,zlr,reduceIte,reduceCtorEq,zpa,zpb,zpc,zpd,zpe,zpf,zpg,zph,zpi,zpj,zpk,zpl,zpm,zpn,zpo,zpp, c1, c3, c4, decide_true, decide_false]; rfl) (Zc rfl rfl (fun _ => ?_) (fun h => by cases h))
    exact Zr rfl (by simp (maxSteps := 2000000) only [gs,zlr,reduceIte,reduceCtorEq,zpa,zpb,zpc,zpd,zpe,zpf,zpg,zph,zpi,zpj,zpk,zpl,zpm,zpn,zpo,zpp]; rfl) (Zq rfl ⟨_, rfl, _, _, rfl, rfl, nol (by omega)⟩)
  by_cases hp : count > 0
  ·have c1 : (count > 0) = True := eq_true hp
   have c3 : (first < 0) = False := eq_false (by omega)
   have c4 : (first > 4611686018427387903) = False := eq_false (by omega)
   obtain ⟨C, rfl⟩ : ∃ C : Nat, count = ((C + 1 : Nat) : Int) := ⟨(count - 1).toNat, by omega⟩
   have s0 : RdN [nilBox, rBox first 0 0 false false true] (ev0 first) false true := ⟨rfl, rfl⟩
   obtain ⟨h2, E1, s2⟩ := eventN_G s0
   have b2 := s2.bx
   unfold rBox at b2 E1
   have hl2 := get_lt b2
   have E1 : GF gtab fid_delta_reader_event [.ptr 1 0 0 0] [nilBox, .box [.ptr 0 0 0 0, .int .i64 first, .int .u32 0, .int .u32 0, .bool false, .bool false, .bool true]] 0 = some (.agg [.int .i64 0, .int .u32 0, .int .u32 0, .bool false], h2) := E1
   have b3 : ∀ x : GObj, (h2 ++ [x])[1]? = some (.box [.ptr 0 0 0 0, .int .i64 (ev0 first).1, .int .u32 (ev0 first).2.1, .int .u32 (ev0 first).2.2.1, .bool (ev0 first).2.2.2, .bool false, .bool false]) := fun x => by rw [app_lt hl2, b2]
   refine Zr rfl (by simp (maxSteps := 2000000) only [gs,zlr,reduceIte,reduceCtorEq,zpa,zpb,zpc,zpd,zpe,zpf,zpg,zph,zpi,zpj,zpk,zpl,zpm,zpn,zpo,zpp, c1, c2, c3, c4, decide_true, decide_false]; rfl) (Zc rfl rfl (fun h => by cases h) (fun _ => ?_))
   refine Zr rfl (by simp (maxSteps := 2000000) only [gs,zlr,reduceIte,reduceCtorEq,zpa,zpb,zpc,zpd,zpe,zpf,zpg,zph,zpi,zpj,zpk,zpl,zpm,zpn,zpo,zpp, gc_bits_NewReader, hN]; rfl) ?_
   refine Zr rfl (by simp (maxSteps := 2000000) only [gs,zlr,reduceIte,reduceCtorEq,zpa,zpb,zpc,zpd,zpe,zpf,zpg,zph,zpi,zpj,zpk,zpl,zpm,zpn,zpo,zpp]; rfl) ?_
   refine Z_nrm 1 (Zj2 (fun env h => GEnv.get env 0 = .nils ∧ GEnv.get env 1 = .int .i64 first ∧ GEnv.get env 10 = .ptr 1 0 0 0 ∧ GEnv.get env 11 = .own 4 (uvs [(0, 0, 0, false)]) ∧ h[1]? = some (.box [.ptr 0 0 0 0, .int .i64 (ev0 first).1, .int .u32 (ev0 first).2.1, .int .u32 (ev0 first).2.2.1, .bool (ev0 first).2.2.2, .bool false, .bool false])) ?_ ?_)
   ·refine Zw rfl (fun m env h => (m = 1 ∧ h = [nilBox, .box [.ptr 0 0 0 0, .int .i64 first, .int .u32 0, .int .u32 0, .bool false, .bool false, .bool true]] ∧ GEnv.get env 0 = .nils ∧ GEnv.get env 1 = .int .i64 first ∧ GEnv.get env 2 = .int .i64 ((C + 1 : Nat) : Int) ∧ GEnv.get env 3 = .int .u64 (n : Int) ∧ GEnv.get env 10 = .ptr 1 0 0 0 ∧ GEnv.get env 11 = .nils) ∨
     (m = 0 ∧ h[1]? = some (.box [.ptr 0 0 0 0, .int .i64 (ev0 first).1, .int .u32 (ev0 first).2.1, .int .u32 (ev0 first).2.2.1, .bool (ev0 first).2.2.2, .bool false, .bool false]) ∧ GEnv.get env 0 = .nils ∧ GEnv.get env 1 = .int .i64 first ∧ GEnv.get env 2 = .int .i64 (C : Int) ∧ GEnv.get env 3 = .int .u64 (n : Int) ∧ GEnv.get env 10 = .ptr 1 0 0 0 ∧ GEnv.get env 11 = .own 4 (uvs [(0, 0, 0, false)]))) 1 (.inl ⟨rfl, rfl, rfl, rfl, rfl, rfl, rfl, rfl⟩) ?_
    rintro m env h (⟨rfl, rfl, k0, k1, k2, k3, k10, k11⟩ | ⟨rfl, hb, k0, k1, k2, k3, k10, k11⟩)
    ·simp only [GEnv.keep, k0, k1, k2, k3, k10, k11]
     have g1 : (((C + 1 : Nat) : Int) > 0) = True := eq_true (by omega)
     have hmm : IntKind.i64.wrap (((C + 1 : Nat) : Int) - 1) = ((C : Nat) : Int) := by rw [wrap_i64 (by omega) (by omega)]; omega
     have hr0 : (1 * 24 ≤ room) = True := eq_true (by unfold room; omega)
     have hone : ([[U.int .i64 0, .int .u32 0, .int .u32 0, .bool false]] : List (List U)) = uvs [(0, 0, 0, false)] := rfl
     have b4 : ∀ x y : GObj, ((h2 ++ [x]).set 1 y)[1]? = some y := fun x y => set_eq (by rw [List.length_append]; omega)
     have b5 : ∀ x y : GObj, ((h2 ++ [x]).set 1 y)[h2.length]? = some x := fun x y => by rw [set_ne (by omega)]; exact dapp_eq
     refine Zr rfl (by simp (maxSteps := 2000000) only [gs,zlr,reduceIte,reduceCtorEq,zpa,zpb,zpc,zpd,zpe,zpf,zpg,zph,zpi,zpj,zpk,zpl,zpm,zpn,zpo,zpp, g1, decide_true]; rfl) (Zc rfl rfl (fun _ => ?_) (fun h => by cases h))
     refine Zr rfl (by simp (maxSteps := 2000000) only [gs,zlr,reduceIte,reduceCtorEq,zpa,zpb,zpc,zpd,zpe,zpf,zpg,zph,zpi,zpj,zpk,zpl,zpm,zpn,zpo,zpp, gc_delta_reader_event, E1, dapp_eq, dapp_set, Nat.zero_le]; rfl) ?_
     refine Zr rfl (by simp (maxSteps := 2000000) only [gs,zlr,reduceIte,reduceCtorEq,zpa,zpb,zpc,zpd,zpe,zpf,zpg,zph,zpi,zpj,zpk,zpl,zpm,zpn,zpo,zpp, b3]; rfl) ?_
     refine Zr rfl (by simp (maxSteps := 2000000) only [gs,zlr,reduceIte,reduceCtorEq,zpa,zpb,zpc,zpd,zpe,zpf,zpg,zph,zpi,zpj,zpk,zpl,zpm,zpn,zpo,zpp, b5, hone, uvs_length, List.length_singleton, hr0]; rfl) ?_
     refine Zr rfl (by simp (maxSteps := 2000000) only [gs,zlr,reduceIte,reduceCtorEq,zpa,zpb,zpc,zpd,zpe,zpf,zpg,zph,zpi,zpj,zpk,zpl,zpm,zpn,zpo,zpp, hmm]; rfl) ?_
     exact Za rfl ⟨0, by omega, .inr ⟨rfl, b4 _ _, rfl, rfl, rfl, rfl, rfl, rfl⟩⟩
    ·simp only [GEnv.keep, k0, k1, k2, k3, k10, k11]
     by_cases hC : C = 0
     ·have g1 : (((C : Nat) : Int) > 0) = False := eq_false (by omega)
      refine Zr rfl (by simp (maxSteps := 2000000) only [gs,zlr,reduceIte,reduceCtorEq,zpa,zpb,zpc,zpd,zpe,zpf,zpg,zph,zpi,zpj,zpk,zpl,zpm,zpn,zpo,zpp, g1, decide_false]; rfl) (Zc rfl rfl (fun h => by cases h) (fun _ => ?_))
      exact Za rfl ⟨rfl, rfl, rfl, rfl, hb⟩
     ·have g1 : (((C : Nat) : Int) > 0) = True := eq_true (by omega)
      refine Zr rfl (by simp (maxSteps := 2000000) only [gs,zlr,reduceIte,reduceCtorEq,zpa,zpb,zpc,zpd,zpe,zpf,zpg,zph,zpi,zpj,zpk,zpl,zpm,zpn,zpo,zpp, g1, hb, decide_true]; rfl) (Zc rfl rfl (fun h => by cases h) (fun _ => ?_))
      exact Za rfl ⟨rfl, rfl, rfl, rfl, hb⟩
   rintro env h ⟨k0, k1, k10, k11, hb⟩
   have hev : EvOk [((0, 0, 0, false) : Ev)] := fun x hx => by rw [List.mem_singleton.1 hx]; exact ⟨by decide, by decide⟩
   rcases dput_R (w := .list false 4 (uvs [(0, 0, 0, false)])) (l := [(0, 0, 0, false)]) (first := first) (.inl rfl) (by simp) hev with ⟨bs', g1, g2, g3⟩ | ⟨g1, g3⟩
   ·refine Zr rfl (by simp (maxSteps := 2000000) only [gs,zlr,reduceIte,reduceCtorEq,zpa,zpb,zpc,zpd,zpe,zpf,zpg,zph,zpi,zpj,zpk,zpl,zpm,zpn,zpo,zpp, k1, k11, snapLL_uvs, gc_delta_Put, g3]; rfl) ?_
    refine Zr rfl (by simp (maxSteps := 2000000) only [gs,zlr,reduceIte,reduceCtorEq,zpa,zpb,zpc,zpd,zpe,zpf,zpg,zph,zpi,zpj,zpk,zpl,zpm,zpn,zpo,zpp, k10, hb]; rfl) (Zc rfl rfl (fun _ => ?_) (fun h => by cases h))
    exact Zr rfl (by simp (maxSteps := 2000000) only [gs,zlr,reduceIte,reduceCtorEq,zpa,zpb,zpc,zpd,zpe,zpf,zpg,zph,zpi,zpj,zpk,zpl,zpm,zpn,zpo,zpp]; rfl) (Zq rfl ⟨_, rfl, _, _, rfl, rfl, nol (by omega)⟩)
   ·refine Zr rfl (by simp (maxSteps := 2000000) only [gs,zlr,reduceIte,reduceCtorEq,zpa,zpb,zpc,zpd,zpe,zpf,zpg,zph,zpi,zpj,zpk,zpl,zpm,zpn,zpo,zpp, k1, k11, snapLL_uvs, gc_delta_Put, g3]; rfl) ?_
    refine Zr rfl (by simp (maxSteps := 2000000) only [gs,zlr,reduceIte,reduceCtorEq,zpa,zpb,zpc,zpd,zpe,zpf,zpg,zph,zpi,zpj,zpk,zpl,zpm,zpn,zpo,zpp, k10, hb]; rfl) (Zc rfl rfl (fun _ => ?_) (fun h => by cases h))
    exact Zr rfl (by simp (maxSteps := 2000000) only [gs,zlr,reduceIte,reduceCtorEq,zpa,zpb,zpc,zpd,zpe,zpf,zpg,zph,zpi,zpj,zpk,zpl,zpm,zpn,zpo,zpp]; rfl) (Zq rfl ⟨_, rfl, _, _, rfl, rfl, nol (by omega)⟩)
  ·have c1 : (count > 0) = False := eq_false hp
   have hc0 : count = 0 := by omega
   subst hc0
   have z0 : ((0 : Int) > 0) = False := eq_false (by omega)
   refine Zr rfl (by simp (maxSteps := 2000000) only [gs,zlr,reduceIte,reduceCtorEq,zpa,zpb,zpc,zpd,zpe,zpf,zpg,zph,zpi,zpj,zpk,zpl,zpm,zpn,zpo,zpp, z0, decide_false]; rfl) (Zc rfl rfl (fun h => by cases h) (fun _ => ?_))
   refine Zr rfl (by simp (maxSteps := 2000000) only [gs,zlr,reduceIte,reduceCtorEq,zpa,zpb,zpc,zpd,zpe,zpf,zpg,zph,zpi,zpj,zpk,zpl,zpm,zpn,zpo,zpp, gc_bits_NewReader, hN]; rfl) ?_
   refine Zr rfl (by simp (maxSteps := 2000000) only [gs,zlr,reduceIte,reduceCtorEq,zpa,zpb,zpc,zpd,zpe,zpf,zpg,zph,zpi,zpj,zpk,zpl,zpm,zpn,zpo,zpp]; rfl) ?_
   refine Zw rfl (fun m env h => h = [nilBox, .box [.ptr 0 0 0 0, .int .i64 first, .int .u32 0, .int .u32 0, .bool false, .bool false, .bool true]] ∧ GEnv.get env 0 = .nils ∧ GEnv.get env 1 = .int .i64 first ∧ GEnv.get env 2 = .int .i64 0 ∧ GEnv.get env 10 = .ptr 1 0 0 0 ∧ GEnv.get env 11 = .nils) 0 ⟨rfl, rfl, rfl, rfl, rfl, rfl⟩ ?_
   rintro m env h ⟨rfl, k0, k1, k2, k10, k11⟩
   simp only [GEnv.keep, k0, k1, k2, k10, k11]
   refine Zr rfl (by simp (maxSteps := 2000000) only [gs,zlr,reduceIte,reduceCtorEq,zpa,zpb,zpc,zpd,zpe,zpf,zpg,zph,zpi,zpj,zpk,zpl,zpm,zpn,zpo,zpp]; rfl) (Zc rfl rfl (fun h => by cases h) (fun _ => ?_))
   rcases dput_R (w := .nils) (l := []) (first := first) (.inr ⟨rfl, rfl⟩) (by simp) (fun e he => (by cases he)) with ⟨bs', g1, g2, g3⟩ | ⟨g1, g3⟩
   ·have hb0 : bs' = [] := PackedN.unique g2 nil_packed
    have hq := eequalN_G (x := bs')
    rw [decide_eq_true hb0] at hq
    refine Zr rfl (by simp (maxSteps := 2000000) only [gs,zlr,reduceIte,reduceCtorEq,zpa,zpb,zpc,zpd,zpe,zpf,zpg,zph,zpi,zpj,zpk,zpl,zpm,zpn,zpo,zpp, gc_delta_Put, g3]; rfl) ?_
    refine Zr rfl (by simp (maxSteps := 2000000) only [gs,zlr,reduceIte,reduceCtorEq,zpa,zpb,zpc,zpd,zpe,zpf,zpg,zph,zpi,zpj,zpk,zpl,zpm,zpn,zpo,zpp, snapLL_un, gc_bytes_Equal, hq]; rfl) (Zc rfl rfl (fun h => by cases h) (fun _ => ?_))
    exact Zr rfl (by simp (maxSteps := 2000000) only [gs,zlr,reduceIte,reduceCtorEq,zpa,zpb,zpc,zpd,zpe,zpf,zpg,zph,zpi,zpj,zpk,zpl,zpm,zpn,zpo,zpp]; rfl) (Zq rfl ⟨_, rfl, _, _, rfl, rfl, .inl ⟨[], .nils, ⟨⟨by omega, fun h => by omega, rfl⟩, nil_right, fun e he => (by cases he), fun e he => (by cases he), nil_packed⟩, .inr ⟨rfl, rfl⟩, rfl⟩⟩)
   ·exact absurd nil_right g1
 obtain ⟨u, h', h1, rfl, h2⟩ := key
 exact ⟨u, h2, h1⟩
set_option maxHeartbeats 4000000 in
theorem rdreadN_R {first count : Int} {n : Nat} (hf : -9223372036854775808 ≤ first ∧ first ≤ 9223372036854775807) (hc : -9223372036854775808 ≤ count ∧ count ≤ 1000) (hn : n < 18446744073709551616) :
  ∃ u, ReadD first count n [] u ∧ GF gtab fid_archipelagoref15_DeltaRead [.nils, .int .i64 first, .int .i64 count, .int .u64 (n : Int)] [] 0 = some (u, []) := by
 have key : ∃ u h', GF gtab fid_archipelagoref15_DeltaRead [.nils, .int .i64 first, .int .i64 count, .int .u64 (n : Int)] [] 0 = some (u, h') ∧ h' = [] ∧ ReadD first count n [] u := by
  have nol : count ≠ 0 → ReadD first count n [] (.tup [.nils, .int .i64 21]) := fun h => .inr ⟨fun ⟨l, hl⟩ => by
   have h1 := packed_nil hl.2.2.2.2
   subst h1
   exact h hl.1.2.2.symm, rfl⟩
  refine fnR_archipelagoref15_DeltaRead rfl ?_
  simp only [genvOf]
  have w8 : IntKind.i64.wrap (8 * 0) = 0 := rfl
  refine Zr rfl (by simp (maxSteps := 2000000) only [gs,zlr,reduceIte,reduceCtorEq,zpa,zpb,zpc,zpd,zpe,zpf,zpg,zph,zpi,zpj,zpk,zpl,zpm,zpn,zpo,zpp]; rfl) ?_
  by_cases hneg : count < 0
  ·have c2 := eq_true hneg
   refine Zr rfl (by simp (maxSteps := 2000000) only [gs,zlr,reduceIte,reduceCtorEq,zpa,zpb,zpc,zpd,zpe,zpf,zpg,zph,zpi,zpj,zpk,zpl,zpm,zpn,zpo,zpp, c2, decide_true]; rfl) (Zc rfl rfl (fun _ => ?_) (fun h => by cases h))
   exact Zr rfl (by simp (maxSteps := 2000000) only [gs,zlr,reduceIte,reduceCtorEq,zpa,zpb,zpc,zpd,zpe,zpf,zpg,zph,zpi,zpj,zpk,zpl,zpm,zpn,zpo,zpp]; rfl) (Zq rfl ⟨_, rfl, _, _, rfl, rfl, nol (by omega)⟩)
  have c2 := eq_false hneg
  by_cases hbig : count > 0
  ·have c1 := eq_true hbig
   refine Zr rfl (by simp (maxSteps := 2000000) only [gs,zlr,reduceIte,reduceCtorEq,zpa,zpb,zpc,zpd,zpe,zpf,zpg,zph,zpi,zpj,zpk,zpl,zpm,zpn,zpo,zpp, c2, w8, c1, decide_true, decide_false]; rfl) (Zc rfl rfl (fun _ => ?_) (fun h => by cases h))
   exact Zr rfl (by simp (maxSteps := 2000000) only [gs,zlr,reduceIte,reduceCtorEq,zpa,zpb,zpc,zpd,zpe,zpf,zpg,zph,zpi,zpj,zpk,zpl,zpm,zpn,zpo,zpp]; rfl) (Zq rfl ⟨_, rfl, _, _, rfl, rfl, nol (by omega)⟩)
  have hc0 : count = 0 := by omega
  subst hc0
  have z0 : ((0 : Int) > 0) = False := eq_false (by omega)
  refine Z_nrm 1 (Zj2 (fun env h => h = [] ∧ GEnv.get env 0 = .nils ∧ GEnv.get env 1 = .int .i64 first ∧ GEnv.get env 2 = .int .i64 0 ∧ GEnv.get env 3 = .int .u64 (n : Int)) ?_ ?_)
  ·by_cases hx : first < 0
   ·have c3 := eq_true hx
    have c4 : (first > 4611686018427387903) = False := eq_false (by omega)
    refine Zr rfl (by simp (maxSteps := 2000000) only [gs,zlr,reduceIte,reduceCtorEq,zpa,zpb,zpc,zpd,zpe,zpf,zpg,zph,zpi,zpj,zpk,zpl,zpm,zpn,zpo,zpp, w8, z0, c3, c4, decide_true, decide_false]; rfl) (Zc rfl rfl (fun h => by cases h) (fun _ => ?_))
    exact Za rfl ⟨rfl, rfl, rfl, rfl, rfl⟩
   ·have c3 := eq_false hx
    by_cases hy : first > 4611686018427387903
    ·have c4 := eq_true hy
     refine Zr rfl (by simp (maxSteps := 2000000) only [gs,zlr,reduceIte,reduceCtorEq,zpa,zpb,zpc,zpd,zpe,zpf,zpg,zph,zpi,zpj,zpk,zpl,zpm,zpn,zpo,zpp, w8, z0, c3, c4, decide_true, decide_false]; rfl) (Zc rfl rfl (fun h => by cases h) (fun _ => ?_))
     exact Za rfl ⟨rfl, rfl, rfl, rfl, rfl⟩
    ·have c4 := eq_false hy
     refine Zr rfl (by simp (maxSteps := 2000000) only [gs,zlr,reduceIte,reduceCtorEq,zpa,zpb,zpc,zpd,zpe,zpf,zpg,zph,zpi,zpj,zpk,zpl,zpm,zpn,zpo,zpp, w8, z0, c3, c4, decide_true, decide_false]; rfl) (Zc rfl rfl (fun h => by cases h) (fun _ => ?_))
     exact Za rfl ⟨rfl, rfl, rfl, rfl, rfl⟩
  rintro env h ⟨rfl, k0, k1, k2, k3⟩
  refine Zr rfl (by simp (maxSteps := 2000000) only [gs,zlr,reduceIte,reduceCtorEq,zpa,zpb,zpc,zpd,zpe,zpf,zpg,zph,zpi,zpj,zpk,zpl,zpm,zpn,zpo,zpp, k0]; rfl) ?_
  refine Zr rfl (by simp (maxSteps := 2000000) only [gs,zlr,reduceIte,reduceCtorEq,zpa,zpb,zpc,zpd,zpe,zpf,zpg,zph,zpi,zpj,zpk,zpl,zpm,zpn,zpo,zpp, k1]; rfl) ?_
  refine Zr rfl (by simp (maxSteps := 2000000) only [gs,zlr,reduceIte,reduceCtorEq,zpa,zpb,zpc,zpd,zpe,zpf,zpg,zph,zpi,zpj,zpk,zpl,zpm,zpn,zpo,zpp]; rfl) ?_
  refine Zr rfl (by simp (maxSteps := 2000000) only [gs,zlr,reduceIte,reduceCtorEq,zpa,zpb,zpc,zpd,zpe,zpf,zpg,zph,zpi,zpj,zpk,zpl,zpm,zpn,zpo,zpp]; rfl) ?_
  refine Zw rfl (fun m env h => GEnv.get env 0 = .nils ∧ GEnv.get env 1 = .int .i64 first ∧ GEnv.get env 2 = .int .i64 0 ∧ GEnv.get env 12 = .nils ∧ GEnv.get env 13 = .int .i64 0) 0 ⟨by simp [GEnv.get, k0], by simp [GEnv.get, k1], by simp [GEnv.get, k2], by simp [GEnv.get], by simp [GEnv.get]⟩ ?_
  clear k0 k1 k2 k3
  rintro m env h ⟨k0, k1, k2, k12, k13⟩
  simp only [GEnv.keep, k0, k1, k2, k12, k13]
  rcases rdput_R (w := .nils) (l := []) (first := first) (.inr ⟨rfl, rfl⟩) (by simp) (fun e he => (by cases he)) with ⟨bs', g1, g2, g3⟩ | ⟨g1, g3⟩
  ·have hb0 : bs' = [] := PackedN.unique g2 nil_packed
   subst hb0
   have e0 : gbytesOf (un .u8 []) = some [] := rfl
   have e1 : gbytesOf [] = some [] := rfl
   have e2 : (([] : List Int) != []) = false := rfl
   refine Zr rfl (by simp (maxSteps := 2000000) only [gs,zlr,reduceIte,reduceCtorEq,zpa,zpb,zpc,zpd,zpe,zpf,zpg,zph,zpi,zpj,zpk,zpl,zpm,zpn,zpo,zpp]; rfl) (Zc rfl rfl (fun h => by cases h) (fun _ => ?_))
   refine Zr rfl (by simp (maxSteps := 2000000) only [gs,zlr,reduceIte,reduceCtorEq,zpa,zpb,zpc,zpd,zpe,zpf,zpg,zph,zpi,zpj,zpk,zpl,zpm,zpn,zpo,zpp, gc_archipelagoref15_DeltaPut, g3]; rfl) ?_
   refine Zr rfl (by simp (maxSteps := 2000000) only [gs,zlr,reduceIte,reduceCtorEq,zpa,zpb,zpc,zpd,zpe,zpf,zpg,zph,zpi,zpj,zpk,zpl,zpm,zpn,zpo,zpp, bne_self_eq_false, e0, e1, e2]; rfl) (Zc rfl rfl (fun h => by cases h) (fun _ => ?_))
   exact Zr rfl (by simp (maxSteps := 2000000) only [gs,zlr,reduceIte,reduceCtorEq,zpa,zpb,zpc,zpd,zpe,zpf,zpg,zph,zpi,zpj,zpk,zpl,zpm,zpn,zpo,zpp]; rfl) (Zq rfl ⟨_, rfl, _, _, rfl, rfl, .inl ⟨[], .nils, ⟨⟨by omega, fun h => by omega, rfl⟩, nil_right, fun e he => (by cases he), fun e he => (by cases he), nil_packed⟩, .inr ⟨rfl, rfl⟩, rfl⟩⟩)
  ·exact absurd nil_right g1
 obtain ⟨u, h', h1, rfl, h2⟩ := key
 exact ⟨u, h2, h1⟩
theorem change0_R {more : List Nat} {how at' x : Nat} (hm : ∀ c ∈ more, c < 256) (hml : more.length ≤ 8) :
  ∃ w, GF gtab fid_archipelagoseat_Change [.list false 1 (un .u8 []), .int .u8 how, .int .u16 at', .int .u8 x, .list false 1 (un .u8 more)] [] 0 = some (w, []) ∧ isBr w more := by
 have key : ∃ u h', GF gtab fid_archipelagoseat_Change [.list false 1 (un .u8 []), .int .u8 how, .int .u16 at', .int .u8 x, .list false 1 (un .u8 more)] [] 0 = some (u, h') ∧ h' = [] ∧ isBr u more := by
  have u0 : un .u8 [] = [] := rfl
  refine fnR_archipelagoseat_Change rfl ?_
  simp only [genvOf, u0]
  refine Zr rfl (by simp (maxSteps := 2000000) only [gs,zlr,reduceIte,reduceCtorEq,zpa,zpb,zpc,zpd,zpe,zpf,zpg,zph,zpi,zpj,zpk,zpl,zpm,zpn,zpo,zpp]; rfl) ?_
  refine Zr rfl (by simp (maxSteps := 2000000) only [gs,zlr,reduceIte,reduceCtorEq,zpa,zpb,zpc,zpd,zpe,zpf,zpg,zph,zpi,zpj,zpk,zpl,zpm,zpn,zpo,zpp]; rfl) ?_
  refine Zr rfl (by simp (maxSteps := 2000000) only [gs,zlr,reduceIte,reduceCtorEq,zpa,zpb,zpc,zpd,zpe,zpf,zpg,zph,zpi,zpj,zpk,zpl,zpm,zpn,zpo,zpp, beq_self_eq_true]; rfl) (Zc rfl rfl (fun _ => ?_) (fun h => by cases h))
  by_cases m0 : more = []
  ·subst m0
   refine Zr rfl (by simp (maxSteps := 2000000) only [gs,zlr,reduceIte,reduceCtorEq,zpa,zpb,zpc,zpd,zpe,zpf,zpg,zph,zpi,zpj,zpk,zpl,zpm,zpn,zpo,zpp, u0]; rfl) (Zq rfl ⟨_, rfl, ?_⟩)
   simp only [gfin, outs, U.out, U.handed, U.share, U.rf, els, GEnv.get, if_true, Nat.reduceEqDiff, if_false, rfLL_un, Option.map_some]
   exact ⟨_, _, rfl, rfl, .inr (.inl rfl)⟩
  ·have hmn : (un .u8 more = []) = False := eq_false (fun h => m0 (List.eq_nil_of_length_eq_zero (by have := congrArg List.length h; rwa [un_length] at this)))
   have r1 : (more.length * 1 ≤ room) = True := eq_true (by unfold room; omega)
   refine Zr rfl (by simp (maxSteps := 2000000) only [gs,zlr,reduceIte,reduceCtorEq,zpa,zpb,zpc,zpd,zpe,zpf,zpg,zph,zpi,zpj,zpk,zpl,zpm,zpn,zpo,zpp, hmn, un_length, r1]; rfl) (Zq rfl ⟨_, rfl, ?_⟩)
   simp only [gfin, outs, U.out, U.handed, U.share, U.rf, els, GEnv.get, if_true, Nat.reduceEqDiff, if_false, rfLL_un, Option.map_some]
   exact ⟨_, _, rfl, rfl, .inr (.inl rfl)⟩
 obtain ⟨u, h', h1, rfl, h2⟩ := key
 exact ⟨u, h1, h2⟩
end Go.Ab
namespace Go.Ab
open Go
open Nat renaming reduceEqDiff → zpa, reduceLT → zpb, reduceAdd → zpc, reduceSub → zpd, reduceLeDiff → zpe, reduceMul → zpf
open Int renaming reduceToNat → zpg, reduceLT → zph, reduceLE → zpi, reduceEq → zpj, reduceNe → zpk, reduceBEq → zpl, reduceBNe → zpm, reduceAdd → zpn, reduceSub → zpo, reduceNeg → zpp
open List renaming replicate → zlr
set_option linter.unusedVariables false
set_option linter.unusedSimpArgs false
set_option maxRecDepth 10000
def isBa (u : U) (bs : List Nat) : Prop := u = .list false 1 (un .u8 bs) ∨ (u = .nils ∧ bs = [])
def rowU (xs : List U) : List (List U) := xs.map fun u => [u]
theorem rowU_get {xs : List U} {i : Nat} {x : U} (h : xs[i]? = some x) : (rowU xs)[i]? = some [x] := by simp [rowU, h]
theorem put_both {w : U} {l : List Ev} {first : Int} (hw : isVa w l) (hl : l.length ≤ 1000) (ho : EvOk l) :
  (∃ b, GF gtab fid_delta_Put [.int .i64 first, w] [] 0 = some (.tup [.own 1 (un .u8 b), .int .i64 0], []) ∧ GF gtab fid_archipelagoref15_DeltaPut [.int .i64 first, w] [] 0 = some (.tup [.list false 1 (un .u8 b), .int .i64 0], [])) ∨
  (GF gtab fid_delta_Put [.int .i64 first, w] [] 0 = some (.tup [.nils, .int .i64 23], []) ∧ GF gtab fid_archipelagoref15_DeltaPut [.int .i64 first, w] [] 0 = some (.tup [.nils, .int .i64 23], [])) := by
 rcases dput_R (first := first) hw hl ho with ⟨b, p, q, r⟩ | ⟨p, q⟩ <;> rcases rdput_R (first := first) hw hl ho with ⟨b', p', q', r'⟩ | ⟨p', q'⟩
 ·rw [PackedN.unique q' q] at r'
  exact .inl ⟨b, r, r'⟩
 ·exact absurd p p'
 ·exact absurd p' p
 ·exact .inr ⟨q, q'⟩
theorem read_both {w : U} {bs : List Nat} {first count : Int} {n : Nat} (hw : isBa w bs) (hb : ∀ c ∈ bs, c < 256) (hl : bs.length ≤ 1000000) (hf : -9223372036854775808 ≤ first ∧ first ≤ 9223372036854775807) (hc : -9223372036854775808 ≤ count ∧ count ≤ 1000) (hn : n < 18446744073709551616) :
  ∃ v1 v2 l, ∃ c : Int, isVa v1 l ∧ isVa v2 l ∧ l.length ≤ 1000 ∧ GF gtab fid_delta_Read [w, .int .i64 first, .int .i64 count, .int .u64 (n : Int)] [] 0 = some (.tup [v1, .int .i64 c], []) ∧ GF gtab fid_archipelagoref15_DeltaRead [w, .int .i64 first, .int .i64 count, .int .u64 (n : Int)] [] 0 = some (.tup [v2, .int .i64 c], []) := by
 have h : ∃ u u', ReadD first count n bs u ∧ ReadD first count n bs u' ∧ GF gtab fid_delta_Read [w, .int .i64 first, .int .i64 count, .int .u64 (n : Int)] [] 0 = some (u, []) ∧ GF gtab fid_archipelagoref15_DeltaRead [w, .int .i64 first, .int .i64 count, .int .u64 (n : Int)] [] 0 = some (u', []) := by
  rcases hw with rfl | ⟨rfl, rfl⟩
  ·obtain ⟨u, h1, h2⟩ := dread_R hb hl hf hc hn
   obtain ⟨u', h1', h2'⟩ := rdread_R hb hl hf hc hn
   exact ⟨u, u', h1, h1', h2, h2'⟩
  ·obtain ⟨u, h1, h2⟩ := dreadN_R hf hc hn
   obtain ⟨u', h1', h2'⟩ := rdreadN_R hf hc hn
   exact ⟨u, u', h1, h1', h2, h2'⟩
 obtain ⟨u, u', h1, h1', h2, h2'⟩ := h
 rcases h1 with ⟨l, v, a, b, rfl⟩ | ⟨a, rfl⟩ <;> rcases h1' with ⟨l', v', a', b', rfl⟩ | ⟨a', rfl⟩
 ·have := a'.one a
  subst this
  exact ⟨v, v', l', 0, b, b', by have := a.1.2.2; omega, h2, h2'⟩
 ·exact absurd ⟨l, a⟩ a'
 ·exact absurd ⟨l', a'⟩ a
 ·exact ⟨.nils, .nils, [], 21, .inr ⟨rfl, rfl⟩, .inr ⟨rfl, rfl⟩, by simp, h2, h2'⟩
set_option maxHeartbeats 8000000 in
theorem deltaTells_G {raw : List Ev} {l bytes more : List Nat} {k how at_ c n : Nat} {first count : Int} {late : Bool} (hraw : EvOk raw) (hk : k < 256) (hl : ∀ x ∈ l, x < 256) (hby : ∀ x ∈ bytes, x < 256) (hh : how < 256) (ha : at_ < 65536) (hc : c < 256) (hmo : ∀ x ∈ more, x < 256) (hf : -9223372036854775808 ≤ first ∧ first ≤ 9223372036854775807) (hco : -9223372036854775808 ≤ count ∧ count ≤ 9223372036854775807) (hn : n < 18446744073709551616) :
  GF gtab fid_archipelagolaw16_DeltaTells [.list false 4 (uvs raw), .int .u8 (k : Int), .list false 1 (un .u8 l), .list false 1 (un .u8 bytes), .int .u8 (how : Int), .int .u16 (at_ : Int), .int .u8 (c : Int), .list false 1 (un .u8 more), .int .i64 first, .int .i64 count, .int .u64 (n : Int), .bool late] [] 0 = some (.bool true, []) := by
 refine fn_archipelagolaw16_DeltaTells rfl ?_
 simp only [genvOf]
 refine Zr rfl (by simp (maxSteps := 2000000) only [gs,zlr,reduceIte,reduceCtorEq,zpa,zpb,zpc,zpd,zpe,zpf,zpg,zph,zpi,zpj,zpk,zpl,zpm,zpn,zpo,zpp]; rfl) ?_
 refine Zr rfl (by simp (maxSteps := 2000000) only [gs,zlr,reduceIte,reduceCtorEq,zpa,zpb,zpc,zpd,zpe,zpf,zpg,zph,zpi,zpj,zpk,zpl,zpm,zpn,zpo,zpp, gc_archipelagolaw16_known, known16_H]; rfl) (Zc rfl rfl (fun h => by cases h) (fun _ => ?_))
 by_cases a1 : raw.length ≤ 20
 case neg =>
  have g1 : ((raw.length : Int) > 20) = True := eq_true (by omega)
  refine Zr rfl (by simp (maxSteps := 2000000) only [gs,zlr,reduceIte,reduceCtorEq,zpa,zpb,zpc,zpd,zpe,zpf,zpg,zph,zpi,zpj,zpk,zpl,zpm,zpn,zpo,zpp, uvs_length, g1, decide_true]; rfl) (Zc rfl rfl (fun _ => ?_) (fun h => by cases h))
  exact Zr rfl (by simp (maxSteps := 2000000) only [gs,zlr,reduceIte,reduceCtorEq,zpa,zpb,zpc,zpd,zpe,zpf,zpg,zph,zpi,zpj,zpk,zpl,zpm,zpn,zpo,zpp]; rfl) (Zq rfl ⟨_, rfl, rfl⟩)
 have g1 : ((raw.length : Int) > 20) = False := eq_false (by omega)
 by_cases a2 : l.length ≤ 60
 case neg =>
  have g2 : ((l.length : Int) > 60) = True := eq_true (by omega)
  refine Zr rfl (by simp (maxSteps := 2000000) only [gs,zlr,reduceIte,reduceCtorEq,zpa,zpb,zpc,zpd,zpe,zpf,zpg,zph,zpi,zpj,zpk,zpl,zpm,zpn,zpo,zpp, uvs_length, g1, un_length, g2, decide_true, decide_false]; rfl) (Zc rfl rfl (fun _ => ?_) (fun h => by cases h))
  exact Zr rfl (by simp (maxSteps := 2000000) only [gs,zlr,reduceIte,reduceCtorEq,zpa,zpb,zpc,zpd,zpe,zpf,zpg,zph,zpi,zpj,zpk,zpl,zpm,zpn,zpo,zpp]; rfl) (Zq rfl ⟨_, rfl, rfl⟩)
 have g2 : ((l.length : Int) > 60) = False := eq_false (by omega)
 by_cases a3 : bytes.length ≤ 60
 case neg =>
  have g3 : ((bytes.length : Int) > 60) = True := eq_true (by omega)
  refine Zr rfl (by simp (maxSteps := 2000000) only [gs,zlr,reduceIte,reduceCtorEq,zpa,zpb,zpc,zpd,zpe,zpf,zpg,zph,zpi,zpj,zpk,zpl,zpm,zpn,zpo,zpp, uvs_length, g1, un_length, g2, g3, decide_true, decide_false]; rfl) (Zc rfl rfl (fun _ => ?_) (fun h => by cases h))
  exact Zr rfl (by simp (maxSteps := 2000000) only [gs,zlr,reduceIte,reduceCtorEq,zpa,zpb,zpc,zpd,zpe,zpf,zpg,zph,zpi,zpj,zpk,zpl,zpm,zpn,zpo,zpp]; rfl) (Zq rfl ⟨_, rfl, rfl⟩)
 have g3 : ((bytes.length : Int) > 60) = False := eq_false (by omega)
 by_cases a4 : more.length ≤ 8
 case neg =>
  have g4 : ((more.length : Int) > 8) = True := eq_true (by omega)
  refine Zr rfl (by simp (maxSteps := 2000000) only [gs,zlr,reduceIte,reduceCtorEq,zpa,zpb,zpc,zpd,zpe,zpf,zpg,zph,zpi,zpj,zpk,zpl,zpm,zpn,zpo,zpp, uvs_length, g1, un_length, g2, g3, g4, decide_true, decide_false]; rfl) (Zc rfl rfl (fun _ => ?_) (fun h => by cases h))
  exact Zr rfl (by simp (maxSteps := 2000000) only [gs,zlr,reduceIte,reduceCtorEq,zpa,zpb,zpc,zpd,zpe,zpf,zpg,zph,zpi,zpj,zpk,zpl,zpm,zpn,zpo,zpp]; rfl) (Zq rfl ⟨_, rfl, rfl⟩)
 have g4 : ((more.length : Int) > 8) = False := eq_false (by omega)
 by_cases a5 : count ≤ 100
 case neg =>
  have g5 : (count > 100) = True := eq_true (by omega)
  refine Zr rfl (by simp (maxSteps := 2000000) only [gs,zlr,reduceIte,reduceCtorEq,zpa,zpb,zpc,zpd,zpe,zpf,zpg,zph,zpi,zpj,zpk,zpl,zpm,zpn,zpo,zpp, uvs_length, g1, un_length, g2, g3, g4, g5, decide_true, decide_false]; rfl) (Zc rfl rfl (fun _ => ?_) (fun h => by cases h))
  exact Zr rfl (by simp (maxSteps := 2000000) only [gs,zlr,reduceIte,reduceCtorEq,zpa,zpb,zpc,zpd,zpe,zpf,zpg,zph,zpi,zpj,zpk,zpl,zpm,zpn,zpo,zpp]; rfl) (Zq rfl ⟨_, rfl, rfl⟩)
 have g5 : (count > 100) = False := eq_false (by omega)
 obtain ⟨N, v, evs, HI, hv, hs, hti, hle, hN, hri, hok⟩ := history_R hk hl (show l.length ≤ 90 by omega)
 obtain ⟨w', LT, hw'⟩ := late_R (N := (N : Int)) hv (by omega)
 obtain ⟨d, hd0, hds, hdm⟩ := late_sh hri hs
 obtain ⟨v2, L, hv2, hL1, hL2⟩ : ∃ v2 L, isVa v2 L ∧ (late = true → v2 = w' ∧ L = lateV evs) ∧ (late = false → v2 = v ∧ L = evs) := by
  cases late with
  | true => exact ⟨w', lateV evs, hw', fun _ => ⟨rfl, rfl⟩, fun h => (by cases h)⟩
  | false => exact ⟨v, evs, hv, fun h => (by cases h), fun _ => ⟨rfl, rfl⟩⟩
 have hLl : L.length = evs.length := by
  cases late with
  | true => rw [(hL1 rfl).2, lateV_length]
  | false => rw [(hL2 rfl).2]
 have hR : ∀ e0 r, L = e0 :: r → RightD e0.1 L ∧ 0 ≤ e0.1 ∧ e0.1 ≤ 4611686018427387903 := fun e0 r h => by
  have : RightD e0.1 L := by
   cases late with
   | true =>
    have hLL := (hL1 rfl).2
    rw [hLL, hds] at h ⊢
    cases evs with
    | nil => cases h
    | cons x xs =>
     have h1 : RightD x.1 (x :: xs) := hri.rightD fun e r h => by rw [List.cons.injEq] at h; rw [h.1]
     have h2 := right_sh h1 hd0 hdm
     rw [List.map_cons, List.cons.injEq] at h
     have h3 : e0.1 = x.1 + d := by rw [← h.1]; rfl
     rw [h3]; exact h2
   | false =>
    have hLL := (hL2 rfl).2
    rw [hLL] at h ⊢
    exact hri.rightD fun e r h' => by rw [h, List.cons.injEq] at h'; rw [h'.1]
  exact ⟨this, by have := this.1 e0 (by rw [h]; exact List.mem_cons_self); omega, by have := this.1 e0 (by rw [h]; exact List.mem_cons_self); omega⟩
 have hokL : EvOk L := by
  cases late with
  | true => rw [(hL1 rfl).2]; exact evOk_late hok
  | false => rw [(hL2 rfl).2]; exact hok
 have hNL : ∀ e ∈ L, e.2.2.1 < (N : Int) := by
  cases late with
  | true =>
   rw [(hL1 rfl).2, hds]
   intro e he
   obtain ⟨x, hx, rfl⟩ := List.mem_map.1 he
   exact hri.below x hx
  | false => rw [(hL2 rfl).2]; exact hri.below
 obtain ⟨T, hT, hRL⟩ : ∃ T : Int, (-9223372036854775808 ≤ T ∧ T ≤ 9223372036854775807) ∧ RightD T L ∧ (L = [] → T = first) ∧ ∀ e0 r, L = e0 :: r → T = e0.1 := by
  cases hLc : L with
  | nil => exact ⟨first, hf, nil_right, fun _ => rfl, fun e0 r h => (by cases h)⟩
  | cons e0 r =>
   have := hR e0 r hLc
   rw [hLc] at this
   exact ⟨e0.1, by omega, this.1, fun h => (by cases h), fun e1 r1 h => by cases h; rfl⟩
 obtain ⟨hRL, hT0, hT1⟩ := hRL
 have hLle : L.length ≤ 60 := by omega
 obtain ⟨b0, hb0p, PUT⟩ : ∃ b0 : List Nat, Packed b0 (db T L) ∧ ∀ {w : U}, isVa w L → GF gtab fid_archipelagoref15_DeltaPut [.int .i64 T, w] [] 0 = some (.tup [.list false 1 (un .u8 b0), .int .i64 0], []) := by
  rcases rdput_R (w := .list false 4 (uvs L)) (l := L) (first := T) (.inl rfl) (by omega) hokL with ⟨b0, _, p, _⟩ | ⟨p, _⟩
  ·refine ⟨b0, p, fun {w} hw => ?_⟩
   rcases rdput_R (first := T) hw (by omega) hokL with ⟨b', _, p', q'⟩ | ⟨p', _⟩
   ·rw [PackedN.unique p p']; exact q'
   ·exact absurd hRL p'
  ·exact absurd hRL p
 have hb0c : ∀ c ∈ b0, c < 256 := hb0p.lt
 have hb0l : b0.length ≤ 9000 := by
  have h1 := dall_le L (ev0 T) false (hRL.chain hokL)
  have h2 := hb0p.len
  have h3 : (db T L).length = (dall (ev0 T) false L).length := rfl
  omega
 obtain ⟨w4, l4, CH, hw4, hl4c, hl4⟩ : ∃ w4 l4, GF gtab fid_archipelagoseat_Change [.list false 1 (un .u8 b0), .int .u8 how, .int .u16 at_, .int .u8 c, .list false 1 (un .u8 more)] [] 0 = some (w4, []) ∧ isBr w4 l4 ∧ (∀ c ∈ l4, c < 256) ∧ l4.length ≤ b0.length + more.length := by
  by_cases hb0 : b0 = []
  ·subst hb0
   obtain ⟨w, h1, h2⟩ := change0_R (how := how) (at' := at_) (x := c) hmo a4
   exact ⟨w, more, h1, h2, hmo, by simp⟩
  ·exact change_R hb0 hb0c hmo hc hh ha hb0l a4
 refine Zr rfl (by simp (maxSteps := 2000000) only [gs,zlr,reduceIte,reduceCtorEq,zpa,zpb,zpc,zpd,zpe,zpf,zpg,zph,zpi,zpj,zpk,zpl,zpm,zpn,zpo,zpp, uvs_length, g1, un_length, g2, g3, g4, g5, decide_false]; rfl) (Zc rfl rfl (fun h => by cases h) (fun _ => ?_))
 refine Zj rfl (fun env h => h = [.box [.int .u64 (N : Int), v]] ∧ GEnv.get env 0 = .list false 4 (uvs raw) ∧ GEnv.get env 3 = .list false 1 (un .u8 bytes) ∧ GEnv.get env 4 = .int .u8 (how : Int) ∧ GEnv.get env 5 = .int .u16 (at_ : Int) ∧ GEnv.get env 6 = .int .u8 (c : Int) ∧ GEnv.get env 7 = .list false 1 (un .u8 more) ∧ GEnv.get env 8 = .int .i64 first ∧ GEnv.get env 9 = .int .i64 count ∧ GEnv.get env 10 = .int .u64 (n : Int) ∧ GEnv.get env 25 = .ptr 0 0 0 0 ∧ GEnv.get env 11 = .bool late) ?_ ?_
 ·rcases hv with rfl | ⟨rfl, rfl⟩
  all_goals
   refine Zr rfl (by simp (maxSteps := 2000000) only [gs,zlr,reduceIte,reduceCtorEq,zpa,zpb,zpc,zpd,zpe,zpf,zpg,zph,zpi,zpj,zpk,zpl,zpm,zpn,zpo,zpp, snapLL_un, gc_archipelagoseat_History, HI]; rfl) ?_
   exact Za rfl ⟨rfl, rfl, rfl, rfl, rfl, rfl, rfl, rfl, rfl, rfl, rfl, rfl⟩
 rintro env h ⟨rfl, k0, k3, k4, k5, k6, k7, k8, k9, k10, k25, k11⟩
 refine Z_nrm 1 (Zj2 (fun env h => h = [.box [.int .u64 (N : Int), v2]] ∧ GEnv.get env 0 = .list false 4 (uvs raw) ∧ GEnv.get env 3 = .list false 1 (un .u8 bytes) ∧ GEnv.get env 4 = .int .u8 (how : Int) ∧ GEnv.get env 5 = .int .u16 (at_ : Int) ∧ GEnv.get env 6 = .int .u8 (c : Int) ∧ GEnv.get env 7 = .list false 1 (un .u8 more) ∧ GEnv.get env 8 = .int .i64 first ∧ GEnv.get env 9 = .int .i64 count ∧ GEnv.get env 10 = .int .u64 (n : Int) ∧ GEnv.get env 25 = .ptr 0 0 0 0) ?_ ?_)
 ·cases late with
  | true =>
   obtain ⟨rfl, hLL⟩ := hL1 rfl
   refine Zr rfl (by simp (maxSteps := 2000000) only [gs,zlr,reduceIte,reduceCtorEq,zpa,zpb,zpc,zpd,zpe,zpf,zpg,zph,zpi,zpj,zpk,zpl,zpm,zpn,zpo,zpp, k11]; rfl) (Zc rfl rfl (fun _ => ?_) (fun h => by cases h))
   rcases hv with rfl | ⟨rfl, rfl⟩
   all_goals
    rcases hw' with rfl | ⟨rfl, _⟩
    all_goals
     refine Zr rfl (by simp (maxSteps := 2000000) only [gs,zlr,reduceIte,reduceCtorEq,zpa,zpb,zpc,zpd,zpe,zpf,zpg,zph,zpi,zpj,zpk,zpl,zpm,zpn,zpo,zpp, k25, snapLL_uvs, gc_archipelagoseat_Late, LT]; rfl) ?_
     exact Za rfl ⟨rfl, by simp [GEnv.get, k0], by simp [GEnv.get, k3], by simp [GEnv.get, k4], by simp [GEnv.get, k5], by simp [GEnv.get, k6], by simp [GEnv.get, k7], by simp [GEnv.get, k8], by simp [GEnv.get, k9], by simp [GEnv.get, k10], by simp [GEnv.get, k25]⟩
  | false =>
   obtain ⟨rfl, hLL⟩ := hL2 rfl
   refine Zr rfl (by simp (maxSteps := 2000000) only [gs,zlr,reduceIte,reduceCtorEq,zpa,zpb,zpc,zpd,zpe,zpf,zpg,zph,zpi,zpj,zpk,zpl,zpm,zpn,zpo,zpp, k11]; rfl) (Zc rfl rfl (fun h => by cases h) (fun _ => ?_))
   exact Za rfl ⟨rfl, by simp [GEnv.get, k0], by simp [GEnv.get, k3], by simp [GEnv.get, k4], by simp [GEnv.get, k5], by simp [GEnv.get, k6], by simp [GEnv.get, k7], by simp [GEnv.get, k8], by simp [GEnv.get, k9], by simp [GEnv.get, k10], by simp [GEnv.get, k25]⟩
 clear k0 k3 k4 k5 k6 k7 k8 k9 k10 k25 k11
 rintro env h ⟨rfl, k0, k3, k4, k5, k6, k7, k8, k9, k10, k25⟩
 refine Zr rfl (by simp (maxSteps := 2000000) only [gs,zlr,reduceIte,reduceCtorEq,zpa,zpb,zpc,zpd,zpe,zpf,zpg,zph,zpi,zpj,zpk,zpl,zpm,zpn,zpo,zpp, k8]; rfl) ?_
 refine Z_nrm 1 (Zj2 (fun env h => h = [.box [.int .u64 (N : Int), v2]] ∧ GEnv.get env 0 = .list false 4 (uvs raw) ∧ GEnv.get env 3 = .list false 1 (un .u8 bytes) ∧ GEnv.get env 4 = .int .u8 (how : Int) ∧ GEnv.get env 5 = .int .u16 (at_ : Int) ∧ GEnv.get env 6 = .int .u8 (c : Int) ∧ GEnv.get env 7 = .list false 1 (un .u8 more) ∧ GEnv.get env 8 = .int .i64 first ∧ GEnv.get env 9 = .int .i64 count ∧ GEnv.get env 10 = .int .u64 (n : Int) ∧ GEnv.get env 25 = .ptr 0 0 0 0 ∧ GEnv.get env 26 = .int .i64 T) ?_ ?_)
 ·have un0 : (uvs []).length = 0 := rfl
  cases hLc : L with
  | nil =>
   have hT2 := hT0 hLc
   rcases hv2 with rfl | ⟨rfl, _⟩
   ·have gL : (((uvs L).length : Int) > 0) = False := eq_false (by rw [hLc]; decide)
    refine Zr rfl (by simp (maxSteps := 2000000) only [gs,zlr,reduceIte,reduceCtorEq,zpa,zpb,zpc,zpd,zpe,zpf,zpg,zph,zpi,zpj,zpk,zpl,zpm,zpn,zpo,zpp, k25, gL, decide_false]; rfl) (Zc rfl rfl (fun h => by cases h) (fun _ => ?_))
    exact Za rfl ⟨rfl, by simp [GEnv.get, k0], by simp [GEnv.get, k3], by simp [GEnv.get, k4], by simp [GEnv.get, k5], by simp [GEnv.get, k6], by simp [GEnv.get, k7], by simp [GEnv.get, k8], by simp [GEnv.get, k9], by simp [GEnv.get, k10], by simp [GEnv.get, k25], by simp [GEnv.get, hT2]⟩
   ·refine Zr rfl (by simp (maxSteps := 2000000) only [gs,zlr,reduceIte,reduceCtorEq,zpa,zpb,zpc,zpd,zpe,zpf,zpg,zph,zpi,zpj,zpk,zpl,zpm,zpn,zpo,zpp, k25]; rfl) (Zc rfl rfl (fun h => by cases h) (fun _ => ?_))
    exact Za rfl ⟨rfl, by simp [GEnv.get, k0], by simp [GEnv.get, k3], by simp [GEnv.get, k4], by simp [GEnv.get, k5], by simp [GEnv.get, k6], by simp [GEnv.get, k7], by simp [GEnv.get, k8], by simp [GEnv.get, k9], by simp [GEnv.get, k10], by simp [GEnv.get, k25], by simp [GEnv.get, hT2]⟩
  | cons e0 r0 =>
   have hT2 := hT1 e0 r0 hLc
   rcases hv2 with rfl | ⟨_, h1⟩
   case inr => rw [hLc] at h1; cases h1
   have gL : ((L.length : Int) > 0) = True := eq_true (by rw [hLc, List.length_cons]; omega)
   have gz : (uvs L)[0]? = some [.int .i64 e0.1, .int .u32 e0.2.1, .int .u32 e0.2.2.1, .bool e0.2.2.2] := by rw [hLc]; rfl
   refine Zr rfl (by simp (maxSteps := 2000000) only [gs,zlr,reduceIte,reduceCtorEq,zpa,zpb,zpc,zpd,zpe,zpf,zpg,zph,zpi,zpj,zpk,zpl,zpm,zpn,zpo,zpp, k25, uvs_length, gL, decide_true]; rfl) (Zc rfl rfl (fun _ => ?_) (fun h => by cases h))
   refine Zr rfl (by simp (maxSteps := 2000000) only [gs,zlr,reduceIte,reduceCtorEq,zpa,zpb,zpc,zpd,zpe,zpf,zpg,zph,zpi,zpj,zpk,zpl,zpm,zpn,zpo,zpp, k25, gz]; rfl) ?_
   exact Za rfl ⟨rfl, by simp [GEnv.get, k0], by simp [GEnv.get, k3], by simp [GEnv.get, k4], by simp [GEnv.get, k5], by simp [GEnv.get, k6], by simp [GEnv.get, k7], by simp [GEnv.get, k8], by simp [GEnv.get, k9], by simp [GEnv.get, k10], by simp [GEnv.get, k25], by simp [GEnv.get, hT2]⟩
 clear k0 k3 k4 k5 k6 k7 k8 k9 k10 k25
 rintro env h ⟨rfl, k0, k3, k4, k5, k6, k7, k8, k9, k10, k25, k26⟩
 refine Zj rfl (fun env h => h = [.box [.int .u64 (N : Int), v2]] ∧ GEnv.get env 0 = .list false 4 (uvs raw) ∧ GEnv.get env 3 = .list false 1 (un .u8 bytes) ∧ GEnv.get env 4 = .int .u8 (how : Int) ∧ GEnv.get env 5 = .int .u16 (at_ : Int) ∧ GEnv.get env 6 = .int .u8 (c : Int) ∧ GEnv.get env 7 = .list false 1 (un .u8 more) ∧ GEnv.get env 8 = .int .i64 first ∧ GEnv.get env 9 = .int .i64 count ∧ GEnv.get env 10 = .int .u64 (n : Int) ∧ GEnv.get env 25 = .ptr 0 0 0 0 ∧ GEnv.get env 26 = .int .i64 T ∧ GEnv.get env 27 = .list false 1 (un .u8 b0)) ?_ ?_
 ·have P1 := PUT hv2
  rcases hv2 with rfl | ⟨rfl, h0⟩
  all_goals
   refine Zr rfl (by simp (maxSteps := 2000000) only [gs,zlr,reduceIte,reduceCtorEq,zpa,zpb,zpc,zpd,zpe,zpf,zpg,zph,zpi,zpj,zpk,zpl,zpm,zpn,zpo,zpp, k25, k26, snapLL_uvs, gc_archipelagoref15_DeltaPut, P1]; rfl) ?_
   exact Za rfl ⟨rfl, by simp [GEnv.get, k0], by simp [GEnv.get, k3], by simp [GEnv.get, k4], by simp [GEnv.get, k5], by simp [GEnv.get, k6], by simp [GEnv.get, k7], by simp [GEnv.get, k8], by simp [GEnv.get, k9], by simp [GEnv.get, k10], by simp [GEnv.get, k25], by simp [GEnv.get, k26], by simp [GEnv.get]⟩
 clear k0 k3 k4 k5 k6 k7 k8 k9 k10 k25 k26
 rintro env h ⟨rfl, k0, k3, k4, k5, k6, k7, k8, k9, k10, k25, k26, k27⟩
 refine Zj rfl (fun env h => h = [.box [.int .u64 (N : Int), v2]] ∧ (∃ xs : List U, xs.length = 3 ∧ (∀ (i : Nat) (x : U), xs[i]? = some x → ∃ l, isVa x l ∧ l.length ≤ 1000 ∧ EvOk l) ∧ GEnv.get env 106 = .own 1 (rowU xs)) ∧ GEnv.get env 107 = .int .i64 3 ∧ GEnv.get env 108 = .int .i64 0 ∧ GEnv.get env 3 = .list false 1 (un .u8 bytes) ∧ GEnv.get env 4 = .int .u8 (how : Int) ∧ GEnv.get env 5 = .int .u16 (at_ : Int) ∧ GEnv.get env 6 = .int .u8 (c : Int) ∧ GEnv.get env 7 = .list false 1 (un .u8 more) ∧ GEnv.get env 8 = .int .i64 first ∧ GEnv.get env 9 = .int .i64 count ∧ GEnv.get env 10 = .int .u64 (n : Int) ∧ GEnv.get env 25 = .ptr 0 0 0 0 ∧ GEnv.get env 26 = .int .i64 T ∧ GEnv.get env 27 = .list false 1 (un .u8 b0)) ?_ ?_
 ·have hLr : EvOk (L ++ raw) := fun e he => by
   rcases List.mem_append.1 he with h | h
   ·exact hokL e h
   ·exact hraw e h
  have three : ∀ {a b c : U} {la lb lc : List Ev}, isVa a la → isVa b lb → isVa c lc → la.length ≤ 1000 → lb.length ≤ 1000 → lc.length ≤ 1000 → EvOk la → EvOk lb → EvOk lc → ∀ (i : Nat) (x : U), [a, b, c][i]? = some x → ∃ l, isVa x l ∧ l.length ≤ 1000 ∧ EvOk l := by
   intro a b c la lb lc h1 h2 h3 l1 l2 l3 f1 f2 f3 i x hx
   match i, hx with
   | 0, hx => cases hx; exact ⟨la, h1, l1, f1⟩
   | 1, hx => cases hx; exact ⟨lb, h2, l2, f2⟩
   | 2, hx => cases hx; exact ⟨lc, h3, l3, f3⟩
   | j + 3, hx => cases hx
  have ue0 : uvs ([] : List Ev) = [] := rfl
  have hlenr : (L ++ raw).length ≤ 1000 := by rw [List.length_append]; omega
  by_cases hL0 : L = []
  ·have w3 : isVa (.list false 4 (uvs raw)) (L ++ raw) := .inl (by rw [hL0]; rfl)
   by_cases hr0 : raw = []
   ·rcases hv2 with rfl | ⟨rfl, _⟩
    ·refine Zd rfl (by simp (maxSteps := 2000000) only [gs,gd,zlr,id,reduceIte,reduceCtorEq,zpa,zpb,zpc,zpd,zpe,zpf,zpg,zph,zpi,zpj,zpk,zpl,zpm,zpn,zpo,zpp, k0, k25, hL0, hr0, ue0]; rfl) ?_
     exact Za rfl ⟨by rw [hL0]; rfl, ⟨[.list false 4 (uvs raw), .list false 4 (uvs L), .list false 4 (uvs raw)], rfl, three (.inl rfl) (.inl rfl) w3 (by omega) (by omega) hlenr hraw hokL hLr, by simp [GEnv.get, rowU, hL0, hr0, ue0]⟩, by simp [GEnv.get], by simp [GEnv.get], by simp [GEnv.get, k3], by simp [GEnv.get, k4], by simp [GEnv.get, k5], by simp [GEnv.get, k6], by simp [GEnv.get, k7], by simp [GEnv.get, k8], by simp [GEnv.get, k9], by simp [GEnv.get, k10], by simp [GEnv.get, k25], by simp [GEnv.get, k26], by simp [GEnv.get, k27]⟩
    ·refine Zd rfl (by simp (maxSteps := 2000000) only [gs,gd,zlr,id,reduceIte,reduceCtorEq,zpa,zpb,zpc,zpd,zpe,zpf,zpg,zph,zpi,zpj,zpk,zpl,zpm,zpn,zpo,zpp, k0, k25, hr0, ue0]; rfl) ?_
     exact Za rfl ⟨rfl, ⟨[.list false 4 (uvs raw), .nils, .list false 4 (uvs raw)], rfl, three (.inl rfl) (.inr ⟨rfl, hL0⟩) w3 (by omega) (by omega) hlenr hraw hokL hLr, by simp [GEnv.get, rowU, hL0, hr0, ue0]⟩, by simp [GEnv.get], by simp [GEnv.get], by simp [GEnv.get, k3], by simp [GEnv.get, k4], by simp [GEnv.get, k5], by simp [GEnv.get, k6], by simp [GEnv.get, k7], by simp [GEnv.get, k8], by simp [GEnv.get, k9], by simp [GEnv.get, k10], by simp [GEnv.get, k25], by simp [GEnv.get, k26], by simp [GEnv.get, k27]⟩
   ·have hrn : (uvs raw = []) = False := eq_false (fun h => hr0 (List.eq_nil_of_length_eq_zero (by have := congrArg List.length h; rwa [uvs_length] at this)))
    have r1 : (raw.length * 24 ≤ room) = True := eq_true (by unfold room; omega)
    rcases hv2 with rfl | ⟨rfl, _⟩
    ·refine Zd rfl (by simp (maxSteps := 2000000) only [gs,gd,zlr,id,reduceIte,reduceCtorEq,zpa,zpb,zpc,zpd,zpe,zpf,zpg,zph,zpi,zpj,zpk,zpl,zpm,zpn,zpo,zpp, k0, k25, hL0, ue0, hrn, uvs_length, r1]; rfl) ?_
     exact Za rfl ⟨by rw [hL0]; rfl, ⟨[.list false 4 (uvs raw), .list false 4 (uvs L), .list false 4 (uvs raw)], rfl, three (.inl rfl) (.inl rfl) w3 (by omega) (by omega) hlenr hraw hokL hLr, by simp [GEnv.get, rowU, hL0, ue0]⟩, by simp [GEnv.get], by simp [GEnv.get], by simp [GEnv.get, k3], by simp [GEnv.get, k4], by simp [GEnv.get, k5], by simp [GEnv.get, k6], by simp [GEnv.get, k7], by simp [GEnv.get, k8], by simp [GEnv.get, k9], by simp [GEnv.get, k10], by simp [GEnv.get, k25], by simp [GEnv.get, k26], by simp [GEnv.get, k27]⟩
    ·refine Zd rfl (by simp (maxSteps := 2000000) only [gs,gd,zlr,id,reduceIte,reduceCtorEq,zpa,zpb,zpc,zpd,zpe,zpf,zpg,zph,zpi,zpj,zpk,zpl,zpm,zpn,zpo,zpp, k0, k25, hrn, uvs_length, r1]; rfl) ?_
     exact Za rfl ⟨rfl, ⟨[.list false 4 (uvs raw), .nils, .list false 4 (uvs raw)], rfl, three (.inl rfl) (.inr ⟨rfl, hL0⟩) w3 (by omega) (by omega) hlenr hraw hokL hLr, by simp [GEnv.get, rowU]⟩, by simp [GEnv.get], by simp [GEnv.get], by simp [GEnv.get, k3], by simp [GEnv.get, k4], by simp [GEnv.get, k5], by simp [GEnv.get, k6], by simp [GEnv.get, k7], by simp [GEnv.get, k8], by simp [GEnv.get, k9], by simp [GEnv.get, k10], by simp [GEnv.get, k25], by simp [GEnv.get, k26], by simp [GEnv.get, k27]⟩
  ·rcases hv2 with rfl | ⟨_, h1⟩
   case inr => exact absurd h1 hL0
   have hLn : (uvs L = []) = False := eq_false (fun h => hL0 (List.eq_nil_of_length_eq_zero (by have := congrArg List.length h; rwa [uvs_length] at this)))
   have r1 : (L.length * 24 ≤ room) = True := eq_true (by unfold room; omega)
   have r2 : ((L.length + raw.length) * 24 ≤ room) = True := eq_true (by unfold room; omega)
   refine Zd rfl (by simp (maxSteps := 2000000) only [gs,gd,zlr,id,reduceIte,reduceCtorEq,zpa,zpb,zpc,zpd,zpe,zpf,zpg,zph,zpi,zpj,zpk,zpl,zpm,zpn,zpo,zpp, k0, k25, hLn, uvs_length, r1, r2, uvs_append]; rfl) ?_
   exact Za rfl ⟨rfl, ⟨[.list false 4 (uvs raw), .list false 4 (uvs L), .list false 4 (uvs (L ++ raw))], rfl, three (.inl rfl) (.inl rfl) (.inl rfl) (by omega) (by omega) hlenr hraw hokL hLr, by simp [GEnv.get, rowU]⟩, by simp [GEnv.get], by simp [GEnv.get], by simp [GEnv.get, k3], by simp [GEnv.get, k4], by simp [GEnv.get, k5], by simp [GEnv.get, k6], by simp [GEnv.get, k7], by simp [GEnv.get, k8], by simp [GEnv.get, k9], by simp [GEnv.get, k10], by simp [GEnv.get, k25], by simp [GEnv.get, k26], by simp [GEnv.get, k27]⟩
 clear k0 k3 k4 k5 k6 k7 k8 k9 k10 k25 k26 k27
 rintro env h ⟨rfl, ⟨xs, hx3, hxs, k106⟩, k107, k108, k3, k4, k5, k6, k7, k8, k9, k10, k25, k26, k27⟩
 refine Zj2 (fun env h => h = [.box [.int .u64 (N : Int), v2]] ∧ GEnv.get env 3 = .list false 1 (un .u8 bytes) ∧ GEnv.get env 4 = .int .u8 (how : Int) ∧ GEnv.get env 5 = .int .u16 (at_ : Int) ∧ GEnv.get env 6 = .int .u8 (c : Int) ∧ GEnv.get env 7 = .list false 1 (un .u8 more) ∧ GEnv.get env 8 = .int .i64 first ∧ GEnv.get env 9 = .int .i64 count ∧ GEnv.get env 10 = .int .u64 (n : Int) ∧ GEnv.get env 25 = .ptr 0 0 0 0 ∧ GEnv.get env 26 = .int .i64 T ∧ GEnv.get env 27 = .list false 1 (un .u8 b0)) ?_ ?_
 ·refine Zw rfl (fun m env h => h = [.box [.int .u64 (N : Int), v2]] ∧ ∃ i : Nat, m + i = 3 ∧ GEnv.get env 106 = .own 1 (rowU xs) ∧ GEnv.get env 107 = .int .i64 3 ∧ GEnv.get env 108 = .int .i64 ((i : Nat) : Int) ∧ GEnv.get env 3 = .list false 1 (un .u8 bytes) ∧ GEnv.get env 4 = .int .u8 (how : Int) ∧ GEnv.get env 5 = .int .u16 (at_ : Int) ∧ GEnv.get env 6 = .int .u8 (c : Int) ∧ GEnv.get env 7 = .list false 1 (un .u8 more) ∧ GEnv.get env 8 = .int .i64 first ∧ GEnv.get env 9 = .int .i64 count ∧ GEnv.get env 10 = .int .u64 (n : Int) ∧ GEnv.get env 25 = .ptr 0 0 0 0 ∧ GEnv.get env 26 = .int .i64 T ∧ GEnv.get env 27 = .list false 1 (un .u8 b0)) 3 ⟨rfl, 0, rfl, k106, k107, k108, k3, k4, k5, k6, k7, k8, k9, k10, k25, k26, k27⟩ ?_
  clear k106 k107 k108 k3 k4 k5 k6 k7 k8 k9 k10 k25 k26 k27
  rintro m env h ⟨rfl, i, hm, k106, k107, k108, k3, k4, k5, k6, k7, k8, k9, k10, k25, k26, k27⟩
  simp only [GEnv.keep, k106, k107, k108, k3, k4, k5, k6, k7, k8, k9, k10, k25, k26, k27]
  refine Zr rfl (by simp (maxSteps := 2000000) only [gs,zlr,reduceIte,reduceCtorEq,zpa,zpb,zpc,zpd,zpe,zpf,zpg,zph,zpi,zpj,zpk,zpl,zpm,zpn,zpo,zpp]; rfl) (Zp rfl rfl (fun hi => ?_) (fun hi => ?_))
  ·have gx : xs[i]? = some (xs[i]'(by omega)) := List.getElem?_eq_getElem _
   generalize xs[i]'(by omega) = x at gx
   obtain ⟨lx, hx, hxl, hxf⟩ := hxs i x gx
   have n0 : ((0 : Int) ≤ (i : Int)) = True := eq_true (by omega)
   have hinc := up64 (show i < 9223372036854775807 by omega)
   have RG := rowU_get gx
   obtain ⟨fs, hfs⟩ : ∃ fs : List Int, fs = [T, first, IntKind.i64.wrap (T + 1)] := ⟨_, rfl⟩
   have e3 : [[U.int .i64 T], [U.int .i64 first], [U.int .i64 (IntKind.i64.wrap (T + 1))]] = ui .i64 fs := by rw [hfs]; rfl
   have hfl : fs.length = 3 := by rw [hfs]; rfl
   obtain ⟨X, hX⟩ : ∃ X, X = x := ⟨_, rfl⟩
   rcases hx with rfl | ⟨rfl, hx0⟩
   all_goals
    refine Zr rfl (by simp (maxSteps := 2000000) only [gs,zlr,reduceIte,reduceCtorEq,zpa,zpb,zpc,zpd,zpe,zpf,zpg,zph,zpi,zpj,zpk,zpl,zpm,zpn,zpo,zpp, n0, RG]; rfl) ?_
    refine Zr rfl (by simp (maxSteps := 2000000) only [gs,zlr,reduceIte,reduceCtorEq,zpa,zpb,zpc,zpd,zpe,zpf,zpg,zph,zpi,zpj,zpk,zpl,zpm,zpn,zpo,zpp, e3, ui_length, hfl]; rfl) ?_
    refine Zw rfl (fun q env h => h = [.box [.int .u64 (N : Int), v2]] ∧ ∃ j : Nat, q + j = 3 ∧ GEnv.get env 30 = X ∧ GEnv.get env 116 = .own 1 (ui .i64 fs) ∧ GEnv.get env 117 = .int .i64 3 ∧ GEnv.get env 118 = .int .i64 ((j : Nat) : Int) ∧ GEnv.get env 106 = .own 1 (rowU xs) ∧ GEnv.get env 107 = .int .i64 3 ∧ GEnv.get env 108 = .int .i64 ((i : Nat) : Int) ∧ GEnv.get env 3 = .list false 1 (un .u8 bytes) ∧ GEnv.get env 4 = .int .u8 (how : Int) ∧ GEnv.get env 5 = .int .u16 (at_ : Int) ∧ GEnv.get env 6 = .int .u8 (c : Int) ∧ GEnv.get env 7 = .list false 1 (un .u8 more) ∧ GEnv.get env 8 = .int .i64 first ∧ GEnv.get env 9 = .int .i64 count ∧ GEnv.get env 10 = .int .u64 (n : Int) ∧ GEnv.get env 25 = .ptr 0 0 0 0 ∧ GEnv.get env 26 = .int .i64 T ∧ GEnv.get env 27 = .list false 1 (un .u8 b0)) 3 ⟨rfl, 0, rfl, by rw [hX]; rfl, rfl, rfl, rfl, rfl, rfl, rfl, rfl, rfl, rfl, rfl, rfl, rfl, rfl, rfl, rfl, rfl, rfl⟩ ?_
    rintro q env h ⟨rfl, j, hq, j30, j116, j117, j118, j106, j107, j108, j3, j4, j5, j6, j7, j8, j9, j10, j25, j26, j27⟩
    rw [hX] at j30
    simp only [GEnv.keep, j30, j116, j117, j118, j106, j107, j108, j3, j4, j5, j6, j7, j8, j9, j10, j25, j26, j27]
    refine Zr rfl (by simp (maxSteps := 2000000) only [gs,zlr,reduceIte,reduceCtorEq,zpa,zpb,zpc,zpd,zpe,zpf,zpg,zph,zpi,zpj,zpk,zpl,zpm,zpn,zpo,zpp]; rfl) (Zp rfl rfl (fun hj => ?_) (fun hj => ?_))
    ·have gy : fs[j]? = some (fs[j]'(by omega)) := List.getElem?_eq_getElem _
     generalize fs[j]'(by omega) = f at gy
     have m0 : ((0 : Int) ≤ (j : Int)) = True := eq_true (by omega)
     have hjnc := up64 (show j < 9223372036854775807 by omega)
     rcases put_both (w := X) (first := f) (l := lx) (by rw [hX]; first | exact .inl rfl | exact .inr ⟨rfl, hx0⟩) hxl hxf with ⟨b, P1, P2⟩ | ⟨P1, P2⟩
     all_goals
      rw [hX] at P1 P2
     ·refine Zr rfl (by simp (maxSteps := 2000000) only [gs,zlr,reduceIte,reduceCtorEq,zpa,zpb,zpc,zpd,zpe,zpf,zpg,zph,zpi,zpj,zpk,zpl,zpm,zpn,zpo,zpp, m0, ui_get gy]; rfl) ?_
      refine Zr rfl (by simp (maxSteps := 2000000) only [gs,zlr,reduceIte,reduceCtorEq,zpa,zpb,zpc,zpd,zpe,zpf,zpg,zph,zpi,zpj,zpk,zpl,zpm,zpn,zpo,zpp, snapLL_uvs, gc_delta_Put, P1]; rfl) ?_
      refine Zr rfl (by simp (maxSteps := 2000000) only [gs,zlr,reduceIte,reduceCtorEq,zpa,zpb,zpc,zpd,zpe,zpf,zpg,zph,zpi,zpj,zpk,zpl,zpm,zpn,zpo,zpp, snapLL_uvs, gc_archipelagoref15_DeltaPut, P2]; rfl) ?_
      refine Zr rfl (by simp (maxSteps := 2000000) only [gs,zlr,reduceIte,reduceCtorEq,zpa,zpb,zpc,zpd,zpe,zpf,zpg,zph,zpi,zpj,zpk,zpl,zpm,zpn,zpo,zpp, bne_self_eq_false, gbytesOf_un]; rfl) (Zc rfl rfl (fun h => by cases h) (fun _ => ?_))
      refine Zr rfl (by simp (maxSteps := 2000000) only [gs,zlr,reduceIte,reduceCtorEq,zpa,zpb,zpc,zpd,zpe,zpf,zpg,zph,zpi,zpj,zpk,zpl,zpm,zpn,zpo,zpp, hjnc]; rfl) ?_
      exact Za rfl ⟨q - 1, by omega, rfl, j + 1, by omega, by rw [hX]; rfl, rfl, rfl, rfl, rfl, rfl, rfl, rfl, rfl, rfl, rfl, rfl, rfl, rfl, rfl, rfl, rfl, rfl⟩
     ·refine Zr rfl (by simp (maxSteps := 2000000) only [gs,zlr,reduceIte,reduceCtorEq,zpa,zpb,zpc,zpd,zpe,zpf,zpg,zph,zpi,zpj,zpk,zpl,zpm,zpn,zpo,zpp, m0, ui_get gy]; rfl) ?_
      refine Zr rfl (by simp (maxSteps := 2000000) only [gs,zlr,reduceIte,reduceCtorEq,zpa,zpb,zpc,zpd,zpe,zpf,zpg,zph,zpi,zpj,zpk,zpl,zpm,zpn,zpo,zpp, snapLL_uvs, gc_delta_Put, P1]; rfl) ?_
      refine Zr rfl (by simp (maxSteps := 2000000) only [gs,zlr,reduceIte,reduceCtorEq,zpa,zpb,zpc,zpd,zpe,zpf,zpg,zph,zpi,zpj,zpk,zpl,zpm,zpn,zpo,zpp, snapLL_uvs, gc_archipelagoref15_DeltaPut, P2]; rfl) ?_
      refine Zr rfl (by simp (maxSteps := 2000000) only [gs,zlr,reduceIte,reduceCtorEq,zpa,zpb,zpc,zpd,zpe,zpf,zpg,zph,zpi,zpj,zpk,zpl,zpm,zpn,zpo,zpp, bne_self_eq_false]; rfl) (Zc rfl rfl (fun h => by cases h) (fun _ => ?_))
      refine Zr rfl (by simp (maxSteps := 2000000) only [gs,zlr,reduceIte,reduceCtorEq,zpa,zpb,zpc,zpd,zpe,zpf,zpg,zph,zpi,zpj,zpk,zpl,zpm,zpn,zpo,zpp, hjnc]; rfl) ?_
      exact Za rfl ⟨q - 1, by omega, rfl, j + 1, by omega, by rw [hX]; rfl, rfl, rfl, rfl, rfl, rfl, rfl, rfl, rfl, rfl, rfl, rfl, rfl, rfl, rfl, rfl, rfl, rfl⟩
    ·refine Zr rfl (by simp (maxSteps := 2000000) only [gs,zlr,reduceIte,reduceCtorEq,zpa,zpb,zpc,zpd,zpe,zpf,zpg,zph,zpi,zpj,zpk,zpl,zpm,zpn,zpo,zpp, hinc]; rfl) ?_
     exact Za rfl ⟨m - 1, by omega, rfl, i + 1, by omega, rfl, rfl, rfl, rfl, rfl, rfl, rfl, rfl, rfl, rfl, rfl, rfl, rfl, rfl⟩
  ·exact Za rfl ⟨rfl, rfl, rfl, rfl, rfl, rfl, rfl, rfl, rfl, rfl, rfl, rfl⟩
 clear k106 k107 k108 k3 k4 k5 k6 k7 k8 k9 k10 k25 k26 k27 hxs
 rintro env h ⟨rfl, k3, k4, k5, k6, k7, k8, k9, k10, k25, k26, k27⟩
 refine Zj rfl (fun env h => h = [.box [.int .u64 (N : Int), v2]] ∧ (∃ ys : List U, ys.length = 3 ∧ (∀ (i : Nat) (x : U), ys[i]? = some x → ∃ l, isBa x l ∧ l.length ≤ 10000 ∧ ∀ e ∈ l, e < 256) ∧ GEnv.get env 154 = .own 1 (rowU ys)) ∧ GEnv.get env 155 = .int .i64 3 ∧ GEnv.get env 156 = .int .i64 0 ∧ GEnv.get env 6 = .int .u8 (c : Int) ∧ GEnv.get env 8 = .int .i64 first ∧ GEnv.get env 9 = .int .i64 count ∧ GEnv.get env 10 = .int .u64 (n : Int) ∧ GEnv.get env 25 = .ptr 0 0 0 0 ∧ GEnv.get env 26 = .int .i64 T) ?_ ?_
 ·have three : ∀ {a b c : U} {la lb lc : List Nat}, isBa a la → isBa b lb → isBa c lc → la.length ≤ 10000 → lb.length ≤ 10000 → lc.length ≤ 10000 → (∀ e ∈ la, e < 256) → (∀ e ∈ lb, e < 256) → (∀ e ∈ lc, e < 256) → ∀ (i : Nat) (x : U), [a, b, c][i]? = some x → ∃ l, isBa x l ∧ l.length ≤ 10000 ∧ ∀ e ∈ l, e < 256 := by
   intro a b c la lb lc h1 h2 h3 l1 l2 l3 f1 f2 f3 i x hx
   match i, hx with
   | 0, hx => cases hx; exact ⟨la, h1, l1, f1⟩
   | 1, hx => cases hx; exact ⟨lb, h2, l2, f2⟩
   | 2, hx => cases hx; exact ⟨lc, h3, l3, f3⟩
   | j + 3, hx => cases hx
  rcases hw4 with ⟨rfl, h40⟩ | rfl | rfl
  ·refine Zr rfl (by simp (maxSteps := 2000000) only [gs,zlr,reduceIte,reduceCtorEq,zpa,zpb,zpc,zpd,zpe,zpf,zpg,zph,zpi,zpj,zpk,zpl,zpm,zpn,zpo,zpp, k3, k4, k5, k6, k7, k27, snapLL_un, gc_archipelagoseat_Change, CH]; rfl) ?_
   exact Za rfl ⟨rfl, ⟨[.list false 1 (un .u8 bytes), .list false 1 (un .u8 b0), .nils], rfl, three (.inl rfl) (.inl rfl) (.inr ⟨rfl, h40⟩) (by omega) (by omega) (by omega) hby hb0c hl4c, by simp [GEnv.get, rowU]⟩, by simp [GEnv.get], by simp [GEnv.get], by simp [GEnv.get, k6], by simp [GEnv.get, k8], by simp [GEnv.get, k9], by simp [GEnv.get, k10], by simp [GEnv.get, k25], by simp [GEnv.get, k26]⟩
  all_goals
   refine Zr rfl (by simp (maxSteps := 2000000) only [gs,zlr,reduceIte,reduceCtorEq,zpa,zpb,zpc,zpd,zpe,zpf,zpg,zph,zpi,zpj,zpk,zpl,zpm,zpn,zpo,zpp, k3, k4, k5, k6, k7, k27, snapLL_un, gc_archipelagoseat_Change, CH]; rfl) ?_
   exact Za rfl ⟨rfl, ⟨[.list false 1 (un .u8 bytes), .list false 1 (un .u8 b0), .list false 1 (un .u8 l4)], rfl, three (.inl rfl) (.inl rfl) (.inl rfl) (by omega) (by omega) (by omega) hby hb0c hl4c, by simp [GEnv.get, rowU]⟩, by simp [GEnv.get], by simp [GEnv.get], by simp [GEnv.get, k6], by simp [GEnv.get, k8], by simp [GEnv.get, k9], by simp [GEnv.get, k10], by simp [GEnv.get, k25], by simp [GEnv.get, k26]⟩
 clear k3 k4 k5 k6 k7 k8 k9 k10 k25 k26 k27
 rintro env h ⟨rfl, ⟨ys, hy3, hys, k154⟩, k155, k156, k6, k8, k9, k10, k25, k26⟩
 have SE : ∀ {a b : U} {l : List Ev}, isVa a l → isVa b l → l.length ≤ 1000 → GF gtab fid_archipelagoref8_SameEvents [a, b] [] 0 = some (.bool true, []) := fun h1 h2 h3 => by
  have := sameEv_G h1 h2 h3 h3
  rwa [decide_eq_true rfl] at this
 refine Zw rfl (fun m env h => h = [.box [.int .u64 (N : Int), v2]] ∧ ∃ i : Nat, m + i = 3 ∧ GEnv.get env 154 = .own 1 (rowU ys) ∧ GEnv.get env 155 = .int .i64 3 ∧ GEnv.get env 156 = .int .i64 ((i : Nat) : Int) ∧ GEnv.get env 6 = .int .u8 (c : Int) ∧ GEnv.get env 8 = .int .i64 first ∧ GEnv.get env 9 = .int .i64 count ∧ GEnv.get env 10 = .int .u64 (n : Int) ∧ GEnv.get env 25 = .ptr 0 0 0 0 ∧ GEnv.get env 26 = .int .i64 T) 3 ⟨rfl, 0, rfl, k154, k155, k156, k6, k8, k9, k10, k25, k26⟩ ?_
 clear k154 k155 k156 k6 k8 k9 k10 k25 k26
 rintro m env h ⟨rfl, i, hm, k154, k155, k156, k6, k8, k9, k10, k25, k26⟩
 simp only [GEnv.keep, k154, k155, k156, k6, k8, k9, k10, k25, k26]
 refine Zr rfl (by simp (maxSteps := 2000000) only [gs,zlr,reduceIte,reduceCtorEq,zpa,zpb,zpc,zpd,zpe,zpf,zpg,zph,zpi,zpj,zpk,zpl,zpm,zpn,zpo,zpp]; rfl) (Zp rfl rfl (fun hi => ?_) (fun hi => ?_))
 ·have gx : ys[i]? = some (ys[i]'(by omega)) := List.getElem?_eq_getElem _
  generalize ys[i]'(by omega) = x at gx
  obtain ⟨lx, hx, hxl, hxf⟩ := hys i x gx
  have n0 : ((0 : Int) ≤ (i : Int)) = True := eq_true (by omega)
  have hinc := up64 (show i < 9223372036854775807 by omega)
  have RG := rowU_get gx
  obtain ⟨cs, hcs⟩ : ∃ cs : List Int, cs = [count, ((L.length : Nat) : Int), ((L.length + 1 : Nat) : Int), ((c % 5 : Nat) : Int)] := ⟨_, rfl⟩
  have hcl : cs.length = 4 := by rw [hcs]; rfl
  have hcb : ∀ z ∈ cs, -9223372036854775808 ≤ z ∧ z ≤ 1000 := fun z hz => by
   rw [hcs] at hz
   simp only [List.mem_cons, List.not_mem_nil, or_false] at hz
   omega
  have e4 : [[U.int .i64 count], [U.int .i64 ((L.length : Nat) : Int)], [U.int .i64 ((L.length + 1 : Nat) : Int)], [U.int .i64 ((c % 5 : Nat) : Int)]] = ui .i64 cs := by rw [hcs]; rfl
  have m5 : ((c : Nat) : Int).tmod 5 = ((c % 5 : Nat) : Int) := rfl
  have w5 : IntKind.i64.wrap ((c % 5 : Nat) : Int) = ((c % 5 : Nat) : Int) := wrap_i64_nat (by omega)
  have wL : IntKind.i64.wrap (((L.length : Nat) : Int) + 1) = ((L.length + 1 : Nat) : Int) := up64 (by omega)
  have RB := fun (fm : Int) (cn : Int) (z : Nat) => read_both (w := x) (bs := lx) (first := fm) (count := cn) (n := z) hx hxf (by omega)
  obtain ⟨X, hX⟩ : ∃ X, X = x := ⟨_, rfl⟩
  refine Zj rfl (fun env h => GEnv.get env 38 = x ∧ h = [.box [.int .u64 (N : Int), v2]] ∧ GEnv.get env 154 = .own 1 (rowU ys) ∧ GEnv.get env 155 = .int .i64 3 ∧ GEnv.get env 156 = .int .i64 ((i : Nat) : Int) ∧ GEnv.get env 6 = .int .u8 (c : Int) ∧ GEnv.get env 8 = .int .i64 first ∧ GEnv.get env 9 = .int .i64 count ∧ GEnv.get env 10 = .int .u64 (n : Int) ∧ GEnv.get env 25 = .ptr 0 0 0 0 ∧ GEnv.get env 26 = .int .i64 T) ?_ ?_
  ·rcases hx with rfl | ⟨rfl, _⟩
   all_goals
    refine Zr rfl (by simp (maxSteps := 2000000) only [gs,zlr,reduceIte,reduceCtorEq,zpa,zpb,zpc,zpd,zpe,zpf,zpg,zph,zpi,zpj,zpk,zpl,zpm,zpn,zpo,zpp, n0, RG]; rfl) ?_
    exact Za rfl ⟨rfl, rfl, rfl, rfl, rfl, rfl, rfl, rfl, rfl, rfl, rfl⟩
  clear k154 k155 k156 k6 k8 k9 k10 k25 k26
  rintro env h ⟨k38, rfl, k154, k155, k156, k6, k8, k9, k10, k25, k26⟩
  refine Zj rfl (fun env h => GEnv.get env 38 = x ∧ h = [.box [.int .u64 (N : Int), v2]] ∧ GEnv.get env 171 = .own 1 (ui .i64 cs) ∧ GEnv.get env 172 = .int .i64 4 ∧ GEnv.get env 173 = .int .i64 0 ∧ GEnv.get env 154 = .own 1 (rowU ys) ∧ GEnv.get env 155 = .int .i64 3 ∧ GEnv.get env 156 = .int .i64 ((i : Nat) : Int) ∧ GEnv.get env 6 = .int .u8 (c : Int) ∧ GEnv.get env 8 = .int .i64 first ∧ GEnv.get env 9 = .int .i64 count ∧ GEnv.get env 10 = .int .u64 (n : Int) ∧ GEnv.get env 25 = .ptr 0 0 0 0 ∧ GEnv.get env 26 = .int .i64 T) ?_ ?_
  ·rcases hv2 with rfl | ⟨rfl, hL0⟩
   ·refine Zr rfl (by simp (maxSteps := 2000000) only [gs,zlr,reduceIte,reduceCtorEq,zpa,zpb,zpc,zpd,zpe,zpf,zpg,zph,zpi,zpj,zpk,zpl,zpm,zpn,zpo,zpp, k6, k9, k25, uvs_length, wL, m5, w5, e4, ui_length, hcl]; rfl) ?_
    exact Za rfl ⟨by simp [GEnv.get, k38], rfl, by simp [GEnv.get], by simp [GEnv.get], by simp [GEnv.get], by simp [GEnv.get, k154], by simp [GEnv.get, k155], by simp [GEnv.get, k156], by simp [GEnv.get, k6], by simp [GEnv.get, k8], by simp [GEnv.get, k9], by simp [GEnv.get, k10], by simp [GEnv.get, k25], by simp [GEnv.get, k26]⟩
   ·have e4' : [[U.int .i64 count], [U.int .i64 0], [U.int .i64 1], [U.int .i64 ((c % 5 : Nat) : Int)]] = ui .i64 cs := by rw [hcs, hL0]; rfl
    have w1 : IntKind.i64.wrap 1 = 1 := rfl
    refine Zr rfl (by simp (maxSteps := 2000000) only [gs,zlr,reduceIte,reduceCtorEq,zpa,zpb,zpc,zpd,zpe,zpf,zpg,zph,zpi,zpj,zpk,zpl,zpm,zpn,zpo,zpp, k6, k9, k25, w1, m5, w5, e4', ui_length, hcl]; rfl) ?_
    exact Za rfl ⟨by simp [GEnv.get, k38], rfl, by simp [GEnv.get], by simp [GEnv.get], by simp [GEnv.get], by simp [GEnv.get, k154], by simp [GEnv.get, k155], by simp [GEnv.get, k156], by simp [GEnv.get, k6], by simp [GEnv.get, k8], by simp [GEnv.get, k9], by simp [GEnv.get, k10], by simp [GEnv.get, k25], by simp [GEnv.get, k26]⟩
  clear k154 k155 k156 k6 k8 k9 k10 k25 k26 k38
  rintro env h ⟨k38, rfl, k171, k172, k173, k154, k155, k156, k6, k8, k9, k10, k25, k26⟩
  refine Zw rfl (fun q env h => h = [.box [.int .u64 (N : Int), v2]] ∧ ∃ j : Nat, q + j = 4 ∧ GEnv.get env 38 = x ∧ GEnv.get env 171 = .own 1 (ui .i64 cs) ∧ GEnv.get env 172 = .int .i64 4 ∧ GEnv.get env 173 = .int .i64 ((j : Nat) : Int) ∧ GEnv.get env 154 = .own 1 (rowU ys) ∧ GEnv.get env 155 = .int .i64 3 ∧ GEnv.get env 156 = .int .i64 ((i : Nat) : Int) ∧ GEnv.get env 6 = .int .u8 (c : Int) ∧ GEnv.get env 8 = .int .i64 first ∧ GEnv.get env 9 = .int .i64 count ∧ GEnv.get env 10 = .int .u64 (n : Int) ∧ GEnv.get env 25 = .ptr 0 0 0 0 ∧ GEnv.get env 26 = .int .i64 T) 4 ⟨rfl, 0, rfl, k38, k171, k172, k173, k154, k155, k156, k6, k8, k9, k10, k25, k26⟩ ?_
  clear k38 k171 k172 k173 k154 k155 k156 k6 k8 k9 k10 k25 k26
  rintro q env h ⟨rfl, j, hq, k38, k171, k172, k173, k154, k155, k156, k6, k8, k9, k10, k25, k26⟩
  simp only [GEnv.keep, k38, k171, k172, k173, k154, k155, k156, k6, k8, k9, k10, k25, k26]
  refine Zr rfl (by simp (maxSteps := 2000000) only [gs,zlr,reduceIte,reduceCtorEq,zpa,zpb,zpc,zpd,zpe,zpf,zpg,zph,zpi,zpj,zpk,zpl,zpm,zpn,zpo,zpp]; rfl) (Zp rfl rfl (fun hj => ?_) (fun hj => ?_))
  ·have gy : cs[j]? = some (cs[j]'(by omega)) := List.getElem?_eq_getElem _
   have hM := hcb _ (List.getElem_mem (l := cs) (n := j) (by omega))
   generalize cs[j]'(by omega) = M at gy hM
   have m0 : ((0 : Int) ≤ (j : Int)) = True := eq_true (by omega)
   have hjnc := up64 (show j < 9223372036854775807 by omega)
   obtain ⟨gs2, hgs⟩ : ∃ gs2 : List Int, gs2 = [T, first] := ⟨_, rfl⟩
   have hgl : gs2.length = 2 := by rw [hgs]; rfl
   have hgb : ∀ z ∈ gs2, -9223372036854775808 ≤ z ∧ z ≤ 9223372036854775807 := fun z hz => by
    rw [hgs] at hz
    simp only [List.mem_cons, List.not_mem_nil, or_false] at hz
    omega
   have e2 : [[U.int .i64 T], [U.int .i64 first]] = ui .i64 gs2 := by rw [hgs]; rfl
   refine Zr rfl (by simp (maxSteps := 2000000) only [gs,zlr,reduceIte,reduceCtorEq,zpa,zpb,zpc,zpd,zpe,zpf,zpg,zph,zpi,zpj,zpk,zpl,zpm,zpn,zpo,zpp, m0, ui_get gy]; rfl) ?_
   refine Zr rfl (by simp (maxSteps := 2000000) only [gs,zlr,reduceIte,reduceCtorEq,zpa,zpb,zpc,zpd,zpe,zpf,zpg,zph,zpi,zpj,zpk,zpl,zpm,zpn,zpo,zpp, e2, ui_length, hgl]; rfl) ?_
   refine Zw rfl (fun p env h => h = [.box [.int .u64 (N : Int), v2]] ∧ ∃ r : Nat, p + r = 2 ∧ GEnv.get env 40 = .int .i64 M ∧ GEnv.get env 179 = .own 1 (ui .i64 gs2) ∧ GEnv.get env 180 = .int .i64 2 ∧ GEnv.get env 181 = .int .i64 ((r : Nat) : Int) ∧ GEnv.get env 38 = x ∧ GEnv.get env 171 = .own 1 (ui .i64 cs) ∧ GEnv.get env 172 = .int .i64 4 ∧ GEnv.get env 173 = .int .i64 ((j : Nat) : Int) ∧ GEnv.get env 154 = .own 1 (rowU ys) ∧ GEnv.get env 155 = .int .i64 3 ∧ GEnv.get env 156 = .int .i64 ((i : Nat) : Int) ∧ GEnv.get env 6 = .int .u8 (c : Int) ∧ GEnv.get env 8 = .int .i64 first ∧ GEnv.get env 9 = .int .i64 count ∧ GEnv.get env 10 = .int .u64 (n : Int) ∧ GEnv.get env 25 = .ptr 0 0 0 0 ∧ GEnv.get env 26 = .int .i64 T) 2 ⟨rfl, 0, rfl, rfl, rfl, rfl, rfl, by simp [GEnv.get, k38], rfl, rfl, rfl, rfl, rfl, rfl, rfl, rfl, rfl, rfl, rfl, rfl⟩ ?_
   clear k38 k171 k172 k173 k154 k155 k156 k6 k8 k9 k10 k25 k26
   rintro p env h ⟨rfl, r, hp, k40, k179, k180, k181, k38, k171, k172, k173, k154, k155, k156, k6, k8, k9, k10, k25, k26⟩
   simp only [GEnv.keep, k40, k179, k180, k181, k38, k171, k172, k173, k154, k155, k156, k6, k8, k9, k10, k25, k26]
   refine Zr rfl (by simp (maxSteps := 2000000) only [gs,zlr,reduceIte,reduceCtorEq,zpa,zpb,zpc,zpd,zpe,zpf,zpg,zph,zpi,zpj,zpk,zpl,zpm,zpn,zpo,zpp]; rfl) (Zp rfl rfl (fun hr => ?_) (fun hr => ?_))
   ·have gz : gs2[r]? = some (gs2[r]'(by omega)) := List.getElem?_eq_getElem _
    have hF := hgb _ (List.getElem_mem (l := gs2) (n := r) (by omega))
    generalize gs2[r]'(by omega) = F at gz hF
    have l0 : ((0 : Int) ≤ (r : Int)) = True := eq_true (by omega)
    have hrnc := up64 (show r < 9223372036854775807 by omega)
    obtain ⟨v1, v1', le1, cd1, h1, h1', h1l, R1, R1'⟩ := RB F M N hF hM (by omega)
    obtain ⟨v3, v3', le3, cd3, h3, h3', h3l, R3, R3'⟩ := RB F M n hF hM hn
    have S1 := SE h1 h1' h1l
    have S3 := SE h3 h3' h3l
    refine Zr rfl (by simp (maxSteps := 2000000) only [gs,zlr,reduceIte,reduceCtorEq,zpa,zpb,zpc,zpd,zpe,zpf,zpg,zph,zpi,zpj,zpk,zpl,zpm,zpn,zpo,zpp, l0, ui_get gz]; rfl) ?_
    refine Zj rfl (fun env h => h = [.box [.int .u64 (N : Int), v2]] ∧ GEnv.get env 43 = v1 ∧ GEnv.get env 44 = .int .i64 cd1 ∧ GEnv.get env 42 = .int .i64 F ∧ GEnv.get env 40 = .int .i64 M ∧ GEnv.get env 179 = .own 1 (ui .i64 gs2) ∧ GEnv.get env 180 = .int .i64 2 ∧ GEnv.get env 181 = .int .i64 ((r : Nat) : Int) ∧ GEnv.get env 38 = x ∧ GEnv.get env 171 = .own 1 (ui .i64 cs) ∧ GEnv.get env 172 = .int .i64 4 ∧ GEnv.get env 173 = .int .i64 ((j : Nat) : Int) ∧ GEnv.get env 154 = .own 1 (rowU ys) ∧ GEnv.get env 155 = .int .i64 3 ∧ GEnv.get env 156 = .int .i64 ((i : Nat) : Int) ∧ GEnv.get env 6 = .int .u8 (c : Int) ∧ GEnv.get env 8 = .int .i64 first ∧ GEnv.get env 9 = .int .i64 count ∧ GEnv.get env 10 = .int .u64 (n : Int) ∧ GEnv.get env 25 = .ptr 0 0 0 0 ∧ GEnv.get env 26 = .int .i64 T) ?_ ?_
    ·rcases hx with rfl | ⟨rfl, _⟩
     all_goals
      rcases h1 with rfl | ⟨rfl, _⟩
      all_goals
       refine Zr rfl (by simp (maxSteps := 2000000) only [gs,zlr,reduceIte,reduceCtorEq,zpa,zpb,zpc,zpd,zpe,zpf,zpg,zph,zpi,zpj,zpk,zpl,zpm,zpn,zpo,zpp, k25, k38, k40, snapLL_un, gc_delta_Read, R1]; rfl) ?_
       exact Za rfl ⟨rfl, by simp [GEnv.get], by simp [GEnv.get], by simp [GEnv.get], by simp [GEnv.get, k40], by simp [GEnv.get, k179], by simp [GEnv.get, k180], by simp [GEnv.get, k181], by simp [GEnv.get, k38], by simp [GEnv.get, k171], by simp [GEnv.get, k172], by simp [GEnv.get, k173], by simp [GEnv.get, k154], by simp [GEnv.get, k155], by simp [GEnv.get, k156], by simp [GEnv.get, k6], by simp [GEnv.get, k8], by simp [GEnv.get, k9], by simp [GEnv.get, k10], by simp [GEnv.get, k25], by simp [GEnv.get, k26]⟩
    clear k40 k179 k180 k181 k38 k171 k172 k173 k154 k155 k156 k6 k8 k9 k10 k25 k26
    rintro env h ⟨rfl, k43, k44, k42, k40, k179, k180, k181, k38, k171, k172, k173, k154, k155, k156, k6, k8, k9, k10, k25, k26⟩
    refine Zj rfl (fun env h => h = [.box [.int .u64 (N : Int), v2]] ∧ GEnv.get env 43 = v1 ∧ GEnv.get env 44 = .int .i64 cd1 ∧ GEnv.get env 45 = v1' ∧ GEnv.get env 46 = .int .i64 cd1 ∧ GEnv.get env 42 = .int .i64 F ∧ GEnv.get env 40 = .int .i64 M ∧ GEnv.get env 179 = .own 1 (ui .i64 gs2) ∧ GEnv.get env 180 = .int .i64 2 ∧ GEnv.get env 181 = .int .i64 ((r : Nat) : Int) ∧ GEnv.get env 38 = x ∧ GEnv.get env 171 = .own 1 (ui .i64 cs) ∧ GEnv.get env 172 = .int .i64 4 ∧ GEnv.get env 173 = .int .i64 ((j : Nat) : Int) ∧ GEnv.get env 154 = .own 1 (rowU ys) ∧ GEnv.get env 155 = .int .i64 3 ∧ GEnv.get env 156 = .int .i64 ((i : Nat) : Int) ∧ GEnv.get env 6 = .int .u8 (c : Int) ∧ GEnv.get env 8 = .int .i64 first ∧ GEnv.get env 9 = .int .i64 count ∧ GEnv.get env 10 = .int .u64 (n : Int) ∧ GEnv.get env 25 = .ptr 0 0 0 0 ∧ GEnv.get env 26 = .int .i64 T) ?_ ?_
    ·rcases hx with rfl | ⟨rfl, _⟩
     all_goals
      rcases h1' with rfl | ⟨rfl, _⟩
      all_goals
       refine Zr rfl (by simp (maxSteps := 2000000) only [gs,zlr,reduceIte,reduceCtorEq,zpa,zpb,zpc,zpd,zpe,zpf,zpg,zph,zpi,zpj,zpk,zpl,zpm,zpn,zpo,zpp, k10, k25, k38, k40, k42, snapLL_un, gc_archipelagoref15_DeltaRead, R1']; rfl) ?_
       exact Za rfl ⟨rfl, by simp [GEnv.get, k43], by simp [GEnv.get, k44], by simp [GEnv.get], by simp [GEnv.get], by simp [GEnv.get, k42], by simp [GEnv.get, k40], by simp [GEnv.get, k179], by simp [GEnv.get, k180], by simp [GEnv.get, k181], by simp [GEnv.get, k38], by simp [GEnv.get, k171], by simp [GEnv.get, k172], by simp [GEnv.get, k173], by simp [GEnv.get, k154], by simp [GEnv.get, k155], by simp [GEnv.get, k156], by simp [GEnv.get, k6], by simp [GEnv.get, k8], by simp [GEnv.get, k9], by simp [GEnv.get, k10], by simp [GEnv.get, k25], by simp [GEnv.get, k26]⟩
    clear k43 k44 k40 k179 k180 k181 k38 k171 k172 k173 k154 k155 k156 k6 k8 k9 k10 k25 k26 k42
    rintro env h ⟨rfl, k43, k44, k45, k46, k42, k40, k179, k180, k181, k38, k171, k172, k173, k154, k155, k156, k6, k8, k9, k10, k25, k26⟩
    refine Zj rfl (fun env h => h = [.box [.int .u64 (N : Int), v2]] ∧ GEnv.get env 43 = v1 ∧ GEnv.get env 44 = .int .i64 cd1 ∧ GEnv.get env 45 = v1' ∧ GEnv.get env 46 = .int .i64 cd1 ∧ GEnv.get env 47 = v3 ∧ GEnv.get env 48 = .int .i64 cd3 ∧ GEnv.get env 42 = .int .i64 F ∧ GEnv.get env 40 = .int .i64 M ∧ GEnv.get env 179 = .own 1 (ui .i64 gs2) ∧ GEnv.get env 180 = .int .i64 2 ∧ GEnv.get env 181 = .int .i64 ((r : Nat) : Int) ∧ GEnv.get env 38 = x ∧ GEnv.get env 171 = .own 1 (ui .i64 cs) ∧ GEnv.get env 172 = .int .i64 4 ∧ GEnv.get env 173 = .int .i64 ((j : Nat) : Int) ∧ GEnv.get env 154 = .own 1 (rowU ys) ∧ GEnv.get env 155 = .int .i64 3 ∧ GEnv.get env 156 = .int .i64 ((i : Nat) : Int) ∧ GEnv.get env 6 = .int .u8 (c : Int) ∧ GEnv.get env 8 = .int .i64 first ∧ GEnv.get env 9 = .int .i64 count ∧ GEnv.get env 10 = .int .u64 (n : Int) ∧ GEnv.get env 25 = .ptr 0 0 0 0 ∧ GEnv.get env 26 = .int .i64 T) ?_ ?_
    ·rcases hx with rfl | ⟨rfl, _⟩
     all_goals
      rcases h3 with rfl | ⟨rfl, _⟩
      all_goals
       refine Zr rfl (by simp (maxSteps := 2000000) only [gs,zlr,reduceIte,reduceCtorEq,zpa,zpb,zpc,zpd,zpe,zpf,zpg,zph,zpi,zpj,zpk,zpl,zpm,zpn,zpo,zpp, k10, k25, k38, k40, k42, snapLL_un, gc_delta_Read, R3]; rfl) ?_
       exact Za rfl ⟨rfl, by simp [GEnv.get, k43], by simp [GEnv.get, k44], by simp [GEnv.get, k45], by simp [GEnv.get, k46], by simp [GEnv.get], by simp [GEnv.get], by simp [GEnv.get, k42], by simp [GEnv.get, k40], by simp [GEnv.get, k179], by simp [GEnv.get, k180], by simp [GEnv.get, k181], by simp [GEnv.get, k38], by simp [GEnv.get, k171], by simp [GEnv.get, k172], by simp [GEnv.get, k173], by simp [GEnv.get, k154], by simp [GEnv.get, k155], by simp [GEnv.get, k156], by simp [GEnv.get, k6], by simp [GEnv.get, k8], by simp [GEnv.get, k9], by simp [GEnv.get, k10], by simp [GEnv.get, k25], by simp [GEnv.get, k26]⟩
    clear k43 k44 k45 k46 k40 k179 k180 k181 k38 k171 k172 k173 k154 k155 k156 k6 k8 k9 k10 k25 k26 k42
    rintro env h ⟨rfl, k43, k44, k45, k46, k47, k48, k42, k40, k179, k180, k181, k38, k171, k172, k173, k154, k155, k156, k6, k8, k9, k10, k25, k26⟩
    refine Zj rfl (fun env h => h = [.box [.int .u64 (N : Int), v2]] ∧ GEnv.get env 43 = v1 ∧ GEnv.get env 44 = .int .i64 cd1 ∧ GEnv.get env 45 = v1' ∧ GEnv.get env 46 = .int .i64 cd1 ∧ GEnv.get env 47 = v3 ∧ GEnv.get env 48 = .int .i64 cd3 ∧ GEnv.get env 49 = v3' ∧ GEnv.get env 50 = .int .i64 cd3 ∧ GEnv.get env 42 = .int .i64 F ∧ GEnv.get env 40 = .int .i64 M ∧ GEnv.get env 179 = .own 1 (ui .i64 gs2) ∧ GEnv.get env 180 = .int .i64 2 ∧ GEnv.get env 181 = .int .i64 ((r : Nat) : Int) ∧ GEnv.get env 38 = x ∧ GEnv.get env 171 = .own 1 (ui .i64 cs) ∧ GEnv.get env 172 = .int .i64 4 ∧ GEnv.get env 173 = .int .i64 ((j : Nat) : Int) ∧ GEnv.get env 154 = .own 1 (rowU ys) ∧ GEnv.get env 155 = .int .i64 3 ∧ GEnv.get env 156 = .int .i64 ((i : Nat) : Int) ∧ GEnv.get env 6 = .int .u8 (c : Int) ∧ GEnv.get env 8 = .int .i64 first ∧ GEnv.get env 9 = .int .i64 count ∧ GEnv.get env 10 = .int .u64 (n : Int) ∧ GEnv.get env 25 = .ptr 0 0 0 0 ∧ GEnv.get env 26 = .int .i64 T) ?_ ?_
    ·rcases hx with rfl | ⟨rfl, _⟩
     all_goals
      rcases h3' with rfl | ⟨rfl, _⟩
      all_goals
       refine Zr rfl (by simp (maxSteps := 2000000) only [gs,zlr,reduceIte,reduceCtorEq,zpa,zpb,zpc,zpd,zpe,zpf,zpg,zph,zpi,zpj,zpk,zpl,zpm,zpn,zpo,zpp, k10, k25, k38, k40, k42, snapLL_un, gc_archipelagoref15_DeltaRead, R3']; rfl) ?_
       exact Za rfl ⟨rfl, by simp [GEnv.get, k43], by simp [GEnv.get, k44], by simp [GEnv.get, k45], by simp [GEnv.get, k46], by simp [GEnv.get, k47], by simp [GEnv.get, k48], by simp [GEnv.get], by simp [GEnv.get], by simp [GEnv.get, k42], by simp [GEnv.get, k40], by simp [GEnv.get, k179], by simp [GEnv.get, k180], by simp [GEnv.get, k181], by simp [GEnv.get, k38], by simp [GEnv.get, k171], by simp [GEnv.get, k172], by simp [GEnv.get, k173], by simp [GEnv.get, k154], by simp [GEnv.get, k155], by simp [GEnv.get, k156], by simp [GEnv.get, k6], by simp [GEnv.get, k8], by simp [GEnv.get, k9], by simp [GEnv.get, k10], by simp [GEnv.get, k25], by simp [GEnv.get, k26]⟩
    clear k43 k44 k45 k46 k47 k48 k40 k179 k180 k181 k38 k171 k172 k173 k154 k155 k156 k6 k8 k9 k10 k25 k26 k42
    rintro env h ⟨rfl, k43, k44, k45, k46, k47, k48, k49, k50, k42, k40, k179, k180, k181, k38, k171, k172, k173, k154, k155, k156, k6, k8, k9, k10, k25, k26⟩
    rcases h1 with rfl | ⟨rfl, _⟩
    all_goals
     rcases h1' with rfl | ⟨rfl, _⟩
     all_goals
      rcases h3 with rfl | ⟨rfl, _⟩
      all_goals
       rcases h3' with rfl | ⟨rfl, _⟩
       all_goals
        refine Zr rfl (by simp (maxSteps := 2000000) only [gs,zlr,reduceIte,reduceCtorEq,zpa,zpb,zpc,zpd,zpe,zpf,zpg,zph,zpi,zpj,zpk,zpl,zpm,zpn,zpo,zpp, k43, k44, k45, k46, k47, k48, k49, k50, bne_self_eq_false, snapLL_uvs, gc_archipelagoref8_SameEvents, S1, S3]; rfl) (Zc rfl rfl (fun h => by cases h) (fun _ => ?_))
        refine Zr rfl (by simp (maxSteps := 2000000) only [gs,zlr,reduceIte,reduceCtorEq,zpa,zpb,zpc,zpd,zpe,zpf,zpg,zph,zpi,zpj,zpk,zpl,zpm,zpn,zpo,zpp, k181, hrnc]; rfl) ?_
        exact Za rfl ⟨p - 1, by omega, rfl, r + 1, by omega, by simp [GEnv.get, k40], by simp [GEnv.get, k179], by simp [GEnv.get, k180], by simp [GEnv.get], by simp [GEnv.get, k38], by simp [GEnv.get, k171], by simp [GEnv.get, k172], by simp [GEnv.get, k173], by simp [GEnv.get, k154], by simp [GEnv.get, k155], by simp [GEnv.get, k156], by simp [GEnv.get, k6], by simp [GEnv.get, k8], by simp [GEnv.get, k9], by simp [GEnv.get, k10], by simp [GEnv.get, k25], by simp [GEnv.get, k26]⟩
   ·refine Zr rfl (by simp (maxSteps := 2000000) only [gs,zlr,reduceIte,reduceCtorEq,zpa,zpb,zpc,zpd,zpe,zpf,zpg,zph,zpi,zpj,zpk,zpl,zpm,zpn,zpo,zpp, hjnc]; rfl) ?_
    exact Za rfl ⟨q - 1, by omega, rfl, j + 1, by omega, rfl, rfl, rfl, rfl, rfl, rfl, rfl, rfl, rfl, rfl, rfl, rfl, rfl⟩
  ·refine Zr rfl (by simp (maxSteps := 2000000) only [gs,zlr,reduceIte,reduceCtorEq,zpa,zpb,zpc,zpd,zpe,zpf,zpg,zph,zpi,zpj,zpk,zpl,zpm,zpn,zpo,zpp, hinc]; rfl) ?_
   exact Za rfl ⟨m - 1, by omega, rfl, i + 1, by omega, rfl, rfl, rfl, rfl, rfl, rfl, rfl, rfl, rfl⟩
 ·exact Zr rfl (by simp (maxSteps := 2000000) only [gs,zlr,reduceIte,reduceCtorEq,zpa,zpb,zpc,zpd,zpe,zpf,zpg,zph,zpi,zpj,zpk,zpl,zpm,zpn,zpo,zpp]; rfl) (Zq rfl ⟨_, rfl, rfl⟩)
theorem evArg {u : U} (h : (Sh.sl [.int .i64, .int .u32, .int .u32, .bool]).fits u) : ∃ l : List Ev, u = .list false 4 (uvs l) ∧ EvOk l := by
 obtain ⟨l, rfl, _, h2⟩ := Sh.ofSlice h (f := fun (e : Ev) => [U.int .i64 e.1, .int .u32 e.2.1, .int .u32 e.2.2.1, .bool e.2.2.2]) (q := fun e => (0 ≤ e.2.1 ∧ e.2.1 ≤ 4294967295) ∧ (0 ≤ e.2.2.1 ∧ e.2.2.1 ≤ 4294967295)) fun e he => by
  obtain ⟨u0, u1, u2, u3, rfl, h0, h1, h2, h3⟩ := Sh.fits4 he
  simp only [Sh.fits] at h0 h1 h2 h3
  obtain ⟨a, rfl, _⟩ := h0
  obtain ⟨b, rfl, hb⟩ := h1
  obtain ⟨c, rfl, hc⟩ := h2
  obtain ⟨d, rfl⟩ := h3
  exact ⟨(a, b, c, d), rfl, hb, hc⟩
 exact ⟨l, rfl, h2⟩
theorem deltaTells_law (us : List U) (h : Ars [.one (.sl [.int .i64, .int .u32, .int .u32, .bool]), .one (.int .u8), .one (.sl [.int .u8]), .one (.sl [.int .u8]), .one (.int .u8), .one (.int .u16), .one (.int .u8), .one (.sl [.int .u8]), .one (.int .i64), .one (.int .i64), .one (.int .u64), .one .bool] us) : GF gtab fid_archipelagolaw16_DeltaTells us [] 0 = some (.bool true, []) := by
 obtain ⟨u0, _, rfl, h0, u1, _, rfl, h1, u2, _, rfl, h2, u3, _, rfl, h3, u4, _, rfl, h4, u5, _, rfl, h5, u6, _, rfl, h6, u7, _, rfl, h7, u8, _, rfl, h8, u9, _, rfl, h9, u10, _, rfl, h10, u11, _, rfl, h11, rfl⟩ := h
 obtain ⟨raw, rfl, hraw⟩ := evArg h0
 obtain ⟨k, rfl, hk⟩ := Sh.nat rfl h1
 obtain ⟨l, rfl, _, hl⟩ := Sh.nums rfl h2
 obtain ⟨bytes, rfl, _, hby⟩ := Sh.nums rfl h3
 obtain ⟨how, rfl, hh⟩ := Sh.nat rfl h4
 obtain ⟨a, rfl, ha⟩ := Sh.nat rfl h5
 obtain ⟨c, rfl, hc⟩ := Sh.nat rfl h6
 obtain ⟨more, rfl, _, hmo⟩ := Sh.nums rfl h7
 simp only [Ar.fits, Sh.fits] at h8 h9 h11
 obtain ⟨first, rfl, hf⟩ := h8
 obtain ⟨count, rfl, hco⟩ := h9
 obtain ⟨n, rfl, hn⟩ := Sh.nat rfl h10
 obtain ⟨late, rfl⟩ := h11
 exact deltaTells_G hraw (Nat.lt_succ_of_le (Int.ofNat_le.1 hk)) (fun x hx => Nat.lt_succ_of_le (Int.ofNat_le.1 (hl x hx))) (fun x hx => Nat.lt_succ_of_le (Int.ofNat_le.1 (hby x hx))) (Nat.lt_succ_of_le (Int.ofNat_le.1 hh)) (Nat.lt_succ_of_le (Int.ofNat_le.1 ha)) (Nat.lt_succ_of_le (Int.ofNat_le.1 hc)) (fun x hx => Nat.lt_succ_of_le (Int.ofNat_le.1 (hmo x hx))) hf hco (Nat.lt_succ_of_le (Int.ofNat_le.1 hn))
end Go.Ab
