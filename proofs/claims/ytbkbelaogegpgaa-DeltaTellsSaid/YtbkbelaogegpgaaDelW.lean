/- bits.Writer on the machine of values. -/
import Derived.Test.YtbkbelaogegpgaaValN
import Derived.Test.YtbkbelaogegpgaaGt
import Derived.Test.YtbkbelaogegpgaaBitPure
namespace Go.Ab
open Go
open Nat renaming reduceEqDiff → zpa, reduceLT → zpb, reduceAdd → zpc, reduceSub → zpd, reduceLeDiff → zpe, reduceMul → zpf
open Int renaming reduceToNat → zpg, reduceLT → zph, reduceLE → zpi, reduceEq → zpj, reduceNe → zpk, reduceBEq → zpl, reduceBNe → zpm, reduceAdd → zpn, reduceSub → zpo, reduceNeg → zpp
open List renaming replicate → zlr
set_option linter.unusedVariables false
set_option linter.unusedSimpArgs false
set_option maxRecDepth 10000
def WrV (h : GH) (o : Nat) (a : Option Nat) (l : List Bool) : Prop :=
 (a = none ∧ l = [] ∧ h[o]? = some (.box [.nils, .int .i64 0])) ∨
 ∃ p g live bs, a = some p ∧ Packed bs l ∧ live ≤ g ∧ h[o]? = some (.box [.asl none p g 0 bs.length 1, .int .i64 (l.length : Int)]) ∧ h[p]? = some (.arr (un .u8 bs) g live)
structure Kpw (o : Nat) (a a' : Option Nat) (h h' : GH) : Prop where
 len : h.length ≤ h'.length
 same : ∀ p, p < h.length → p ≠ o → a ≠ some p → h'[p]? = h[p]?
 ar : a' = a ∨ ∃ p, a' = some p ∧ h.length ≤ p
theorem Kpw.refl {o : Nat} {a : Option Nat} {h : GH} : Kpw o a a h h := ⟨Nat.le_refl _, fun _ _ _ _ => rfl, .inl rfl⟩
theorem Kpw.trans {o : Nat} {a b c : Option Nat} {h1 h2 h3 : GH} (h : Kpw o a b h1 h2) (k : Kpw o b c h2 h3) : Kpw o a c h1 h3 := by
 refine ⟨Nat.le_trans h.len k.len, fun p hp hne ha => ?_, ?_⟩
 ·rw [k.same p (Nat.lt_of_lt_of_le hp h.len) hne ?_, h.same p hp hne ha]
  rcases h.ar with e | ⟨q, e, hq⟩
  ·rw [e]; exact ha
  ·rw [e]; intro e2; cases e2; omega
 ·rcases k.ar with e | ⟨q, e, hq⟩
  ·rw [e]; exact h.ar
  ·exact .inr ⟨q, e, Nat.le_trans h.len hq⟩
theorem set_ne {h : GH} {o p : Nat} {x : GObj} (e : p ≠ o) : (h.set o x)[p]? = h[p]? := List.getElem?_set_ne (Ne.symm e)
theorem set_eq {h : GH} {o : Nat} {x : GObj} (e : o < h.length) : (h.set o x)[o]? = some x := List.getElem?_set_self e
theorem app_lt {h : GH} {p : Nat} {x : GObj} (e : p < h.length) : (h ++ [x])[p]? = h[p]? := List.getElem?_append_left e
theorem app_eq {h : GH} {x : GObj} : (h ++ [x])[h.length]? = some x := by simp
theorem app_set {h : GH} {x y : GObj} : (h ++ [x]).set h.length y = h ++ [y] := by simp
theorem Kpw.push {h : GH} {o : Nat} {x y : GObj} : Kpw o none (some h.length) h ((h ++ [x]).set o y) := by
 refine ⟨by simp, fun p hp hne _ => ?_, .inr ⟨_, rfl, Nat.le_refl _⟩⟩
 rw [set_ne hne, app_lt hp]
theorem Kpw.set {h : GH} {o : Nat} {a : Option Nat} {y : GObj} : Kpw o a a h (h.set o y) :=
 ⟨by simp, fun p hp hne _ => set_ne hne, .inl rfl⟩
theorem Kpw.arr {h : GH} {o p : Nat} {y : GObj} : Kpw o (some p) (some p) h (h.set p y) :=
 ⟨by simp, fun q hp hne ha => set_ne (fun e => ha (by rw [e])), .inl rfl⟩
theorem get_lt {h : GH} {o : Nat} {x : GObj} (e : h[o]? = some x) : o < h.length := (List.getElem?_eq_some_iff.1 e).1
theorem bound_G {n : Int} : GF gtab fid_bits_bound [.int .i64 n] [] 0 = some (.int .i64 (clamp n : Int), []) := by
 have h1 : (if (0 : Int) > n then 0 else n) = max n 0 := by split <;> omega
 have h2 : (if (64 : Int) < max n 0 then 64 else max n 0) = (clamp n : Int) := by unfold clamp; split <;> omega
 refine fn_bits_bound rfl ?_
 simp only [genvOf]
 refine Zr rfl (by simp (maxSteps := 2000000) only [gs,zlr,reduceIte,reduceCtorEq,zpa,zpb,zpc,zpd,zpe,zpf,zpg,zph,zpi,zpj,zpk,zpl,zpm,zpn,zpo,zpp]; rfl) ?_
 exact Zr rfl (by simp (maxSteps := 2000000) only [gs,zlr,reduceIte,reduceCtorEq,zpa,zpb,zpc,zpd,zpe,zpf,zpg,zph,zpi,zpj,zpk,zpl,zpm,zpn,zpo,zpp, h1, h2]; rfl) (Zq rfl ⟨_, rfl, rfl⟩)
theorem newWriter_G {h : GH} {lo : Nat} : GF gtab fid_bits_NewWriter [] h lo = some (.ptr h.length 0 0 0, h ++ [.box [.nils, .int .i64 0]]) := by
 refine fn_bits_NewWriter rfl ?_
 simp only [genvOf]
 refine Zr rfl (by simp (maxSteps := 2000000) only [gs,zlr,reduceIte,reduceCtorEq,zpa,zpb,zpc,zpd,zpe,zpf,zpg,zph,zpi,zpj,zpk,zpl,zpm,zpn,zpo,zpp]; rfl) ?_
 exact Zr rfl (by simp (maxSteps := 2000000) only [gs,zlr,reduceIte,reduceCtorEq,zpa,zpb,zpc,zpd,zpe,zpf,zpg,zph,zpi,zpj,zpk,zpl,zpm,zpn,zpo,zpp]; rfl) (Zq rfl ⟨_, rfl, rfl⟩)
theorem WrV.new {h : GH} : WrV (h ++ [.box [.nils, .int .i64 0]]) h.length none [] := .inl ⟨rfl, rfl, by simp⟩
theorem wbytes_G {h : GH} {lo o : Nat} {a : Option Nat} {l : List Bool} (w : WrV h o a l) (hl : l.length ≤ 1099511627776) : ∃ bs, Packed bs l ∧ GF gtab fid_bits_Writer_Bytes [.ptr o 0 0 0] h lo = some (.own 1 (un .u8 bs), h) := by
 rcases w with ⟨rfl, rfl, k⟩ | ⟨p, g, live, bs, rfl, hp, hg, k, k2⟩
 ·refine ⟨[], .nil, fn_bits_Writer_Bytes rfl ?_⟩
  simp only [genvOf]
  refine Zr rfl (by simp (maxSteps := 2000000) only [gs,zlr,reduceIte,reduceCtorEq,zpa,zpb,zpc,zpd,zpe,zpf,zpg,zph,zpi,zpj,zpk,zpl,zpm,zpn,zpo,zpp]; rfl) ?_
  have r0 : (0 ≤ room) = True := eq_true (by unfold room; omega)
  exact Zr rfl (by simp (maxSteps := 2000000) only [gs,zlr,reduceIte,reduceCtorEq,zpa,zpb,zpc,zpd,zpe,zpf,zpg,zph,zpi,zpj,zpk,zpl,zpm,zpn,zpo,zpp, k, gc_slices_Clone_byte_byte, r0]; rfl) (Zq rfl ⟨_, rfl, rfl⟩)
 ·refine ⟨bs, hp, fn_bits_Writer_Bytes rfl ?_⟩
  simp only [genvOf]
  refine Zr rfl (by simp (maxSteps := 2000000) only [gs,zlr,reduceIte,reduceCtorEq,zpa,zpb,zpc,zpd,zpe,zpf,zpg,zph,zpi,zpj,zpk,zpl,zpm,zpn,zpo,zpp]; rfl) ?_
  have hbl : bs.length ≤ 1099511627776 := by have := hp.len; omega
  have r1 : (bs.length * 1 ≤ room) = True := eq_true (by unfold room; omega)
  have hg' : (live ≤ g) = True := eq_true hg
  have hbb : (bs.length ≤ bs.length) = True := eq_true (Nat.le_refl _)
  have ht : bs.take bs.length = bs := List.take_length
  exact Zr rfl (by simp (maxSteps := 2000000) only [gs,zlr,reduceIte,reduceCtorEq,zpa,zpb,zpc,zpd,zpe,zpf,zpg,zph,zpi,zpj,zpk,zpl,zpm,zpn,zpo,zpp, k, k2, gc_slices_Clone_byte_byte, hg', un_length, hbb, un_take, ht, r1]; rfl) (Zq rfl ⟨_, rfl, rfl⟩)
theorem wput_G {h : GH} {lo o v : Nat} {n : Int} {a : Option Nat} {l : List Bool} (w : WrV h o a l) (hlo : lo ≤ o) (hla : ∀ p, a = some p → lo ≤ p) (hlh : lo ≤ h.length) (hv : v < 18446744073709551616) (hl : l.length + 64 ≤ 1099511627776) :
  ∃ h' a', GF gtab fid_bits_Writer_Put [.ptr o 0 0 0, .int .u64 v, .int .i64 n] h lo = some (.tup [], h') ∧ WrV h' o a' (l ++ top v (clamp n)) ∧ Kpw o a a' h h' := by
 have key : ∃ u h', GF gtab fid_bits_Writer_Put [.ptr o 0 0 0, .int .u64 v, .int .i64 n] h lo = some (u, h') ∧ (u = .tup [] ∧ ∃ a', WrV h' o a' (l ++ top v (clamp n)) ∧ Kpw o a a' h h') := by
  refine fnR_bits_Writer_Put rfl ?_
  simp only [genvOf]
  have hcl := clamp_le n
  have hw1 : IntKind.i64.wrap ((clamp n : Int) - 1) = (clamp n : Int) - 1 := wrap_i64 (by omega) (by omega)
  refine Zr rfl (by simp (maxSteps := 2000000) only [gs,zlr,reduceIte,reduceCtorEq,zpa,zpb,zpc,zpd,zpe,zpf,zpg,zph,zpi,zpj,zpk,zpl,zpm,zpn,zpo,zpp, gc_bits_bound, bound_G, hw1]; rfl) ?_
  refine Zw rfl (fun m env h1 => ∃ a1 l1, m ≤ 64 ∧ GEnv.get env 0 = .ptr o 0 0 0 ∧ GEnv.get env 1 = .int .u64 (v : Int) ∧ GEnv.get env 6 = .int .i64 ((m : Int) - 1) ∧ WrV h1 o a1 l1 ∧ Kpw o a a1 h h1 ∧ l1 ++ top v m = l ++ top v (clamp n)) (clamp n) ⟨a, l, hcl, rfl, rfl, rfl, w, .refl, rfl⟩ ?_
  rintro m env h1 ⟨a1, l1, hm, k0, k1, k6, w1, kp, hb⟩
  simp only [GEnv.keep, k0, k1, k6]
  cases m with
  | zero =>
   have g0 : ((((0 : Nat) : Int)) - 1 ≥ 0) = False := eq_false (by omega)
   simp only [top, List.append_nil] at hb
   rw [hb] at w1
   refine Zr rfl (by simp (maxSteps := 2000000) only [gs,zlr,reduceIte,reduceCtorEq,zpa,zpb,zpc,zpd,zpe,zpf,zpg,zph,zpi,zpj,zpk,zpl,zpm,zpn,zpo,zpp, g0]; rfl) (Zc rfl rfl (fun h => by cases h) (fun _ => ?_))
   exact Zq rfl ⟨_, rfl, _, _, rfl, rfl, a1, w1, kp⟩
  | succ m =>
   have e1 : ((m + 1 : Nat) : Int) - 1 = (m : Int) := by omega
   rw [e1]
   have g0 : ((m : Int) ≥ 0) = True := eq_true (by omega)
   have hlen := congrArg List.length hb
   simp only [List.length_append, top_length] at hlen
   have hrem : ((l1.length : Nat) : Int).tmod 8 = ((l1.length % 8 : Nat) : Int) := rfl
   have hquo : ((l1.length : Nat) : Int).tdiv 8 = ((l1.length / 8 : Nat) : Int) := rfl
   have hlo' : (lo ≤ o) = True := eq_true hlo
   refine Zr rfl (by simp (maxSteps := 2000000) only [gs,zlr,reduceIte,reduceCtorEq,zpa,zpb,zpc,zpd,zpe,zpf,zpg,zph,zpi,zpj,zpk,zpl,zpm,zpn,zpo,zpp, g0]; rfl) (Zc rfl rfl (fun _ => ?_) (fun h => by cases h))
   refine Zj rfl (fun env h2 => h2 = h1 ∧ GEnv.get env 0 = .ptr o 0 0 0 ∧ GEnv.get env 1 = .int .u64 (v : Int) ∧ GEnv.get env 6 = .int .i64 (m : Int) ∧ GEnv.get env 19 = .bool (((l1.length % 8 : Nat) : Int) == 0)) ?_ ?_
   ·rcases w1 with ⟨rfl, rfl, k⟩ | ⟨p, g, live, bs, rfl, hp, hg, k, k2⟩
    ·refine Zr rfl (by simp (maxSteps := 2000000) only [gs,zlr,reduceIte,reduceCtorEq,zpa,zpb,zpc,zpd,zpe,zpf,zpg,zph,zpi,zpj,zpk,zpl,zpm,zpn,zpo,zpp, k, Int.zero_tmod]; rfl) ?_
     exact Za rfl ⟨rfl, rfl, rfl, rfl, rfl⟩
    ·refine Zr rfl (by simp (maxSteps := 2000000) only [gs,zlr,reduceIte,reduceCtorEq,zpa,zpb,zpc,zpd,zpe,zpf,zpg,zph,zpi,zpj,zpk,zpl,zpm,zpn,zpo,zpp, k, hrem]; rfl) ?_
     exact Za rfl ⟨rfl, rfl, rfl, rfl, rfl⟩
   ·rintro env1 h2 ⟨rfl, k0, k1, k6, k19⟩
    refine Zj rfl (fun env h2 => GEnv.get env 0 = .ptr o 0 0 0 ∧ GEnv.get env 1 = .int .u64 (v : Int) ∧ GEnv.get env 6 = .int .i64 (m : Int) ∧ ∃ p g live bs1, h2[o]? = some (.box [.asl none p g 0 bs1.length 1, .int .i64 (l1.length : Int)]) ∧ h2[p]? = some (.arr (un .u8 bs1) g live) ∧ live ≤ g ∧ lo ≤ p ∧ (∀ b ∈ bs1, b < 256) ∧ l1.length / 8 < bs1.length ∧ Packed (bs1.set (l1.length / 8) (bs1.getD (l1.length / 8) 0 ||| (v.testBit m).toNat * 2 ^ (l1.length % 8))) (l1 ++ [v.testBit m]) ∧ Kpw o a (some p) h h2) ?_ ?_
    ·rcases w1 with ⟨rfl, rfl, k⟩ | ⟨p, g, live, bs, rfl, hp, hg, k, k2⟩
     ·refine Zc rfl (x := true) k19 (fun _ => ?_) (fun h => by cases h)
      have ho := get_lt k
      have r1 : (1 ≤ room) = True := eq_true (by unfold room; omega)
      obtain ⟨s1, s2⟩ := Packed.nil.snoc (v.testBit m)
      have q : ∀ x : GObj, (h2 ++ [x])[o]? = some (.box [.nils, .int .i64 0]) := fun x => by rw [app_lt ho, k]
      refine Zr rfl (by simp (maxSteps := 2000000) only [gs,zlr,reduceIte,reduceCtorEq,zpa,zpb,zpc,zpd,zpe,zpf,zpg,zph,zpi,zpj,zpk,zpl,zpm,zpn,zpo,zpp, k0, k, q, r1, hlo']; rfl) ?_
      refine Za rfl ⟨by simp [GEnv.get, k0], by simp [GEnv.get, k1], by simp [GEnv.get, k6], h2.length, 0, 0, [0], set_eq (by simp; omega), ?_, Nat.le_refl _, Nat.le_trans hlh kp.len, by simp, s1, s2, kp.trans .push⟩
      rw [set_ne (by omega), app_eq]; rfl
     ·have hpo : p ≠ o := fun e => by rw [e, k] at k2; cases k2
      have ho := get_lt k
      have hpl := get_lt k2
      have hlp : lo ≤ p := by
       rcases kp.ar with e | ⟨q, e, hq⟩
       ·exact hla p e.symm
       ·cases e; omega
      have hlp' : (lo ≤ p) = True := eq_true hlp
      have hbl := hp.len
      obtain ⟨s1, s2⟩ := hp.snoc (v.testBit m)
      by_cases h8 : l1.length % 8 = 0
      ·rw [if_pos h8] at s1 s2
       have h8' : (((l1.length % 8 : Nat) : Int) == 0) = true := by simp; omega
       refine Zc rfl (x := true) (by rw [← h8']; exact k19) (fun _ => ?_) (fun h => by cases h)
       have r1 : ((bs.length + 1) * 1 ≤ room) = True := eq_true (by unfold room; omega)
       have q : ∀ x : GObj, (h2.set p x)[o]? = some (.box [.asl none p g 0 bs.length 1, .int .i64 (l1.length : Int)]) := fun x => by rw [set_ne (Ne.symm hpo), k]
       have ht : bs.take bs.length = bs := List.take_length
       have e0 : un .u8 bs ++ [[U.int .u8 0]] = un .u8 (bs ++ [0]) := un_snoc (n := 0)
       have hle : (bs.length ≤ bs.length) = True := eq_true (Nat.le_refl _)
       refine Zr rfl (by simp (maxSteps := 2000000) only [gs,zlr,reduceIte,reduceCtorEq,zpa,zpb,zpc,zpd,zpe,zpf,zpg,zph,zpi,zpj,zpk,zpl,zpm,zpn,zpo,zpp, k0, k, k2, q, r1, hlo', hlp', un_length, hle, un_take, ht, e0]; rfl) ?_
       refine Za rfl ⟨by simp [GEnv.get, k0], by simp [GEnv.get, k1], by simp [GEnv.get, k6], p, g + 1, live, bs ++ [0], ?_, ?_, by omega, hlp, ?_, s1, s2, kp.trans (Kpw.arr.trans .set)⟩
       ·rw [set_eq (by simp; omega)]; simp
       ·rw [set_ne hpo, set_eq hpl]
       ·intro b hb
        rcases List.mem_append.1 hb with hb | hb
        ·exact hp.lt b hb
        ·rw [List.mem_singleton.1 hb]; omega
      ·rw [if_neg h8] at s1 s2
       have h8' : (((l1.length % 8 : Nat) : Int) == 0) = false := by simp; omega
       refine Zc rfl (x := false) (by rw [← h8']; exact k19) (fun h => by cases h) (fun _ => ?_)
       exact Za rfl ⟨k0, k1, k6, p, g, live, bs, k, k2, hg, hlp, hp.lt, s1, s2, kp⟩
    ·rintro env2 h3 ⟨k0, k1, k6, p, g, live, bs1, q1, q2, q3, q4, q5, q6, q7, q8⟩
     have hpo : p ≠ o := fun e => by rw [e, q1] at q2; cases q2
     have ho := get_lt q1
     have hpl := get_lt q2
     have hlp' : (lo ≤ p) = True := eq_true q4
     have hg' : (live ≤ g) = True := eq_true q3
     have hwq : IntKind.i64.wrap ((l1.length / 8 : Nat) : Int) = ((l1.length / 8 : Nat) : Int) := wrap_i64_nat (by omega)
     have n0 : ((0 : Int) ≤ ((l1.length / 8 : Nat) : Int)) = True := eq_true (by omega)
     have n1 : (((l1.length / 8 : Nat) : Int) < (bs1.length : Int)) = True := eq_true (by omega)
     have gb : bs1[l1.length / 8]? = some (bs1.getD (l1.length / 8) 0) := by rw [List.getD_eq_getElem?_getD, List.getElem?_eq_getElem q6]; rfl
     have m0 : ((m : Int) < 0) = False := eq_false (by omega)
     have m8 : (((l1.length % 8 : Nat) : Int) < 0) = False := eq_false (by omega)
     have hsh := shr_nat (k := .u64) (a := v) (s := m) hv
     have hand := bit_of (v := v) (i := m) hv
     have hcv : IntKind.u8.wrap (((v.testBit m).toNat : Nat) : Int) = (((v.testBit m).toNat : Nat) : Int) := by rw [wrap_u8_nat, Nat.mod_eq_of_lt (by have := bool_lt (v.testBit m); omega)]
     have hshl := shl_u8_bit (v.testBit m) (k := l1.length % 8) (by omega)
     have hb8 : (v.testBit m).toNat * 2 ^ (l1.length % 8) < 256 := by
      have h1 := bool_lt (v.testBit m)
      have h2 : 2 ^ (l1.length % 8) ≤ 2 ^ 7 := Nat.pow_le_pow_right (by omega) (by omega)
      have h3 := Nat.mul_le_mul h1 h2
      omega
     have hgd : bs1.getD (l1.length / 8) 0 < 256 := q5 _ (List.mem_of_getElem? gb)
     have hor := or_u8 hgd hb8
     simp only [Int.toNat_natCast] at hsh
     refine Zd rfl (by simp (maxSteps := 2000000) only [gs,gd,zlr,id,reduceIte,reduceCtorEq,zpa,zpb,zpc,zpd,zpe,zpf,zpg,zph,zpi,zpj,zpk,zpl,zpm,zpn,zpo,zpp, k0, k1, k6, q1, q2, hrem, hquo, hwq, hg', hlp', n0, n1, un_get gb, m0, m8, hsh, hand, hcv, hshl, hor, un_set]; rfl) ?_
     have hq : ∀ x : GObj, (h3.set p x)[o]? = some (.box [.asl none p g 0 bs1.length 1, .int .i64 (l1.length : Int)]) := fun x => by rw [set_ne (Ne.symm hpo), q1]
     have hinc : IntKind.i64.wrap ((l1.length : Int) + 1) = ((l1.length + 1 : Nat) : Int) := wrap_i64_nat (n := l1.length + 1) (by omega)
     refine Zr rfl (by simp (maxSteps := 2000000) only [gs,zlr,reduceIte,reduceCtorEq,zpa,zpb,zpc,zpd,zpe,zpf,zpg,zph,zpi,zpj,zpk,zpl,zpm,zpn,zpo,zpp, k0, hq, hlo', hinc]; rfl) ?_
     have hdec : IntKind.i64.wrap ((m : Int) - 1) = (m : Int) - 1 := wrap_i64 (by omega) (by omega)
     refine Zr rfl (by simp (maxSteps := 2000000) only [gs,zlr,reduceIte,reduceCtorEq,zpa,zpb,zpc,zpd,zpe,zpf,zpg,zph,zpi,zpj,zpk,zpl,zpm,zpn,zpo,zpp, k6, hdec]; rfl) ?_
     refine Za rfl ⟨m, by omega, some p, l1 ++ [v.testBit m], by omega, by simp [GEnv.get, k0], by simp [GEnv.get, k1], by simp [GEnv.get], .inr ⟨p, g, g, _, rfl, q7, Nat.le_refl _, ?_, ?_⟩, q8.trans (Kpw.arr.trans .set), by rw [← hb]; simp [top]⟩
     ·rw [set_eq (by simp; exact ho)]; simp
     ·rw [set_ne hpo, set_eq hpl]
 obtain ⟨u, h', h1, rfl, a', h2, h3⟩ := key
 exact ⟨h', a', h1, h2, h3⟩
end Go.Ab
namespace Go.Ab
open Go
open Nat renaming reduceEqDiff → zpa, reduceLT → zpb, reduceAdd → zpc, reduceSub → zpd, reduceLeDiff → zpe, reduceMul → zpf
open Int renaming reduceToNat → zpg, reduceLT → zph, reduceLE → zpi, reduceEq → zpj, reduceNe → zpk, reduceBEq → zpl, reduceBNe → zpm, reduceAdd → zpn, reduceSub → zpo, reduceNeg → zpp
open List renaming replicate → zlr
set_option linter.unusedVariables false
set_option linter.unusedSimpArgs false
set_option maxRecDepth 10000
def rdBox (bs : List Nat) (n : Nat) : GObj := .box [.list false 1 (un .u8 bs), .int .i64 (n : Int)]
theorem gset_same {h : GH} {o : Nat} {x : GObj} (k : h[o]? = some x) : h.set o x = h := by
 apply List.ext_getElem?
 intro i
 rw [List.getElem?_set]
 split
 ·rename_i e; subst e
  rw [k, if_pos (get_lt k)]
 ·rfl
theorem shl1_u64 {v : Nat} (h : v < 9223372036854775808) : IntKind.u64.wrap ((v : Int) * 2 ^ min 1 IntKind.u64.bits) = ((2 * v : Nat) : Int) := by
 have := shl_u64 (a := v) (s := 1)
 rw [Nat.pow_one, Nat.mod_eq_of_lt (by omega), Nat.mul_comm] at this
 exact this
theorem bitof_u8 {b k : Nat} (hb : b < 256) : bitsOf .and .u8 ((b / 2 ^ k : Nat) : Int) 1 = some (((b.testBit k).toNat : Nat) : Int) := by
 have h1 : b / 2 ^ k < 256 := Nat.lt_of_le_of_lt (Nat.div_le_self _ _) hb
 have := and_u8 (a := b / 2 ^ k) (b := 1) h1 (by omega)
 have e : b / 2 ^ k &&& 1 = (b.testBit k).toNat := by rw [Nat.and_one_is_mod, Nat.toNat_testBit]
 rw [e] at this
 exact this
theorem or_bit {v : Nat} {x : Bool} (h : v < 9223372036854775808) : bitsOf .or .u64 ((2 * v : Nat) : Int) ((x.toNat : Nat) : Int) = some ((2 * v + x.toNat : Nat) : Int) := by
 have := or_u64 (a := 2 * v) (b := x.toNat) (by omega) (by have := bool_lt x; omega)
 have e : 2 * v ||| x.toNat = 2 * v + x.toNat := by
  have h2 := or_high2 (a := x.toNat) (b := v) (k := 1) (by have := bool_lt x; omega)
  rw [Nat.pow_one] at h2
  rw [Nat.or_comm, Nat.mul_comm, h2, Nat.add_comm]
 rw [e] at this
 exact this
theorem newReader_G {h : GH} {lo : Nat} {bs : List Nat} : GF gtab fid_bits_NewReader [.list false 1 (un .u8 bs)] h lo = some (.ptr h.length 0 0 0, h ++ [rdBox bs 0]) := by
 refine fn_bits_NewReader rfl ?_
 simp only [genvOf]
 refine Zr rfl (by simp (maxSteps := 2000000) only [gs,zlr,reduceIte,reduceCtorEq,zpa,zpb,zpc,zpd,zpe,zpf,zpg,zph,zpi,zpj,zpk,zpl,zpm,zpn,zpo,zpp]; rfl) ?_
 exact Zr rfl (by simp (maxSteps := 2000000) only [gs,zlr,reduceIte,reduceCtorEq,zpa,zpb,zpc,zpd,zpe,zpf,zpg,zph,zpi,zpj,zpk,zpl,zpm,zpn,zpo,zpp]; rfl) (Zq rfl ⟨_, rfl, rfl⟩)
theorem left_G {h : GH} {lo o n : Nat} {bs : List Nat} (k : h[o]? = some (rdBox bs n)) (hl : bs.length ≤ 1099511627776) (hn : n ≤ 8 * bs.length) : GF gtab fid_bits_Reader_Left [.ptr o 0 0 0] h lo = some (.int .i64 ((8 * bs.length - n : Nat) : Int), h) := by
 refine fn_bits_Reader_Left rfl ?_
 simp only [genvOf]
 refine Zr rfl (by simp (maxSteps := 2000000) only [gs,zlr,reduceIte,reduceCtorEq,zpa,zpb,zpc,zpd,zpe,zpf,zpg,zph,zpi,zpj,zpk,zpl,zpm,zpn,zpo,zpp]; rfl) ?_
 unfold rdBox at k
 have w1 : IntKind.i64.wrap ((bs.length : Int) * 8) = (bs.length : Int) * 8 := wrap_i64 (by omega) (by omega)
 have w2 : IntKind.i64.wrap ((bs.length : Int) * 8 - (n : Int)) = ((8 * bs.length - n : Nat) : Int) := by rw [wrap_i64 (by omega) (by omega)]; omega
 exact Zd rfl (by simp (maxSteps := 2000000) only [gs,gd,zlr,id,reduceIte,reduceCtorEq,zpa,zpb,zpc,zpd,zpe,zpf,zpg,zph,zpi,zpj,zpk,zpl,zpm,zpn,zpo,zpp, k, un_length, w1, w2]; rfl) (Zq rfl ⟨_, rfl, rfl⟩)
theorem rleft_G {h : GH} {lo o n : Nat} {bs : List Nat} (k : h[o]? = some (rdBox bs n)) (hl : bs.length ≤ 1099511627776) (hn : n ≤ 8 * bs.length) : GF gtab fid_archipelagoref1_Reader_Left [.ptr o 0 0 0] h lo = some (.int .i64 ((8 * bs.length - n : Nat) : Int), h) := by
 refine fn_archipelagoref1_Reader_Left rfl ?_
 simp only [genvOf]
 refine Zr rfl (by simp (maxSteps := 2000000) only [gs,zlr,reduceIte,reduceCtorEq,zpa,zpb,zpc,zpd,zpe,zpf,zpg,zph,zpi,zpj,zpk,zpl,zpm,zpn,zpo,zpp]; rfl) ?_
 unfold rdBox at k
 have w1 : IntKind.i64.wrap (8 * (bs.length : Int)) = 8 * (bs.length : Int) := wrap_i64 (by omega) (by omega)
 have w2 : IntKind.i64.wrap (8 * (bs.length : Int) - (n : Int)) = ((8 * bs.length - n : Nat) : Int) := by rw [wrap_i64 (by omega) (by omega)]; omega
 exact Zd rfl (by simp (maxSteps := 2000000) only [gs,gd,zlr,id,reduceIte,reduceCtorEq,zpa,zpb,zpc,zpd,zpe,zpf,zpg,zph,zpi,zpj,zpk,zpl,zpm,zpn,zpo,zpp, k, un_length, w1, w2]; rfl) (Zq rfl ⟨_, rfl, rfl⟩)
theorem rnum_lt63 (bs : List Nat) (n : Nat) {i : Nat} (h : i < 64) : rnum bs n i < 9223372036854775808 := by
 have h1 := rnum_lt bs n i
 have h2 : 2 ^ i ≤ 2 ^ 63 := Nat.pow_le_pow_right (by omega) (by omega)
 omega
theorem takeNo_G {h : GH} {lo o n : Nat} {bs : List Nat} {c : Int} (k : h[o]? = some (rdBox bs n)) (hl : bs.length ≤ 1099511627776) (hn : n ≤ 8 * bs.length) (hc : 8 * bs.length < n + clamp c) :
  GF gtab fid_bits_Reader_Take [.ptr o 0 0 0, .int .i64 c] h lo = some (.tup [.int .u64 0, .bool false], h) := by
 refine fn_bits_Reader_Take rfl ?_
 simp only [genvOf]
 have g1 : ((clamp c : Int) > ((8 * bs.length - n : Nat) : Int)) = True := eq_true (by omega)
 refine Zr rfl (by simp (maxSteps := 2000000) only [gs,zlr,reduceIte,reduceCtorEq,zpa,zpb,zpc,zpd,zpe,zpf,zpg,zph,zpi,zpj,zpk,zpl,zpm,zpn,zpo,zpp]; rfl) ?_
 refine Zr rfl (by simp (maxSteps := 2000000) only [gs,zlr,reduceIte,reduceCtorEq,zpa,zpb,zpc,zpd,zpe,zpf,zpg,zph,zpi,zpj,zpk,zpl,zpm,zpn,zpo,zpp, gc_bits_bound, bound_G]; rfl) ?_
 refine Zr rfl (by simp (maxSteps := 2000000) only [gs,zlr,reduceIte,reduceCtorEq,zpa,zpb,zpc,zpd,zpe,zpf,zpg,zph,zpi,zpj,zpk,zpl,zpm,zpn,zpo,zpp, gc_bits_Reader_Left, left_G k hl hn, g1]; rfl) (Zc rfl rfl (fun _ => ?_) (fun h => by cases h))
 exact Zr rfl (by simp (maxSteps := 2000000) only [gs,zlr,reduceIte,reduceCtorEq,zpa,zpb,zpc,zpd,zpe,zpf,zpg,zph,zpi,zpj,zpk,zpl,zpm,zpn,zpo,zpp]; rfl) (Zq rfl ⟨_, rfl, rfl⟩)
theorem take_G {h : GH} {lo o n : Nat} {bs : List Nat} {c : Int} (k : h[o]? = some (rdBox bs n)) (hb : ∀ b ∈ bs, b < 256) (hl : bs.length ≤ 1099511627776) (hc : n + clamp c ≤ 8 * bs.length) (hlo : lo ≤ o) :
  GF gtab fid_bits_Reader_Take [.ptr o 0 0 0, .int .i64 c] h lo = some (.tup [.int .u64 ((rnum bs n (clamp c) : Nat) : Int), .bool true], h.set o (rdBox bs (n + clamp c))) := by
 refine fn_bits_Reader_Take rfl ?_
 simp only [genvOf]
 have g1 : ((clamp c : Int) > ((8 * bs.length - n : Nat) : Int)) = False := eq_false (by omega)
 have hcl := clamp_le c
 have ho := get_lt k
 have hlo' := eq_true hlo
 refine Zr rfl (by simp (maxSteps := 2000000) only [gs,zlr,reduceIte,reduceCtorEq,zpa,zpb,zpc,zpd,zpe,zpf,zpg,zph,zpi,zpj,zpk,zpl,zpm,zpn,zpo,zpp]; rfl) ?_
 refine Zr rfl (by simp (maxSteps := 2000000) only [gs,zlr,reduceIte,reduceCtorEq,zpa,zpb,zpc,zpd,zpe,zpf,zpg,zph,zpi,zpj,zpk,zpl,zpm,zpn,zpo,zpp, gc_bits_bound, bound_G]; rfl) ?_
 refine Zr rfl (by simp (maxSteps := 2000000) only [gs,zlr,reduceIte,reduceCtorEq,zpa,zpb,zpc,zpd,zpe,zpf,zpg,zph,zpi,zpj,zpk,zpl,zpm,zpn,zpo,zpp, gc_bits_Reader_Left, left_G k hl (by omega), g1]; rfl) (Zc rfl rfl (fun h => by cases h) (fun _ => ?_))
 refine Zr rfl (by simp (maxSteps := 2000000) only [gs,zlr,reduceIte,reduceCtorEq,zpa,zpb,zpc,zpd,zpe,zpf,zpg,zph,zpi,zpj,zpk,zpl,zpm,zpn,zpo,zpp]; rfl) ?_
 refine Zr rfl (by simp (maxSteps := 2000000) only [gs,zlr,reduceIte,reduceCtorEq,zpa,zpb,zpc,zpd,zpe,zpf,zpg,zph,zpi,zpj,zpk,zpl,zpm,zpn,zpo,zpp]; rfl) ?_
 refine Zw rfl (fun m env h1 => ∃ i : Nat, h1 = h.set o (rdBox bs (n + i)) ∧ GEnv.get env 0 = .ptr o 0 0 0 ∧ GEnv.get env 6 = .int .u64 ((rnum bs n i : Nat) : Int) ∧ GEnv.get env 13 = .int .i64 (clamp c : Int) ∧ GEnv.get env 14 = .int .i64 (i : Int) ∧ m + i = clamp c) (clamp c) ⟨0, (gset_same k).symm, rfl, rfl, rfl, rfl, rfl⟩ ?_
 rintro m env h1 ⟨i, rfl, k0, k6, k13, k14, hm⟩
 simp only [GEnv.keep, k0, k6, k13, k14]
 refine Zr rfl (by simp (maxSteps := 2000000) only [gs,zlr,reduceIte,reduceCtorEq,zpa,zpb,zpc,zpd,zpe,zpf,zpg,zph,zpi,zpj,zpk,zpl,zpm,zpn,zpo,zpp]; rfl) (Zp rfl rfl (fun hi => ?_) (fun hi => ?_))
 ·have hi' : i < clamp c := by omega
  have hld : (h.set o (rdBox bs (n + i)))[o]? = some (.box [.list false 1 (un .u8 bs), .int .i64 ((n + i : Nat) : Int)]) := set_eq ho
  have dq : ((n + i : Nat) : Int).tdiv 8 = (((n + i) / 8 : Nat) : Int) := rfl
  have dm : ((n + i : Nat) : Int).tmod 8 = (((n + i) % 8 : Nat) : Int) := rfl
  have wq : IntKind.i64.wrap (((n + i) / 8 : Nat) : Int) = (((n + i) / 8 : Nat) : Int) := wrap_i64_nat (by omega)
  have q0 : ((0 : Int) ≤ (((n + i) / 8 : Nat) : Int)) = True := eq_true (by omega)
  have q8 : ((((n + i) % 8 : Nat) : Int) < 0) = False := eq_false (by omega)
  have gb : bs[(n + i) / 8]? = some (bs.getD ((n + i) / 8) 0) := by rw [List.getD_eq_getElem?_getD, List.getElem?_eq_getElem (by omega)]; rfl
  have hgb := hb _ (List.mem_of_getElem? gb)
  have hlt := rnum_lt63 bs n (i := i) (by omega)
  have hsl := shl1_u64 hlt
  have hsr := shr_nat (k := .u8) (a := bs.getD ((n + i) / 8) 0) (s := (n + i) % 8) hgb
  simp only [Int.toNat_natCast] at hsr
  have hand : bitsOf .and .u8 ((bs.getD ((n + i) / 8) 0 / 2 ^ ((n + i) % 8) : Nat) : Int) 1 = some (((rbit bs (n + i)).toNat : Nat) : Int) := bitof_u8 hgb
  have hcv : IntKind.u64.wrap (((rbit bs (n + i)).toNat : Nat) : Int) = (((rbit bs (n + i)).toNat : Nat) : Int) := by rw [wrap_u64_nat, Nat.mod_eq_of_lt (by have := bool_lt (rbit bs (n + i)); omega)]
  have hor := or_bit (x := rbit bs (n + i)) hlt
  refine Zd rfl (by simp (maxSteps := 2000000) only [gs,gd,zlr,id,reduceIte,reduceCtorEq,zpa,zpb,zpc,zpd,zpe,zpf,zpg,zph,zpi,zpj,zpk,zpl,zpm,zpn,zpo,zpp, hld, dq, dm, wq, q0, q8, un_get gb, hsl, hsr, hand, hcv, hor]; rfl) ?_
  have hinc : IntKind.i64.wrap (((n + i : Nat) : Int) + 1) = ((n + (i + 1) : Nat) : Int) := up64 (n := n + i) (by omega)
  refine Zr rfl (by simp (maxSteps := 2000000) only [gs,zlr,reduceIte,reduceCtorEq,zpa,zpb,zpc,zpd,zpe,zpf,zpg,zph,zpi,zpj,zpk,zpl,zpm,zpn,zpo,zpp, hld, hlo', hinc]; rfl) ?_
  have hinc2 : IntKind.i64.wrap ((i : Int) + 1) = ((i + 1 : Nat) : Int) := up64 (by omega)
  refine Zr rfl (by simp (maxSteps := 2000000) only [gs,zlr,reduceIte,reduceCtorEq,zpa,zpb,zpc,zpd,zpe,zpf,zpg,zph,zpi,zpj,zpk,zpl,zpm,zpn,zpo,zpp, hinc2]; rfl) ?_
  exact Za rfl ⟨m - 1, by omega, i + 1, by rw [List.set_set]; rfl, rfl, rfl, rfl, rfl, by omega⟩
 ·have : i = clamp c := by omega
  subst this
  exact Zr rfl (by simp (maxSteps := 2000000) only [gs,zlr,reduceIte,reduceCtorEq,zpa,zpb,zpc,zpd,zpe,zpf,zpg,zph,zpi,zpj,zpk,zpl,zpm,zpn,zpo,zpp]; rfl) (Zq rfl ⟨_, rfl, rfl⟩)
theorem rtakeNo_G {h : GH} {lo o n : Nat} {bs : List Nat} {c : Int} (k : h[o]? = some (rdBox bs n)) (hl : bs.length ≤ 1099511627776) (hn : n ≤ 8 * bs.length) (hc : 8 * bs.length < n + clamp c) :
  GF gtab fid_archipelagoref1_Reader_Take [.ptr o 0 0 0, .int .i64 c] h lo = some (.tup [.int .u64 0, .bool false], h) := by
 refine fn_archipelagoref1_Reader_Take rfl ?_
 simp only [genvOf]
 have g1 : ((clamp c : Int) > ((8 * bs.length - n : Nat) : Int)) = True := eq_true (by omega)
 have h1 : (if (0 : Int) > c then 0 else c) = max c 0 := by split <;> omega
 have h2 : (if (64 : Int) < max c 0 then 64 else max c 0) = (clamp c : Int) := by unfold clamp; split <;> omega
 refine Zr rfl (by simp (maxSteps := 2000000) only [gs,zlr,reduceIte,reduceCtorEq,zpa,zpb,zpc,zpd,zpe,zpf,zpg,zph,zpi,zpj,zpk,zpl,zpm,zpn,zpo,zpp]; rfl) ?_
 refine Zr rfl (by simp (maxSteps := 2000000) only [gs,zlr,reduceIte,reduceCtorEq,zpa,zpb,zpc,zpd,zpe,zpf,zpg,zph,zpi,zpj,zpk,zpl,zpm,zpn,zpo,zpp, h1, h2]; rfl) ?_
 refine Zr rfl (by simp (maxSteps := 2000000) only [gs,zlr,reduceIte,reduceCtorEq,zpa,zpb,zpc,zpd,zpe,zpf,zpg,zph,zpi,zpj,zpk,zpl,zpm,zpn,zpo,zpp, gc_archipelagoref1_Reader_Left, rleft_G k hl hn, g1]; rfl) (Zc rfl rfl (fun _ => ?_) (fun h => by cases h))
 exact Zr rfl (by simp (maxSteps := 2000000) only [gs,zlr,reduceIte,reduceCtorEq,zpa,zpb,zpc,zpd,zpe,zpf,zpg,zph,zpi,zpj,zpk,zpl,zpm,zpn,zpo,zpp]; rfl) (Zq rfl ⟨_, rfl, rfl⟩)
theorem rtake_G {h : GH} {lo o n : Nat} {bs : List Nat} {c : Int} (k : h[o]? = some (rdBox bs n)) (hb : ∀ b ∈ bs, b < 256) (hl : bs.length ≤ 1099511627776) (hc : n + clamp c ≤ 8 * bs.length) (hlo : lo ≤ o) :
  GF gtab fid_archipelagoref1_Reader_Take [.ptr o 0 0 0, .int .i64 c] h lo = some (.tup [.int .u64 ((rnum bs n (clamp c) : Nat) : Int), .bool true], h.set o (rdBox bs (n + clamp c))) := by
 refine fn_archipelagoref1_Reader_Take rfl ?_
 simp only [genvOf]
 have g1 : ((clamp c : Int) > ((8 * bs.length - n : Nat) : Int)) = False := eq_false (by omega)
 have h1 : (if (0 : Int) > c then 0 else c) = max c 0 := by split <;> omega
 have h2 : (if (64 : Int) < max c 0 then 64 else max c 0) = (clamp c : Int) := by unfold clamp; split <;> omega
 have hcl := clamp_le c
 have ho := get_lt k
 have hlo' := eq_true hlo
 refine Zr rfl (by simp (maxSteps := 2000000) only [gs,zlr,reduceIte,reduceCtorEq,zpa,zpb,zpc,zpd,zpe,zpf,zpg,zph,zpi,zpj,zpk,zpl,zpm,zpn,zpo,zpp]; rfl) ?_
 refine Zr rfl (by simp (maxSteps := 2000000) only [gs,zlr,reduceIte,reduceCtorEq,zpa,zpb,zpc,zpd,zpe,zpf,zpg,zph,zpi,zpj,zpk,zpl,zpm,zpn,zpo,zpp, h1, h2]; rfl) ?_
 refine Zr rfl (by simp (maxSteps := 2000000) only [gs,zlr,reduceIte,reduceCtorEq,zpa,zpb,zpc,zpd,zpe,zpf,zpg,zph,zpi,zpj,zpk,zpl,zpm,zpn,zpo,zpp, gc_archipelagoref1_Reader_Left, rleft_G k hl (by omega), g1]; rfl) (Zc rfl rfl (fun h => by cases h) (fun _ => ?_))
 refine Zr rfl (by simp (maxSteps := 2000000) only [gs,zlr,reduceIte,reduceCtorEq,zpa,zpb,zpc,zpd,zpe,zpf,zpg,zph,zpi,zpj,zpk,zpl,zpm,zpn,zpo,zpp]; rfl) ?_
 refine Zr rfl (by simp (maxSteps := 2000000) only [gs,zlr,reduceIte,reduceCtorEq,zpa,zpb,zpc,zpd,zpe,zpf,zpg,zph,zpi,zpj,zpk,zpl,zpm,zpn,zpo,zpp]; rfl) ?_
 refine Zw rfl (fun m env h1 => ∃ i : Nat, h1 = h.set o (rdBox bs (n + i)) ∧ GEnv.get env 0 = .ptr o 0 0 0 ∧ GEnv.get env 6 = .int .u64 ((rnum bs n i : Nat) : Int) ∧ GEnv.get env 1 = .int .i64 (clamp c : Int) ∧ GEnv.get env 7 = .int .i64 (i : Int) ∧ m + i = clamp c) (clamp c) ⟨0, (gset_same k).symm, rfl, rfl, rfl, rfl, rfl⟩ ?_
 rintro m env h1 ⟨i, rfl, k0, k6, k13, k14, hm⟩
 simp only [GEnv.keep, k0, k6, k13, k14]
 refine Zr rfl (by simp (maxSteps := 2000000) only [gs,zlr,reduceIte,reduceCtorEq,zpa,zpb,zpc,zpd,zpe,zpf,zpg,zph,zpi,zpj,zpk,zpl,zpm,zpn,zpo,zpp]; rfl) (Zp rfl rfl (fun hi => ?_) (fun hi => ?_))
 ·have hi' : i < clamp c := by omega
  have hld : (h.set o (rdBox bs (n + i)))[o]? = some (.box [.list false 1 (un .u8 bs), .int .i64 ((n + i : Nat) : Int)]) := set_eq ho
  have dq : ((n + i : Nat) : Int).tdiv 8 = (((n + i) / 8 : Nat) : Int) := rfl
  have dm : ((n + i : Nat) : Int).tmod 8 = (((n + i) % 8 : Nat) : Int) := rfl
  have wq : IntKind.i64.wrap (((n + i) / 8 : Nat) : Int) = (((n + i) / 8 : Nat) : Int) := wrap_i64_nat (by omega)
  have q0 : ((0 : Int) ≤ (((n + i) / 8 : Nat) : Int)) = True := eq_true (by omega)
  have q8 : ((((n + i) % 8 : Nat) : Int) < 0) = False := eq_false (by omega)
  have gb : bs[(n + i) / 8]? = some (bs.getD ((n + i) / 8) 0) := by rw [List.getD_eq_getElem?_getD, List.getElem?_eq_getElem (by omega)]; rfl
  have hgb := hb _ (List.mem_of_getElem? gb)
  have hlt := rnum_lt63 bs n (i := i) (by omega)
  have hsl := shl1_u64 hlt
  have hsr := shr_nat (k := .u8) (a := bs.getD ((n + i) / 8) 0) (s := (n + i) % 8) hgb
  simp only [Int.toNat_natCast] at hsr
  have hand : bitsOf .and .u8 ((bs.getD ((n + i) / 8) 0 / 2 ^ ((n + i) % 8) : Nat) : Int) 1 = some (((rbit bs (n + i)).toNat : Nat) : Int) := bitof_u8 hgb
  have hcv : IntKind.u64.wrap (((rbit bs (n + i)).toNat : Nat) : Int) = (((rbit bs (n + i)).toNat : Nat) : Int) := by rw [wrap_u64_nat, Nat.mod_eq_of_lt (by have := bool_lt (rbit bs (n + i)); omega)]
  have hor := or_bit (x := rbit bs (n + i)) hlt
  refine Zd rfl (by simp (maxSteps := 2000000) only [gs,gd,zlr,id,reduceIte,reduceCtorEq,zpa,zpb,zpc,zpd,zpe,zpf,zpg,zph,zpi,zpj,zpk,zpl,zpm,zpn,zpo,zpp, hld, dq, dm, wq, q0, q8, un_get gb, hsl, hsr, hand, hcv, hor]; rfl) ?_
  have hinc : IntKind.i64.wrap (((n + i : Nat) : Int) + 1) = ((n + (i + 1) : Nat) : Int) := up64 (n := n + i) (by omega)
  refine Zr rfl (by simp (maxSteps := 2000000) only [gs,zlr,reduceIte,reduceCtorEq,zpa,zpb,zpc,zpd,zpe,zpf,zpg,zph,zpi,zpj,zpk,zpl,zpm,zpn,zpo,zpp, hld, hlo', hinc]; rfl) ?_
  have hinc2 : IntKind.i64.wrap ((i : Int) + 1) = ((i + 1 : Nat) : Int) := up64 (by omega)
  refine Zr rfl (by simp (maxSteps := 2000000) only [gs,zlr,reduceIte,reduceCtorEq,zpa,zpb,zpc,zpd,zpe,zpf,zpg,zph,zpi,zpj,zpk,zpl,zpm,zpn,zpo,zpp, hinc2]; rfl) ?_
  exact Za rfl ⟨m - 1, by omega, i + 1, by rw [List.set_set]; rfl, rfl, rfl, rfl, rfl, by omega⟩
 ·have : i = clamp c := by omega
  subst this
  exact Zr rfl (by simp (maxSteps := 2000000) only [gs,zlr,reduceIte,reduceCtorEq,zpa,zpb,zpc,zpd,zpe,zpf,zpg,zph,zpi,zpj,zpk,zpl,zpm,zpn,zpo,zpp]; rfl) (Zq rfl ⟨_, rfl, rfl⟩)
end Go.Ab
namespace Go.Ab
open Go
open Nat renaming reduceEqDiff → zpa, reduceLT → zpb, reduceAdd → zpc, reduceSub → zpd, reduceLeDiff → zpe, reduceMul → zpf
open Int renaming reduceToNat → zpg, reduceLT → zph, reduceLE → zpi, reduceEq → zpj, reduceNe → zpk, reduceBEq → zpl, reduceBNe → zpm, reduceAdd → zpn, reduceSub → zpo, reduceNeg → zpp
open List renaming replicate → zlr
set_option linter.unusedVariables false
set_option linter.unusedSimpArgs false
theorem WrV.other {h h' : GH} {o : Nat} {a : Option Nat} {l : List Bool} (w : WrV h o a l) (k : ∀ p, (p = o ∨ a = some p) → h'[p]? = h[p]?) : WrV h' o a l := by
 rcases w with ⟨rfl, rfl, k1⟩ | ⟨p, g, live, bs, rfl, hp, hg, k1, k2⟩
 ·exact .inl ⟨rfl, rfl, by rw [k o (.inl rfl)]; exact k1⟩
 ·exact .inr ⟨p, g, live, bs, rfl, hp, hg, by rw [k o (.inl rfl)]; exact k1, by rw [k p (.inr rfl)]; exact k2⟩
theorem WrV.lt {h : GH} {o : Nat} {a : Option Nat} {l : List Bool} (w : WrV h o a l) : o < h.length := by rcases w with ⟨_, _, k⟩ | ⟨_, _, _, _, _, _, _, k, _⟩ <;> exact get_lt k
theorem WrV.apart {h : GH} {o q : Nat} {a : Option Nat} {l : List Bool} {cs : List U} (w : WrV h o a l) (k : h[q]? = some (.box cs)) : a ≠ some q := by
 rcases w with ⟨rfl, _, _⟩ | ⟨p, _, _, _, rfl, _, _, _, k2⟩
 ·intro e; cases e
 ·intro e; cases e; rw [k] at k2; cases k2
end Go.Ab
namespace Go.Ab
open Go
open Nat renaming reduceEqDiff → zpa, reduceLT → zpb, reduceAdd → zpc, reduceSub → zpd, reduceLeDiff → zpe, reduceMul → zpf
open Int renaming reduceToNat → zpg, reduceLT → zph, reduceLE → zpi, reduceEq → zpj, reduceNe → zpk, reduceBEq → zpl, reduceBNe → zpm, reduceAdd → zpn, reduceSub → zpo, reduceNeg → zpp
open List renaming replicate → zlr
set_option linter.unusedVariables false
set_option linter.unusedSimpArgs false
set_option maxRecDepth 10000
def nb (v : Nat) : Nat := if v = 0 then 0 else v.log2 + 1
theorem nb_lt (v : Nat) : v < 2 ^ nb v := by
 unfold nb
 split
 ·omega
 ·exact Nat.lt_log2_self
theorem nb_le {v : Nat} (h : v ≠ 0) : 2 ^ (nb v - 1) ≤ v := by
 unfold nb
 rw [if_neg h]
 exact Nat.log2_self_le h
theorem nb_pos {v : Nat} (h : v ≠ 0) : 0 < nb v := by unfold nb; rw [if_neg h]; omega
theorem nb_of {v n : Nat} (h0 : 0 < n) (h1 : 2 ^ (n - 1) ≤ v) (h2 : v < 2 ^ n) : nb v = n := by
 have hv : v ≠ 0 := by have := Nat.two_pow_pos (n - 1); omega
 have a := nb_lt v
 have b := nb_le hv
 have c := nb_pos hv
 have d1 : ¬ nb v < n := fun h => by
  have := Nat.pow_le_pow_right (n := 2) (by omega) (show nb v ≤ n - 1 by omega)
  omega
 have d2 : ¬ n < nb v := fun h => by
  have := Nat.pow_le_pow_right (n := 2) (by omega) (show n ≤ nb v - 1 by omega)
  omega
 omega
theorem nb_bound {v n : Nat} (h : v < 2 ^ n) : nb v ≤ n := by
 by_cases hv : v = 0
 ·subst hv; exact Nat.zero_le _
 ·have b := nb_le hv
  have c := nb_pos hv
  by_cases d : n < nb v
  ·have := Nat.pow_le_pow_right (n := 2) (by omega) (show n ≤ nb v - 1 by omega)
   omega
  ·omega
theorem nb_shift {v s : Nat} (h : 2 ^ s ≤ v) : nb v = s + nb (v / 2 ^ s) := by
 have hp := Nat.two_pow_pos s
 have hw : v / 2 ^ s ≠ 0 := by
  have := Nat.div_le_div_right (c := 2 ^ s) h
  rw [Nat.div_self hp] at this
  omega
 have a := nb_lt (v / 2 ^ s)
 have b := nb_le hw
 have c := nb_pos hw
 refine nb_of (by omega) ?_ ?_
 ·rw [show s + nb (v / 2 ^ s) - 1 = (nb (v / 2 ^ s) - 1) + s by omega, Nat.pow_add]
  exact (Nat.le_div_iff_mul_le hp).1 b
 ·rw [Nat.pow_add, Nat.mul_comm]
  exact (Nat.div_lt_iff_lt_mul hp).1 a
theorem len8 {x : Nat} (h : x < 256) : ([0, 1, 2, 2, 3, 3, 3, 3, 4, 4, 4, 4, 4, 4, 4, 4, 5, 5, 5, 5, 5, 5, 5, 5, 5, 5, 5, 5, 5, 5, 5, 5, 6, 6, 6, 6, 6, 6, 6, 6, 6, 6, 6, 6, 6, 6, 6, 6, 6, 6, 6, 6, 6, 6, 6, 6, 6, 6, 6, 6, 6, 6, 6, 6, 7, 7, 7, 7, 7, 7, 7, 7, 7, 7, 7, 7, 7, 7, 7, 7, 7, 7, 7, 7, 7, 7, 7, 7, 7, 7, 7, 7, 7, 7, 7, 7, 7, 7, 7, 7, 7, 7, 7, 7, 7, 7, 7, 7, 7, 7, 7, 7, 7, 7, 7, 7, 7, 7, 7, 7, 7, 7, 7, 7, 7, 7, 7, 7, 8, 8, 8, 8, 8, 8, 8, 8, 8, 8, 8, 8, 8, 8, 8, 8, 8, 8, 8, 8, 8, 8, 8, 8, 8, 8, 8, 8, 8, 8, 8, 8, 8, 8, 8, 8, 8, 8, 8, 8, 8, 8, 8, 8, 8, 8, 8, 8, 8, 8, 8, 8, 8, 8, 8, 8, 8, 8, 8, 8, 8, 8, 8, 8, 8, 8, 8, 8, 8, 8, 8, 8, 8, 8, 8, 8, 8, 8, 8, 8, 8, 8, 8, 8, 8, 8, 8, 8, 8, 8, 8, 8, 8, 8, 8, 8, 8, 8, 8, 8, 8, 8, 8, 8, 8, 8, 8, 8, 8, 8, 8, 8, 8, 8, 8, 8, 8, 8, 8, 8, 8, 8, 8, 8, 8, 8, 8, 8] : List Int)[x]? = some ((nb x : Nat) : Int) := by
 have key : ((List.range 256).all fun x => decide (([0, 1, 2, 2, 3, 3, 3, 3, 4, 4, 4, 4, 4, 4, 4, 4, 5, 5, 5, 5, 5, 5, 5, 5, 5, 5, 5, 5, 5, 5, 5, 5, 6, 6, 6, 6, 6, 6, 6, 6, 6, 6, 6, 6, 6, 6, 6, 6, 6, 6, 6, 6, 6, 6, 6, 6, 6, 6, 6, 6, 6, 6, 6, 6, 7, 7, 7, 7, 7, 7, 7, 7, 7, 7, 7, 7, 7, 7, 7, 7, 7, 7, 7, 7, 7, 7, 7, 7, 7, 7, 7, 7, 7, 7, 7, 7, 7, 7, 7, 7, 7, 7, 7, 7, 7, 7, 7, 7, 7, 7, 7, 7, 7, 7, 7, 7, 7, 7, 7, 7, 7, 7, 7, 7, 7, 7, 7, 7, 8, 8, 8, 8, 8, 8, 8, 8, 8, 8, 8, 8, 8, 8, 8, 8, 8, 8, 8, 8, 8, 8, 8, 8, 8, 8, 8, 8, 8, 8, 8, 8, 8, 8, 8, 8, 8, 8, 8, 8, 8, 8, 8, 8, 8, 8, 8, 8, 8, 8, 8, 8, 8, 8, 8, 8, 8, 8, 8, 8, 8, 8, 8, 8, 8, 8, 8, 8, 8, 8, 8, 8, 8, 8, 8, 8, 8, 8, 8, 8, 8, 8, 8, 8, 8, 8, 8, 8, 8, 8, 8, 8, 8, 8, 8, 8, 8, 8, 8, 8, 8, 8, 8, 8, 8, 8, 8, 8, 8, 8, 8, 8, 8, 8, 8, 8, 8, 8, 8, 8, 8, 8, 8, 8, 8, 8, 8, 8] : List Int)[x]? = some ((nb x : Nat) : Int))) = true := by kernel_rfl
 exact of_decide_eq_true (List.all_eq_true.1 key x (List.mem_range.2 h))
theorem len64_G {v : Nat} (hv : v < 18446744073709551616) : GF gtab fid_math_bits_Len64 [.int .u64 v] [] 0 = some (.int .i64 (nb v : Nat), []) := by
 refine fn_math_bits_Len64 rfl ?_
 simp only [genvOf]
 refine Zr rfl (by simp (maxSteps := 2000000) only [gs,zlr,reduceIte,reduceCtorEq,zpa,zpb,zpc,zpd,zpe,zpf,zpg,zph,zpi,zpj,zpk,zpl,zpm,zpn,zpo,zpp]; rfl) ?_
 refine Zr rfl (by simp (maxSteps := 2000000) only [gs,zlr,reduceIte,reduceCtorEq,zpa,zpb,zpc,zpd,zpe,zpf,zpg,zph,zpi,zpj,zpk,zpl,zpm,zpn,zpo,zpp]; rfl) ?_
 refine Zj rfl (fun env h => h = [] ∧ ∃ x n : Nat, GEnv.get env 0 = .int .u64 x ∧ GEnv.get env 2 = .int .i64 n ∧ x < 2 ^ 32 ∧ nb v = n + nb x) ?_ ?_
 ·refine Zp rfl rfl (fun hp => ?_) (fun hp => ?_)
  ·have hs := shr_nat (k := .u64) (a := v) (s := 32) hv
   simp only [Int.toNat_natCast] at hs
   have hs : (v : Int).fdiv (2 ^ min 32 IntKind.u64.bits) = ((v / 2 ^ 32 : Nat) : Int) := hs
   refine Zr rfl (by simp (maxSteps := 2000000) only [gs,zlr,reduceIte,reduceCtorEq,zpa,zpb,zpc,zpd,zpe,zpf,zpg,zph,zpi,zpj,zpk,zpl,zpm,zpn,zpo,zpp, hs]; rfl) ?_
   refine Zr rfl (by simp (maxSteps := 2000000) only [gs,zlr,reduceIte,reduceCtorEq,zpa,zpb,zpc,zpd,zpe,zpf,zpg,zph,zpi,zpj,zpk,zpl,zpm,zpn,zpo,zpp]; rfl) ?_
   exact Za rfl ⟨rfl, v / 2 ^ 32, 32, rfl, rfl, by omega, nb_shift (s := 32) (by omega)⟩
  ·exact Za rfl ⟨rfl, v, 0, rfl, rfl, by omega, by omega⟩
 rintro env h ⟨rfl, x, n, k0, k2, hx, hn⟩
 have hn32 : n ≤ 64 := by have := nb_bound (n := 64) hv; omega
 refine Zr rfl (by simp (maxSteps := 2000000) only [gs,zlr,reduceIte,reduceCtorEq,zpa,zpb,zpc,zpd,zpe,zpf,zpg,zph,zpi,zpj,zpk,zpl,zpm,zpn,zpo,zpp, k0]; rfl) ?_
 refine Zj rfl (fun env h => h = [] ∧ ∃ x n : Nat, GEnv.get env 0 = .int .u64 x ∧ GEnv.get env 2 = .int .i64 n ∧ x < 2 ^ 16 ∧ nb v = n + nb x) ?_ ?_
 ·refine Zp rfl rfl (fun hp => ?_) (fun hp => ?_)
  ·have hs := shr_nat (k := .u64) (a := x) (s := 16) (Nat.lt_trans hx (by decide))
   have hs : (x : Int).fdiv (2 ^ min 16 IntKind.u64.bits) = ((x / 2 ^ 16 : Nat) : Int) := hs
   have hw : IntKind.i64.wrap ((n : Int) + 16) = ((n + 16 : Nat) : Int) := wrap_i64_nat (n := n + 16) (by omega)
   refine Zr rfl (by simp (maxSteps := 2000000) only [gs,zlr,reduceIte,reduceCtorEq,zpa,zpb,zpc,zpd,zpe,zpf,zpg,zph,zpi,zpj,zpk,zpl,zpm,zpn,zpo,zpp, k0, hs]; rfl) ?_
   refine Zr rfl (by simp (maxSteps := 2000000) only [gs,zlr,reduceIte,reduceCtorEq,zpa,zpb,zpc,zpd,zpe,zpf,zpg,zph,zpi,zpj,zpk,zpl,zpm,zpn,zpo,zpp, k2, hw]; rfl) ?_
   refine Za rfl ⟨rfl, x / 2 ^ 16, n + 16, by simp [GEnv.get], by simp [GEnv.get], by omega, ?_⟩
   rw [hn, nb_shift (v := x) (s := 16) (by omega)]; omega
  ·exact Za rfl ⟨rfl, x, n, by simp [GEnv.get, k0], by simp [GEnv.get, k2], by omega, hn⟩
 rintro env h ⟨rfl, x, n, k0, k2, hx, hn⟩
 have hn32 : n ≤ 64 := by have := nb_bound (n := 64) hv; omega
 refine Zr rfl (by simp (maxSteps := 2000000) only [gs,zlr,reduceIte,reduceCtorEq,zpa,zpb,zpc,zpd,zpe,zpf,zpg,zph,zpi,zpj,zpk,zpl,zpm,zpn,zpo,zpp, k0]; rfl) ?_
 refine Zj rfl (fun env h => h = [] ∧ ∃ x n : Nat, GEnv.get env 0 = .int .u64 x ∧ GEnv.get env 2 = .int .i64 n ∧ x < 256 ∧ nb v = n + nb x) ?_ ?_
 ·refine Zp rfl rfl (fun hp => ?_) (fun hp => ?_)
  ·have hs := shr_nat (k := .u64) (a := x) (s := 8) (Nat.lt_trans hx (by decide))
   have hs : (x : Int).fdiv (2 ^ min 8 IntKind.u64.bits) = ((x / 2 ^ 8 : Nat) : Int) := hs
   have hw : IntKind.i64.wrap ((n : Int) + 8) = ((n + 8 : Nat) : Int) := wrap_i64_nat (n := n + 8) (by omega)
   refine Zr rfl (by simp (maxSteps := 2000000) only [gs,zlr,reduceIte,reduceCtorEq,zpa,zpb,zpc,zpd,zpe,zpf,zpg,zph,zpi,zpj,zpk,zpl,zpm,zpn,zpo,zpp, k0, hs]; rfl) ?_
   refine Zr rfl (by simp (maxSteps := 2000000) only [gs,zlr,reduceIte,reduceCtorEq,zpa,zpb,zpc,zpd,zpe,zpf,zpg,zph,zpi,zpj,zpk,zpl,zpm,zpn,zpo,zpp, k2, hw]; rfl) ?_
   refine Za rfl ⟨rfl, x / 2 ^ 8, n + 8, by simp [GEnv.get], by simp [GEnv.get], by omega, ?_⟩
   rw [hn, nb_shift (v := x) (s := 8) (by omega)]; omega
  ·exact Za rfl ⟨rfl, x, n, by simp [GEnv.get, k0], by simp [GEnv.get, k2], by omega, hn⟩
 rintro env h ⟨rfl, x, n, k0, k2, hx, hn⟩
 have hnb := nb_bound (v := v) (n := 64) hv
 have hc : IntKind.u8.wrap (x : Int) = (x : Int) := by rw [wrap_u8_nat, Nat.mod_eq_of_lt hx]
 have x0 : ((0 : Int) ≤ (x : Int)) = True := eq_true (by omega)
 have hw1 : IntKind.i64.wrap ((nb x : Nat) : Int) = ((nb x : Nat) : Int) := wrap_i64_nat (by omega)
 have hw2 : IntKind.i64.wrap ((n : Int) + ((nb x : Nat) : Int)) = ((nb v : Nat) : Int) := by rw [hn]; exact wrap_i64_nat (n := n + nb x) (by omega)
 exact Zr rfl (by simp (maxSteps := 2000000) only [gs,zlr,reduceIte,reduceCtorEq,zpa,zpb,zpc,zpd,zpe,zpf,zpg,zph,zpi,zpj,zpk,zpl,zpm,zpn,zpo,zpp, k0, k2, hc, x0, len8 hx, hw1, hw2]; rfl) (Zq rfl ⟨_, rfl, rfl⟩)
def gbits (v : Nat) : List Bool := top 0 (nb v - 1) ++ top v (nb v)
theorem gbits_length (v : Nat) : (gbits v).length = 2 * nb v - 1 := by
 unfold gbits
 rw [List.length_append, top_length, top_length]; omega
theorem clamp_nat {n : Nat} (h : n ≤ 64) : clamp (n : Int) = n := by unfold clamp; omega
theorem gput_G {h : GH} {lo o v : Nat} {a : Option Nat} {l : List Bool} (w : WrV h o a l) (hlo : lo ≤ o) (hla : ∀ p, a = some p → lo ≤ p) (hlh : lo ≤ h.length) (hv : v < 18446744073709551616) (hl : l.length + 128 ≤ 1099511627776) :
  ∃ h' a', GF gtab fid_gamma_Put [.ptr o 0 0 0, .int .u64 v] h lo = some (.tup [], h') ∧ WrV h' o a' (l ++ gbits v) ∧ Kpw o a a' h h' := by
 by_cases h0 : v = 0
 ·subst h0
  refine ⟨h, a, fn_gamma_Put rfl ?_, by simpa [gbits, nb, top] using w, .refl⟩
  simp only [genvOf]
  refine Zr rfl (by simp (maxSteps := 2000000) only [gs,zlr,reduceIte,reduceCtorEq,zpa,zpb,zpc,zpd,zpe,zpf,zpg,zph,zpi,zpj,zpk,zpl,zpm,zpn,zpo,zpp, Int.natCast_zero]; rfl) (Zc rfl rfl (fun _ => ?_) (fun h => by cases h))
  exact Zq rfl ⟨_, rfl, rfl⟩
 ·have hnb := nb_bound (v := v) (n := 64) hv
  have hnp := nb_pos h0
  have e1 : ((nb v : Nat) : Int) - 1 = ((nb v - 1 : Nat) : Int) := by omega
  have w1 : IntKind.i64.wrap (((nb v : Nat) : Int) - 1) = ((nb v - 1 : Nat) : Int) := by rw [e1]; exact wrap_i64_nat (by omega)
  obtain ⟨h1, a1, p1, p2, p3⟩ := wput_G (n := ((nb v - 1 : Nat) : Int)) (v := 0) w hlo hla hlh (by omega) (by omega)
  rw [clamp_nat (by omega)] at p2
  have hla1 : ∀ p, a1 = some p → lo ≤ p := fun p hp => by
   rcases p3.ar with e | ⟨q, e, hq⟩
   ·exact hla p (e ▸ hp)
   ·rw [hp] at e; cases e; omega
  obtain ⟨h2, a2, q1, q2, q3⟩ := wput_G (n := ((nb v : Nat) : Int)) (v := v) p2 hlo hla1 (Nat.le_trans hlh p3.len) hv (by rw [List.length_append, top_length]; omega)
  rw [clamp_nat (by omega), List.append_assoc] at q2
  refine ⟨h2, a2, fn_gamma_Put rfl ?_, q2, p3.trans q3⟩
  simp only [genvOf]
  have hz : (((v : Nat) : Int) == 0) = false := by simp; omega
  simp only [Int.natCast_zero] at p1
  refine Zr rfl (by simp (maxSteps := 2000000) only [gs,zlr,reduceIte,reduceCtorEq,zpa,zpb,zpc,zpd,zpe,zpf,zpg,zph,zpi,zpj,zpk,zpl,zpm,zpn,zpo,zpp, hz]; rfl) (Zc rfl rfl (fun h => by cases h) (fun _ => ?_))
  refine Zr rfl (by simp (maxSteps := 2000000) only [gs,zlr,reduceIte,reduceCtorEq,zpa,zpb,zpc,zpd,zpe,zpf,zpg,zph,zpi,zpj,zpk,zpl,zpm,zpn,zpo,zpp, gc_math_bits_Len64, len64_G hv]; rfl) ?_
  refine Zr rfl (by simp (maxSteps := 2000000) only [gs,zlr,reduceIte,reduceCtorEq,zpa,zpb,zpc,zpd,zpe,zpf,zpg,zph,zpi,zpj,zpk,zpl,zpm,zpn,zpo,zpp, w1, gc_bits_Writer_Put, p1]; rfl) ?_
  refine Zr rfl (by simp (maxSteps := 2000000) only [gs,zlr,reduceIte,reduceCtorEq,zpa,zpb,zpc,zpd,zpe,zpf,zpg,zph,zpi,zpj,zpk,zpl,zpm,zpn,zpo,zpp, gc_bits_Writer_Put, q1]; rfl) (Zq rfl ⟨_, rfl, rfl⟩)
end Go.Ab
namespace Go.Ab
open Go
open Nat renaming reduceEqDiff → zpa, reduceLT → zpb, reduceAdd → zpc, reduceSub → zpd, reduceLeDiff → zpe, reduceMul → zpf
open Int renaming reduceToNat → zpg, reduceLT → zph, reduceLE → zpi, reduceEq → zpj, reduceNe → zpk, reduceBEq → zpl, reduceBNe → zpm, reduceAdd → zpn, reduceSub → zpo, reduceNeg → zpp
open List renaming replicate → zlr
set_option linter.unusedVariables false
set_option linter.unusedSimpArgs false
set_option maxRecDepth 10000
def gt (bs : List Nat) (p : Nat) : Nat → Nat → Option (Nat × Nat)
 | 0, _ => none
 | f + 1, i => if p + i + 1 ≤ 8 * bs.length then (if rbit bs (p + i) = true then (if p + i + 1 + i ≤ 8 * bs.length then some (2 ^ i ||| rnum bs (p + i + 1) i, p + i + 1 + i) else none) else gt bs p f (i + 1)) else none
theorem clamp1 : clamp 1 = 1 := rfl
theorem rnum1 (bs : List Nat) (n : Nat) : rnum bs n 1 = (rbit bs n).toNat := by simp [rnum]
theorem set_app {h : GH} {o : Nat} {x y : GObj} (ho : o < h.length) : (h ++ [x]).set o y = h.set o y ++ [x] := by rw [List.set_append_left _ _ ho]
theorem shl1_pow {i : Nat} (h : i < 64) : IntKind.u64.wrap (1 * 2 ^ min i IntKind.u64.bits) = ((2 ^ i : Nat) : Int) := by
 have := shl_u64 (a := 1) (s := i)
 have h2 : 2 ^ i < 18446744073709551616 := Nat.lt_of_lt_of_le (Nat.pow_lt_pow_right (a := 2) (by omega) h) (Nat.le_refl _)
 rw [Nat.one_mul, Nat.mod_eq_of_lt h2] at this
 exact this
def gtR (h : GH) (o : Nat) (bs : List Nat) (p : Nat) : Option (Nat × Nat) → Option (U × GH)
 | some (v, q) => some (.tup [.int .u64 (v : Int), .bool true], h.set o (rdBox bs q) ++ [rdBox bs p])
 | none => some (.tup [.int .u64 0, .bool false], h ++ [rdBox bs p])
set_option maxHeartbeats 1000000 in
theorem gtake_G {h : GH} {lo o p : Nat} {bs : List Nat} (k : h[o]? = some (rdBox bs p)) (hb : ∀ b ∈ bs, b < 256) (hl : bs.length ≤ 1099511627776) (hp : p ≤ 8 * bs.length) (hlo : lo ≤ o) :
  GF gtab fid_gamma_Take [.ptr o 0 0 0] h lo = gtR h o bs p (gt bs p 64 0) := by
 obtain ⟨R, hR⟩ : ∃ R, R = gt bs p 64 0 := ⟨_, rfl⟩
 rw [← hR]
 have ho := get_lt k
 have hlo' := eq_true hlo
 have hlh : (lo ≤ h.length) = True := eq_true (by omega)
 obtain ⟨w, h', e⟩ : ∃ w h', gtR h o bs p R = some (w, h') := by
  cases R with
  | none => exact ⟨_, _, rfl⟩
  | some r => exact ⟨_, _, rfl⟩
 rw [e]
 have k' := k
 unfold rdBox at k'
 refine fn_gamma_Take rfl ?_
 simp only [genvOf]
 refine Zr rfl (by simp (maxSteps := 2000000) only [gs,zlr,reduceIte,reduceCtorEq,zpa,zpb,zpc,zpd,zpe,zpf,zpg,zph,zpi,zpj,zpk,zpl,zpm,zpn,zpo,zpp]; rfl) ?_
 refine Zr rfl (by simp (maxSteps := 2000000) only [gs,zlr,reduceIte,reduceCtorEq,zpa,zpb,zpc,zpd,zpe,zpf,zpg,zph,zpi,zpj,zpk,zpl,zpm,zpn,zpo,zpp]; rfl) (Zc rfl rfl (fun h => by cases h) (fun _ => ?_))
 refine Zr rfl (by simp (maxSteps := 2000000) only [gs,zlr,reduceIte,reduceCtorEq,zpa,zpb,zpc,zpd,zpe,zpf,zpg,zph,zpi,zpj,zpk,zpl,zpm,zpn,zpo,zpp, k', app_eq, app_set, hlh]; rfl) ?_
 refine Zr rfl (by simp (maxSteps := 2000000) only [gs,zlr,reduceIte,reduceCtorEq,zpa,zpb,zpc,zpd,zpe,zpf,zpg,zph,zpi,zpj,zpk,zpl,zpm,zpn,zpo,zpp]; rfl) ?_
 have hne : h.length ≠ o := by omega
 have hgo : ∀ (x y : GObj), (h.set o x ++ [y])[o]? = some x := fun x y => by rw [app_lt (by simpa using ho), set_eq ho]
 have hgn : ∀ (x y : GObj), (h.set o x ++ [y])[h.length]? = some y := fun x y => by
  have : h.length = (h.set o x).length := by simp
  rw [this, app_eq]
 have hss : ∀ (x y z : GObj), (h.set o x ++ [y]).set o z = h.set o z ++ [y] := fun x y z => by rw [set_app (by simpa using ho), List.set_set]
 refine Zw rfl (fun m env h1 => ∃ i : Nat, i ≤ 64 ∧ p + i ≤ 8 * bs.length ∧ h1 = h.set o (rdBox bs (p + i)) ++ [rdBox bs p] ∧ GEnv.get env 0 = .ptr o 0 0 0 ∧ GEnv.get env 4 = .ptr h.length 0 0 0 ∧ GEnv.get env 14 = .int .i64 (i : Int) ∧ gt bs p (64 - i) i = R ∧ m + i = 64) 64 ⟨0, by omega, hp, by rw [Nat.add_zero, gset_same k]; rfl, rfl, rfl, rfl, hR.symm, rfl⟩ ?_
 rintro m env h1 ⟨i, hi64, hpi, rfl, k0, k4, k14, hg, hm⟩
 simp only [GEnv.keep, k0, k4, k14]
 have hld : ∀ (q : Nat), (h.set o (rdBox bs q) ++ [rdBox bs p])[h.length]? = some (.box [.list false 1 (un .u8 bs), .int .i64 (p : Int)]) := fun q => hgn _ _
 have hlo2 : ∀ (q : Nat), (h.set o (rdBox bs q) ++ [rdBox bs p])[o]? = some (.box [.list false 1 (un .u8 bs), .int .i64 (q : Int)]) := fun q => hgo _ _
 have hback : ∀ q : Nat, (h.set o (rdBox bs q) ++ [rdBox bs p]).set o (.box [.list false 1 (un .u8 bs), .int .i64 (p : Int)]) = h ++ [rdBox bs p] := fun q => by
  rw [hss]
  have : h.set o (.box [.list false 1 (un .u8 bs), .int .i64 (p : Int)]) = h := gset_same k
  rw [this]
 refine Zr rfl (by simp (maxSteps := 2000000) only [gs,zlr,reduceIte,reduceCtorEq,zpa,zpb,zpc,zpd,zpe,zpf,zpg,zph,zpi,zpj,zpk,zpl,zpm,zpn,zpo,zpp]; rfl) (Zp rfl rfl (fun hi => ?_) (fun hi => ?_))
 ·have hi' : i < 64 := by omega
  rw [show 64 - i = (64 - (i + 1)) + 1 by omega, gt] at hg
  refine Zr rfl (by simp (maxSteps := 2000000) only [gs,zlr,reduceIte,reduceCtorEq,zpa,zpb,zpc,zpd,zpe,zpf,zpg,zph,zpi,zpj,zpk,zpl,zpm,zpn,zpo,zpp]; rfl) ?_
  by_cases c1 : p + i + 1 ≤ 8 * bs.length
  ·rw [if_pos c1] at hg
   have T1 := take_G (lo := lo) (c := 1) (n := p + i) (hgo (rdBox bs (p + i)) (rdBox bs p)) hb hl c1 hlo
   rw [clamp1, rnum1, hss] at T1
   refine Zr rfl (by simp (maxSteps := 2000000) only [gs,zlr,reduceIte,reduceCtorEq,zpa,zpb,zpc,zpd,zpe,zpf,zpg,zph,zpi,zpj,zpk,zpl,zpm,zpn,zpo,zpp, gc_bits_Reader_Take, T1]; rfl) ?_
   refine Zr rfl (by simp (maxSteps := 2000000) only [gs,zlr,reduceIte,reduceCtorEq,zpa,zpb,zpc,zpd,zpe,zpf,zpg,zph,zpi,zpj,zpk,zpl,zpm,zpn,zpo,zpp]; rfl) (Zc rfl rfl (fun h => by cases h) (fun _ => ?_))
   cases hbit : rbit bs (p + i) with
   | false =>
    rw [hbit, if_neg (by simp)] at hg
    refine Zr rfl (by simp (maxSteps := 2000000) only [gs,zlr,reduceIte,reduceCtorEq,zpa,zpb,zpc,zpd,zpe,zpf,zpg,zph,zpi,zpj,zpk,zpl,zpm,zpn,zpo,zpp, Bool.toNat_false]; rfl) (Zc rfl rfl (fun _ => ?_) (fun h => by cases h))
    have hinc : IntKind.i64.wrap ((i : Int) + 1) = ((i + 1 : Nat) : Int) := up64 (by omega)
    refine Zr rfl (by simp (maxSteps := 2000000) only [gs,zlr,reduceIte,reduceCtorEq,zpa,zpb,zpc,zpd,zpe,zpf,zpg,zph,zpi,zpj,zpk,zpl,zpm,zpn,zpo,zpp, hinc]; rfl) ?_
    exact Za rfl ⟨m - 1, by omega, i + 1, by omega, by omega, rfl, rfl, rfl, rfl, hg, by omega⟩
   | true =>
    rw [hbit, if_pos rfl] at hg
    refine Zr rfl (by simp (maxSteps := 2000000) only [gs,zlr,reduceIte,reduceCtorEq,zpa,zpb,zpc,zpd,zpe,zpf,zpg,zph,zpi,zpj,zpk,zpl,zpm,zpn,zpo,zpp, Bool.toNat_true]; rfl) (Zc rfl rfl (fun h => by cases h) (fun _ => ?_))
    by_cases c2 : p + i + 1 + i ≤ 8 * bs.length
    ·rw [if_pos c2] at hg
     have T2 := take_G (lo := lo) (c := (i : Int)) (n := p + i + 1) (hgo (rdBox bs (p + i + 1)) (rdBox bs p)) hb hl (by rw [clamp_nat (by omega)]; exact c2) hlo
     rw [clamp_nat (by omega), hss] at T2
     have hsl := shl1_pow hi'
     have n0 : ((i : Int) < 0) = False := eq_false (by omega)
     have p1 : 2 ^ i < 18446744073709551616 := Nat.lt_of_lt_of_le (Nat.pow_lt_pow_right (a := 2) (by omega) hi') (Nat.le_refl _)
     have p2 : rnum bs (p + i + 1) i < 18446744073709551616 := Nat.lt_trans (rnum_lt _ _ _) p1
     have hor := or_u64 p1 p2
     refine Zr rfl (by simp (maxSteps := 2000000) only [gs,zlr,reduceIte,reduceCtorEq,zpa,zpb,zpc,zpd,zpe,zpf,zpg,zph,zpi,zpj,zpk,zpl,zpm,zpn,zpo,zpp, gc_bits_Reader_Take, T2]; rfl) ?_
     refine Zr rfl (by simp (maxSteps := 2000000) only [gs,zlr,reduceIte,reduceCtorEq,zpa,zpb,zpc,zpd,zpe,zpf,zpg,zph,zpi,zpj,zpk,zpl,zpm,zpn,zpo,zpp]; rfl) (Zc rfl rfl (fun h => by cases h) (fun _ => ?_))
     subst hg
     simp only [gtR, Option.some.injEq, Prod.mk.injEq] at e
     obtain ⟨rfl, rfl⟩ := e
     exact Zr rfl (by simp (maxSteps := 2000000) only [gs,zlr,reduceIte,reduceCtorEq,zpa,zpb,zpc,zpd,zpe,zpf,zpg,zph,zpi,zpj,zpk,zpl,zpm,zpn,zpo,zpp, n0, hsl, hor]; rfl) (Zq rfl ⟨_, rfl, rfl⟩)
    ·rw [if_neg c2] at hg
     subst hg
     simp only [gtR, Option.some.injEq, Prod.mk.injEq] at e
     obtain ⟨rfl, rfl⟩ := e
     have T2 := takeNo_G (lo := lo) (c := (i : Int)) (n := p + i + 1) (hgo (rdBox bs (p + i + 1)) (rdBox bs p)) hl (by omega) (by rw [clamp_nat (by omega)]; omega)
     refine Zr rfl (by simp (maxSteps := 2000000) only [gs,zlr,reduceIte,reduceCtorEq,zpa,zpb,zpc,zpd,zpe,zpf,zpg,zph,zpi,zpj,zpk,zpl,zpm,zpn,zpo,zpp, gc_bits_Reader_Take, T2]; rfl) ?_
     refine Zr rfl (by simp (maxSteps := 2000000) only [gs,zlr,reduceIte,reduceCtorEq,zpa,zpb,zpc,zpd,zpe,zpf,zpg,zph,zpi,zpj,zpk,zpl,zpm,zpn,zpo,zpp]; rfl) (Zc rfl rfl (fun _ => ?_) (fun h => by cases h))
     refine Zr rfl (by simp (maxSteps := 2000000) only [gs,zlr,reduceIte,reduceCtorEq,zpa,zpb,zpc,zpd,zpe,zpf,zpg,zph,zpi,zpj,zpk,zpl,zpm,zpn,zpo,zpp, hld, hlo2, hlo', hback]; rfl) ?_
     exact Zr rfl (by simp (maxSteps := 2000000) only [gs,zlr,reduceIte,reduceCtorEq,zpa,zpb,zpc,zpd,zpe,zpf,zpg,zph,zpi,zpj,zpk,zpl,zpm,zpn,zpo,zpp]; rfl) (Zq rfl ⟨_, rfl, rfl⟩)
  ·rw [if_neg c1] at hg
   subst hg
   simp only [gtR, Option.some.injEq, Prod.mk.injEq] at e
   obtain ⟨rfl, rfl⟩ := e
   have T1 := takeNo_G (lo := lo) (c := 1) (n := p + i) (hgo (rdBox bs (p + i)) (rdBox bs p)) hl (by omega) (by rw [clamp1]; omega)
   refine Zr rfl (by simp (maxSteps := 2000000) only [gs,zlr,reduceIte,reduceCtorEq,zpa,zpb,zpc,zpd,zpe,zpf,zpg,zph,zpi,zpj,zpk,zpl,zpm,zpn,zpo,zpp, gc_bits_Reader_Take, T1]; rfl) ?_
   refine Zr rfl (by simp (maxSteps := 2000000) only [gs,zlr,reduceIte,reduceCtorEq,zpa,zpb,zpc,zpd,zpe,zpf,zpg,zph,zpi,zpj,zpk,zpl,zpm,zpn,zpo,zpp]; rfl) (Zc rfl rfl (fun _ => ?_) (fun h => by cases h))
   refine Zr rfl (by simp (maxSteps := 2000000) only [gs,zlr,reduceIte,reduceCtorEq,zpa,zpb,zpc,zpd,zpe,zpf,zpg,zph,zpi,zpj,zpk,zpl,zpm,zpn,zpo,zpp, hld, hlo2, hlo', hback]; rfl) ?_
   exact Zr rfl (by simp (maxSteps := 2000000) only [gs,zlr,reduceIte,reduceCtorEq,zpa,zpb,zpc,zpd,zpe,zpf,zpg,zph,zpi,zpj,zpk,zpl,zpm,zpn,zpo,zpp]; rfl) (Zq rfl ⟨_, rfl, rfl⟩)
 ·have : i = 64 := by omega
  subst this
  simp only [Nat.sub_self, gt] at hg
  subst hg
  simp only [gtR, Option.some.injEq, Prod.mk.injEq] at e
  obtain ⟨rfl, rfl⟩ := e
  refine Zr rfl (by simp (maxSteps := 2000000) only [gs,zlr,reduceIte,reduceCtorEq,zpa,zpb,zpc,zpd,zpe,zpf,zpg,zph,zpi,zpj,zpk,zpl,zpm,zpn,zpo,zpp, hld, hlo2, hlo', hback]; rfl) ?_
  exact Zr rfl (by simp (maxSteps := 2000000) only [gs,zlr,reduceIte,reduceCtorEq,zpa,zpb,zpc,zpd,zpe,zpf,zpg,zph,zpi,zpj,zpk,zpl,zpm,zpn,zpo,zpp]; rfl) (Zq rfl ⟨_, rfl, rfl⟩)
theorem gt_packed {bs : List Nat} {pre post : List Bool} {v : Nat} (h : Packed bs (pre ++ gbits v ++ post)) (hv : v ≠ 0) (hv2 : v < 18446744073709551616) : gt bs pre.length 64 0 = some (v, (pre ++ gbits v).length) := by
 have hnb := nb_bound (v := v) (n := 64) hv2
 have hnp := nb_pos hv
 obtain ⟨k, hk⟩ : ∃ k, nb v = k + 1 := ⟨nb v - 1, by omega⟩
 have hle := nb_le hv
 have hlt := nb_lt v
 rw [hk] at hle hlt
 rw [show k + 1 - 1 = k by omega] at hle
 have hg : gbits v = top 0 k ++ (true :: top v k) := by
  unfold gbits
  rw [hk, show k + 1 - 1 = k by omega, top]
  have : v.testBit k = true := by
   rw [Nat.testBit_eq_decide_div_mod_eq]
   have : v / 2 ^ k = 1 := by
    have h1 := (Nat.le_div_iff_mul_le (Nat.two_pow_pos k)).2 (by rw [Nat.one_mul]; exact hle)
    have h2 := (Nat.div_lt_iff_lt_mul (Nat.two_pow_pos k)).2 (show v < 2 * 2 ^ k by rw [Nat.pow_succ] at hlt; omega)
    omega
   rw [this]; rfl
  rw [this]
 have hlen := h.len
 simp only [List.length_append, gbits_length, hk] at hlen
 have h8 : pre.length + (2 * k + 1) ≤ 8 * bs.length := by omega
 have bitAt : ∀ i, i < (gbits v).length → rbit bs (pre.length + i) = (gbits v).getD i false := fun i hi => by
  rw [h.rbit, List.getD_eq_getElem?_getD, List.append_assoc, List.getElem?_append_right (by omega), List.getElem?_append_left (by omega), Nat.add_sub_cancel_left, ← List.getD_eq_getElem?_getD]
 have hgl : (gbits v).length = 2 * k + 1 := by rw [gbits_length, hk]; omega
 have zero : ∀ i, i < k → rbit bs (pre.length + i) = false := fun i hi => by
  rw [bitAt i (by omega), hg, List.getD_eq_getElem?_getD, List.getElem?_append_left (by rw [top_length]; exact hi), top_get 0 k i hi]
  simp
 have one : rbit bs (pre.length + k) = true := by
  rw [bitAt k (by omega), hg, List.getD_eq_getElem?_getD, List.getElem?_append_right (by rw [top_length]; omega), top_length, Nat.sub_self]
  rfl
 have hrest : rnum bs (pre.length + k + 1) k = v % 2 ^ k := by
  have h2 : Packed bs ((pre ++ top 0 k ++ [true]) ++ top v k ++ post) := by
   rw [hg] at h
   simpa using h
  have := rnum_packed h2
  rw [show (pre ++ top 0 k ++ [true]).length = pre.length + k + 1 by simp [top_length]; omega] at this
  exact this
 have hval : 2 ^ k ||| v % 2 ^ k = v := by
  have h1 := or_high2 (a := v % 2 ^ k) (b := 1) (k := k) (Nat.mod_lt _ (Nat.two_pow_pos k))
  rw [Nat.one_mul] at h1
  rw [Nat.or_comm, h1]
  have h2 : v / 2 ^ k = 1 := by
   have h1 := (Nat.le_div_iff_mul_le (Nat.two_pow_pos k)).2 (by rw [Nat.one_mul]; exact hle)
   have h2 := (Nat.div_lt_iff_lt_mul (Nat.two_pow_pos k)).2 (show v < 2 * 2 ^ k by rw [Nat.pow_succ] at hlt; omega)
   omega
  have h3 := Nat.mod_add_div v (2 ^ k)
  rw [h2, Nat.mul_one] at h3
  exact h3
 have key : ∀ j, j ≤ k → gt bs pre.length (64 - (k - j)) (k - j) = some (v, (pre ++ gbits v).length) := by
  intro j
  induction j with
  | zero =>
   intro _
   rw [Nat.sub_zero, show 64 - k = (63 - k) + 1 by omega, gt, if_pos (by omega), if_pos one, if_pos (by omega), hrest, hval, List.length_append, hgl]
   simp only [Option.some.injEq, Prod.mk.injEq, true_and]
   omega
  | succ j ih =>
   intro hj
   have e1 : k - j = k - (j + 1) + 1 := by omega
   have := ih (by omega)
   rw [show 64 - (k - (j + 1)) = (64 - (k - j)) + 1 by omega, gt, if_pos (by omega), if_neg (by rw [zero _ (by omega)]; simp), ← e1]
   exact this
 have := key k (Nat.le_refl _)
 rw [Nat.sub_self] at this
 exact this
end Go.Ab
