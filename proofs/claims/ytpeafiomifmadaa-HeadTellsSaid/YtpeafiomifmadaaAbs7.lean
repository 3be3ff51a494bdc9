/- The abstract machine's single operations stand for the program's. Part 4: numbers, texts, slices, addresses. -/
import Derived.Test.YtpeafiomifmadaaAbs6
import Derived.OpenShut
namespace Go.Ab
open Go
set_option linter.unusedVariables false
set_option linter.unusedSimpArgs false
def Runs (P : Program) (w : World) (φ : Phi) (s : Sem Value) (v : V) : Prop := ∃ u, s.run P w = .ok u w ∧ VR φ v u
theorem VR_int {φ : Phi} {k : IntKind} {n : Int} (h1 : k.min ≤ n) (h2 : n ≤ k.max) : VR φ (.int k n) (.int k n) := by
 simp only [VR, true_and]; exact ⟨h1, h2⟩
theorem VR_wrap {φ : Phi} (k : IntKind) (n : Int) : VR φ (.int k (k.wrap n)) (.int k (k.wrap n)) := by
 have := wf_wrap k n
 simp only [Lit.wf, Bool.and_eq_true, decide_eq_true_eq] at this
 exact VR_int this.1 this.2
theorem VR_bool {φ : Phi} (b : Bool) : VR φ (.bool b) (.bool b) := by simp only [VR]
theorem VR_goInt {φ : Phi} {n : Nat} (h : n ≤ maxI) : VR φ (.int .i64 n) (goInt n) := by
 unfold goInt; unfold maxI at h
 refine VR_int ?_ ?_
 ·have : IntKind.i64.min = -9223372036854775808 := by decide
  rw [this]; omega
 ·have : IntKind.i64.max = 9223372036854775807 := by decide
  rw [this]; omega
theorem VR_tmod {φ : Phi} {k : IntKind} {a b : Int} (h1 : k.min ≤ a) (h2 : a ≤ k.max) : VR φ (.int k (a.tmod b)) (.int k (a.tmod b)) := by
 have hm : (a.tmod b).natAbs ≤ a.natAbs := by
  rw [Int.natAbs_tmod]; exact Nat.mod_le _ _
 have hs : 0 ≤ a → 0 ≤ a.tmod b := fun h => Int.tmod_nonneg b h
 have hs2 : a ≤ 0 → a.tmod b ≤ 0 := fun h => by
  have := Int.tmod_nonneg b (a := -a) (by omega)
  rw [Int.neg_tmod] at this; omega
 have hmin : k.min ≤ 0 := by cases k <;> decide
 have hmax : 0 ≤ k.max := by cases k <;> decide
 refine VR_int ?_ ?_
 ·by_cases h : 0 ≤ a
  ·have := hs h; omega
  ·omega
 ·by_cases h : 0 ≤ a
  ·omega
  ·have := hs2 (by omega); omega
theorem VR_shr {φ : Phi} {k : IntKind} {a : Int} (n : Nat) (h1 : k.min ≤ a) (h2 : a ≤ k.max) : VR φ (.int k (a.fdiv (2 ^ n))) (.int k (a.fdiv (2 ^ n))) := by
 have hp : (0 : Int) < 2 ^ n := Int.pow_pos (by omega)
 have hmin : k.min ≤ 0 := by cases k <;> decide
 have hmax : 0 ≤ k.max := by cases k <;> decide
 have e : a.fdiv (2 ^ n) = a / (2 ^ n) := Int.fdiv_eq_ediv_of_nonneg _ (by omega)
 rw [e]
 refine VR_int ?_ ?_
 ·rw [Int.le_ediv_iff_mul_le hp]
  have : k.min * 2 ^ n ≤ k.min * 1 := Int.mul_le_mul_of_nonpos_left hmin (by omega)
  omega
 ·have : a / 2 ^ n ≤ k.max / 1 := by
   refine Int.le_trans (Int.ediv_le_ediv hp h2) ?_
   rw [Int.ediv_one]
   exact Int.ediv_le_self _ hmax
  simpa using this
theorem intOp_sound {P : Program} {w : World} {φ : Phi} {op : BinOp} {k : IntKind} {a b : Int} {v : V} (ha : VR φ (.int k a) (.int k a)) (t : TypeId) (x y : Operand) (ho : ∀ h : op = .shl ∨ op = .shr, False) (h : intOp op k a b = some v) :
  Runs P w φ (do eqGuard op t x y (.int k a) (.int k b); binOp op t (.int k a) (.int k b)) v := by
 simp only [VR, true_and] at ha
 unfold Runs
 simp only [eqGuard_at_int, Sem.run_bind, Sem.run_pure, Result.andThen_ok]
 cases op <;> simp only [intOp, bitsOf, Option.map_some, Option.some.injEq, Option.map_none, reduceCtorEq] at h
 case quo =>
  split at h
  ·cases h
  ·rename_i hb; cases h
   exact ⟨_, by simp [binOp, Op.intDiv, hb], VR_wrap _ _⟩
 case rem =>
  split at h
  ·cases h
  ·rename_i hb; cases h
   exact ⟨_, by simp [binOp, Op.intDiv, hb], VR_tmod ha.1 ha.2⟩
 all_goals
  subst h
  refine ⟨_, by simp only [binOp, ne_eq, not_true_eq_false, if_false, Op.intArith, Op.intBits, Op.intCmp]; rfl, ?_⟩
  first | exact VR_wrap _ _ | exact VR_bool _
theorem shiftOp_sound {P : Program} {w : World} {φ : Phi} {op : BinOp} {k j : IntKind} {a b : Int} {v : V} (ha : VR φ (.int k a) (.int k a)) (t : TypeId) (x y : Operand) (h : shiftOp op k a b = some v) :
  Runs P w φ (do eqGuard op t x y (.int k a) (.int j b); binOp op t (.int k a) (.int j b)) v := by
 simp only [VR, true_and] at ha
 unfold shiftOp at h
 split at h
 ·cases h
 ·rename_i hb
  unfold Runs
  simp only [eqGuard_at_int, Sem.run_bind, Sem.run_pure, Result.andThen_ok]
  cases op <;> simp only [reduceCtorEq, Option.some.injEq] at h
  case shl => subst h; exact ⟨_, by simp [binOp, Op.shift, hb] <;> rfl, VR_wrap _ _⟩
  case shr => subst h; exact ⟨_, by simp [binOp, Op.shift, hb] <;> rfl, VR_shr _ ha.1 ha.2⟩
def ints (l : List UInt8) : List Int := l.map fun b => (b.toNat : Int)
theorem ints_inj : ∀ {a b : List UInt8}, ints a = ints b → a = b
 | [], [], _ => rfl
 | [], _ :: _, h => by cases h
 | _ :: _, [], h => by cases h
 | x :: a, y :: b, h => by
  simp only [ints, List.map_cons, List.cons.injEq] at h
  have hx : x = y := UInt8.toNat_inj.1 (by omega)
  rw [hx, ints_inj h.2]
theorem ints_beq (a b : List UInt8) : (ints a == ints b) = (a == b) := by
 rw [Bool.eq_iff_iff]
 simp only [beq_iff_eq]
 exact ⟨ints_inj, fun h => by rw [h]⟩
theorem intsLess_ints : ∀ (a b : List UInt8), intsLess (ints a) (ints b) = Op.bytesLess a b
 | [], [] => rfl
 | _ :: _, [] => rfl
 | [], _ :: _ => rfl
 | x :: a, y :: b => by
  have ih := intsLess_ints a b
  simp only [ints, List.map_cons, intsLess, Op.bytesLess] at ih ⊢
  rw [ih]
  have e1 : decide ((x.toNat : Int) < (y.toNat : Int)) = decide (x < y) := by
   rw [decide_eq_decide, UInt8.lt_iff_toNat_lt]; omega
  have e2 : decide ((x.toNat : Int) = (y.toNat : Int)) = (x == y) := by
   rw [Bool.eq_iff_iff]; simp only [decide_eq_true_eq, beq_iff_eq, ← UInt8.toNat_inj]; omega
  rw [e1, e2]
theorem strOp_sound {P : Program} {w : World} {φ : Phi} {op : BinOp} {a b : List Int} {v : V} {cx cy : Value} (ha : VR φ (.str a) cx) (hb : VR φ (.str b) cy) (t : TypeId) (x y : Operand) (h : strOp op a b = some v) :
  Runs P w φ (do eqGuard op t x y cx cy; binOp op t cx cy) v := by
 simp only [VR] at ha hb
 obtain ⟨s, rfl, rfl, hl⟩ := ha
 obtain ⟨r, rfl, rfl, hl'⟩ := hb
 unfold Runs
 simp only [eqGuard_at_string, Sem.run_bind, Sem.run_pure, Result.andThen_ok]
 have e1 : ((s.data.toList.map fun b => (b.toNat : Int)) == (r.data.toList.map fun b => (b.toNat : Int))) = (s.toList == r.toList) := by
  rw [ByteArray.toList_eq, ByteArray.toList_eq]; exact ints_beq _ _
 have e2 : intsLess (s.data.toList.map fun b => (b.toNat : Int)) (r.data.toList.map fun b => (b.toNat : Int)) = Op.bytesLess s.toList r.toList := by
  rw [ByteArray.toList_eq, ByteArray.toList_eq]; exact intsLess_ints _ _
 cases op <;> simp only [strOp, reduceCtorEq, Option.some.injEq, e1, e2] at h
 case add =>
  split at h
  ·rename_i hsz
   cases h
   simp only [List.length_map, Array.length_toList] at hsz
   refine ⟨.string (s ++ r), ?_, ?_⟩
   ·simp only [binOp, Op.stringOp]
    rw [if_neg]
    ·rfl
    ·have h1 : s.data.size = s.size := rfl
     have h2 : r.data.size = r.size := rfl
     have : IntKind.i64.max = 9223372036854775807 := by decide
     rw [this]; omega
   ·simp only [VR]
    refine ⟨_, rfl, ?_, ?_⟩
    ·rw [ByteArray.data_append, Array.toList_append, List.map_append]
    ·simp only [List.length_append, List.length_map, Array.length_toList]; unfold maxI; omega
  ·cases h
 all_goals
  subst h
  exact ⟨_, by simp [binOp, Op.stringOp] <;> rfl, VR_bool _⟩
theorem bin_sound {P : Program} {w : World} {φ : Phi} {op : BinOp} {xv yv v : V} {cx cy : Value} (hx : VR φ xv cx) (hy : VR φ yv cy) (t : TypeId) (x y : Operand) (h : V.bin op xv yv = some v) :
  Runs P w φ (do eqGuard op t x y cx cy; binOp op t cx cy) v := by
 unfold V.bin at h
 split at h
 ·rename_i k a j b
  have hx' := hx
  simp only [VR] at hx hy
  obtain ⟨rfl, _⟩ := hx
  obtain ⟨rfl, _⟩ := hy
  split at h
  ·exact shiftOp_sound hx' t x y h
  ·exact shiftOp_sound hx' t x y h
  ·rename_i h1 h2
   split at h
   ·rename_i hkj; subst hkj
    exact intOp_sound hx' t x y (fun e => by rcases e with e | e; exact h1 e; exact h2 e) h
   ·cases h
 ·exact strOp_sound hx hy t x y h
 ·cases h
theorem un_sound {P : Program} {w : World} {φ : Phi} {op : UnOp} {xv v : V} {cx : Value} (hx : VR φ xv cx) (h : V.un op xv = some v) : Runs P w φ (Op.unary op cx) v := by
 unfold V.un at h
 split at h
 ·cases h
  simp only [VR] at hx; obtain ⟨rfl, _⟩ := hx
  exact ⟨_, rfl, VR_wrap _ _⟩
 ·simp only [VR] at hx; obtain ⟨rfl, _⟩ := hx
  simp only [bitsOf, Option.map_some, Option.some.injEq] at h; subst h
  exact ⟨_, rfl, VR_wrap _ _⟩
 ·cases h
  simp only [VR] at hx; subst hx
  exact ⟨_, rfl, VR_bool _⟩
 ·cases h
def OptR (o : Option Value) : Option Int → Prop
 | none => o = none
 | some n => ∃ k, o = some (.int k n)
theorem optInt_VR {φ : Phi} {x : Option Opd} {env : Env} {a : Act} {o : Option Operand} (hE : ER φ env a.tmps) (ho : opdOf? o = some x) {r : Option Int} (h : optInt (x.map (·.ev env)) = some r) : OptR (o.map a.eval) r := by
 cases o with
 | none =>
  simp only [opdOf?, Option.some.injEq] at ho; subst ho
  simp only [Option.map_none, optInt, Option.some.injEq] at h; subst h; rfl
 | some y =>
  simp only [opdOf?, Option.map_eq_some_iff] at ho
  obtain ⟨z, hz, rfl⟩ := ho
  have hv := opdOf_VR hE hz
  simp only [Option.map_some] at h ⊢
  generalize z.ev env = zv at h hv
  cases zv <;> simp only [optInt, Option.some.injEq, reduceCtorEq] at h
  subst h
  simp only [VR] at hv
  obtain ⟨hv, _⟩ := hv
  exact ⟨_, by rw [hv]⟩
theorem run_sliceBound {P : Program} {w : World} {k : IntKind} {n : Int} {m : Nat} {c : BoundsCode} (h0 : 0 ≤ n) (h1 : n ≤ m) : (Instr.sliceBound (.int k n) m c).run P w = .ok n.toNat w := by
 simp only [Instr.sliceBound, asIntOf, Sem.run_bind, Sem.run_pure, Result.andThen_ok]
 rw [if_pos ⟨h0, h1⟩]; rfl
theorem run_sliceBounds2 {P : Program} {w : World} {sl : Bool} {ln cap : Nat} {lo hi : Option Value} {l h : Int} (hl : lo = none ∧ l = 0 ∨ ∃ k, lo = some (.int k l)) (hh : hi = none ∧ h = ln ∨ ∃ k, hi = some (.int k h)) (h0 : 0 ≤ l) (h1 : l ≤ h) (h2 : h ≤ ln) (h3 : ln ≤ cap) :
  (Instr.sliceBounds sl ln cap lo hi none).run P w = .ok (l.toNat, h.toNat, cap) w := by
 rcases hh with ⟨rfl, rfl⟩ | ⟨k, rfl⟩ <;> rcases hl with ⟨rfl, rfl⟩ | ⟨k', rfl⟩ <;> unfold Instr.sliceBounds
 ·simp only [Sem.run_bind, Sem.run_pure, Result.andThen_ok]; rfl
 ·have b2 := run_sliceBound (P := P) (w := w) (k := k') (m := ln) (c := .sliceB) h0 h1
  simp only [Sem.run_bind, Sem.run_pure, Result.andThen_ok, Option.isSome_none, Bool.false_eq_true, if_false, b2]; rfl
 ·have b1 := run_sliceBound (P := P) (w := w) (k := k) (n := h) (m := cap) (c := if sl then .sliceAcap else .sliceAlen) (by omega) (by omega)
  simp only [Sem.run_bind, Sem.run_pure, Result.andThen_ok, b1]; rfl
 ·have b1 := run_sliceBound (P := P) (w := w) (k := k) (n := h) (m := cap) (c := if sl then .sliceAcap else .sliceAlen) (by omega) (by omega)
  have b2 := run_sliceBound (P := P) (w := w) (k := k') (n := l) (m := h.toNat) (c := .sliceB) h0 (by omega)
  simp only [Sem.run_bind, Sem.run_pure, Result.andThen_ok, b1, Option.isSome_none, Bool.false_eq_true, if_false, b2]
theorem run_sliceBounds3 {P : Program} {w : World} {ln cap : Nat} {lo : Option Value} {k k' : IntKind} {l h m : Int} (hl : lo = none ∧ l = 0 ∨ ∃ k, lo = some (.int k l)) (h0 : 0 ≤ l) (h1 : l ≤ h) (h2 : h ≤ m) (h3 : m ≤ cap) :
  (Instr.sliceBounds true ln cap lo (some (.int k h)) (some (.int k' m))).run P w = .ok (l.toNat, h.toNat, m.toNat) w := by
 have b0 := run_sliceBound (P := P) (w := w) (k := k') (n := m) (m := cap) (c := .slice3Acap) (by omega) h3
 have b1 := run_sliceBound (P := P) (w := w) (k := k) (n := h) (m := m.toNat) (c := .slice3B) (by omega) (by omega)
 rcases hl with ⟨rfl, rfl⟩ | ⟨k', rfl⟩ <;> unfold Instr.sliceBounds
 ·simp only [Sem.run_bind, Sem.run_pure, Result.andThen_ok, if_true, b0, b1]; rfl
 ·have b2 := run_sliceBound (P := P) (w := w) (k := k') (n := l) (m := h.toNat) (c := .slice3C) h0 (by omega)
  simp only [Sem.run_bind, Sem.run_pure, Result.andThen_ok, if_true, b0, b1, Option.isSome_some, b2]
theorem bytes_extract (s : ByteArray) (l h : Nat) (h1 : l ≤ h) (h2 : h ≤ s.size) : (s.extract l h).data.toList = cut s.data.toList l (h - l) := by
 rw [ByteArray.data_extract, Array.toList_extract]
 rfl
theorem slice_sound {P : Program} {w : World} {φ : Phi} {env : Env} {a : Act} (hE : ER φ env a.tmps) {str : Bool} {esz : Nat} {t : TypeId} {d : TypeDesc} (hu : P.underlying t = some d)
  (hd : (str = true ∧ d = .string) ∨ (str = false ∧ ∃ e i, d = .slice e ∧ P.info? e = some i ∧ i.size = esz)) {x : V} {cx : Value} (hx : VR φ x cx) {lo hi mx : Option Operand} {lo' hi' mx' : Option Opd} (hlo : opdOf? lo = some lo') (hhi : opdOf? hi = some hi') (hmx : opdOf? mx = some mx')
  {v : V} (h : V.slice str esz x (lo'.map (·.ev env)) (hi'.map (·.ev env)) (mx'.map (·.ev env)) = some v) : Runs P w φ (Instr.sliceAt t cx (lo.map a.eval) (hi.map a.eval) (mx.map a.eval)) v := by
 unfold V.slice at h
 split at h
 ·rename_i lo2 hi2 mx2 e1 e2 e3
  have k1 := optInt_VR hE hlo e1
  have k2 := optInt_VR hE hhi e2
  have k3 := optInt_VR hE hmx e3
  have hl : lo.map a.eval = none ∧ lo2.getD 0 = 0 ∨ ∃ k, lo.map a.eval = some (.int k (lo2.getD 0)) := by
   cases lo2 with
   | none => exact .inl ⟨k1, rfl⟩
   | some n => exact .inr k1
  have hh : ∀ ln : Int, hi.map a.eval = none ∧ hi2.getD ln = ln ∨ ∃ k, hi.map a.eval = some (.int k (hi2.getD ln)) := fun ln => by
   cases hi2 with
   | none => exact .inl ⟨k2, rfl⟩
   | some n => exact .inr k2
  have hat : Instr.sliceAt t cx (lo.map a.eval) (hi.map a.eval) (mx.map a.eval) = (do let d ← underlying t; match d with
    | .array n elem =>
     let a' ← Instr.sureAddr cx
     let (l, h, m) ← Instr.sliceBounds false n n (lo.map a.eval) (hi.map a.eval) (mx.map a.eval)
     let size ← sizeOf elem
     pure (.slice (some (if m = l then a' else a'.add (l * size))) (h - l) (m - l))
    | _ => Instr.slice t cx (lo.map a.eval) (hi.map a.eval) (mx.map a.eval)) := rfl
  split at h
  ·-- a text
   rename_i s
   split at h
   ·rename_i hc
    obtain ⟨hm, h0, h1, h2⟩ := hc
    cases h
    rcases hd with ⟨_, rfl⟩ | ⟨hf, _⟩
    ·simp only [VR] at hx
     obtain ⟨b, rfl, rfl, hlen⟩ := hx
     rw [hm] at k3
     simp only [List.length_map, Array.length_toList] at h1 h2
     have hsz : b.data.size = b.size := rfl
     refine ⟨.string (b.extract (lo2.getD 0).toNat (hi2.getD b.size).toNat), ?_, ?_⟩
     ·have hb := run_sliceBounds2 (P := P) (w := w) (sl := false) (ln := b.size) (cap := b.size) hl (hh b.size) h0 (by simpa [hsz] using h1) (by simpa [hsz] using h2) (Nat.le_refl _)
      rw [hat, k3]
      simp only [Sem.run_bind, run_underlying hu, Result.andThen_ok, Instr.slice, Option.isSome_none, Bool.false_eq_true, if_false, hb, Sem.run_pure]
     ·simp only [VR]
      have hle : (lo2.getD 0).toNat ≤ (hi2.getD b.size).toNat := by simp only [hsz] at h1; omega
      have hle2 : (hi2.getD b.size).toNat ≤ b.size := by simp only [hsz] at h2; omega
      refine ⟨_, rfl, ?_, ?_⟩
      ·rw [bytes_extract _ _ _ hle hle2]
       simp only [List.length_map, Array.length_toList, hsz]
       unfold cut
       rw [List.map_take, List.map_drop]
       congr 1
       omega
      ·rw [cut_length]; omega
    ·cases hf
   ·cases h
  ·-- nil
   split at h
   ·rename_i hc
    obtain ⟨hm, h1, h2⟩ := hc
    cases h
    rcases hd with ⟨hf, _⟩ | ⟨_, e, i, rfl, hi1, hi2'⟩
    ·cases hf
    ·simp only [VR] at hx; subst hx
     rw [hm] at k3
     have hb := run_sliceBounds2 (P := P) (w := w) (sl := true) (ln := 0) (cap := 0) hl (hh ((0 : Nat) : Int)) (by omega) (by simp only [Int.natCast_zero]; omega) (by simp only [Int.natCast_zero]; omega) (Nat.le_refl _)
     refine ⟨.slice none 0 0, ?_, by simp only [VR]⟩
     rw [hat, k3]
     have e1 : (lo2.getD 0).toNat = 0 := by omega
     have e2 : (hi2.getD ((0 : Nat) : Int)).toNat = 0 := by simp only [Int.natCast_zero]; omega
     rw [e1, e2] at hb
     simp only [Sem.run_bind, run_underlying hu, Result.andThen_ok, Instr.slice, hb, run_sizeOf_of w hi1, Sem.run_pure]
     rfl
   ·cases h
  ·-- a slice
   rename_i o g off ln e cap
   split at h
   ·rename_i hc
    obtain ⟨rfl, h0, h1, h2⟩ := hc
    rcases hd with ⟨hf, _⟩ | ⟨_, et, i, rfl, hi1, hisz⟩
    ·cases hf
    ·simp only [VR] at hx
     obtain ⟨L, ad, c, hL, hLe, rfl, hlc, hoff, hac, hcc, hcm⟩ := hx
     subst hisz
     split at h
     ·-- two indexes
      cases h
      have hb := run_sliceBounds2 (P := P) (w := w) (sl := true) (ln := ln) (cap := c) hl (hh ln) h0 h1 h2 hlc
      refine ⟨.slice (if c = (lo2.getD 0).toNat then some ad else some (ad.add ((lo2.getD 0).toNat * i.size))) ((hi2.getD ln).toNat - (lo2.getD 0).toNat) (c - (lo2.getD 0).toNat), ?_, ?_⟩
      ·rw [hat, k3]
       simp only [Sem.run_bind, run_underlying hu, Result.andThen_ok, Instr.slice, hb, run_sizeOf_of w hi1, Sem.run_pure, Option.map_some]
      ·simp only [VR]
       have hlen : (hi2.getD ln - lo2.getD 0).toNat = (hi2.getD ln).toNat - (lo2.getD 0).toNat := by omega
       refine ⟨L, if c = (lo2.getD 0).toNat then ad else ad.add ((lo2.getD 0).toNat * i.size), c - (lo2.getD 0).toNat, hL, hLe, ?_, by omega, by omega, fun hpos => ?_, fun c' hc' => ?_, by omega⟩
       ·rw [hlen]; split <;> rfl
       ·rw [if_neg (by omega)]
        obtain ⟨rfl, hcap⟩ := hac (by omega)
        rw [Addr.add_lit]
        refine ⟨?_, by omega⟩
        congr 1
        rw [Nat.add_mul]; omega
       ·cases cap with
        | none => cases hc'
        | some q => simp only [Option.map_some, Option.some.injEq] at hc'; rw [← hc', hcc q rfl]
     ·-- three
      rename_i m hq
      split at h
      ·rename_i hm2
       obtain ⟨hm3, hm4⟩ := hm2
       cases h
       obtain ⟨k', k3⟩ := k3
       obtain ⟨k'', k2⟩ := k2
       simp only [Option.getD_some] at h1 h2 hm3 ⊢
       have hb := run_sliceBounds3 (P := P) (w := w) (ln := ln) (cap := c) (k := k'') (k' := k') hl h0 h1 hm3 (show m ≤ (c : Int) by omega)
       refine ⟨.slice (if m.toNat = (lo2.getD 0).toNat then some ad else some (ad.add ((lo2.getD 0).toNat * i.size))) (hq.toNat - (lo2.getD 0).toNat) (m.toNat - (lo2.getD 0).toNat), ?_, ?_⟩
       ·rw [hat, k3, k2]
        simp only [Sem.run_bind, run_underlying hu, Result.andThen_ok, Instr.slice, hb, run_sizeOf_of w hi1, Sem.run_pure, Option.map_some]
       ·simp only [VR]
        have hlen : (hq - lo2.getD 0).toNat = hq.toNat - (lo2.getD 0).toNat := by omega
        refine ⟨L, if m.toNat = (lo2.getD 0).toNat then ad else ad.add ((lo2.getD 0).toNat * i.size), m.toNat - (lo2.getD 0).toNat, hL, hLe, ?_, by omega, by omega, fun hpos => ?_, fun c' hc' => ?_, by omega⟩
        ·rw [hlen]; split <;> rfl
        ·rw [if_neg (by omega)]
         obtain ⟨rfl, hcap⟩ := hac (by omega)
         rw [Addr.add_lit]
         refine ⟨?_, by omega⟩
         congr 1
         rw [Nat.add_mul]; omega
        ·simp only [Option.some.injEq] at hc'; omega
      ·cases h
     ·cases h
   ·cases h
  ·cases h
 ·cases h
end Go.Ab
