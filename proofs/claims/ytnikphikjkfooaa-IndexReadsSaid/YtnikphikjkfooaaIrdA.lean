/- BitPure, CrcPure. -/
import Derived.Test.YtnikphikjkfooaaArgA
import Derived.Test.YtnikphikjkfooaaValM
namespace Go.Ab
open Go
set_option linter.unusedVariables false
set_option linter.unusedSimpArgs false
structure PackedN (bs : List Nat) (l : List Bool) (n : Nat) : Prop where
 len : bs.length = n
 lt : ∀ b ∈ bs, b < 256
 bit : ∀ i, i < 8 * n → (bs.getD (i / 8) 0).testBit (i % 8) = l.getD i false
def Packed (bs : List Nat) (l : List Bool) : Prop := PackedN bs l ((l.length + 7) / 8)
theorem Packed.nil : Packed [] [] := ⟨rfl, by simp, fun i h => by simp at h⟩
theorem PackedN.grow {bs : List Nat} {l : List Bool} {n : Nat} (h : PackedN bs l n) (hl : l.length ≤ 8 * n) : PackedN (bs ++ [0]) l (n + 1) := by
 refine ⟨by rw [List.length_append, h.len]; rfl, fun b hb => ?_, fun i hi => ?_⟩
 ·rcases List.mem_append.1 hb with e | e
  ·exact h.lt b e
  ·rw [List.mem_singleton] at e; omega
 ·by_cases hlt : i < 8 * n
  ·rw [← h.bit i hlt]
   rw [List.getD_eq_getElem?_getD, List.getD_eq_getElem?_getD, List.getElem?_append_left (by rw [h.len]; omega)]
  ·rw [List.getD_eq_getElem?_getD, List.getElem?_append_right (by rw [h.len]; omega), h.len, show i / 8 - n = 0 by omega]
   have hno : l[i]? = none := List.getElem?_eq_none (by omega)
   rw [List.getD_eq_getElem?_getD, hno]
   simp
theorem testBit_at (x : Bool) (k j : Nat) : (x.toNat * 2 ^ k).testBit j = (x && decide (j = k)) := by
 rw [← Nat.shiftLeft_eq, Nat.testBit_shiftLeft]
 cases x
 ·simp
 ·by_cases h : j = k
  ·subst h; simp
  ·simp only [Bool.toNat_true, Bool.true_and, h, decide_false]
   by_cases hk : k ≤ j
   ·have : j - k ≠ 0 := by omega
    simp [hk, Nat.testBit_one_eq_true_iff_self_eq_zero, this]
    rw [← Bool.not_eq_true, Nat.testBit_one_eq_true_iff_self_eq_zero]; omega
   ·simp [hk]
theorem PackedN.snoc {bs : List Nat} {l : List Bool} {n : Nat} (h : PackedN bs l n) (hl : l.length < 8 * n) (x : Bool) :
  PackedN (bs.set (l.length / 8) (bs.getD (l.length / 8) 0 ||| x.toNat * 2 ^ (l.length % 8))) (l ++ [x]) n := by
 have hin : l.length / 8 < bs.length := by rw [h.len]; omega
 have hb : bs.getD (l.length / 8) 0 < 256 := by
  rw [List.getD_eq_getElem?_getD, List.getElem?_eq_getElem hin]; exact h.lt _ (List.getElem_mem hin)
 have hx : x.toNat * 2 ^ (l.length % 8) < 256 := by
  have h1 : 2 ^ (l.length % 8) ≤ 2 ^ 7 := Nat.pow_le_pow_right (by omega) (by omega)
  cases x <;> simp <;> omega
 refine ⟨by rw [List.length_set, h.len], fun b hbm => ?_, fun i hi => ?_⟩
 ·rcases List.mem_or_eq_of_mem_set hbm with e | e
  ·exact h.lt b e
  ·rw [e]; exact Nat.or_lt_two_pow (n := 8) hb hx
 ·have hgl : (l ++ [x]).getD i false = if i = l.length then x else l.getD i false := by
   rw [List.getD_eq_getElem?_getD, List.getD_eq_getElem?_getD]
   by_cases e : i = l.length
   ·subst e; simp
   ·rw [if_neg e]
    by_cases e2 : i < l.length
    ·rw [List.getElem?_append_left e2]
    ·rw [List.getElem?_eq_none (by simp; omega), List.getElem?_eq_none (by omega)]
  rw [hgl]
  have hbit := h.bit i hi
  by_cases e : i / 8 = l.length / 8
  ·have hset : (bs.set (l.length / 8) (bs.getD (l.length / 8) 0 ||| x.toNat * 2 ^ (l.length % 8))).getD (i / 8) 0 = bs.getD (l.length / 8) 0 ||| x.toNat * 2 ^ (l.length % 8) := by
    rw [e, List.getD_eq_getElem?_getD, List.getElem?_set_self hin]; rfl
   rw [hset, Nat.testBit_or, testBit_at, ← e, hbit]
   by_cases e2 : i = l.length
   ·rw [if_pos e2, List.getD_eq_getElem?_getD, List.getElem?_eq_none (by omega)]
    have : i % 8 = l.length % 8 := by rw [e2]
    simp [this]
   ·rw [if_neg e2]
    have : ¬ i % 8 = l.length % 8 := by omega
    simp [this]
  ·have hset : (bs.set (l.length / 8) (bs.getD (l.length / 8) 0 ||| x.toNat * 2 ^ (l.length % 8))).getD (i / 8) 0 = bs.getD (i / 8) 0 := by
    rw [List.getD_eq_getElem?_getD, List.getElem?_set_ne (by omega), ← List.getD_eq_getElem?_getD]
   rw [hset, hbit, if_neg (by intro e2; exact e (by rw [e2]))]
theorem Packed.snoc {bs : List Nat} {l : List Bool} (h : Packed bs l) (x : Bool) :
  let bs' := if l.length % 8 = 0 then bs ++ [0] else bs
  l.length / 8 < bs'.length ∧ Packed (bs'.set (l.length / 8) (bs'.getD (l.length / 8) 0 ||| x.toNat * 2 ^ (l.length % 8))) (l ++ [x]) := by
 intro bs'
 have hb : PackedN bs' l ((l.length + 8) / 8) := by
  by_cases e : l.length % 8 = 0
  ·simp only [bs', if_pos e]
   have := PackedN.grow h (by omega)
   rw [show (l.length + 7) / 8 + 1 = (l.length + 8) / 8 by omega] at this
   exact this
  ·simp only [bs', if_neg e]
   have : Packed bs l := h
   unfold Packed at this
   rw [show (l.length + 7) / 8 = (l.length + 8) / 8 by omega] at this
   exact this
 refine ⟨by rw [hb.len]; omega, ?_⟩
 have := hb.snoc (by omega) x
 unfold Packed
 rw [show ((l ++ [x]).length + 7) / 8 = (l.length + 8) / 8 by rw [List.length_append, List.length_singleton]]
 exact this
def top (v : Nat) : Nat → List Bool
 | 0 => []
 | n + 1 => v.testBit n :: top v n
def clamp (n : Int) : Nat := (min (max n 0) 64).toNat
def rbit (bs : List Nat) (i : Nat) : Bool := (bs.getD (i / 8) 0).testBit (i % 8)
def rnum (bs : List Nat) (n : Nat) : Nat → Nat
 | 0 => 0
 | k + 1 => 2 * rnum bs n k + (rbit bs (n + k)).toNat
def flips (bs : List Nat) (from' : Int) (mask : Nat) : Nat → List Nat
 | 0 => bs
 | i + 1 =>
  if mask.testBit i = true ∧ 0 ≤ from' + i ∧ from' + i < 8 * (bs.length : Int) then
   (flips bs from' mask i).set ((from' + i).toNat / 8) ((flips bs from' mask i).getD ((from' + i).toNat / 8) 0 ^^^ 2 ^ ((from' + i).toNat % 8))
  else flips bs from' mask i
theorem Packed.rbit {bs : List Nat} {l : List Bool} (h : Packed bs l) (i : Nat) : rbit bs i = l.getD i false := by
 by_cases hi : i < 8 * ((l.length + 7) / 8)
 ·exact h.bit i hi
 ·unfold Go.Ab.rbit
  have h1 : bs[i / 8]? = none := List.getElem?_eq_none (by rw [h.len]; omega)
  have h2 : l[i]? = none := List.getElem?_eq_none (by omega)
  rw [List.getD_eq_getElem?_getD, h1, List.getD_eq_getElem?_getD, h2]
  simp
theorem un_set {k : IntKind} {l : List Nat} {i n : Nat} : (un k l).set i [.int k (n : Int)] = un k (l.set i n) := by simp [un, List.map_set]
theorem up64 {n : Nat} (h : n < 9223372036854775807) : IntKind.i64.wrap ((n : Int) + 1) = ((n + 1 : Nat) : Int) := wrap_i64_nat (n := n + 1) (by omega)
def crcBit (c : Nat) : Nat := if c % 2 = 1 then (c / 2) ^^^ 3988292384 else c / 2
def crcBits : Nat → Nat → Nat
 | 0, c => c
 | n + 1, c => crcBits n (crcBit c)
def crcStep (s b : Nat) : Nat := crcBits 8 (s ^^^ b)
def crcRaw (s : Nat) (l : List Nat) : Nat := l.foldl crcStep s
def inv32 (s : Nat) : Nat := 4294967295 ^^^ s
def crcSum (l : List Nat) : Nat := inv32 (crcRaw 4294967295 l)
def le4 (s : Nat) : List Nat := [s % 256, s / 256 % 256, s / 65536 % 256, s / 16777216 % 256]
theorem crcBit_lt {c : Nat} (h : c < 4294967296) : crcBit c < 4294967296 := by
 unfold crcBit
 split
 ·exact Nat.xor_lt_two_pow (n := 32) (by omega) (by omega)
 ·omega
theorem crcBits_lt : ∀ (n : Nat) {c : Nat}, c < 4294967296 → crcBits n c < 4294967296
 | 0, c, h => h
 | n + 1, c, h => crcBits_lt n (crcBit_lt h)
theorem crcStep_lt {s b : Nat} (hs : s < 4294967296) (hb : b < 256) : crcStep s b < 4294967296 := crcBits_lt 8 (Nat.xor_lt_two_pow (n := 32) hs (by omega))
theorem crcRaw_lt : ∀ (l : List Nat) {s : Nat}, s < 4294967296 → (∀ b ∈ l, b < 256) → crcRaw s l < 4294967296
 | [], s, h, _ => h
 | b :: l, s, h, hb => crcRaw_lt l (crcStep_lt h (hb b List.mem_cons_self)) fun x hx => hb x (List.mem_cons_of_mem _ hx)
theorem inv32_lt {s : Nat} (h : s < 4294967296) : inv32 s < 4294967296 := by
 unfold inv32
 exact Nat.xor_lt_two_pow (n := 32) (by decide) h
theorem xor_cancel (m s : Nat) : m ^^^ (m ^^^ s) = s := by rw [← Nat.xor_assoc, Nat.xor_self, Nat.zero_xor]
theorem inv32_def (s : Nat) : inv32 s = 4294967295 ^^^ s := rfl
theorem inv32_inv32 (s : Nat) : inv32 (inv32 s) = s := by rw [inv32_def, inv32_def, xor_cancel]
theorem crcSum_lt {l : List Nat} (hb : ∀ b ∈ l, b < 256) : crcSum l < 4294967296 := by
 unfold crcSum
 exact inv32_lt (crcRaw_lt l (by decide) hb)
theorem crcRaw_append (s : Nat) (a b : List Nat) : crcRaw s (a ++ b) = crcRaw (crcRaw s a) b := by simp [crcRaw]
theorem le4_lt (s : Nat) : ∀ b ∈ le4 s, b < 256 := by
 intro b hb
 simp only [le4, List.mem_cons, List.not_mem_nil, or_false] at hb
 omega
def xorL (a b : List Nat) : List Nat := List.zipWith (· ^^^ ·) a b
def feed : Nat → List Bool → Nat
 | s, [] => s
 | s, b :: l => feed (crcBit (s ^^^ b.toNat)) l
def word : List Bool → Nat
 | [] => 0
 | b :: l => b.toNat + 2 * word l
end Go.Ab
