/- What turned bits are. No program in sight. -/
import Derived.Test.YtpeafiomifmadaaBitPure
namespace Go.Ab
open Go
set_option linter.unusedVariables false
set_option linter.unusedSimpArgs false

theorem rbit_ext {a b : List Nat} (hl : a.length = b.length) (ha : ∀ x ∈ a, x < 256) (hb : ∀ x ∈ b, x < 256) (h : ∀ i, i < 8 * a.length → rbit a i = rbit b i) : a = b := by
  apply List.ext_getElem hl
  intro i h1 h2
  refine byte_eq (ha _ (List.getElem_mem h1)) (hb _ (List.getElem_mem h2)) fun j hj => ?_
  have e := h (8 * i + j) (by omega)
  unfold rbit at e
  rw [show (8 * i + j) / 8 = i by omega, show (8 * i + j) % 8 = j by omega, List.getD_eq_getElem?_getD, List.getElem?_eq_getElem h1, List.getD_eq_getElem?_getD, List.getElem?_eq_getElem h2] at e
  exact e

theorem rbit_set {bs : List Nat} {p i : Nat} (hp : p / 8 < bs.length) : rbit (bs.set (p / 8) (bs.getD (p / 8) 0 ^^^ 2 ^ (p % 8))) i = (rbit bs i ^^ decide (p = i)) := by
  unfold rbit
  by_cases h : i / 8 = p / 8
  · rw [h, List.getD_eq_getElem?_getD, List.getElem?_set_self hp]
    simp only [Option.getD_some, Nat.testBit_xor, Nat.testBit_two_pow]
    congr 1
    by_cases h2 : p = i
    · rw [h2]; simp
    · have : ¬ p % 8 = i % 8 := by omega
      simp [h2, this]
  · rw [List.getD_eq_getElem?_getD, List.getElem?_set_ne (Ne.symm h), ← List.getD_eq_getElem?_getD]
    have : ¬ p = i := fun e => h (by rw [e])
    simp [this]

theorem rbit_flips {bs : List Nat} {f : Int} {m i : Nat} (hi : i < 8 * bs.length) : ∀ k, rbit (flips bs f m k) i = (rbit bs i ^^ (decide (f ≤ (i : Int) ∧ (i : Int) < f + k) && m.testBit ((i : Int) - f).toNat))
  | 0 => by
    have : ¬ (f ≤ (i : Int) ∧ (i : Int) < f + (0 : Nat)) := by omega
    rw [decide_eq_false this, Bool.false_and, Bool.xor_false]; rfl
  | k + 1 => by
    have ih := rbit_flips (bs := bs) (f := f) (m := m) hi k
    rw [flips]
    by_cases hc : m.testBit k = true ∧ 0 ≤ f + k ∧ f + k < 8 * (bs.length : Int)
    · rw [if_pos hc, rbit_set (by rw [flips_length]; omega), ih]
      by_cases he : (f + k).toNat = i
      · have h1 : ¬ (f ≤ (i : Int) ∧ (i : Int) < f + k) := by omega
        have h2 : f ≤ (i : Int) ∧ (i : Int) < f + ((k + 1 : Nat) : Int) := by omega
        have h3 : ((i : Int) - f).toNat = k := by omega
        rw [decide_eq_false h1, decide_eq_true h2, h3, decide_eq_true he, hc.1, Bool.false_and, Bool.xor_false, Bool.and_self]
      · have h1 : (f ≤ (i : Int) ∧ (i : Int) < f + ((k + 1 : Nat) : Int)) ↔ (f ≤ (i : Int) ∧ (i : Int) < f + k) := by omega
        simp only [he, h1, decide_false, Bool.xor_false]
    · rw [if_neg hc, ih]
      by_cases he : (i : Int) = f + k
      · have h1 : ¬ (f ≤ (i : Int) ∧ (i : Int) < f + k) := by omega
        have h3 : ((i : Int) - f).toNat = k := by omega
        have h4 : m.testBit k = false := by
          cases h : m.testBit k with
          | false => rfl
          | true => exact absurd ⟨h, by omega, by omega⟩ hc
        rw [decide_eq_false h1, h3, h4, Bool.false_and, Bool.and_false]
      · have h1 : (f ≤ (i : Int) ∧ (i : Int) < f + ((k + 1 : Nat) : Int)) ↔ (f ≤ (i : Int) ∧ (i : Int) < f + k) := by omega
        simp only [h1]

/-- Turned again they are as they were. -/
theorem flips_flips {bs : List Nat} {f : Int} {m : Nat} (h : ∀ b ∈ bs, b < 256) (k : Nat) : flips (flips bs f m k) f m k = bs := by
  have hl := flips_length bs f m k
  have hl2 := flips_length (flips bs f m k) f m k
  refine rbit_ext (by rw [hl2, hl]) (flips_lt (flips_lt h f m k) f m k) h fun i hi => ?_
  rw [rbit_flips (by rw [hl]; omega), rbit_flips (by omega), Bool.xor_assoc, Bool.xor_self, Bool.xor_false]

end Go.Ab
