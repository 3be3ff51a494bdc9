/- Numbers in bytes: what is written is read. No program in sight. -/
import Derived.Test.YtaoippgdkilacaaBitPure
namespace Go.Ab
open Go
set_option linter.unusedVariables false
set_option linter.unusedSimpArgs false

def putV (v : Nat) : List Nat := if v < 128 then [v] else (v % 128 + 128) :: putV (v / 128)
  termination_by v
  decreasing_by omega

def putL (l : List Nat) : List Nat := l.flatMap putV

theorem or128_all : ∀ a : _root_.Fin 256, a.val ||| 128 = a.val % 128 + 128 := by decide +kernel
theorem or128 {a : Nat} (h : a < 256) : a ||| 128 = a % 128 + 128 := or128_all ⟨a, h⟩

theorem putV_length (v : Nat) : 1 ≤ (putV v).length := by
  rw [putV]; split <;> simp

theorem putL_length (l : List Nat) : l.length ≤ (putL l).length := by
  induction l with
  | nil => simp [putL]
  | cons v l ih =>
    have h := putV_length v
    have : putL (v :: l) = putV v ++ putL l := by simp [putL]
    rw [this, List.length_append, List.length_cons]; omega

def takeV (most : Nat) : Nat → Nat → List Nat → Nat × Nat × Nat
  | _, _, [] => (0, 0, 20)
  | i, v, c :: bs =>
    if (i = 9 ∧ c > 1) ∨ (i > 0 ∧ c = 0) then (0, 0, 21) else
    if c ≥ 128 then takeV most (i + 1) (v ||| ((c % 128) * 2 ^ (7 * i) % 18446744073709551616)) bs else
    if (v ||| ((c % 128) * 2 ^ (7 * i) % 18446744073709551616)) > most then (0, 0, 22) else (v ||| ((c % 128) * 2 ^ (7 * i) % 18446744073709551616), i + 1, 0)

theorem and127_all : ∀ a : _root_.Fin 256, a.val &&& 127 = a.val % 128 := by decide +kernel
theorem and127 {a : Nat} (h : a < 256) : a &&& 127 = a % 128 := and127_all ⟨a, h⟩

theorem or_add {w b k : Nat} (h : w < 2 ^ k) : w ||| b * 2 ^ k = w + b * 2 ^ k := by
  rw [Nat.or_comm, Nat.mul_comm, ← Nat.two_pow_add_eq_or_of_lt h, Nat.add_comm]

theorem pow7 (i : Nat) : 2 ^ (7 * (i + 1)) = 128 * 2 ^ (7 * i) := by
  rw [show 7 * (i + 1) = 7 + 7 * i by omega, Nat.pow_add]

theorem nine {v i : Nat} (hv : v * 2 ^ (7 * i) < 18446744073709551616) (h : i = 9) : v ≤ 1 := by
  subst h
  simp only [Nat.reduceMul, Nat.reducePow] at hv
  omega

theorem putV_small {v : Nat} (h : v < 128) : putV v = [v] := by rw [putV, if_pos h]
theorem putV_big {v : Nat} (h : ¬ v < 128) : putV v = (v % 128 + 128) :: putV (v / 128) := by rw [putV, if_neg h]

theorem putV_lt (v : Nat) : ∀ c ∈ putV v, c < 256 := by
  induction v using Nat.strongRecOn with
  | ind v ih =>
    intro c hc
    by_cases h : v < 128
    · rw [putV_small h] at hc; simp at hc; omega
    · rw [putV_big h] at hc
      rcases List.mem_cons.1 hc with e | e
      · omega
      · exact ih (v / 128) (by omega) c e

theorem putL_lt (l : List Nat) : ∀ c ∈ putL l, c < 256 := by
  intro c hc
  simp only [putL, List.mem_flatMap] at hc
  obtain ⟨v, _, h⟩ := hc
  exact putV_lt v c h

/-- How long a number is. -/
theorem putV_len {v k : Nat} (hv : v < 2 ^ (7 * (k + 1))) : (putV v).length ≤ k + 1 := by
  induction k generalizing v with
  | zero => simp only [Nat.zero_add, Nat.mul_one, Nat.reducePow] at hv; rw [putV_small hv]; simp
  | succ k ih =>
    by_cases h : v < 128
    · rw [putV_small h]; simp
    · rw [putV_big h, List.length_cons]
      have := ih (v := v / 128) (by
        rw [pow7] at hv
        exact Nat.div_lt_of_lt_mul hv)
      omega

theorem putV_len10 {v : Nat} (hv : v < 18446744073709551616) : (putV v).length ≤ 10 := putV_len (k := 9) (Nat.lt_of_lt_of_le hv (by decide))

theorem putL_len {l : List Nat} (h : ∀ v ∈ l, v < 18446744073709551616) : (putL l).length ≤ 10 * l.length := by
  induction l with
  | nil => simp [putL]
  | cons v l ih =>
    have h1 := putV_len10 (h v List.mem_cons_self)
    have h2 := ih fun x hx => h x (List.mem_cons_of_mem _ hx)
    have : putL (v :: l) = putV v ++ putL l := by simp [putL]
    rw [this, List.length_append, List.length_cons]; omega

/-- A number is read, whatever stands behind it. -/
theorem take_put {most : Nat} (rest : List Nat) : ∀ (v i w : Nat), v * 2 ^ (7 * i) < 18446744073709551616 → w < 2 ^ (7 * i) → (i > 0 → v > 0) →
    takeV most i w (putV v ++ rest) = if w + v * 2 ^ (7 * i) > most then (0, 0, 22) else (w + v * 2 ^ (7 * i), i + (putV v).length, 0) := by
  intro v
  induction v using Nat.strongRecOn with
  | ind v ih =>
    intro i w hv hw hi
    by_cases h : v < 128
    · rw [putV_small h, List.singleton_append, takeV, if_neg (by
        rintro (⟨h1, h2⟩ | ⟨h1, h2⟩)
        · have := nine hv h1; omega
        · have := hi h1; omega), if_neg (by omega), Nat.mod_eq_of_lt h, Nat.mod_eq_of_lt hv, or_add hw]
      rfl
    · have h9 : i ≠ 9 := fun e => by have := nine hv e; omega
      have hdiv : v / 128 * 2 ^ (7 * (i + 1)) + v % 128 * 2 ^ (7 * i) = v * 2 ^ (7 * i) := by
        rw [pow7, ← Nat.mul_assoc, ← Nat.add_mul]; congr 1; omega
      have hlow : v % 128 * 2 ^ (7 * i) < 18446744073709551616 := by omega
      rw [putV_big h, List.cons_append, takeV, if_neg (by rintro (⟨h1, _⟩ | ⟨_, h2⟩) <;> omega), if_pos (by omega)]
      rw [show (v % 128 + 128) % 128 = v % 128 by omega, Nat.mod_eq_of_lt hlow, or_add hw]
      have hw' : w + v % 128 * 2 ^ (7 * i) < 2 ^ (7 * (i + 1)) := by
        rw [pow7]
        have : v % 128 * 2 ^ (7 * i) ≤ 127 * 2 ^ (7 * i) := Nat.mul_le_mul_right _ (by omega)
        omega
      rw [ih (v / 128) (by omega) (i + 1) _ (by omega) hw' (fun _ => by omega)]
      rw [show w + v % 128 * 2 ^ (7 * i) + v / 128 * 2 ^ (7 * (i + 1)) = w + v * 2 ^ (7 * i) by omega, List.length_cons]
      rw [show i + 1 + (putV (v / 128)).length = i + ((putV (v / 128)).length + 1) by omega]

theorem take_put0 {most v : Nat} (rest : List Nat) (hv : v < 18446744073709551616) (hm : v ≤ most) : takeV most 0 0 (putV v ++ rest) = (v, (putV v).length, 0) := by
  rw [take_put rest v 0 0 (by simpa using hv) (by simp) (fun h => by omega), if_neg (by simp; omega)]
  simp

theorem take_long {most v : Nat} (rest : List Nat) (hv : v < 18446744073709551616) (hm : most < v) : takeV most 0 0 (putV v ++ rest) = (0, 0, 22) := by
  rw [take_put rest v 0 0 (by simpa using hv) (by simp) (fun h => by omega), if_pos (by simp; omega)]

/-- Its beginnings are too short. -/
theorem take_cut {most : Nat} : ∀ (v i w k : Nat), v * 2 ^ (7 * i) < 18446744073709551616 → (i > 0 → v > 0) → k < (putV v).length → takeV most i w ((putV v).take k) = (0, 0, 20) := by
  intro v
  induction v using Nat.strongRecOn with
  | ind v ih =>
    intro i w k hv hi hk
    cases k with
    | zero => simp [takeV]
    | succ k =>
      by_cases h : v < 128
      · rw [putV_small h] at hk; simp at hk
      · have h9 : i ≠ 9 := fun e => by have := nine hv e; omega
        have hdiv : v / 128 * 2 ^ (7 * (i + 1)) + v % 128 * 2 ^ (7 * i) = v * 2 ^ (7 * i) := by
          rw [pow7, ← Nat.mul_assoc, ← Nat.add_mul]; congr 1; omega
        rw [putV_big h, List.length_cons] at hk
        rw [putV_big h, List.take_succ_cons, takeV, if_neg (by rintro (⟨h1, _⟩ | ⟨_, h2⟩) <;> omega), if_pos (by omega)]
        exact ih (v / 128) (by omega) (i + 1) _ k (by omega) (fun _ => by omega) (by omega)

theorem take_cut0 {most v k : Nat} (hv : v < 18446744073709551616) (hk : k < (putV v).length) : takeV most 0 0 ((putV v).take k) = (0, 0, 20) :=
  take_cut v 0 0 k (by simpa using hv) (fun h => by omega) hk

/-- How great a number of so many bytes is. -/
theorem putV_val (v : Nat) : v < 2 ^ (7 * (putV v).length) ∧ ((putV v).length ≠ 1 → 2 ^ (7 * ((putV v).length - 1)) ≤ v) := by
  induction v using Nat.strongRecOn with
  | ind v ih =>
    by_cases h : v < 128
    · rw [putV_small h]; simp; omega
    · obtain ⟨h1, h2⟩ := ih (v / 128) (by omega)
      have hl := putV_length (v / 128)
      rw [putV_big h, List.length_cons]
      refine ⟨?_, fun _ => ?_⟩
      · rw [pow7]; omega
      · rw [show (putV (v / 128)).length + 1 - 1 = (putV (v / 128)).length by omega]
        by_cases h3 : (putV (v / 128)).length = 1
        · rw [h3]; simp; omega
        · have := h2 h3
          obtain ⟨m, hm⟩ : ∃ m, (putV (v / 128)).length = m + 1 := ⟨(putV (v / 128)).length - 1, by omega⟩
          rw [hm] at this ⊢
          rw [pow7]
          simp only [Nat.add_sub_cancel] at this
          omega

theorem putL_cons (v : Nat) (l : List Nat) : putL (v :: l) = putV v ++ putL l := by simp [putL]
theorem putV_form (v : Nat) : ∃ ys c, putV v = ys ++ [c] ∧ (∀ y ∈ ys, 128 ≤ y ∧ y < 256) ∧ c < 128 := by
  induction v using Nat.strongRecOn with
  | ind v ih =>
    by_cases h : v < 128
    · exact ⟨[], v, by rw [putV_small h]; rfl, by simp, h⟩
    · obtain ⟨ys, c, h1, h2, h3⟩ := ih (v / 128) (by omega)
      refine ⟨(v % 128 + 128) :: ys, c, by rw [putV_big h, h1]; rfl, fun y hy => ?_, h3⟩
      rcases List.mem_cons.1 hy with e | e
      · omega
      · exact h2 y e

theorem take_noughts {most : Nat} : ∀ (ys : List Nat) (i w : Nat), (∀ y ∈ ys, 128 ≤ y) → (i > 0 ∨ ys ≠ []) → takeV most i w (ys ++ [0]) = (0, 0, 21)
  | [], i, w, h, hi => by
    rw [List.nil_append, takeV, if_pos (.inr ⟨by rcases hi with h | h; exact h; exact absurd rfl h, rfl⟩)]
  | y :: ys, i, w, h, hi => by
    rw [List.cons_append, takeV]
    have hy := h y List.mem_cons_self
    split
    · rfl
    · exact take_noughts ys (i + 1) _ (fun z hz => h z (List.mem_cons_of_mem _ hz)) (.inl (by omega))
end Go.Ab
