/- A burst is seen by the sum. No program in sight. -/
import Derived.Test.YtpeafiomifmadaaCrcL
import Derived.Test.YtpeafiomifmadaaFlipPure
namespace Go.Ab
open Go
set_option linter.unusedVariables false
set_option linter.unusedSimpArgs false

def bits8 (b : Nat) : List Bool := (List.range 8).map b.testBit
theorem bits8_length (b : Nat) : (bits8 b).length = 8 := by simp [bits8]
theorem word_append : ∀ (a b : List Bool), word (a ++ b) = word a + 2 ^ a.length * word b
  | [], b => by simp [word]
  | x :: a, b => by
    have e : 2 ^ (a.length + 1) * word b = 2 * (2 ^ a.length * word b) := by rw [Nat.pow_succ, Nat.mul_comm (2 ^ a.length) 2, Nat.mul_assoc]
    rw [List.cons_append, word, word, word_append a b, List.length_cons, e]
    omega
theorem word_bits8 {b : Nat} (h : b < 256) : word (bits8 b) = b := by
  have e : bits8 b = [b.testBit 0, b.testBit 1, b.testBit 2, b.testBit 3, b.testBit 4, b.testBit 5, b.testBit 6, b.testBit 7] := rfl
  rw [e]
  simp only [word, Nat.toNat_testBit]
  omega

def bitsL : List Nat → List Bool
  | [] => []
  | b :: l => bits8 b ++ bitsL l
theorem bitsL_length : ∀ (l : List Nat), (bitsL l).length = 8 * l.length
  | [] => rfl
  | b :: l => by rw [bitsL, List.length_append, bits8_length, bitsL_length l, List.length_cons]; omega
theorem bitsL_get : ∀ (l : List Nat) (i : Nat), i < 8 * l.length → (bitsL l)[i]? = some (rbit l i)
  | [], i, h => by simp at h
  | b :: l, i, h => by
    rw [bitsL]
    by_cases hi : i < 8
    · rw [List.getElem?_append_left (by rw [bits8_length]; exact hi)]
      simp only [bits8, List.getElem?_map, List.getElem?_range hi, Option.map_some, rbit]
      rw [show i / 8 = 0 by omega, show i % 8 = i by omega]
      rfl
    · rw [List.getElem?_append_right (by rw [bits8_length]; omega), bits8_length, bitsL_get l (i - 8) (by rw [List.length_cons] at h; omega)]
      unfold rbit
      rw [show i / 8 = (i - 8) / 8 + 1 by omega, show i % 8 = (i - 8) % 8 by omega]
      rfl

theorem crcRaw_feed : ∀ (l : List Nat) (s : Nat), (∀ b ∈ l, b < 256) → crcRaw s l = feed s (bitsL l)
  | [], s, _ => rfl
  | b :: l, s, h => by
    rw [bitsL, feed_append, feed_word s (bits8 b), bits8_length, word_bits8 (h b List.mem_cons_self), ← crcRaw_feed l _ fun y hy => h y (List.mem_cons_of_mem _ hy)]
    rfl

theorem word_le4 {t : Nat} (h : t < 4294967296) : word (bitsL (le4 t)) = t := by
  simp only [le4, bitsL, word_append, bits8_length, word, Nat.mul_zero, Nat.add_zero]
  rw [word_bits8 (by omega), word_bits8 (by omega), word_bits8 (by omega), word_bits8 (by omega)]
  omega

/-- What is sealed feeds to the same. -/
theorem crcRaw_sealed {bs : List Nat} (hb : ∀ b ∈ bs, b < 256) : crcRaw 4294967295 (bs ++ le4 (crcSum bs)) = crcBits 32 4294967295 := by
  have ht : crcRaw 4294967295 bs < 4294967296 := crcRaw_lt bs (by omega) hb
  have hs := crcSum_lt hb
  rw [crcRaw_append, crcRaw_feed _ _ (le4_lt _), feed_word, word_le4 hs, bitsL_length, show 8 * (le4 (crcSum bs)).length = 32 from rfl]
  unfold crcSum
  rw [inv32_def, Nat.xor_comm (4294967295 : Nat) (crcRaw 4294967295 bs), xor_cancel]

theorem xorL_lt {a b : List Nat} (ha : ∀ x ∈ a, x < 256) (hb : ∀ x ∈ b, x < 256) : ∀ x ∈ xorL a b, x < 256 := fun x hx => by
  obtain ⟨u, hu, v, hv, rfl⟩ := mem_xorL hx
  exact Nat.xor_lt_two_pow (n := 8) (ha u hu) (hb v hv)

theorem rbit_xorL : ∀ {a b : List Nat} {i : Nat}, a.length = b.length → rbit (xorL a b) i = (rbit a i ^^ rbit b i)
  | [], [], i, _ => by simp [rbit, xorL]
  | x :: a, y :: b, i, h => by
    by_cases hi : i < 8
    · unfold rbit xorL
      rw [show i / 8 = 0 by omega]
      simp
    · have := rbit_xorL (a := a) (b := b) (i := i - 8) (by simpa using h)
      unfold rbit xorL at this ⊢
      rw [show i / 8 = (i - 8) / 8 + 1 by omega, show i % 8 = (i - 8) % 8 by omega]
      exact this

theorem crcOk_sealed {x : List Nat} (h : crcOk x = true) : x = crcBody x ++ le4 (crcSum (crcBody x)) := by
  unfold crcOk at h
  rw [Bool.and_eq_true] at h
  exact (of_decide_eq_true h.2).symm

/-- A burst of up to 32 bits is seen. -/
theorem crc_burst {bs : List Nat} (hb : ∀ b ∈ bs, b < 256) {f : Int} {m : Nat} (h0 : 0 ≤ f) (h1 : f < 8 * ((bs.length + 4 : Nat) : Int)) :
    crcOk (flips (bs ++ le4 (crcSum bs)) f m 32) = decide (flips (bs ++ le4 (crcSum bs)) f m 32 = bs ++ le4 (crcSum bs)) := by
  obtain ⟨s, hs⟩ : ∃ s, s = bs ++ le4 (crcSum bs) := ⟨_, rfl⟩
  have hsb : ∀ b ∈ s, b < 256 := fun b h => by
    rw [hs] at h
    rcases List.mem_append.1 h with h | h
    · exact hb b h
    · exact le4_lt _ b h
  have hsl : s.length = bs.length + 4 := by rw [hs]; simp [le4]
  have hok : crcOk s = true := by rw [hs, crcOk_le4 hb (crcSum_lt hb), beq_self_eq_true]
  have hraw := crcRaw_sealed hb
  rw [← hs] at hraw ⊢
  obtain ⟨x, hx⟩ : ∃ x, x = flips s f m 32 := ⟨_, rfl⟩
  have hxl : x.length = s.length := by rw [hx, flips_length]
  have hxb : ∀ b ∈ x, b < 256 := by rw [hx]; exact flips_lt hsb f m 32
  have hbit : ∀ i, i < 8 * s.length → rbit x i = (rbit s i ^^ (decide (f ≤ (i : Int) ∧ (i : Int) < f + (32 : Nat)) && m.testBit ((i : Int) - f).toNat)) := fun i hi => by rw [hx]; exact rbit_flips hi 32
  rw [← hx]
  by_cases he : x = s
  · rw [he, hok]; simp
  · rw [decide_eq_false he]
    cases hc : crcOk x with
    | false => rfl
    | true =>
      exfalso
      apply he
      have hy := crcOk_sealed hc
      have hyb : ∀ b ∈ crcBody x, b < 256 := fun b h => hxb b (List.mem_of_mem_take h)
      have hrx := crcRaw_sealed hyb
      rw [← hy] at hrx
      have hd := crcRaw_xor x s 4294967295 4294967295 hxl
      rw [hrx, hraw, Nat.xor_self, Nat.xor_self, crcRaw_feed _ _ (xorL_lt hxb hsb)] at hd
      obtain ⟨a, ha⟩ : ∃ a : Nat, f = (a : Int) := ⟨f.toNat, by omega⟩
      subst ha
      obtain ⟨k, hk⟩ : ∃ k, k = min 32 (8 * s.length - a) := ⟨_, rfl⟩
      have hal : a < 8 * s.length := by rw [hsl]; omega
      have hbits : bitsL (xorL x s) = List.replicate a false ++ (List.range k).map m.testBit ++ List.replicate (8 * s.length - a - k) false := by
        have hlen : (xorL x s).length = s.length := by rw [xorL_length _ _ hxl, hxl]
        apply List.ext_getElem?
        intro i
        by_cases hi : i < 8 * s.length
        · rw [bitsL_get _ _ (by rw [hlen]; exact hi), rbit_xorL hxl, hbit i hi]
          have e3 : ∀ p q : Bool, ((p ^^ q) ^^ p) = q := fun p q => by cases p <;> cases q <;> rfl
          rw [e3]
          by_cases c1 : i < a
          · have : ¬ ((a : Int) ≤ (i : Int) ∧ (i : Int) < (a : Int) + (32 : Nat)) := by omega
            rw [List.append_assoc, List.getElem?_append_left (by simp; exact c1), List.getElem?_replicate, if_pos c1, decide_eq_false this, Bool.false_and]
          · rw [List.append_assoc, List.getElem?_append_right (by simp; omega), List.length_replicate]
            by_cases c2 : i - a < k
            · have : ((a : Int) ≤ (i : Int) ∧ (i : Int) < (a : Int) + (32 : Nat)) := by omega
              have t : ((i : Int) - (a : Int)).toNat = i - a := by omega
              rw [List.getElem?_append_left (by simp; exact c2), List.getElem?_map, List.getElem?_range c2, t, decide_eq_true this, Bool.true_and]
              rfl
            · have : ¬ ((a : Int) ≤ (i : Int) ∧ (i : Int) < (a : Int) + (32 : Nat)) := by omega
              rw [List.getElem?_append_right (by simp; omega), List.length_map, List.length_range, List.getElem?_replicate, if_pos (by omega), decide_eq_false this, Bool.false_and]
        · rw [List.getElem?_eq_none (by rw [bitsL_length, hlen]; omega), List.getElem?_eq_none (by simp; omega)]
      rw [hbits] at hd
      have hz := feed_burst (by simp; omega) hd
      have hm : ∀ j, j < k → m.testBit j = false := fun j hj => by
        have h2 := congrArg (fun l => l[j]?) hz
        simp only [List.getElem?_map, List.getElem?_range hj, List.length_map, List.length_range, List.getElem?_replicate, if_pos hj, Option.map_some, Option.some.injEq] at h2
        exact h2
      refine rbit_ext hxl hxb hsb fun i hi => ?_
      rw [hxl] at hi
      rw [hbit i hi]
      by_cases c : ((a : Int) ≤ (i : Int) ∧ (i : Int) < (a : Int) + (32 : Nat))
      · have t : ((i : Int) - (a : Int)).toNat = i - a := by omega
        rw [t, hm (i - a) (by omega)]
        simp
      · rw [decide_eq_false c, Bool.false_and, Bool.xor_false]

end Go.Ab
