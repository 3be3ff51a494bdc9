/- Sums of bytes. No program in sight. -/
import Derived.Test.YtpeafiomifmadaaValM
namespace Go.Ab
open Go
set_option linter.unusedVariables false
set_option linter.unusedSimpArgs false
def crcBit (c : Nat) : Nat := if c % 2 = 1 then (c / 2) ^^^ 3988292384 else c / 2
def crcBits : Nat → Nat → Nat
 | 0, c => c
 | n + 1, c => crcBits n (crcBit c)
def crcStep (s b : Nat) : Nat := crcBits 8 (s ^^^ b)
def crcRaw (s : Nat) (l : List Nat) : Nat := l.foldl crcStep s
def inv32 (s : Nat) : Nat := 4294967295 ^^^ s
def crcSum (l : List Nat) : Nat := inv32 (crcRaw 4294967295 l)
def le4 (s : Nat) : List Nat := [s % 256, s / 256 % 256, s / 65536 % 256, s / 16777216 % 256]
theorem crcBit_lt {c : Nat} (h : c < 4294967296) : crcBit c < 4294967296 := by
 unfold crcBit
 split
 ·exact Nat.xor_lt_two_pow (n := 32) (by omega) (by omega)
 ·omega
theorem crcBits_lt : ∀ (n : Nat) {c : Nat}, c < 4294967296 → crcBits n c < 4294967296
 | 0, c, h => h
 | n + 1, c, h => crcBits_lt n (crcBit_lt h)
theorem crcStep_lt {s b : Nat} (hs : s < 4294967296) (hb : b < 256) : crcStep s b < 4294967296 := crcBits_lt 8 (Nat.xor_lt_two_pow (n := 32) hs (by omega))
theorem crcRaw_lt : ∀ (l : List Nat) {s : Nat}, s < 4294967296 → (∀ b ∈ l, b < 256) → crcRaw s l < 4294967296
 | [], s, h, _ => h
 | b :: l, s, h, hb => crcRaw_lt l (crcStep_lt h (hb b List.mem_cons_self)) fun x hx => hb x (List.mem_cons_of_mem _ hx)
theorem inv32_lt {s : Nat} (h : s < 4294967296) : inv32 s < 4294967296 := by
 unfold inv32
 exact Nat.xor_lt_two_pow (n := 32) (by decide) h
theorem xor_cancel (m s : Nat) : m ^^^ (m ^^^ s) = s := by rw [← Nat.xor_assoc, Nat.xor_self, Nat.zero_xor]
theorem inv32_def (s : Nat) : inv32 s = 4294967295 ^^^ s := rfl
theorem inv32_inv32 (s : Nat) : inv32 (inv32 s) = s := by rw [inv32_def, inv32_def, xor_cancel]
theorem crcSum_lt {l : List Nat} (hb : ∀ b ∈ l, b < 256) : crcSum l < 4294967296 := by
 unfold crcSum
 exact inv32_lt (crcRaw_lt l (by decide) hb)
theorem crcRaw_append (s : Nat) (a b : List Nat) : crcRaw s (a ++ b) = crcRaw (crcRaw s a) b := by simp [crcRaw]
theorem le4_lt (s : Nat) : ∀ b ∈ le4 s, b < 256 := by
 intro b hb
 simp only [le4, List.mem_cons, List.not_mem_nil, or_false] at hb
 omega
theorem le4_inj {s t : Nat} (hs : s < 4294967296) (ht : t < 4294967296) (h : le4 s = le4 t) : s = t := by
 simp only [le4, List.cons.injEq, and_true] at h
 omega
theorem xor_div_two (a b : Nat) : (a ^^^ b) / 2 = a / 2 ^^^ b / 2 := by
 apply Nat.eq_of_testBit_eq
 intro i
 simp only [Nat.testBit_div_two, Nat.testBit_xor]
theorem xor_mod_two (a b : Nat) : (a ^^^ b) % 2 = (a % 2 + b % 2) % 2 := by
 have h := Nat.testBit_xor a b 0
 simp only [Nat.testBit_zero] at h
 rcases Nat.mod_two_eq_zero_or_one a with ha | ha <;> rcases Nat.mod_two_eq_zero_or_one b with hb | hb <;> rcases Nat.mod_two_eq_zero_or_one (a ^^^ b) with hc | hc <;> simp_all
theorem crcBit_xor (a b : Nat) : crcBit (a ^^^ b) = crcBit a ^^^ crcBit b := by
 have h1 := xor_mod_two a b
 unfold crcBit
 rw [h1, xor_div_two]
 rcases Nat.mod_two_eq_zero_or_one a with ha | ha <;> rcases Nat.mod_two_eq_zero_or_one b with hb | hb <;> simp only [ha, hb]
 ·rfl
 ·simp [Nat.xor_assoc]
 ·simp only [Nat.reduceAdd, Nat.reduceMod, if_true]
  rw [if_neg (by decide)]
  rw [Nat.xor_assoc, Nat.xor_assoc, Nat.xor_comm (b / 2)]
 ·simp only [Nat.reduceAdd, Nat.reduceMod, if_true]
  rw [if_neg (by decide)]
  rw [Nat.xor_assoc, ← Nat.xor_assoc 3988292384 (b / 2), Nat.xor_comm 3988292384 (b / 2), Nat.xor_assoc (b / 2), Nat.xor_self, Nat.xor_zero]
theorem crcBits_xor : ∀ (n a b : Nat), crcBits n (a ^^^ b) = crcBits n a ^^^ crcBits n b
 | 0, a, b => rfl
 | n + 1, a, b => by rw [crcBits, crcBit_xor, crcBits_xor n]; rfl
theorem crcBit_zero : crcBit 0 = 0 := rfl
theorem crcBits_zero : ∀ n, crcBits n 0 = 0
 | 0 => rfl
 | n + 1 => by rw [crcBits, crcBit_zero, crcBits_zero n]
theorem crcStep_xor (s t a b : Nat) : crcStep (s ^^^ t) (a ^^^ b) = crcStep s a ^^^ crcStep t b := by
 unfold crcStep
 rw [← crcBits_xor]
 congr 1
 rw [Nat.xor_assoc, ← Nat.xor_assoc t a b, Nat.xor_comm t a, Nat.xor_assoc a t b, ← Nat.xor_assoc s a]
def xorL (a b : List Nat) : List Nat := List.zipWith (· ^^^ ·) a b
theorem crcRaw_xor : ∀ (a b : List Nat) (s t : Nat), a.length = b.length → crcRaw (s ^^^ t) (xorL a b) = crcRaw s a ^^^ crcRaw t b
 | [], [], s, t, _ => rfl
 | x :: a, y :: b, s, t, h => by
  have := crcRaw_xor a b (crcStep s x) (crcStep t y) (by simpa using h)
  rw [← crcStep_xor] at this
  exact this
theorem crcBit_eq_zero {c : Nat} (h : c < 4294967296) (e : crcBit c = 0) : c = 0 := by
 unfold crcBit at e
 split at e
 ·exfalso
  have h1 : (c / 2 ^^^ 3988292384).testBit 31 = true := by
   rw [Nat.testBit_xor, Nat.testBit_lt_two_pow (show c / 2 < 2 ^ 31 by omega)]
   decide
  rw [e] at h1
  simp at h1
 ·omega
theorem crcBits_eq_zero : ∀ (n : Nat) {c : Nat}, c < 4294967296 → crcBits n c = 0 → c = 0
 | 0, c, _, e => e
 | n + 1, c, h, e => crcBit_eq_zero h (crcBits_eq_zero n (crcBit_lt h) e)
theorem crcBits_add : ∀ (m n c : Nat), crcBits (m + n) c = crcBits n (crcBits m c)
 | 0, n, c => by rw [Nat.zero_add]; rfl
 | m + 1, n, c => by rw [Nat.add_right_comm, crcBits, crcBits_add m n]; rfl
def feed : Nat → List Bool → Nat
 | s, [] => s
 | s, b :: l => feed (crcBit (s ^^^ b.toNat)) l
theorem feed_append (s : Nat) : ∀ (a b : List Bool), feed s (a ++ b) = feed (feed s a) b := by
 intro a
 induction a generalizing s with
 | nil => intro b; rfl
 | cons x a ih => intro b; exact ih _ b
theorem feed_noughts : ∀ (n s : Nat), feed s (List.replicate n false) = crcBits n s
 | 0, s => rfl
 | n + 1, s => by rw [List.replicate_succ, feed, feed_noughts n]; simp [crcBits]
def word : List Bool → Nat
 | [] => 0
 | b :: l => b.toNat + 2 * word l
theorem crcBit_double (m : Nat) : crcBit (2 * m) = m := by unfold crcBit; rw [if_neg (by omega)]; omega
theorem feed_word (s : Nat) : ∀ (l : List Bool), feed s l = crcBits l.length (s ^^^ word l) := by
 intro l
 induction l generalizing s with
 | nil => simp [feed, crcBits, word]
 | cons b l ih =>
  rw [feed, ih, List.length_cons, crcBits]
  congr 1
  have h1 : b.toNat + 2 * word l = b.toNat ^^^ (2 * word l) := by
   apply Nat.eq_of_testBit_eq
   intro i
   rw [Nat.testBit_xor]
   cases i with
   | zero => cases b <;> simp [Nat.testBit_zero, Nat.add_mod]
   | succ i =>
    have : (b.toNat + 2 * word l) / 2 = word l := by cases b <;> simp <;> omega
    rw [Nat.testBit_succ, Nat.testBit_succ, this, Nat.testBit_succ, show 2 * word l / 2 = word l by omega]
    have : b.toNat / 2 = 0 := by cases b <;> rfl
    rw [this]; simp
  rw [word, h1, ← Nat.xor_assoc, crcBit_xor (s ^^^ b.toNat) (2 * word l), crcBit_double]
theorem word_lt : ∀ (l : List Bool), word l < 2 ^ l.length
 | [] => by simp [word]
 | b :: l => by
  have := word_lt l
  rw [word, List.length_cons, Nat.pow_succ]
  cases b <;> simp <;> omega
theorem word_zero : ∀ {l : List Bool}, word l = 0 → l = List.replicate l.length false
 | [], _ => rfl
 | b :: l, h => by
  rw [word] at h
  have h1 : word l = 0 := by omega
  have h2 : b = false := by cases b <;> simp_all
  rw [h2, List.length_cons, List.replicate_succ, ← word_zero h1]
theorem feed_burst {a b : Nat} {l : List Bool} (hl : l.length ≤ 32) (h : feed 0 (List.replicate a false ++ l ++ List.replicate b false) = 0) : l = List.replicate l.length false := by
 rw [feed_append, feed_append, feed_noughts, feed_noughts, crcBits_zero, feed_word, Nat.zero_xor] at h
 have hw : word l < 4294967296 := Nat.lt_of_lt_of_le (word_lt l) (Nat.pow_le_pow_right (n := 2) (by omega) hl)
 exact word_zero (crcBits_eq_zero _ hw (crcBits_eq_zero _ (crcBits_lt _ hw) h))
end Go.Ab
