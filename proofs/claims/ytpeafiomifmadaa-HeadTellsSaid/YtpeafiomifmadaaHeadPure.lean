/- Heads of files: their bytes. No program in sight. -/
import Derived.Test.YtpeafiomifmadaaCrcF
namespace Go.Ab
open Go
set_option linter.unusedVariables false
set_option linter.unusedSimpArgs false
def magicB : List Nat := [84, 71, 88, 49]
def headB (N K C : Nat) : List Nat := magicB ++ leB 8 N ++ leB 4 K ++ leB 4 C
def headS (N K C : Nat) : List Nat := headB N K C ++ le4 (crcSum (headB N K C))
theorem headB_length (N K C : Nat) : (headB N K C).length = 20 := by
 unfold headB
 simp only [List.length_append, leB_length]
 rfl
theorem headB_lt (N K C : Nat) : ∀ b ∈ headB N K C, b < 256 := by
 intro b hb
 unfold headB at hb
 simp only [List.mem_append] at hb
 rcases hb with ((hb | hb) | hb) | hb
 ·simp only [magicB, List.mem_cons, List.not_mem_nil, or_false] at hb
  omega
 ·exact leB_lt _ _ b hb
 ·exact leB_lt _ _ b hb
 ·exact leB_lt _ _ b hb
theorem headS_length (N K C : Nat) : (headS N K C).length = 24 := by
 unfold headS
 rw [List.length_append, headB_length]
 rfl
theorem headS_lt (N K C : Nat) : ∀ b ∈ headS N K C, b < 256 := by
 intro b hb
 rcases List.mem_append.1 hb with hb | hb
 ·exact headB_lt N K C b hb
 ·exact le4_lt _ b hb
def headOk (n k c : Int) : Prop := n ≤ 4294967296 ∧ 1 ≤ k ∧ k ≤ 1048576 ∧ 0 ≤ c ∧ c ≤ 2147483648
instance (n k c : Int) : Decidable (headOk n k c) := by unfold headOk; infer_instance
def hN (bs : List Nat) : Nat := leN ((bs.drop 4).take 8)
def hK (bs : List Nat) : Nat := leN ((bs.drop 12).take 4)
def hC (bs : List Nat) : Nat := leN ((bs.drop 16).take 4)
theorem headB_num {N K C : Nat} (s : List Nat) (hN' : N < 256 ^ 8) (hK' : K < 256 ^ 4) (hC' : C < 256 ^ 4) : hN (headB N K C ++ s) = N ∧ hK (headB N K C ++ s) = K ∧ hC (headB N K C ++ s) = C := by
 have l8 := leB_length 8 N
 have k4 := leB_length 4 K
 have c4 := leB_length 4 C
 unfold hN hK hC headB
 refine ⟨?_, ?_, ?_⟩
 ·rw [show magicB ++ leB 8 N ++ leB 4 K ++ leB 4 C ++ s = magicB ++ (leB 8 N ++ (leB 4 K ++ (leB 4 C ++ s))) by simp, List.drop_left' (show magicB.length = 4 from rfl), List.take_left' l8, leN_leB 8 N hN']
 ·rw [show magicB ++ leB 8 N ++ leB 4 K ++ leB 4 C ++ s = (magicB ++ leB 8 N) ++ (leB 4 K ++ (leB 4 C ++ s)) by simp, List.drop_left' (by rw [List.length_append, l8]; rfl), List.take_left' k4, leN_leB 4 K hK']
 ·rw [show magicB ++ leB 8 N ++ leB 4 K ++ leB 4 C ++ s = (magicB ++ leB 8 N ++ leB 4 K) ++ (leB 4 C ++ s) by simp, List.drop_left' (by rw [List.length_append, List.length_append, l8, k4]; rfl), List.take_left' c4, leN_leB 4 C hC']
inductive HdR where
 | bad (e : Int)
 | ok (n k c : Nat)
def rdHead (bs : List Nat) : HdR :=
 if bs.length < 24 then .bad 20
 else if bs.take 4 ≠ magicB then .bad 27
 else if crcOk (bs.take 24) = false then .bad 28
 else if headOk (hN bs) (hK bs) (hC bs) then .ok (hN bs) (hK bs) (hC bs) else .bad 26
theorem rdHead_headS {N K C : Nat} (h : headOk N K C) : rdHead (headS N K C) = .ok N K C := by
 obtain ⟨h1, h2, h3, h4, h5⟩ := h
 have hl := headS_length N K C
 have hn := headB_num (le4 (crcSum (headB N K C))) (show N < 256 ^ 8 by omega) (show K < 256 ^ 4 by omega) (show C < 256 ^ 4 by omega)
 unfold rdHead
 rw [if_neg (by omega), if_neg ?_, List.take_of_length_le (by omega), if_neg ?_]
 ·unfold headS
  rw [hn.1, hn.2.1, hn.2.2, if_pos ⟨h1, h2, h3, h4, h5⟩]
 ·unfold headS
  rw [crcOk_le4 (headB_lt N K C) (crcSum_lt (headB_lt N K C)), beq_self_eq_true]
  simp
 ·unfold headS headB
  rw [show magicB ++ leB 8 N ++ leB 4 K ++ leB 4 C ++ le4 (crcSum (magicB ++ leB 8 N ++ leB 4 K ++ leB 4 C)) = magicB ++ (leB 8 N ++ (leB 4 K ++ (leB 4 C ++ le4 (crcSum (magicB ++ leB 8 N ++ leB 4 K ++ leB 4 C))))) by simp, List.take_left' (show magicB.length = 4 from rfl)]
  simp
end Go.Ab
