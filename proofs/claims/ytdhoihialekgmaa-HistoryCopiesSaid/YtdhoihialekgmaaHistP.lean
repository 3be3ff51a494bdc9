/- Histories in plain lists: what may be, what is there behind so many events. -/
import Derived.Test.YtdhoihialekgmaaHistA
namespace Go.Ab
open Go
set_option linter.unusedVariables false
set_option linter.unusedSimpArgs false
def ltE (a b : Ed) : Prop := a.1 < b.1 ∨ a.1 = b.1 ∧ a.2 < b.2
def edOf (e : Ev) : Ed := (e.2.1, e.2.2.1)
def ltV (a b : Ev) : Prop := a.1 < b.1 ∨ a.1 = b.1 ∧ ltE (edOf a) (edOf b)
instance (a b : Ed) : Decidable (ltE a b) := by unfold ltE; infer_instance
instance (a b : Ev) : Decidable (ltV a b) := by unfold ltV; infer_instance
theorem lessE_lt {a b : Ed} : lessE a.1 a.2 b.1 b.2 = decide (ltE a b) := by
 unfold lessE ltE; rfl
theorem befE_lt {a b : Ev} : befE a.1 a.2.1 a.2.2.1 b.1 b.2.1 b.2.2.1 = decide (ltV a b) := by
 unfold befE ltV ltE edOf; rfl
theorem ltE_trans {a b c : Ed} (h : ltE a b) (k : ltE b c) : ltE a c := by unfold ltE at *; omega
theorem ltE_irrefl {a : Ed} : ¬ ltE a a := by unfold ltE; omega
theorem ltE_total {a b : Ed} (h : ¬ ltE a b) (hn : a ≠ b) : ltE b a := by
 unfold ltE at *
 by_cases h1 : a.1 = b.1
 ·have : a.2 ≠ b.2 := fun e => hn (Prod.ext h1 e)
  omega
 ·omega
theorem ltV_trans {a b c : Ev} (h : ltV a b) (k : ltV b c) : ltV a c := by
 unfold ltV at *
 rcases h with h | ⟨h1, h2⟩ <;> rcases k with k | ⟨k1, k2⟩
 ·exact .inl (by omega)
 ·exact .inl (by omega)
 ·exact .inl (by omega)
 ·exact .inr ⟨by omega, ltE_trans h2 k2⟩
theorem ltV_le {a b : Ev} (h : ltV a b) : a.1 ≤ b.1 := by unfold ltV at h; omega
abbrev RisE (l : List Ed) : Prop := l.Pairwise ltE
abbrev RisV (l : List Ev) : Prop := l.Pairwise ltV
theorem split_at {α : Type} {l : List α} {i : Nat} {y : α} (h : l[i]? = some y) : l = l.take i ++ y :: l.drop (i + 1) := by
 obtain ⟨hi, e⟩ := List.getElem?_eq_some_iff.1 h
 have : l.drop i = y :: l.drop (i + 1) := by rw [List.drop_eq_getElem_cons hi, e]
 rw [← this, List.take_append_drop]
theorem pw_insert {α : Type} {R : α → α → Prop} (tr : ∀ {a b c : α}, R a b → R b c → R a c) {l : List α} {e : α} {i : Nat} (hr : l.Pairwise R) (hi : i ≤ l.length) (h1 : ∀ y, 0 < i → l[i - 1]? = some y → R y e) (h2 : ∀ y, l[i]? = some y → R e y) : (l.take i ++ [e] ++ l.drop i).Pairwise R := by
 have hsp : (l.take i ++ l.drop i).Pairwise R := by rw [List.take_append_drop]; exact hr
 obtain ⟨p1, p2, p3⟩ := List.pairwise_append.1 hsp
 have hd : ∀ y ∈ l.drop i, R e y := by
  cases hdi : l.drop i with
  | nil => intro y hy; cases hy
  | cons z r =>
   have hz : l[i]? = some z := by
    have := List.getElem?_drop (xs := l) (i := i) (j := 0)
    rw [hdi] at this
    simpa using this.symm
   have hez := h2 z hz
   rw [hdi] at p2
   intro y hy
   rcases List.mem_cons.1 hy with rfl | hy
   ·exact hez
   ·exact tr hez ((List.pairwise_cons.1 p2).1 y hy)
 have ht : ∀ y ∈ l.take i, R y e := by
  by_cases hi0 : i = 0
  ·subst hi0; intro y hy; simp at hy
  ·have gx : l[i - 1]? = some (l[i - 1]'(by omega)) := List.getElem?_eq_getElem _
   have hz := h1 _ (by omega) gx
   generalize l[i - 1]'(by omega) = z at gx hz
   have e1 : l.take i = l.take (i - 1) ++ [z] := by
    have : i = i - 1 + 1 := by omega
    rw [this, List.take_add_one, Nat.add_sub_cancel, gx]; rfl
   rw [e1] at p1 ⊢
   obtain ⟨_, _, q⟩ := List.pairwise_append.1 p1
   intro y hy
   rcases List.mem_append.1 hy with hy | hy
   ·exact tr (q y hy z (List.mem_singleton.2 rfl)) hz
   ·rw [List.mem_singleton.1 hy]; exact hz
 rw [List.append_assoc]
 refine List.pairwise_append.2 ⟨p1, List.pairwise_cons.2 ⟨hd, p2⟩, fun a ha b hb => ?_⟩
 rcases List.mem_cons.1 hb with rfl | hb
 ·exact ht a ha
 ·exact p3 a ha b hb
theorem mem_insert {α : Type} {l : List α} {e x : α} {i : Nat} : x ∈ l.take i ++ [e] ++ l.drop i ↔ x ∈ l ∨ x = e := by
 have : x ∈ l ↔ x ∈ l.take i ∨ x ∈ l.drop i := by
  conv => lhs; rw [← List.take_append_drop i l]
  exact List.mem_append
 rw [List.mem_append, List.mem_append, List.mem_singleton, this]
 constructor
 ·rintro ((h | h) | h)
  ·exact .inl (.inl h)
  ·exact .inr h
  ·exact .inl (.inr h)
 ·rintro ((h | h) | h)
  ·exact .inl (.inl h)
  ·exact .inr h
  ·exact .inl (.inr h)
theorem pw_remove {α : Type} {R : α → α → Prop} {l : List α} {i : Nat} (hr : l.Pairwise R) : (l.take i ++ l.drop (i + 1)).Pairwise R := by
 refine List.Pairwise.sublist ?_ hr
 conv => rhs; rw [← List.take_append_drop i l]
 refine List.Sublist.append (List.Sublist.refl _) ?_
 rw [← List.drop_drop]
 exact List.drop_sublist _ _
theorem mem_remove {l : List Ed} {e x : Ed} {i : Nat} (hr : RisE l) (hi : l[i]? = some e) : x ∈ l.take i ++ l.drop (i + 1) ↔ x ∈ l ∧ x ≠ e := by
 have hs := split_at hi
 rw [hs] at hr
 obtain ⟨_, p2, p3⟩ := List.pairwise_append.1 hr
 obtain ⟨q, _⟩ := List.pairwise_cons.1 p2
 constructor
 ·intro hx
  refine ⟨?_, ?_⟩
  ·rw [hs]
   rcases List.mem_append.1 hx with hx | hx
   ·exact List.mem_append_left _ hx
   ·exact List.mem_append_right _ (List.mem_cons_of_mem _ hx)
  ·rintro rfl
   rcases List.mem_append.1 hx with hx | hx
   ·exact ltE_irrefl (p3 _ hx _ List.mem_cons_self)
   ·exact ltE_irrefl (q _ hx)
 ·rintro ⟨hx, hn⟩
  rw [hs] at hx
  rcases List.mem_append.1 hx with hx | hx
  ·exact List.mem_append_left _ hx
  ·rcases List.mem_cons.1 hx with rfl | hx
   ·exact absurd rfl hn
   ·exact List.mem_append_right _ hx
theorem ris_adj {α : Type} {R : α → α → Prop} (tr : ∀ {a b c : α}, R a b → R b c → R a c) {l : List α} (h : ∀ (i : Nat) (x y : α), l[i]? = some x → l[i + 1]? = some y → R x y) : l.Pairwise R := by
 have key : ∀ (n i : Nat) (x y : α), l[i]? = some x → l[i + 1 + n]? = some y → R x y := by
  intro n
  induction n with
  | zero => exact fun i x y hx hy => h i x y hx hy
  | succ n ih =>
   intro i x y hx hy
   have hl := (List.getElem?_eq_some_iff.1 hy).1
   have gz : l[i + 1 + n]? = some (l[i + 1 + n]'(by omega)) := List.getElem?_eq_getElem _
   exact tr (ih i x _ hx gz) (h (i + 1 + n) _ y gz hy)
 rw [List.pairwise_iff_getElem]
 intro i j hi hj hij
 exact key (j - i - 1) i _ _ (List.getElem?_eq_getElem hi) (by rw [show i + 1 + (j - i - 1) = j by omega]; exact List.getElem?_eq_getElem hj)
def onL (evs : List Ev) (x : Ed) : Bool := evs.foldl (fun b e => if edOf e = x then e.2.2.2 else b) false
theorem onL_snoc {evs : List Ev} {e : Ev} {x : Ed} : onL (evs ++ [e]) x = if edOf e = x then e.2.2.2 else onL evs x := by
 unfold onL; rw [List.foldl_append]; rfl
def NowOf (evs : List Ev) (es : List Ed) : Prop := RisE es ∧ ∀ x, x ∈ es ↔ onL evs x = true
def evAt (N : Int) (evs : List Ev) (i : Nat) : Int := match evs[i]? with
 | none => 0
 | some e => if e.1 < 0 ∨ e.1 > 4611686018427387903 then 26 else if ¬ (e.2.1 < e.2.2.1 ∧ e.2.2.1 < N) then 24 else
  if 0 < i ∧ ¬ ltV (evs.getD (i - 1) (0, 0, 0, false)) e then 23 else if onL (evs.take i) (edOf e) = e.2.2.2 then 25 else 0
def evN (N : Int) (evs : List Ev) : Nat → Int × Int
 | 0 => (0, 0)
 | n + 1 => if (evN N evs n).2 ≠ 0 then evN N evs n else if evAt N evs n = 0 then (0, 0) else ((n : Int), evAt N evs n)
def evChk (N : Int) (evs : List Ev) : Int × Int := if N > 4294967296 then (0, 26) else evN N evs evs.length
theorem evN_keep {N : Int} {evs : List Ev} {i : Nat} (h : (evN N evs i).2 ≠ 0) : ∀ n, evN N evs (i + n) = evN N evs i
 | 0 => rfl
 | n + 1 => by
  rw [← Nat.add_assoc, evN, evN_keep h n, if_pos h]
theorem evN_stop {N : Int} {evs : List Ev} {i n : Nat} {c : Int} (h0 : evN N evs i = (0, 0)) (hc : evAt N evs i = c) (h : c ≠ 0) (hn : i < n) : evN N evs n = ((i : Int), c) := by
 have h1 : evN N evs (i + 1) = ((i : Int), c) := by rw [evN, h0, if_neg (by simp), hc, if_neg h]
 have := evN_keep (N := N) (evs := evs) (i := i + 1) (by rw [h1]; exact h) (n - (i + 1))
 rw [show i + 1 + (n - (i + 1)) = n by omega] at this
 rw [this, h1]
theorem evN_next {N : Int} {evs : List Ev} {i : Nat} (h0 : evN N evs i = (0, 0)) (hc : evAt N evs i = 0) : evN N evs (i + 1) = (0, 0) := by
 rw [evN, h0, if_neg (by simp), hc, if_pos rfl]
theorem evN_ok {N : Int} {evs : List Ev} : ∀ n, (∀ i, i < n → evAt N evs i = 0) → evN N evs n = (0, 0)
 | 0, _ => rfl
 | n + 1, h => evN_next (evN_ok n fun i hi => h i (by omega)) (h n (by omega))
theorem evAt_append {N : Int} {evs more : List Ev} {i : Nat} (hi : i < evs.length) : evAt N (evs ++ more) i = evAt N evs i := by
 unfold evAt
 rw [List.getElem?_append_left hi, List.take_append_of_le_length (by omega)]
 have : ∀ j, j < evs.length → (evs ++ more).getD j (0, 0, 0, false) = evs.getD j (0, 0, 0, false) := fun j hj => by
  rw [List.getD_eq_getElem?_getD, List.getD_eq_getElem?_getD, List.getElem?_append_left hj]
 rw [this (i - 1) (by omega)]
theorem evN_append {N : Int} {evs more : List Ev} : ∀ n, n ≤ evs.length → evN N (evs ++ more) n = evN N evs n
 | 0, _ => rfl
 | n + 1, h => by rw [evN, evN, evN_append n (by omega), evAt_append (by omega)]
theorem evChk_append {N : Int} {evs more : List Ev} (h : (evChk N evs).2 ≠ 0) : evChk N (evs ++ more) = evChk N evs := by
 unfold evChk at *
 by_cases hN : N > 4294967296
 ·rw [if_pos hN, if_pos hN]
 ·rw [if_neg hN] at h ⊢
  rw [if_neg hN, List.length_append]
  have e := evN_append (N := N) (more := more) evs.length (Nat.le_refl _)
  rw [← e] at h ⊢
  exact evN_keep h _
def RightV (N : Int) (evs : List Ev) : Prop := N ≤ 4294967296 ∧ ∀ i, i < evs.length → evAt N evs i = 0
theorem RightV.check {N : Int} {evs : List Ev} (h : RightV N evs) : evChk N evs = (0, 0) := by
 unfold evChk; rw [if_neg (by have := h.1; omega), evN_ok _ h.2]
theorem RightV.take {N : Int} {evs : List Ev} (h : RightV N evs) (m : Nat) : RightV N (evs.take m) := by
 refine ⟨h.1, fun i hi => ?_⟩
 have hi2 : i < evs.length := by rw [List.length_take] at hi; omega
 rw [← evAt_append (more := evs.drop m) hi, List.take_append_drop]
 exact h.2 i hi2
theorem RightV.nil {N : Int} (h : N ≤ 4294967296) : RightV N [] := ⟨h, fun i hi => absurd hi (by simp)⟩
theorem RightV.snoc {N : Int} {evs : List Ev} {e : Ev} (h : RightV N evs) (h1 : 0 ≤ e.1 ∧ e.1 ≤ 4611686018427387903) (h2 : e.2.1 < e.2.2.1 ∧ e.2.2.1 < N) (h3 : ∀ d, 0 < evs.length → evs[evs.length - 1]? = some d → ltV d e) (h4 : onL evs (edOf e) ≠ e.2.2.2) : RightV N (evs ++ [e]) := by
 refine ⟨h.1, fun i hi => ?_⟩
 by_cases hi2 : i < evs.length
 ·rw [evAt_append hi2]; exact h.2 i hi2
 ·rw [List.length_append] at hi
  have : i = evs.length := by simp at hi; omega
  subst this
  unfold evAt
  rw [List.getElem?_append_right (Nat.le_refl _), Nat.sub_self]
  simp only [List.getElem?_cons_zero]
  rw [if_neg (by omega), if_neg (by simpa using h2), if_neg, if_neg]
  ·rw [List.take_append_of_le_length (Nat.le_refl _), List.take_length]; exact h4
  ·rintro ⟨h5, h6⟩
   apply h6
   have gx : evs[evs.length - 1]? = some (evs[evs.length - 1]'(by omega)) := List.getElem?_eq_getElem _
   rw [List.getD_eq_getElem?_getD, List.getElem?_append_left (by omega), gx, Option.getD_some]
   exact h3 _ h5 gx
theorem now_turn {evs : List Ev} {es es' : List Ed} {e : Ev} (h : NowOf evs es) (h1 : RisE es') (h2 : ∀ x, x ∈ es' ↔ (if x = edOf e then e.2.2.2 = true else x ∈ es)) : NowOf (evs ++ [e]) es' := by
 refine ⟨h1, fun x => ?_⟩
 rw [h2 x, onL_snoc]
 by_cases hx : x = edOf e
 ·rw [if_pos hx, if_pos hx.symm]
 ·rw [if_neg hx, if_neg (fun h => hx h.symm)]; exact h.2 x
def EvOk (evs : List Ev) : Prop := ∀ e ∈ evs, (0 ≤ e.2.1 ∧ e.2.1 ≤ 4294967295) ∧ (0 ≤ e.2.2.1 ∧ e.2.2.1 ≤ 4294967295)
end Go.Ab
