/- How values of the machine of values stand for the abstract machine's. -/
import Derived.Test.YtpeafiomifmadaaValA
namespace Go.Ab
open Go
set_option linter.unusedVariables false
set_option linter.unusedSimpArgs false
def L2 {α β : Type} (R : α → β → Prop) : List α → List β → Prop
 | [], [] => True
 | a :: l, b :: m => R a b ∧ L2 R l m
 | _, _ => False
section
variable {α β : Type} {R S : α → β → Prop}
theorem L2.length : ∀ {l : List α} {m : List β}, L2 R l m → l.length = m.length
 | [], [], _ => rfl
 | _ :: _, _ :: _, h => congrArg (· + 1) (L2.length h.2)
theorem L2.get : ∀ {l : List α} {m : List β}, L2 R l m → ∀ {i : Nat} {a : α}, l[i]? = some a → ∃ b, m[i]? = some b ∧ R a b
 | [], [], _, i, a, h => by simp at h
 | x :: l, y :: m, h, 0, a, e => by simp at e; subst e; exact ⟨y, rfl, h.1⟩
 | x :: l, y :: m, h, i + 1, a, e => by simp at e; exact L2.get h.2 e
theorem L2.none {l : List α} {m : List β} (h : L2 R l m) {i : Nat} (e : l[i]? = none) : m[i]? = none := by
 rw [List.getElem?_eq_none_iff] at e ⊢; rw [← h.length]; exact e
theorem L2.mono (hR : ∀ a b, R a b → S a b) : ∀ {l : List α} {m : List β}, L2 R l m → L2 S l m
 | [], [], _ => trivial
 | _ :: _, _ :: _, h => ⟨hR _ _ h.1, L2.mono hR h.2⟩
theorem L2.append : ∀ {l : List α} {m : List β} {l' : List α} {m' : List β}, L2 R l m → L2 R l' m' → L2 R (l ++ l') (m ++ m')
 | [], [], _, _, _, k => k
 | _ :: _, _ :: _, _, _, h, k => ⟨h.1, L2.append h.2 k⟩
theorem L2.drop : ∀ (n : Nat) {l : List α} {m : List β}, L2 R l m → L2 R (l.drop n) (m.drop n)
 | 0, _, _, h => h
 | n + 1, [], [], _ => trivial
 | n + 1, _ :: _, _ :: _, h => L2.drop n h.2
theorem L2.take : ∀ (n : Nat) {l : List α} {m : List β}, L2 R l m → L2 R (l.take n) (m.take n)
 | 0, _, _, h => by simp only [List.take_zero]; trivial
 | n + 1, [], [], _ => trivial
 | n + 1, _ :: _, _ :: _, h => ⟨h.1, L2.take n h.2⟩
theorem L2.cut {l : List α} {m : List β} (h : L2 R l m) (a n : Nat) : L2 R (cut l a n) (cut m a n) := L2.take n (L2.drop a h)
theorem L2.lay {l x : List α} {m y : List β} (h : L2 R l m) (k : L2 R x y) (a : Nat) : L2 R (lay l a x) (lay m a y) := by
 unfold Go.Ab.lay
 rw [k.length]
 exact ((L2.take a h).append k).append (L2.drop _ h)
theorem L2.set : ∀ {l : List α} {m : List β}, L2 R l m → ∀ (i : Nat) {a : α} {b : β}, R a b → L2 R (l.set i a) (m.set i b)
 | [], [], _, _, _, _, _ => trivial
 | _ :: _, _ :: _, h, 0, _, _, k => ⟨k, h.2⟩
 | _ :: _, _ :: _, h, i + 1, _, _, k => ⟨h.1, L2.set h.2 i k⟩
theorem L2.replicate (n : Nat) {a : α} {b : β} (h : R a b) : L2 R (List.replicate n a) (List.replicate n b) := by
 induction n with
 | zero => trivial
 | succ n ih => exact ⟨h, ih⟩
theorem L2.nil {m : List β} (h : L2 R [] m) : m = [] := by cases m with
 | nil => rfl
 | cons => exact h.elim
theorem L2.nil' {l : List α} (h : L2 R l []) : l = [] := by cases l with
 | nil => rfl
 | cons => exact h.elim
theorem L2.cons {a : α} {l : List α} {m : List β} (h : L2 R (a :: l) m) : ∃ b m', m = b :: m' ∧ R a b ∧ L2 R l m' := by cases m with
 | nil => exact h.elim
 | cons b m => exact ⟨b, m, rfl, h.1, h.2⟩
theorem L2.map {γ : Type} {f : γ → α} {g : γ → β} (h : ∀ c, R (f c) (g c)) : ∀ (l : List γ), L2 R (l.map f) (l.map g)
 | [] => trivial
 | c :: l => ⟨h c, L2.map h l⟩
end
structure Ad where
 a : Nat
 g : Nat
mutual
def RV (st : St) (X : Nat → Prop) (α : List Ad) : U → V → Prop
 | .undef, v => True
 | .bool b, v => v = .bool b
 | .int k n, v => v = .int k n
 | .str s, v => v = .str s
 | .nilp, v => v = .nilp
 | .ptr o g i s, v => ∃ d, α[o]? = some d ∧ v = .ptr d.a (d.g + g) i s
 | .eptr cs s, v => ∃ o g i row gen live ro x, v = .ptr o g i s ∧ ¬ X o ∧ st.get o = some (.row row gen live ro) ∧ live ≤ g ∧ row[i]? = some x ∧ RL st X α cs x
 | .nils, v => v = .nils
 | .list cp e es, v => (v = .nils ∧ RLL st X α es []) ∨ ∃ o g off ln cap row gen live ro, v = .sl o g off ln e cap ∧ ¬ X o ∧ st.get o = some (.row row gen live ro) ∧ live ≤ g ∧ off + ln ≤ row.length ∧ RLL st X α es (cut row off ln) ∧ (cp = true → cap = some ln)
 | .own e es, v => (v = .nils ∧ RLL st X α es []) ∨ ∃ o g off ln cap row gen live ro, v = .sl o g off ln e cap ∧ ¬ X o ∧ st.get o = some (.row row gen live ro) ∧ live ≤ g ∧ off + ln ≤ row.length ∧ RLL st X α es (cut row off ln)
 | .asl cap o g off ln e, v => ∃ d, α[o]? = some d ∧ v = .sl d.a (d.g + g) off ln e cap
 | .nilm, v => v = .nilm
 | .map o, v => ∃ d, α[o]? = some d ∧ v = .map d.a
 | .nilf, v => v = .nilf
 | .fn f a c, v => ∃ a' c', v = .fn f a' c' ∧ RL st X α a a' ∧ RL st X α c c'
 | .agg cs, v => ∃ vs, v = .agg vs ∧ RL st X α cs vs
 | .tup us, v => ∃ vs, v = .tup vs ∧ RL st X α us vs
def RL (st : St) (X : Nat → Prop) (α : List Ad) : List U → List V → Prop
 | [], vs => vs = []
 | u :: us, vs => ∃ v vs', vs = v :: vs' ∧ RV st X α u v ∧ RL st X α us vs'
def RLL (st : St) (X : Nat → Prop) (α : List Ad) : List (List U) → List (List V) → Prop
 | [], vs => vs = []
 | u :: us, vs => ∃ v vs', vs = v :: vs' ∧ RL st X α u v ∧ RLL st X α us vs'
end
theorem RL_iff {st : St} {X : Nat → Prop} {α : List Ad} : ∀ {us : List U} {vs : List V}, RL st X α us vs ↔ L2 (RV st X α) us vs
 | [], [] => by simp [RL, L2]
 | [], _ :: _ => by simp [RL, L2]
 | u :: us, [] => by simp [RL, L2]
 | u :: us, v :: vs => by
  simp only [RL, L2]
  constructor
  ·rintro ⟨v', vs', e, h1, h2⟩
   cases e
   exact ⟨h1, RL_iff.1 h2⟩
  ·rintro ⟨h1, h2⟩
   exact ⟨v, vs, rfl, h1, RL_iff.2 h2⟩
theorem RLL_iff {st : St} {X : Nat → Prop} {α : List Ad} : ∀ {us : List (List U)} {vs : List (List V)}, RLL st X α us vs ↔ L2 (L2 (RV st X α)) us vs
 | [], [] => by simp [RLL, L2]
 | [], _ :: _ => by simp [RLL, L2]
 | u :: us, [] => by simp [RLL, L2]
 | u :: us, v :: vs => by
  simp only [RLL, L2]
  constructor
  ·rintro ⟨v', vs', e, h1, h2⟩
   cases e
   exact ⟨RL_iff.1 h1, RLL_iff.1 h2⟩
  ·rintro ⟨h1, h2⟩
   exact ⟨v, vs, rfl, RL_iff.2 h1, RLL_iff.2 h2⟩
def Kp (st st' : St) (o : Nat) : Prop := ∀ row gen live ro, st.get o = some (.row row gen live ro) → ∃ row' gen' ro', st'.get o = some (.row (row ++ row') gen' live ro')
theorem Kp.same {st st' : St} {o : Nat} (h : st'.get o = st.get o) : Kp st st' o := fun row gen live ro e => ⟨[], gen, ro, by rw [h, e, List.append_nil]⟩
theorem Kp.trans {a b c : St} {o : Nat} (h : Kp a b o) (k : Kp b c o) : Kp a c o := fun row gen live ro e => by
 obtain ⟨r1, g1, o1, e1⟩ := h _ _ _ _ e
 obtain ⟨r2, g2, o2, e2⟩ := k _ _ _ _ e1
 exact ⟨r1 ++ r2, g2, o2, by rw [e2, List.append_assoc]⟩
structure Grow (st : St) (X : Nat → Prop) (α : List Ad) (st' : St) (X' : Nat → Prop) (α' : List Ad) : Prop where
 low : st.Low
 x : ∀ o, o < st.next → X' o → X o
 kp : ∀ o, o < st.next → ¬ X o → Kp st st' o
 al : ∀ (k : Nat) (d : Ad), α[k]? = some d → α'[k]? = some d
mutual
theorem RV.grow {st : St} {X : Nat → Prop} {α : List Ad} {st' : St} {X' : Nat → Prop} {α' : List Ad} (G : Grow st X α st' X' α') : ∀ {u : U} {v : V}, RV st X α u v → RV st' X' α' u v
 | .undef, v, h => by simp only [RV]
 | .bool b, v, h => by simp only [RV] at h ⊢; exact h
 | .int k n, v, h => by simp only [RV] at h ⊢; exact h
 | .str s, v, h => by simp only [RV] at h ⊢; exact h
 | .nilp, v, h => by simp only [RV] at h ⊢; exact h
 | .ptr o g i s, v, h => by
  simp only [RV] at h ⊢
  obtain ⟨a, h1, h2⟩ := h
  exact ⟨a, G.al _ _ h1, h2⟩
 | .eptr cs s, v, h => by
  simp only [RV] at h ⊢
  obtain ⟨o, g, i, row, gen, live, ro, x, h1, h2, h3, h4, h5, h6⟩ := h
  have hlt := G.low _ _ h3
  obtain ⟨r, g', ro', e⟩ := G.kp o hlt h2 _ _ _ _ h3
  refine ⟨o, g, i, _, g', live, ro', x, h1, fun hx => h2 (G.x o hlt hx), e, h4, ?_, RL.grow G h6⟩
  rw [List.getElem?_append_left (List.getElem?_eq_some_iff.1 h5).1]; exact h5
 | .nils, v, h => by simp only [RV] at h ⊢; exact h
 | .list cp e es, v, h => by
  simp only [RV] at h ⊢
  rcases h with ⟨h1, h2⟩ | ⟨o, g, off, ln, cap, row, gen, live, ro, h1, h2, h3, h4, h5, h6, h7⟩
  ·exact .inl ⟨h1, RLL.grow G h2⟩
  ·have hlt := G.low _ _ h3
   obtain ⟨r, g', ro', e'⟩ := G.kp o hlt h2 _ _ _ _ h3
   refine .inr ⟨o, g, off, ln, cap, _, g', live, ro', h1, fun hx => h2 (G.x o hlt hx), e', h4, by rw [List.length_append]; omega, ?_, h7⟩
   rw [show cut (row ++ r) off ln = cut row off ln by
    unfold cut; rw [List.drop_append_of_le_length (by omega), List.take_append_of_le_length (by rw [List.length_drop]; omega)]]
   exact RLL.grow G h6
 | .own e es, v, h => by
  simp only [RV] at h ⊢
  rcases h with ⟨h1, h2⟩ | ⟨o, g, off, ln, cap, row, gen, live, ro, h1, h2, h3, h4, h5, h6⟩
  ·exact .inl ⟨h1, RLL.grow G h2⟩
  ·have hlt := G.low _ _ h3
   obtain ⟨r, g', ro', e'⟩ := G.kp o hlt h2 _ _ _ _ h3
   refine .inr ⟨o, g, off, ln, cap, _, g', live, ro', h1, fun hx => h2 (G.x o hlt hx), e', h4, by rw [List.length_append]; omega, ?_⟩
   rw [show cut (row ++ r) off ln = cut row off ln by
    unfold cut; rw [List.drop_append_of_le_length (by omega), List.take_append_of_le_length (by rw [List.length_drop]; omega)]]
   exact RLL.grow G h6
 | .asl cap o g off ln e, v, h => by
  simp only [RV] at h ⊢
  obtain ⟨a, h1, h2⟩ := h
  exact ⟨a, G.al _ _ h1, h2⟩
 | .nilm, v, h => by simp only [RV] at h ⊢; exact h
 | .map o, v, h => by
  simp only [RV] at h ⊢
  obtain ⟨a, h1, h2⟩ := h
  exact ⟨a, G.al _ _ h1, h2⟩
 | .nilf, v, h => by simp only [RV] at h ⊢; exact h
 | .fn f a c, v, h => by
  simp only [RV] at h ⊢
  obtain ⟨a', c', h1, h2, h3⟩ := h
  exact ⟨a', c', h1, RL.grow G h2, RL.grow G h3⟩
 | .agg cs, v, h => by
  simp only [RV] at h ⊢
  obtain ⟨vs, h1, h2⟩ := h
  exact ⟨vs, h1, RL.grow G h2⟩
 | .tup cs, v, h => by
  simp only [RV] at h ⊢
  obtain ⟨vs, h1, h2⟩ := h
  exact ⟨vs, h1, RL.grow G h2⟩
theorem RL.grow {st : St} {X : Nat → Prop} {α : List Ad} {st' : St} {X' : Nat → Prop} {α' : List Ad} (G : Grow st X α st' X' α') : ∀ {us : List U} {vs : List V}, RL st X α us vs → RL st' X' α' us vs
 | [], vs, h => by simp only [RL] at h ⊢; exact h
 | u :: us, vs, h => by
  simp only [RL] at h ⊢
  obtain ⟨v, vs', h1, h2, h3⟩ := h
  exact ⟨v, vs', h1, RV.grow G h2, RL.grow G h3⟩
theorem RLL.grow {st : St} {X : Nat → Prop} {α : List Ad} {st' : St} {X' : Nat → Prop} {α' : List Ad} (G : Grow st X α st' X' α') : ∀ {us : List (List U)} {vs : List (List V)}, RLL st X α us vs → RLL st' X' α' us vs
 | [], vs, h => by simp only [RLL] at h ⊢; exact h
 | u :: us, vs, h => by
  simp only [RLL] at h ⊢
  obtain ⟨v, vs', h1, h2, h3⟩ := h
  exact ⟨v, vs', h1, RL.grow G h2, RLL.grow G h3⟩
end
inductive Place where
 | tmp (n j : Nat)
 | cell (k s : Nat)
 deriving DecidableEq
abbrev Om := Nat → Option Place
def OwnC (st : St) (X : Nat → Prop) (ω : Om) (p : Place) (e : Nat) (v : V) : Prop :=
 v = .nils ∨ ∃ o g row live, v = .sl o g 0 row.length e none ∧ ¬ X o ∧ st.get o = some (.row row g live false) ∧ live ≤ g ∧ ω o = some p
def OwnT (st : St) (X : Nat → Prop) (ω : Om) (n : Nat) (u : U) (v : V) : Prop :=
 (∀ e es, u = .own e es → OwnC st X ω (.tmp n 0) e v) ∧ (∀ us vs j e es w, u = .tup us → v = .tup vs → us[j]? = some (.own e es) → vs[j]? = some w → OwnC st X ω (.tmp n (j + 1)) e w)
def ObjR (st : St) (X : Nat → Prop) (α : List Ad) (ω : Om) (k : Nat) (d : Ad) : GObj → Prop
 | .box cs => d.g = 0 ∧ ∃ vs, st.get d.a = some (.row [vs] 0 0 false) ∧ L2 (RV st X α) cs vs ∧ ∀ s e es v, cs[s]? = some (.own e es) → vs[s]? = some v → OwnC st X ω (.cell k s) e v
 | .arr es gen live => ∃ rows lv, st.get d.a = some (.row rows (d.g + gen) lv false) ∧ lv ≤ d.g + live ∧ L2 (L2 (RV st X α)) es rows
 | .map ps => ∃ qs, st.get d.a = some (.map qs) ∧ L2 (fun p q => RV st X α p.1 q.1 ∧ RV st X α p.2 q.2) ps qs
structure Cf (st : St) (X : Nat → Prop) (α : List Ad) (ω : Om) (h : GH) : Prop where
 low : st.Low
 len : α.length = h.length
 inj : ∀ (i j : Nat) (d d' : Ad), α[i]? = some d → α[j]? = some d' → d.a = d'.a → i = j
 x : ∀ (i : Nat) (d : Ad), α[i]? = some d → X d.a
 lt : ∀ (i : Nat) (d : Ad), α[i]? = some d → d.a < st.next
 obj : ∀ (k : Nat) (d : Ad) (b : GObj), α[k]? = some d → h[k]? = some b → ObjR st X α ω k d b
def EnvR (st : St) (X : Nat → Prop) (α : List Ad) (ω : Om) (genv : GEnv) (env : Env) : Prop :=
 ∀ n, RV st X α (GEnv.get genv n) (Env.get env n) ∧ OwnT st X ω n (GEnv.get genv n) (Env.get env n)
structure Fr (lo : Nat) (st : St) (X : Nat → Prop) (α : List Ad) (ω : Om) (st' : St) (X' : Nat → Prop) (α' : List Ad) (ω' : Om) : Prop where
 next : st.next ≤ st'.next
 al : ∀ (k : Nat) (d : Ad), α[k]? = some d → α'[k]? = some d
 alnew : ∀ (k : Nat) (d : Ad), α'[k]? = some d → α[k]? = some d ∨ st.next ≤ d.a
 x : ∀ o, o < st.next → (X' o ↔ X o)
 same : ∀ o, o < st.next → (∀ (k : Nat) (d : Ad), α[k]? = some d → d.a = o → k < lo) → (∀ p, ω o = some p → ∃ k s, p = .cell k s ∧ k < lo) → st'.get o = st.get o
 kp : ∀ o, o < st.next → ¬ X o → Kp st st' o
 om : ∀ o, o < st.next → ω o = none → ω' o = none
 omlo : ∀ o k s, o < st.next → ω o = some (.cell k s) → k < lo → ω' o = some (.cell k s)
theorem Fr.refl {lo : Nat} {st : St} {X : Nat → Prop} {α : List Ad} {ω : Om} : Fr lo st X α ω st X α ω :=
 ⟨Nat.le_refl _, fun _ _ h => h, fun _ _ h => .inl h, fun _ _ => Iff.rfl, fun _ _ _ _ => rfl, fun _ _ _ => .same rfl, fun _ _ h => h, fun _ _ _ _ h _ => h⟩
theorem Fr.trans {lo : Nat} {a b c : St} {X Y Z : Nat → Prop} {α β γ : List Ad} {ω ψ χ : Om} (h : Fr lo a X α ω b Y β ψ) (k : Fr lo b Y β ψ c Z γ χ) : Fr lo a X α ω c Z γ χ where
 next := Nat.le_trans h.next k.next
 al := fun i x e => k.al _ _ (h.al _ _ e)
 alnew := fun i x e => by
  rcases k.alnew _ _ e with e | e
  ·exact h.alnew _ _ e
  ·exact .inr (Nat.le_trans h.next e)
 x := fun o ho => (k.x o (Nat.lt_of_lt_of_le ho h.next)).trans (h.x o ho)
 same := fun o ho h1 h2 => by
  rw [k.same o (Nat.lt_of_lt_of_le ho h.next) ?_ ?_, h.same o ho h1 h2]
  ·intro i d e ed
   rcases h.alnew _ _ e with e | e
   ·exact h1 i d e ed
   ·omega
  ·intro p e
   cases hp : ω o with
   | none => rw [h.om o ho hp] at e; cases e
   | some q =>
    obtain ⟨i, s, rfl, hi⟩ := h2 q hp
    rw [h.omlo o i s ho hp hi] at e
    cases e
    exact ⟨i, s, rfl, hi⟩
 kp := fun o ho hx => (h.kp o ho hx).trans (k.kp o (Nat.lt_of_lt_of_le ho h.next) (fun e => hx ((h.x o ho).1 e)))
 om := fun o ho e => k.om o (Nat.lt_of_lt_of_le ho h.next) (h.om o ho e)
 omlo := fun o i s ho e hi => k.omlo o i s (Nat.lt_of_lt_of_le ho h.next) (h.omlo o i s ho e hi) hi
theorem Fr.grow {lo : Nat} {st st' : St} {X X' : Nat → Prop} {α α' : List Ad} {ω ω' : Om} (h : Fr lo st X α ω st' X' α' ω') (l : st.Low) : Grow st X α st' X' α' :=
 ⟨l, fun o ho e => (h.x o ho).1 e, h.kp, h.al⟩
end Go.Ab
