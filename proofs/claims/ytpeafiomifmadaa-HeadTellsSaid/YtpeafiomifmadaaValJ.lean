/- Regions of open order. -/
import Derived.Test.YtpeafiomifmadaaValI
namespace Go.Ab
open Go
set_option linter.unusedVariables false
set_option linter.unusedSimpArgs false
variable {st st' : St} {X X' : Nat → Prop} {α α' : List Ad} {ω ω' : Om} {h h' : GH} {genv : GEnv} {env : Env} {lo : Nat}
structure Keepn (a b : St) : Prop where
 next : a.next ≤ b.next
 same : ∀ p, p < a.next → b.get p = a.get p
theorem Keepn.refl {a : St} : Keepn a a := ⟨Nat.le_refl _, fun _ _ => rfl⟩
theorem Keepn.trans {a b c : St} (h : Keepn a b) (k : Keepn b c) : Keepn a c := ⟨Nat.le_trans h.next k.next, fun p hp => (k.same p (Nat.lt_of_lt_of_le hp h.next)).trans (h.same p hp)⟩
theorem Keepn.push {a : St} (x : Obj) : Keepn a (a.push x) := ⟨by rw [St.next_push]; omega, fun p hp => by rw [St.get_push, if_neg (by omega)]⟩
theorem ex_keep {o : IOp} {env : Env} {st st' : St} {v : V} (hk : o.kind ≠ .act) (e : o.ex env st = some (v, st')) : Keepn st st' := by
 have same : ∀ {β : Type} {x : Option β} {f : β → V}, x.map (fun y => (f y, st)) = some (v, st') → Keepn st st' := by
  intro β x f h
  obtain ⟨y, _, h2⟩ := Option.map_eq_some_iff.1 h
  cases h2; exact .refl
 cases o <;> simp only [IOp.kind, ne_eq, reduceCtorEq, not_true_eq_false, not_false_eq_true] at hk <;> simp only [IOp.ex] at e
 case mov => cases e; exact .refl
 case pick => split at e <;> cases e <;> exact .refl
 case box =>
  split at e
  ·split at e
   ·cases e; exact .push _
   ·cases e
  ·cases e
 case build => exact same e
 case mkrow =>
  split at e
  ·obtain ⟨y, _, h2⟩ := Option.map_eq_some_iff.1 e
   cases h2; exact .push _
  ·cases e
 case load => exact same (f := fun v => v) e
 case nilck =>
  split at e
  ·cases e; exact .refl
  ·split at e
   ·cases e; exact .refl
   ·cases e
  ·cases e
 case bin => exact same (f := fun v => v) e
 case eq => exact same e
 case un => exact same (f := fun v => v) e
 case conv => split at e <;> cases e; exact .refl
 case toBytes =>
  split at e
  ·split at e
   ·cases e; exact .push _
   ·cases e
  ·cases e
 case toStr =>
  split at e
  ·cases e
  ·split at e
   ·exact same e
   ·cases e
 case cvs =>
  split at e
  ·split at e
   ·split at e
    ·cases e; exact .refl
    ·cases e
   ·cases e
  ·cases e
 case mkfn => split at e <;> cases e; exact .refl
 case mkmap => cases e; exact .push _
 case mkslice =>
  split at e
  ·split at e
   ·cases e; exact .push _
   ·cases e
  ·cases e
 case slice => exact same (f := fun v => v) e
 case faddr => split at e <;> cases e; exact .refl
 case field =>
  split at e
  ·split at e
   ·exact same (f := fun v => v) e
   ·cases e
  ·cases e
 case iaddr =>
  split at e
  ·split at e <;> cases e; exact .refl
  ·cases e
 case iaddrA =>
  split at e
  ·split at e <;> cases e; exact .refl
  ·cases e
 case index =>
  split at e
  ·split at e
   ·exact same e
   ·cases e
  ·cases e
 case indexA =>
  split at e
  ·split at e
   ·exact same (f := fun v => v) e
   ·cases e
  ·cases e
 case lookup =>
  split at e
  ·split at e <;> cases e; exact .refl
  ·split at e
   ·exact same e
   ·cases e
  ·cases e
 case extract =>
  split at e
  ·exact same (f := fun v => v) e
  ·cases e
 case len =>
  split at e
  any_goals (cases e; exact .refl)
  ·split at e
   ·split at e <;> cases e; exact .refl
   ·cases e
  ·cases e
 case minmax =>
  split at e
  ·exact same (f := fun v => v) e
  ·cases e
theorem read_st {o : IOp} {env : Env} {st st' : St} {v : V} (hk : o.kind = .read) (e : o.ex env st = some (v, st')) : st' = st := by
 have same : ∀ {β : Type} {x : Option β} {f : β → V}, x.map (fun y => (f y, st)) = some (v, st') → st' = st := by
  intro β x f h
  obtain ⟨y, _, h2⟩ := Option.map_eq_some_iff.1 h
  cases h2; rfl
 cases o <;> simp only [IOp.kind, reduceCtorEq] at hk <;> simp only [IOp.ex] at e
 case load => exact same (f := fun v => v) e
 case toStr =>
  split at e
  ·cases e
  ·split at e
   ·exact same e
   ·cases e
 case cvs =>
  split at e
  ·split at e
   ·split at e
    ·cases e; rfl
    ·cases e
   ·cases e
  ·cases e
 case lookup =>
  split at e
  ·split at e <;> cases e; rfl
  ·split at e
   ·exact same e
   ·cases e
  ·cases e
 case len =>
  split at e
  any_goals (cases e; rfl)
  ·split at e
   ·split at e <;> cases e; rfl
   ·cases e
  ·cases e
theorem runEx {call : CallF} {o : IOp} (hk : o.kind ≠ .act) (env : Env) (st : St) : o.run call env st = o.ex env st := by
 cases o <;> first | rfl | simp [IOp.kind] at hk
mutual
theorem V.beq_refl : ∀ (a : V), V.beq a a = true
 | .undef => rfl
 | .bool _ => by simp [V.beq]
 | .int _ _ => by simp [V.beq]
 | .str _ => by simp [V.beq]
 | .nilp => rfl
 | .ptr .. => by simp [V.beq]
 | .nils => rfl
 | .sl .. => by simp [V.beq]
 | .nilm => rfl
 | .map _ => by simp [V.beq]
 | .nilf => rfl
 | .fn f a c => by simp [V.beq, V.beqL_refl a, V.beqL_refl c]
 | .agg a => by simp [V.beq, V.beqL_refl a]
 | .tup a => by simp [V.beq, V.beqL_refl a]
theorem V.beqL_refl : ∀ (a : List V), V.beqL a a = true
 | [] => rfl
 | x :: xs => by simp [V.beqL, V.beq_refl x, V.beqL_refl xs]
end
structure Keepx (R : Nat → Prop) (a b : St) : Prop where
 next : a.next ≤ b.next
 same : ∀ p, p < a.next → R p → b.get p = a.get p
theorem Keepx.refl {R : Nat → Prop} {a : St} : Keepx R a a := ⟨Nat.le_refl _, fun _ _ _ => rfl⟩
theorem Keepx.trans {R : Nat → Prop} {a b c : St} (h : Keepx R a b) (k : Keepx R b c) : Keepx R a c := ⟨Nat.le_trans h.next k.next, fun p hp hq => (k.same p (Nat.lt_of_lt_of_le hp h.next) hq).trans (h.same p hp hq)⟩
theorem Keepn.x {R : Nat → Prop} {a b : St} (h : Keepn a b) : Keepx R a b := ⟨h.next, fun p hp _ => h.same p hp⟩
abbrev RTurn := Nat → Prop
def RTurn.holds (t : RTurn) (s st : St) : Prop := ∀ p, p < s.next → t p → st.get p = s.get p
theorem RTurn.keepx {t : RTurn} {R : Nat → Prop} {s st : St} (hn : s.next ≤ st.next) (h : RTurn.holds t s st) (k : ∀ p, R p → t p) : Keepx R s st := ⟨hn, fun p hp hr => h p hp (k p hr)⟩
theorem RTurn.holds_on {t : RTurn} {s st st' : St} (h : RTurn.holds t s st) (hn : s.next ≤ st.next) (k : Keepn st st') : RTurn.holds t s st' := fun p hp ht => (k.same p (Nat.lt_of_lt_of_le hp hn)).trans (h p hp ht)
def Hist : List St → List RTurn → St → Prop
 | [], [], _ => True
 | s :: sts, q :: acts, st => s.next ≤ st.next ∧ RTurn.holds q s st ∧ Hist sts acts s
 | _, _, _ => False
theorem Hist.len : ∀ {sts : List St} {acts : List RTurn} {st : St}, Hist sts acts st → sts.length = acts.length
 | [], [], _, _ => rfl
 | _ :: _, _ :: _, _, h => congrArg (· + 1) (Hist.len h.2.2)
theorem Hist.on : ∀ {sts : List St} {acts : List RTurn} {st st' : St}, Hist sts acts st → Keepn st st' → Hist sts acts st'
 | [], [], _, _, _, _ => trivial
 | s :: sts, q :: acts, st, st', h, k => ⟨Nat.le_trans h.1 k.next, RTurn.holds_on h.2.1 h.1 k, h.2.2⟩
abbrev States (sts : List St) (st : St) : List St := sts.reverse ++ [st]
theorem states_last {sts : List St} {st : St} : (States sts st)[sts.length]? = some st := by
 unfold States
 rw [List.getElem?_append_right (by simp)]
 simp
theorem states_lt {sts : List St} {st : St} {i : Nat} {s : St} (h : (States sts st)[i]? = some s) : i < sts.length ∧ sts.reverse[i]? = some s ∨ i = sts.length ∧ s = st := by
 have hl := (List.getElem?_eq_some_iff.1 h).1
 simp only [States, List.length_append, List.length_reverse, List.length_singleton] at hl
 by_cases hi : i < sts.length
 ·unfold States at h
  rw [List.getElem?_append_left (by simpa using hi)] at h
  exact .inl ⟨hi, h⟩
 ·have : i = sts.length := by omega
  subst this
  rw [states_last] at h
  cases h
  exact .inr ⟨rfl, rfl⟩
theorem states_cons {sts : List St} {s st : St} {i : Nat} (hi : i ≤ sts.length) : (States (s :: sts) st)[i]? = (States sts s)[i]? := by
 unfold States
 rw [List.reverse_cons, List.getElem?_append_left (by simp; omega)]
theorem Hist.step : ∀ {sts : List St} {acts : List RTurn} {st : St}, Hist sts acts st → ∀ {i : Nat} {s s' : St}, (States sts st)[i]? = some s → (States sts st)[i + 1]? = some s' → s.next ≤ s'.next ∧ (∀ q, acts.reverse[i]? = some q → RTurn.holds q s s')
 | [], [], st, _, i, s, s', e1, e2 => by
  have := (List.getElem?_eq_some_iff.1 e2).1
  simp at this
 | t :: sts, q :: acts, st, h, i, s, s', e1, e2 => by
  have hl := Hist.len h.2.2
  have hi2 : i + 1 ≤ sts.length + 1 := by
   have := (List.getElem?_eq_some_iff.1 e2).1
   simp at this; omega
  rw [states_cons (by omega)] at e1
  by_cases hi : i + 1 ≤ sts.length
  ·rw [states_cons hi] at e2
   obtain ⟨k1, k2⟩ := Hist.step h.2.2 e1 e2
   refine ⟨k1, fun q' e3 => k2 q' ?_⟩
   rw [List.reverse_cons, List.getElem?_append_left (by simp; omega)] at e3
   exact e3
  ·have hi3 : i = sts.length := by omega
   subst hi3
   rw [states_last] at e1
   have : (States (t :: sts) st)[(t :: sts).length]? = some st := states_last
   rw [List.length_cons] at this
   rw [this] at e2
   cases e1
   cases e2
   refine ⟨h.1, fun q' e3 => ?_⟩
   rw [List.reverse_cons, List.getElem?_append_right (by simp; omega)] at e3
   simp [hl] at e3
   rw [← e3]; exact h.2.1
theorem Hist.up {sts : List St} {acts : List RTurn} {st : St} (h : Hist sts acts st) {i : Nat} : ∀ (n : Nat) {s s' : St}, (States sts st)[i]? = some s → (States sts st)[i + n]? = some s' → s.next ≤ s'.next
 | 0, s, s', e1, e2 => by rw [Nat.add_zero, e1] at e2; cases e2; exact Nat.le_refl _
 | n + 1, s, s', e1, e2 => by
  have hl := (List.getElem?_eq_some_iff.1 e2).1
  have hm : i + n < (States sts st).length := by omega
  exact Nat.le_trans (Hist.up h n e1 (List.getElem?_eq_getElem hm)) (h.step (List.getElem?_eq_getElem hm) (by rw [Nat.add_assoc]; exact e2)).1
theorem Hist.window {sts : List St} {acts : List RTurn} {st : St} (h : Hist sts acts st) {a b : Nat} {R : Nat → Prop} (hq : ∀ t ∈ cut acts.reverse a (b - a), ∀ p, R p → t p) : ∀ (n : Nat) {s s' : St}, a + n ≤ b → (States sts st)[a]? = some s → (States sts st)[a + n]? = some s' → Keepx R s s'
 | 0, s, s', _, e1, e2 => by rw [Nat.add_zero, e1] at e2; cases e2; exact .refl
 | n + 1, s, s', hn, e1, e2 => by
  have hl := (List.getElem?_eq_some_iff.1 e2).1
  have hm : a + n < (States sts st).length := by omega
  have hlen := h.len
  have hjl : a + n < acts.reverse.length := by simp at hl ⊢; omega
  have hmem : acts.reverse[a + n] ∈ cut acts.reverse a (b - a) := by
   have := part_get (l := acts.reverse) (a := a) (n := b - a) (i := n) (by omega)
   rw [List.getElem?_eq_getElem hjl] at this
   exact List.mem_of_getElem? this
  obtain ⟨k1, k2⟩ := h.step (List.getElem?_eq_getElem hm) (by rw [Nat.add_assoc]; exact e2)
  exact (Hist.window h hq n (by omega) e1 (List.getElem?_eq_getElem hm)).trans (RTurn.keepx k1 (k2 _ (List.getElem?_eq_getElem hjl)) (hq _ hmem))
def PC (L : List St) (p : Nat × Nat × (Nat → Prop)) (c : Chk) : Prop :=
 c.lo = p.1 ∧ c.hi = p.2.1 ∧ (∀ o, c.op.seen c.env = some o → p.2.2 o) ∧ ∃ s0, s0.Low ∧ c.op.kind = .read ∧ c.op.ex c.env s0 = some (c.v, s0) ∧ ∃ m sm, p.1 ≤ m ∧ m ≤ p.2.1 ∧ L[m]? = some sm ∧ Keepn s0 sm
theorem PC.on {sts : List St} {st st' : St} {p : Nat × Nat × (Nat → Prop)} {c : Chk} (h : PC (States sts st) p c) (k : Keepn st st') : PC (States sts st') p c := by
 obtain ⟨h1, h2, hx, s0, h3, h4, h5, m, sm, h8, h9, h10, h11⟩ := h
 have mv : ∀ {i : Nat} {s : St}, (States sts st)[i]? = some s → ∃ s', (States sts st')[i]? = some s' ∧ Keepn s s' := by
  intro i s e
  rcases states_lt e with ⟨e1, e2⟩ | ⟨e1, e2⟩
  ·refine ⟨s, ?_, .refl⟩
   unfold States
   rw [List.getElem?_append_left (by simpa using e1)]; exact e2
  ·subst e1 e2
   exact ⟨st', states_last, k⟩
 obtain ⟨sm', q3, q4⟩ := mv h10
 exact ⟨h1, h2, hx, s0, h3, h4, h5, m, sm', h8, h9, q3, h11.trans q4⟩
theorem PC.act {sts : List St} {st st' : St} {p : Nat × Nat × (Nat → Prop)} {c : Chk} (h : PC (States sts st) p c) : PC (States (st :: sts) st') p c := by
 obtain ⟨h1, h2, hx, s0, h3, h4, h5, m, sm, h8, h9, h10, h11⟩ := h
 have mv : ∀ {i : Nat} {s : St}, (States sts st)[i]? = some s → (States (st :: sts) st')[i]? = some s := by
  intro i s e
  have : i ≤ sts.length := by rcases states_lt e with ⟨e1, _⟩ | ⟨e1, _⟩ <;> omega
  rw [states_cons this]; exact e
 exact ⟨h1, h2, hx, s0, h3, h4, h5, m, sm, h8, h9, mv h10, h11⟩
theorem cut_sub {α : Type} {l : List α} {a b c : Nat} (h : a ≤ c) {t : α} (ht : t ∈ cut l c (b - c)) : t ∈ cut l a (b - a) := by
 obtain ⟨i, hi⟩ := List.mem_iff_getElem?.1 ht
 have hlt : i < b - c := by
  have := (List.getElem?_eq_some_iff.1 hi).1
  unfold cut at this
  simp at this; omega
 rw [part_get hlt] at hi
 refine List.mem_iff_getElem?.2 ⟨c - a + i, ?_⟩
 rw [part_get (by omega), show a + (c - a + i) = c + i by omega]
 exact hi
theorem chk_ok {sts : List St} {acts : List RTurn} {st : St} (hH : Hist sts acts st) {p : Nat × Nat × (Nat → Prop)} {c : Chk} (h : PC (States sts st) p c) (hq : ∀ t ∈ cut acts.reverse p.1 (p.2.1 - p.1), ∀ x, p.2.2 x → t x) : Chk.ok (States sts st) c = true := by
 obtain ⟨h1, h2, hx0, s0, h3, h4, h5, m, sm, h8, h9, h10, h11⟩ := h
 unfold Chk.ok
 rw [h1, h2, List.all_eq_true]
 intro s hs
 obtain ⟨i, hi⟩ := List.mem_iff_getElem?.1 hs
 have hlt : i < p.2.1 + 1 - p.1 := by
  have := (List.getElem?_eq_some_iff.1 hi).1
  unfold cut at this
  simp at this; omega
 rw [part_get hlt] at hi
 by_cases hl : ∃ o, c.op.seen c.env = some o ∧ s.next ≤ o
 ·obtain ⟨o, ho, hle⟩ := hl
  unfold Chk.at
  rw [Bool.or_eq_true]
  refine .inr ?_
  rw [ho]
  exact decide_eq_true hle
 have := ex_read h4 h5 (s2 := s) fun o x ho hx => by
  have hos : o < s.next := Nat.lt_of_not_le fun hh => hl ⟨o, ho, hh⟩
  have hm0 := h11.same o (h3 o x hx)
  rcases Nat.le_total (p.1 + i) m with hc | hc
  ·have hw := hH.window (a := p.1 + i) (b := p.2.1) (fun t ht => hq t (cut_sub (by omega) ht)) (m - (p.1 + i)) (by omega) hi (by rw [show p.1 + i + (m - (p.1 + i)) = m by omega]; exact h10)
   rw [← hw.same o hos (hx0 o ho), hm0]; exact hx
  ·have hw := hH.window (a := m) (b := p.2.1) (fun t ht => hq t (cut_sub h8 ht)) (p.1 + i - m) (by omega) h10 (by rw [show m + (p.1 + i - m) = p.1 + i by omega]; exact hi)
   rw [hw.same o (Nat.lt_of_lt_of_le (h3 o x hx) h11.next) (hx0 o ho), hm0]; exact hx
 unfold Chk.at
 rw [this, Bool.or_eq_true]
 exact .inl (V.beq_refl _)
theorem RV.obj_lt (hC : Cf st X α ω h) {u : U} {v : V} (hr : RV st X α u v) (hu : u ≠ .undef) {o : Nat} (ho : objOf v = some o) : o < st.next := by
 cases u <;> simp only [RV] at hr
 case undef => exact absurd rfl hu
 case ptr => obtain ⟨d, h1, rfl⟩ := hr; cases ho; exact hC.lt _ _ h1
 case eptr => obtain ⟨o', _, _, _, _, _, _, _, rfl, _, h1, _⟩ := hr; cases ho; exact hC.low _ _ h1
 case list =>
  rcases hr with ⟨rfl, _⟩ | ⟨o', _, _, _, _, _, _, _, _, rfl, _, h1, _⟩
  ·cases ho
  ·cases ho; exact hC.low _ _ h1
 case own =>
  rcases hr with ⟨rfl, _⟩ | ⟨o', _, _, _, _, _, _, _, _, rfl, _, h1, _⟩
  ·cases ho
  ·cases ho; exact hC.low _ _ h1
 case asl => obtain ⟨d, h1, rfl⟩ := hr; cases ho; exact hC.lt _ _ h1
 case map => obtain ⟨d, h1, rfl⟩ := hr; cases ho; exact hC.lt _ _ h1
 case fn => obtain ⟨_, _, rfl, _⟩ := hr; cases ho
 case agg => obtain ⟨_, rfl, _⟩ := hr; cases ho
 case tup => obtain ⟨_, rfl, _⟩ := hr; cases ho
 all_goals subst hr; cases ho
def Known (sts : List St) (st : St) (genv : GEnv) (env : Env) (ds : List (Nat × Nat)) : Prop :=
 ∀ n, GEnv.get genv n ≠ .undef → ∃ s, (States sts st)[cOf ds (.t n)]? = some s ∧ ∀ o, objOf (Env.get env n) = some o → o < s.next
theorem Known.grow {sts sts' : List St} {ds : List (Nat × Nat)} (h : Known sts st genv env ds) (k : ∀ (i : Nat) (s : St), (States sts st)[i]? = some s → ∃ s' : St, (States sts' st')[i]? = some s' ∧ s.next ≤ s'.next) : Known sts' st' genv env ds := fun n hn => by
 obtain ⟨s, h1, h2⟩ := h n hn
 obtain ⟨s', h3, h4⟩ := k _ _ h1
 exact ⟨s', h3, fun o ho => Nat.lt_of_lt_of_le (h2 o ho) h4⟩
theorem grow_on {sts : List St} (k : st.next ≤ st'.next) : ∀ (i : Nat) (s : St), (States sts st)[i]? = some s → ∃ s' : St, (States sts st')[i]? = some s' ∧ s.next ≤ s'.next := fun i s e => by
 rcases states_lt e with ⟨e1, e2⟩ | ⟨e1, e2⟩
 ·refine ⟨s, ?_, Nat.le_refl _⟩
  unfold States
  rw [List.getElem?_append_left (by simpa using e1)]; exact e2
 ·subst e1 e2
  exact ⟨st', states_last, k⟩
theorem grow_act {sts : List St} : ∀ (i : Nat) (s : St), (States sts st)[i]? = some s → ∃ s' : St, (States (st :: sts) st')[i]? = some s' ∧ s.next ≤ s'.next := fun i s e => by
 have : i ≤ sts.length := by rcases states_lt e with ⟨e1, _⟩ | ⟨e1, _⟩ <;> omega
 exact ⟨s, by rw [states_cons this]; exact e, Nat.le_refl _⟩
theorem Known.put {sts : List St} {ds : List (Nat × Nat)} (h : Known sts st genv env ds) {d : Option Nat} {u : U} {v : V} {c : Nat} (hu : u ≠ .undef → ∃ s, (States sts st)[c]? = some s ∧ ∀ o, objOf v = some o → o < s.next) : Known sts st (GEnv.put genv d u) (Env.put env d v) (onDst ds d c) := by
 cases d with
 | none => exact h
 | some d =>
  intro n hn
  simp only [GEnv.put, GEnv.get, Env.put, Env.get, onDst, cOf] at hn ⊢
  split at hn
  ·rename_i e
   rw [if_pos e, if_pos e]
   exact hu hn
  ·rename_i e
   rw [if_neg e, if_neg e]
   exact h n hn
theorem Known.opd {sts : List St} {ds : List (Nat × Nat)} (h : Known sts st genv env ds) (x : Opd) (hx : x.gev genv ≠ .undef) : ∃ s, (States sts st)[cOf ds x]? = some s ∧ ∀ o, objOf (x.ev env) = some o → o < s.next := by
 cases x with
 | t n => exact h n hx
 | c v =>
  refine ⟨(States sts st)[0]'(by simp [States]), by rw [show cOf ds (.c v) = 0 by cases ds <;> rfl]; exact List.getElem?_eq_getElem _, fun o ho => ?_⟩
  cases v <;> simp [Opd.ev, objOf] at ho <;> simp [Opd.gev, U.ofV] at hx
theorem Known.sub {sts : List St} {ds : List (Nat × Nat)} (h : Known sts st genv env ds) {genv' : GEnv} (k : ∀ n, GEnv.get genv n = .undef → GEnv.get genv' n = .undef) : Known sts st genv' env ds := fun n hn => h n fun e => hn (k n e)
theorem demote_undef {x : Opd} {n : Nat} (h : GEnv.get genv n = .undef) : GEnv.get (demote genv x) n = .undef := by
 cases x with
 | c v => exact h
 | t m =>
  simp only [demote]
  split
  ·rename_i e es hm
   simp only [GEnv.get]
   split
   ·rename_i e'; subst e'; rw [hm] at h; cases h
   ·exact h
  ·simp only [GEnv.get]
   split
   ·rfl
   ·exact h
  ·exact h
theorem tupDemote_undef {x : Opd} {i n : Nat} (h : GEnv.get genv n = .undef) : GEnv.get (tupDemote genv x i) n = .undef := by
 cases x with
 | c v => exact h
 | t m =>
  simp only [tupDemote]
  split
  ·rename_i us hm
   split
   ·simp only [GEnv.get]
    split
    ·rename_i e'; subst e'; rw [hm] at h; cases h
    ·exact h
   ·exact h
  ·exact h
theorem gfresh_env {arr : Bool} {esz : Nat} {es : List (List U)} {env env' : GEnv} {h h' : GH} {u : U} (e : gfresh arr esz es env h = some (u, env', h')) : env' = env := by
 unfold gfresh at e
 split at e <;> cases e <;> rfl
def Sub (a b : GEnv) : Prop := ∀ n, GEnv.get a n = .undef → GEnv.get b n = .undef
theorem gstore_env {a x : U} {n : Nat} {xo : Opd} {env : GEnv} {r : GEnv × GH} (e : gstore lo h a n x env xo = some r) : Sub env r.1 := by
 unfold gstore at e
 repeat' split at e
 all_goals first
  | (cases e; done)
  | (cases e; exact fun n hn => demote_undef hn)
  | (cases e; exact fun n hn => hn)
theorem gappend_env {fl : Fl} {dst : Option Nat} {esz bytes : Nat} {s : Opd} {ys : List (List U)} {u : U} {env env' : GEnv} (e : gappend fl lo dst esz bytes s ys env h = some (u, env', h')) : Sub env env' := by
 unfold gappend at e
 repeat' split at e
 all_goals first
  | (cases e; done)
  | (cases e; exact fun n hn => hn)
  | (cases e; exact fun n hn => demote_undef hn)
  | (rw [gfresh_env e]; exact fun n hn => hn)
theorem gex_env {fl : Fl} {dst : Option Nat} {o : IOp} {u : U} {genv' : GEnv} (e : o.gex fl lo dst genv h = some (u, genv', h')) : Sub genv genv' := by
 cases o <;> simp only [IOp.gex] at e
 all_goals repeat' split at e
 all_goals first
  | (cases e; done)
  | (cases e; exact fun n hn => hn)
  | (cases e; exact fun n hn => demote_undef hn)
  | (obtain ⟨_, _, e2⟩ := Option.map_eq_some_iff.1 e; cases e2; exact fun n hn => hn)
  | (rw [gfresh_env e]; exact fun n hn => hn)
  | exact gappend_env e
  | (obtain ⟨_, _, e2⟩ := Option.map_eq_some_iff.1 e; cases e2; exact fun n hn => tupDemote_undef hn)
  | (obtain ⟨_, e1, e2⟩ := Option.map_eq_some_iff.1 e; cases e2; exact gstore_env e1)
theorem grun_env {T : GTab} {call : GCallF} {fl : Fl} {dst : Option Nat} {o : IOp} {u : U} {genv' : GEnv} (e : o.grun T call fl lo dst genv h = some (u, genv', h')) : Sub genv genv' := by
 cases o
 case call f args =>
  simp only [IOp.grun] at e
  obtain ⟨_, _, e2⟩ := Option.map_eq_some_iff.1 e
  cases e2; exact fun n hn => hn
 case callv f args =>
  simp only [IOp.grun] at e
  split at e
  ·obtain ⟨_, _, e2⟩ := Option.map_eq_some_iff.1 e
   cases e2; exact fun n hn => hn
  ·cases e
 all_goals
  simp only [IOp.grun] at e
  exact gex_env e
theorem slice_obj {str : Bool} {esz : Nat} {x v : V} {lo hi mx : Option V} (e : V.slice str esz x lo hi mx = some v) {y : Nat} (hy : objOf v = some y) : objOf x = some y := by
 unfold V.slice at e
 split at e
 ·split at e
  ·split at e
   ·cases e; cases hy
   ·cases e
  ·split at e
   ·cases e; cases hy
   ·cases e
  ·split at e
   ·split at e
    ·cases e; exact hy
    ·split at e
     ·cases e; exact hy
     ·cases e
    ·cases e
   ·cases e
  ·cases e
 ·cases e
theorem since_ok {sts : List St} {ds : List (Nat × Nat)} (hK : Known sts st genv env ds) {o : IOp} (hact : o.kind ≠ .act) {v : V} (hex : o.ex env st = some (v, st')) (hlt : ∀ x, objOf v = some x → x < st'.next) (hn : st.next ≤ st'.next) {fl : Fl} {dst : Option Nat} {u : U} {genv' : GEnv} (hg : o.gex fl lo dst genv h = some (u, genv', h')) (hu : u ≠ .undef) :
  ∃ s, (States sts st')[o.since ds sts.length]? = some s ∧ ∀ x, objOf v = some x → x < s.next := by
 have last : ∃ s, (States sts st')[sts.length]? = some s ∧ ∀ x, objOf v = some x → x < s.next := ⟨st', states_last, hlt⟩
 have low : ∀ (x : Opd), x.gev genv ≠ .undef → (∀ y, objOf v = some y → objOf (x.ev env) = some y) → ∃ s, (States sts st')[cOf ds x]? = some s ∧ ∀ y, objOf v = some y → y < s.next := by
  intro x hx ho
  obtain ⟨s, h1, h2⟩ := hK.opd x hx
  obtain ⟨s', h3, h4⟩ := grow_on hn _ _ h1
  exact ⟨s', h3, fun y hy => Nat.lt_of_lt_of_le (h2 y (ho y hy)) h4⟩
 cases o <;> simp only [IOp.since] <;> try exact last
 case mov x =>
  simp only [IOp.ex] at hex
  cases hex
  refine low x (fun e => ?_) (fun _ h => h)
  simp only [IOp.gex, e, U.moved, U.share] at hg
  split at hg <;> (cases hg; exact hu rfl)
 case slice str esz x a b c =>
  simp only [IOp.ex] at hex
  obtain ⟨w, h1, h2⟩ := Option.map_eq_some_iff.1 hex
  cases h2
  refine low x (fun e => ?_) fun y hy => slice_obj h1 hy
  simp only [IOp.gex, e] at hg
  obtain ⟨w', h3, _⟩ := Option.map_eq_some_iff.1 hg
  unfold U.slice at h3
  split at h3
  ·cases str <;> simp at h3
  ·cases h3
 case nilck x =>
  simp only [IOp.ex] at hex
  refine low x (fun e => by simp [IOp.gex, e] at hg) ?_
  split at hex
  ·rename_i hx; cases hex; rw [hx]; exact fun _ h => h
  ·rename_i hx
   split at hex
   ·cases hex; rw [hx]; exact fun _ h => h
   ·cases hex
  ·cases hex
 case faddr off x =>
  simp only [IOp.ex] at hex
  refine low x (fun e => by simp [IOp.gex, e] at hg) ?_
  split at hex
  ·rename_i hx; cases hex; rw [hx]; exact fun _ h => h
  ·cases hex
 case iaddr esz x i =>
  simp only [IOp.ex] at hex
  refine low x (fun e => by simp [IOp.gex, e] at hg) ?_
  split at hex
  ·rename_i hx _
   split at hex
   ·cases hex; rw [hx]; exact fun _ h => h
   ·cases hex
  ·cases hex
 case iaddrA ln esz x i =>
  simp only [IOp.ex] at hex
  refine low x (fun e => by simp [IOp.gex, e] at hg) ?_
  split at hex
  ·rename_i hx _
   split at hex
   ·cases hex; rw [hx]; exact fun _ h => h
   ·cases hex
  ·cases hex
def OR (α : List Ad) : Option Nat → (Nat → Prop) → Prop
 | none, _ => True
 | some o, R => ∃ d, α[o]? = some d ∧ ∀ p, R p → p = d.a
def TR (m : Nat) (α : List Ad) (s : Turn) (t : RTurn) : Prop :=
 (s.q = true → ∀ p, t p) ∧ (∀ o, s.o = some o → ∃ d, α[o]? = some d ∧ ∀ p, p ≠ d.a → t p) ∧ (s.v = true → (∀ (k : Nat) (d : Ad), α[k]? = some d → t d.a) ∧ ∀ p, m ≤ p → t p)
def PRd (α : List Ad) (p : Nat × Nat × Option Nat) (q : Nat × Nat × (Nat → Prop)) : Prop := p.1 = q.1 ∧ p.2.1 = q.2.1 ∧ OR α p.2.2 q.2.2
theorem OR.grow (hal : ∀ (k : Nat) (d : Ad), α[k]? = some d → α'[k]? = some d) {p : Option Nat} {R : Nat → Prop} (h : OR α p R) : OR α' p R := by
 cases p with
 | none => exact h
 | some o => obtain ⟨d, h4, h5⟩ := h; exact ⟨d, hal _ _ h4, h5⟩
theorem TR.grow {m m' : Nat} (hm : m ≤ m') (hal : ∀ (k : Nat) (d : Ad), α[k]? = some d → α'[k]? = some d) (hnew : ∀ (k : Nat) (d : Ad), α'[k]? = some d → α[k]? = some d ∨ m ≤ d.a) {s : Turn} {t : RTurn} (h : TR m α s t) : TR m' α' s t := by
 refine ⟨h.1, fun o ho => ?_, fun hv => ⟨fun k d e => ?_, fun p hp => (h.2.2 hv).2 p (Nat.le_trans hm hp)⟩⟩
 ·obtain ⟨d, h1, h2⟩ := h.2.1 o ho
  exact ⟨d, hal _ _ h1, h2⟩
 ·rcases hnew k d e with e | e
  ·exact (h.2.2 hv).1 k d e
  ·exact (h.2.2 hv).2 _ e
theorem PRd.grow (hal : ∀ (k : Nat) (d : Ad), α[k]? = some d → α'[k]? = some d) {p : Nat × Nat × Option Nat} {q : Nat × Nat × (Nat → Prop)} (h : PRd α p q) : PRd α' p q := ⟨h.1, h.2.1, h.2.2.grow hal⟩
theorem TR.off (hC : Cf st X α ω h) {m : Nat} {s : Turn} {t : RTurn} (k : TR m α s t) {r : Option Nat} {R : Nat → Prop} (hr : OR α r R) (e : s.off r = true) : ∀ p, R p → t p := by
 intro p hp
 unfold Turn.off at e
 rw [Bool.or_eq_true, Bool.or_eq_true, Bool.and_eq_true] at e
 rcases e with e | ⟨e1, e2⟩ | e
 ·exact k.1 e p
 ·cases r with
  | none => cases e2
  | some o =>
   obtain ⟨d, h1, h2⟩ := hr
   rw [h2 p hp]
   exact (k.2.2 e1).1 o d h1
 ·cases ho : s.o with
  | none => rw [ho] at e; cases r <;> simp [offB] at e
  | some o =>
   cases r with
   | none => rw [ho] at e; simp [offB] at e
   | some y =>
    rw [ho] at e
    simp [offB] at e
    obtain ⟨d, h1, h2⟩ := k.2.1 o ho
    obtain ⟨d', h3, h4⟩ := hr
    refine h2 p fun h5 => ?_
    rw [h4 p hp] at h5
    exact e (hC.inj _ _ _ _ h1 h3 h5.symm)
theorem L2.mem_right {α β : Type} {R : α → β → Prop} : ∀ {l : List α} {m : List β}, L2 R l m → ∀ {b : β}, b ∈ m → ∃ a ∈ l, R a b
 | [], m, h, b, hb => by rw [h.nil] at hb; cases hb
 | a :: l, m, h, b, hb => by
  obtain ⟨b', m', rfl, h1, h2⟩ := h.cons
  rcases List.mem_cons.1 hb with rfl | hb
  ·exact ⟨a, List.mem_cons_self, h1⟩
  ·obtain ⟨a', h3, h4⟩ := L2.mem_right h2 hb
   exact ⟨a', List.mem_cons_of_mem _ h3, h4⟩
theorem L2.reverse {α β : Type} {R : α → β → Prop} : ∀ {l : List α} {m : List β}, L2 R l m → L2 R l.reverse m.reverse
 | [], m, h => by rw [h.nil]; trivial
 | a :: l, m, h => by
  obtain ⟨b, m', rfl, h1, h2⟩ := h.cons
  rw [List.reverse_cons, List.reverse_cons]
  exact (L2.reverse h2).append ⟨h1, trivial⟩
theorem store_same {o g i s n : Nat} {x v : V} (e : (st.store (.ptr o g i s) n x).map (fun st => (V.tup [], st)) = some (v, st')) {p : Nat} (hp : p ≠ o) : st'.get p = st.get p := by
 obtain ⟨st1, h1, h2⟩ := Option.map_eq_some_iff.1 e
 have h3 : st1 = st' := congrArg Prod.snd h2
 subst h3
 simp only [St.store] at h1
 split at h1
 ·split at h1
  ·split at h1
   ·split at h1
    ·have h4 := Option.some.inj h1
     rw [← h4, St.get_set, if_neg hp]
    ·cases h1
   ·cases h1
  ·cases h1
 ·cases h1
theorem turn_ok {T : GTab} {o : IOp} {st st' : St} (hq : ∀ f args, o = .call f args → isRo T f = true → ∀ p, p < st.next → st'.get p = st.get p) : ∃ t, TR st.next α ⟨quiet T o, none, false⟩ t ∧ RTurn.holds t st st' := by
 by_cases h : quiet T o = true
 ·refine ⟨fun _ => True, ⟨fun _ _ => trivial, fun o ho => (by cases ho), fun hv => (by cases hv)⟩, fun p hp _ => ?_⟩
  cases o <;> simp only [quiet, Bool.false_eq_true] at h
  exact hq _ _ rfl h p hp
 ·exact ⟨fun _ => False, ⟨fun hh => absurd hh h, fun o ho => (by cases ho), fun hv => (by cases hv)⟩, fun p hp hf => hf.elim⟩
theorem own_only (hC : Cf st X α ω h) (hE : EnvR st X α ω genv env) : ∃ ω2 : Om, (∀ o, X o → ω2 o = none) ∧ Cf st X α ω2 h ∧ EnvR st X α ω2 genv env := by
 classical
 refine ⟨fun o => if X o then none else ω o, fun o ho => if_pos ho, ⟨hC.low, hC.len, hC.inj, hC.x, hC.lt, fun k d b h1 h2 => ?_⟩, fun n => ⟨(hE n).1, ?_⟩⟩
 ·have := hC.obj k d b h1 h2
  cases b with
  | box cs =>
   obtain ⟨q1, vs, q2, q3, q4⟩ := this
   refine ⟨q1, vs, q2, q3, fun s e es v e1 e2 => ?_⟩
   rcases q4 s e es v e1 e2 with r | ⟨o, g, row, live, r1, r2, r3, r4, r5⟩
   ·exact .inl r
   ·exact .inr ⟨o, g, row, live, r1, r2, r3, r4, by show (if X o then none else ω o) = _; rw [if_neg r2]; exact r5⟩
  | arr es gen live => exact this
  | map ps => exact this
 ·obtain ⟨q1, q2⟩ := (hE n).2
  refine ⟨fun e es hu => ?_, fun us vs j e es w h1 h2 h3 h4 => ?_⟩
  ·rcases q1 e es hu with r | ⟨o, g, row, live, r1, r2, r3, r4, r5⟩
   ·exact .inl r
   ·exact .inr ⟨o, g, row, live, r1, r2, r3, r4, by show (if X o then none else ω o) = _; rw [if_neg r2]; exact r5⟩
  ·rcases q2 us vs j e es w h1 h2 h3 h4 with r | ⟨o, g, row, live, r1, r2, r3, r4, r5⟩
   ·exact .inl r
   ·exact .inr ⟨o, g, row, live, r1, r2, r3, r4, by show (if X o then none else ω o) = _; rw [if_neg r2]; exact r5⟩
theorem append_same (hC : Cf st X α ω h) (hE : EnvR st X α ω genv env) {Tb : Tab} {fl : Fl} {dst : Option Nat} {esz bytes : Nat} {s x : Opd} {u : U} {genv' : GEnv} {v : V} (hv : isVal (s.gev genv) = true) (e : (IOp.append esz bytes s x).gex fl lo dst genv h = some (u, genv', h')) (hrun : (IOp.append esz bytes s x).run (F Tb) env st = some (v, st')) : ∀ (k : Nat) (d : Ad), α[k]? = some d → st'.get d.a = st.get d.a := by
 obtain ⟨ω2, h1, hC2, hE2⟩ := own_only hC hE
 have e2 : (IOp.append esz bytes s x).gex fl h.length dst genv h = some (u, genv', h') := by
  rw [← e]
  simp only [IOp.gex, gappend]
  cases hs : s.gev genv <;> rw [hs] at hv <;> simp only [isVal, Bool.false_eq_true] at hv <;> first | rfl | (rename_i cp _ _; cases cp <;> rfl)
 obtain ⟨v2, st2, k1, X', α', ω', k2, k3, k4⟩ := gex_sim (dst := dst) hC2 hE2 e2
 have : (IOp.append esz bytes s x).run (F Tb) env st = (IOp.append esz bytes s x).ex env st := rfl
 rw [this, k1] at hrun
 cases hrun
 intro k d hd
 refine k4.same d.a (hC.lt _ _ hd) (fun i d' h2 _ => ?_) fun p hp => ?_
 ·have := (List.getElem?_eq_some_iff.1 h2).1
  rw [hC.len] at this; exact this
 ·rw [h1 _ (hC.x _ _ hd)] at hp; cases hp
theorem turn_at {T : GTab} {Tb : Tab} {call : GCallF} (hC : Cf st X α ω h) (hE : EnvR st X α ω genv env) {fl : Fl} {dst : Option Nat} {o : IOp} {u : U} {genv' : GEnv} {v : V} {s : Bool} {a : Opd} (ho : turnAt o = some (s, a)) (hg : o.grun T call fl lo dst genv h = some (u, genv', h')) (hrun : o.run (F Tb) env st = some (v, st')) : ∃ t, TR st.next α (mkTurn s (a.gev genv)) t ∧ RTurn.holds t st st' := by
 have nothing : ∀ u : U, uobj u = none → ∃ t, TR st.next α ⟨false, uobj u, false⟩ t ∧ RTurn.holds t st st' := fun u hu =>
  ⟨fun _ => False, ⟨fun hh => (by cases hh), fun o ho => (by rw [hu] at ho; cases ho), fun hv => (by cases hv)⟩, fun p hp hf => hf.elim⟩
 cases o <;> simp only [turnAt, Option.some.injEq, Prod.mk.injEq, reduceCtorEq] at ho
 case store n a' x =>
  obtain ⟨rfl, rfl⟩ := ho
  simp only [mkTurn, if_true]
  cases hx : a'.gev genv
  case ptr o g i s =>
   have hr := hE.opd a'
   rw [hx] at hr
   simp only [RV] at hr
   obtain ⟨d, h1, h2⟩ := hr
   refine ⟨fun p => p ≠ d.a, ⟨fun hh => (by cases hh), fun o' ho' => ?_, fun hv => (by cases hv)⟩, fun p hp hne => ?_⟩
   ·simp only [uobj, Option.some.injEq] at ho'
    subst ho'
    exact ⟨d, h1, fun p hp => hp⟩
   ·simp only [IOp.run, IOp.ex, h2] at hrun
    exact store_same hrun hne
  all_goals exact nothing _ rfl
 case append esz bytes s' x =>
  obtain ⟨rfl, rfl⟩ := ho
  by_cases hn : s'.gev genv = .nils
  ·have hr := hE.opd s'
   rw [hn] at hr
   simp only [RV] at hr
   rw [hn]
   refine ⟨fun _ => True, ⟨fun _ _ => trivial, fun o ho => (by cases ho), fun _ => ⟨fun _ _ _ => trivial, fun _ _ => trivial⟩⟩, fun p hp _ => ?_⟩
   simp only [IOp.run, IOp.ex, hr, St.append] at hrun
   split at hrun
   ·split at hrun
    ·cases hrun; rfl
    ·split at hrun
     ·cases hrun
      rw [St.get_push, if_neg (by omega)]
     ·cases hrun
   ·cases hrun
  by_cases ha : ∃ c o g off ln e, s'.gev genv = .asl (some c) o g off ln e
  ·obtain ⟨c, o, g, off, ln, e, ha⟩ := ha
   have hr := hE.opd s'
   rw [ha] at hr
   simp only [RV] at hr
   obtain ⟨d, _, hr⟩ := hr
   rw [ha]
   refine ⟨fun _ => True, ⟨fun _ _ => trivial, fun o ho => (by cases ho), fun _ => ⟨fun _ _ _ => trivial, fun _ _ => trivial⟩⟩, fun p hp _ => ?_⟩
   simp only [IOp.run, IOp.ex, hr, St.append] at hrun
   split at hrun
   ·split at hrun
    ·cases hrun
    ·split at hrun
     ·cases hrun; rfl
     ·split at hrun
      ·split at hrun
       ·cases hrun
        rw [St.get_push, if_neg (by omega)]
       ·cases hrun
      ·cases hrun
   ·cases hrun
  have hmk : mkTurn false (s'.gev genv) = ⟨false, none, isVal (s'.gev genv)⟩ := by
   cases hx : s'.gev genv <;> first | rfl | exact absurd hx hn | skip
   rename_i cp _ _ _ _ _
   cases cp with
   | none => rfl
   | some c => exact absurd ⟨_, _, _, _, _, _, hx⟩ ha
  rw [hmk]
  by_cases hv : isVal (s'.gev genv) = true
  ·refine ⟨fun p => st.next ≤ p ∨ ∃ (k : Nat) (d : Ad), α[k]? = some d ∧ d.a = p, ⟨fun hh => (by cases hh), fun o ho => (by cases ho), fun _ => ⟨fun k d hd => .inr ⟨k, d, hd, rfl⟩, fun p hp => .inl hp⟩⟩, fun p hp ht => ?_⟩
   rcases ht with ht | ⟨k, d, hd, rfl⟩
   ·omega
   ·exact append_same hC hE hv hg hrun k d hd
  ·exact ⟨fun _ => False, ⟨fun hh => (by cases hh), fun o ho => (by cases ho), fun hv2 => absurd hv2 hv⟩, fun p hp hf => hf.elim⟩
theorem turn_act {o : IOp} {x : Bool × Opd} (ho : turnAt o = some x) : o.kind = .act := by
 cases o <;> simp only [turnAt, reduceCtorEq] at ho <;> rfl
theorem read_ok (hE : EnvR st X α ω genv env) (o : IOp) : OR α (readOf o genv) (fun y => o.seen env = some y) := by
 cases o
 case load n agg a =>
  simp only [readOf]
  split
  ·rename_i o g i s hx
   have hr := hE.opd a
   rw [hx] at hr
   simp only [RV] at hr
   obtain ⟨d, h1, h2⟩ := hr
   refine ⟨d, h1, fun y hy => ?_⟩
   simp only [IOp.seen, h2, objOf, Option.some.injEq] at hy
   exact hy.symm
  ·trivial
 all_goals trivial
def HK (X : Nat → Prop) : List St → St → Prop
 | [], _ => True
 | s :: sts, st => s.next ≤ st.next ∧ (∀ p, p < s.next → ¬ X p → Kp s st p) ∧ HK X sts s
theorem HK.next : ∀ {sts : List St} {st : St}, HK X sts st → ∀ {i : Nat} {s : St}, (States sts st)[i]? = some s → s.next ≤ st.next
 | [], st, _, i, s, e => by
  rcases states_lt e with ⟨e1, _⟩ | ⟨_, e2⟩
  ·cases e1
  ·rw [e2]; exact Nat.le_refl _
 | s0 :: sts, st, h, i, s, e => by
  rcases states_lt e with ⟨e1, _⟩ | ⟨_, e2⟩
  ·rw [List.length_cons] at e1
   rw [states_cons (by omega)] at e
   exact Nat.le_trans (HK.next h.2.2 e) h.1
  ·rw [e2]; exact Nat.le_refl _
theorem HK.iff : ∀ {sts : List St} {st : St}, HK X sts st → (∀ o, o < st.next → (X' o ↔ X o)) → HK X' sts st
 | [], _, _, _ => trivial
 | s :: sts, st, h, k => ⟨h.1, fun p hp hx => h.2.1 p hp fun hx2 => hx ((k p (Nat.lt_of_lt_of_le hp h.1)).2 hx2), HK.iff h.2.2 fun o ho => k o (Nat.lt_of_lt_of_le ho h.1)⟩
theorem HK.on : ∀ {sts : List St} {st st' : St}, HK X sts st → Fr lo st X α ω st' X' α' ω' → HK X' sts st'
 | [], _, _, _, _ => trivial
 | s :: sts, st, st', h, k => by
  refine ⟨Nat.le_trans h.1 k.next, fun p hp hx => ?_, HK.iff h.2.2 fun o ho => k.x o (Nat.lt_of_lt_of_le ho h.1)⟩
  have hp2 := Nat.lt_of_lt_of_le hp h.1
  have hx2 : ¬ X p := fun hh => hx ((k.x p hp2).2 hh)
  exact (h.2.1 p hp hx2).trans (k.kp p hp2 hx2)
theorem HK.act {sts : List St} (h : HK X sts st) (k : Fr lo st X α ω st' X' α' ω') : HK X' (st :: sts) st' :=
 ⟨k.next, fun p hp hx => k.kp p hp fun hh => hx ((k.x p hp).2 hh), HK.iff h fun o ho => k.x o ho⟩
theorem HK.to : ∀ {sts : List St} {st : St}, HK X sts st → ∀ {i m : Nat} {s s' : St}, i ≤ m → (States sts st)[i]? = some s → (States sts st)[m]? = some s' → ∀ p, p < s.next → ¬ X p → Kp s s' p
 | [], st, _, i, m, s, s', _, e, e', p, _, _ => by
  rcases states_lt e with ⟨e1, _⟩ | ⟨_, e2⟩
  ·cases e1
  rcases states_lt e' with ⟨e1, _⟩ | ⟨_, e3⟩
  ·cases e1
  rw [e2, e3]; exact .same rfl
 | s0 :: sts, st, h, i, m, s, s', him, e, e', p, hp, hx => by
  rcases states_lt e' with ⟨e1, _⟩ | ⟨e1, e3⟩
  ·rw [List.length_cons] at e1
   rw [states_cons (by omega)] at e e'
   exact HK.to h.2.2 him e e' p hp hx
  ·subst e3
   rcases states_lt e with ⟨f1, _⟩ | ⟨f1, f2⟩
   ·rw [List.length_cons] at f1
    rw [states_cons (by omega)] at e
    have hk := HK.to h.2.2 (i := i) (m := sts.length) (by omega) e states_last p hp hx
    exact hk.trans (h.2.1 p (Nat.lt_of_lt_of_le hp (HK.next h.2.2 e)) hx)
   ·rw [f2]; exact .same rfl
def isEl : U → Bool
 | .eptr _ _ => true
 | .list _ _ _ => true
 | .own _ _ => true
 | _ => false
def HeldAt (sts : List St) (st : St) (X : Nat → Prop) (c : Nat) (u : U) (v : V) : Prop := ∃ s X1 α1, (States sts st)[c]? = some s ∧ (∀ o, o < s.next → (X1 o ↔ X o)) ∧ (∀ o, objOf v = some o → o < s.next) ∧ RV s X1 α1 u v
def KnownV (sts : List St) (st : St) (X : Nat → Prop) (genv : GEnv) (env : Env) (ds : List (Nat × Nat)) : Prop := ∀ n, isEl (GEnv.get genv n) = true → HeldAt sts st X (cOf ds (.t n)) (GEnv.get genv n) (Env.get env n)
theorem HeldAt.on (hC : Cf st X α ω h) {sts : List St} {c : Nat} {u : U} {v : V} (hn : HK X sts st) (a : HeldAt sts st X c u v) (k : Fr lo st X α ω st' X' α' ω') : HeldAt sts st' X' c u v := by
 obtain ⟨s, X1, α1, h1, h2, h3, h4⟩ := a
 have hle := hn.next h1
 rcases states_lt h1 with ⟨e1, e2⟩ | ⟨e1, e2⟩
 ·refine ⟨s, X1, α1, ?_, fun o ho => (h2 o ho).trans (k.x o (Nat.lt_of_lt_of_le ho hle)).symm, h3, h4⟩
  unfold States
  rw [List.getElem?_append_left (by simpa using e1)]; exact e2
 ·subst e1 e2
  refine ⟨st', X', α1, states_last, fun o _ => Iff.rfl, fun o ho => Nat.lt_of_lt_of_le (h3 o ho) k.next, RV.grow ⟨hC.low, fun o ho hx => (h2 o ho).2 ((k.x o ho).1 hx), fun o ho hx => k.kp o ho fun hh => hx ((h2 o ho).2 hh), fun _ _ e => e⟩ h4⟩
theorem HeldAt.act {sts : List St} {c : Nat} {u : U} {v : V} (hn : HK X sts st) (a : HeldAt sts st X c u v) (k : Fr lo st X α ω st' X' α' ω') : HeldAt (st :: sts) st' X' c u v := by
 obtain ⟨s, X1, α1, h1, h2, h3, h4⟩ := a
 have hle := hn.next h1
 have hc : c ≤ sts.length := by rcases states_lt h1 with ⟨e1, _⟩ | ⟨e1, _⟩ <;> omega
 exact ⟨s, X1, α1, by rw [states_cons hc]; exact h1, fun o ho => (h2 o ho).trans (k.x o (Nat.lt_of_lt_of_le ho hle)).symm, h3, h4⟩
def Sub2 (a b : GEnv) : Prop := ∀ n, GEnv.get b n = GEnv.get a n ∨ (∃ e es, GEnv.get a n = .own e es ∧ GEnv.get b n = .list false e es) ∨ isEl (GEnv.get b n) = false
theorem demote_sub2 {x : Opd} : Sub2 genv (demote genv x) := fun n => by
 cases x with
 | c v => exact .inl rfl
 | t m =>
  simp only [demote]
  split
  ·rename_i e es hm
   simp only [GEnv.get]
   split
   ·rename_i e'; subst e'; exact .inr (.inl ⟨e, es, hm, rfl⟩)
   ·exact .inl rfl
  ·simp only [GEnv.get]
   split
   ·exact .inr (.inr rfl)
   ·exact .inl rfl
  ·exact .inl rfl
theorem tupDemote_sub2 {x : Opd} {i : Nat} : Sub2 genv (tupDemote genv x i) := fun n => by
 cases x with
 | c v => exact .inl rfl
 | t m =>
  simp only [tupDemote]
  split
  ·split
   ·simp only [GEnv.get]
    split
    ·exact .inr (.inr rfl)
    ·exact .inl rfl
   ·exact .inl rfl
  ·exact .inl rfl
theorem gstore_env2 {a x : U} {n : Nat} {xo : Opd} {env : GEnv} {r : GEnv × GH} (e : gstore lo h a n x env xo = some r) : Sub2 env r.1 := by
 unfold gstore at e
 repeat' split at e
 all_goals first
  | (cases e; done)
  | (cases e; exact demote_sub2)
  | (cases e; exact fun n => .inl rfl)
theorem gappend_env2 {fl : Fl} {dst : Option Nat} {esz bytes : Nat} {s : Opd} {ys : List (List U)} {u : U} {env env' : GEnv} (e : gappend fl lo dst esz bytes s ys env h = some (u, env', h')) : Sub2 env env' := by
 unfold gappend at e
 repeat' split at e
 all_goals first
  | (cases e; done)
  | (cases e; exact fun n => .inl rfl)
  | (cases e; exact demote_sub2)
  | (rw [gfresh_env e]; exact fun n => .inl rfl)
theorem gex_env2 {fl : Fl} {dst : Option Nat} {o : IOp} {u : U} {genv' : GEnv} (e : o.gex fl lo dst genv h = some (u, genv', h')) : Sub2 genv genv' := by
 cases o <;> simp only [IOp.gex] at e
 all_goals repeat' split at e
 all_goals first
  | (cases e; done)
  | (cases e; exact fun n => .inl rfl)
  | (cases e; exact demote_sub2)
  | (obtain ⟨_, _, e2⟩ := Option.map_eq_some_iff.1 e; cases e2; exact fun n => .inl rfl)
  | (rw [gfresh_env e]; exact fun n => .inl rfl)
  | exact gappend_env2 e
  | (obtain ⟨_, _, e2⟩ := Option.map_eq_some_iff.1 e; cases e2; exact tupDemote_sub2)
  | (obtain ⟨_, e1, e2⟩ := Option.map_eq_some_iff.1 e; cases e2; exact gstore_env2 e1)
theorem grun_env2 {T : GTab} {call : GCallF} {fl : Fl} {dst : Option Nat} {o : IOp} {u : U} {genv' : GEnv} (e : o.grun T call fl lo dst genv h = some (u, genv', h')) : Sub2 genv genv' := by
 cases o
 case call f args =>
  simp only [IOp.grun] at e
  obtain ⟨_, _, e2⟩ := Option.map_eq_some_iff.1 e
  cases e2; exact fun n => .inl rfl
 case callv f args =>
  simp only [IOp.grun] at e
  split at e
  ·obtain ⟨_, _, e2⟩ := Option.map_eq_some_iff.1 e
   cases e2; exact fun n => .inl rfl
  ·cases e
 all_goals
  simp only [IOp.grun] at e
  exact gex_env2 e
theorem KnownV.sub {sts : List St} {ds : List (Nat × Nat)} {genv' : GEnv} (a : KnownV sts st X genv env ds) (k : Sub2 genv genv') : KnownV sts st X genv' env ds := fun n hn => by
 rcases k n with e | ⟨q, es, e1, e2⟩ | e
 ·rw [e] at hn ⊢; exact a n hn
 ·obtain ⟨s, X1, α1, h1, h2, h3, h4⟩ := a n (by rw [e1]; rfl)
  rw [e1] at h4
  rw [e2]
  exact ⟨s, X1, α1, h1, h2, h3, RV_share (u := .own q es) h4⟩
 ·rw [e] at hn; cases hn
theorem KnownV.on (hC : Cf st X α ω h) {sts : List St} {ds : List (Nat × Nat)} (hn : HK X sts st) (a : KnownV sts st X genv env ds) (k : Fr lo st X α ω st' X' α' ω') : KnownV sts st' X' genv env ds := fun n e => (a n e).on hC hn k
theorem KnownV.act {sts : List St} {ds : List (Nat × Nat)} (hn : HK X sts st) (a : KnownV sts st X genv env ds) (k : Fr lo st X α ω st' X' α' ω') : KnownV (st :: sts) st' X' genv env ds := fun n e => (a n e).act hn k
theorem KnownV.put {sts : List St} {ds : List (Nat × Nat)} (a : KnownV sts st X genv env ds) {d : Option Nat} {u : U} {v : V} {c : Nat} (hu : d ≠ none → isEl u = true → HeldAt sts st X c u v) : KnownV sts st X (GEnv.put genv d u) (Env.put env d v) (onDst ds d c) := by
 cases d with
 | none => exact a
 | some d =>
  intro n hn
  simp only [GEnv.put, GEnv.get, Env.put, Env.get, onDst, cOf] at hn ⊢
  split at hn
  ·rename_i e
   rw [if_pos e, if_pos e, if_pos e]
   exact hu (by simp) hn
  ·rename_i e
   rw [if_neg e, if_neg e, if_neg e]
   exact a n hn
theorem held_now (hC : Cf st X α ω h) {sts : List St} {u : U} {v : V} (hr : RV st X α u v) (hu : u ≠ .undef) : HeldAt sts st X sts.length u v := ⟨st, X, α, states_last, fun _ _ => Iff.rfl, fun _ ho => RV.obj_lt hC hr hu ho, hr⟩
theorem KnownV.opd {sts : List St} {ds : List (Nat × Nat)} (a : KnownV sts st X genv env ds) {x : Opd} (hx : isEl (x.gev genv) = true) : HeldAt sts st X (cOf ds x) (x.gev genv) (x.ev env) := by
 cases x with
 | t n => exact a n hx
 | c v => cases v <;> simp [Opd.gev, U.ofV, isEl] at hx
theorem since_held (hE : EnvR st X α ω genv env) {sts : List St} {ds : List (Nat × Nat)} (a : KnownV sts st X genv env ds) {o : IOp} {v : V} (hex : o.ex env st = some (v, st')) {fl : Fl} {dst : Option Nat} {u : U} {genv' : GEnv} (hg : o.gex fl lo dst genv h = some (u, genv', h')) (hu : isEl u = true) :
  o.since ds sts.length = sts.length ∨ HeldAt sts st X (o.since ds sts.length) u v := by
 cases o <;> simp only [IOp.since] <;> try exact .inl trivial
 case mov x =>
  simp only [IOp.ex] at hex
  cases hex
  simp only [IOp.gex] at hg
  split at hg
  ·simp only [Option.some.injEq, Prod.mk.injEq] at hg
   obtain ⟨rfl, _⟩ := hg
   have hx : isEl (x.gev genv) = true := by cases hh : x.gev genv <;> rw [hh] at hu <;> first | rfl | exact hu
   obtain ⟨s, X1, α1, h1, h2, h3, h4⟩ := a.opd hx
   exact .inr ⟨s, X1, α1, h1, h2, h3, RV_share h4⟩
  ·simp only [Option.some.injEq, Prod.mk.injEq] at hg
   obtain ⟨rfl, _⟩ := hg
   have hx : isEl (x.gev genv) = true := by cases hh : x.gev genv <;> rw [hh] at hu <;> first | rfl | exact hu
   obtain ⟨s, X1, α1, h1, h2, h3, h4⟩ := a.opd hx
   exact .inr ⟨s, X1, α1, h1, h2, h3, RV_moved h4⟩
 case nilck x =>
  simp only [IOp.gex] at hg
  split at hg
  ·cases hg; cases hu
  ·rename_i cs s0 hx
   cases hg
   have a1 := a.opd (x := x) (by rw [hx]; rfl)
   rw [hx] at a1
   have hr := hE.opd x
   rw [hx] at hr
   simp only [RV] at hr
   obtain ⟨_, _, _, _, _, _, _, _, hv, _⟩ := hr
   rw [hv] at a1
   simp only [IOp.ex, hv] at hex
   cases hex
   exact .inr a1
  ·split at hg
   ·cases hg; cases hu
   ·cases hg
  ·cases hg
 case faddr off x =>
  simp only [IOp.gex] at hg
  split at hg
  ·cases hg; cases hu
  ·rename_i cs s0 hx
   cases hg
   obtain ⟨s, X1, α1, h1, h2, h3, h4⟩ := a.opd (x := x) (by rw [hx]; rfl)
   rw [hx] at h4
   simp only [RV] at h4
   obtain ⟨o, g, i, row, gen, live, ro, y, h5, h6⟩ := h4
   rw [h5] at h3
   simp only [IOp.ex, h5] at hex
   cases hex
   exact .inr ⟨s, X1, α1, h1, h2, h3, by simp only [RV]; exact ⟨o, g, i, row, gen, live, ro, y, rfl, h6⟩⟩
  ·cases hg
 case iaddrA ln esz x i =>
  simp only [IOp.gex] at hg
  split at hg
  ·split at hg
   ·cases hg; cases hu
   ·cases hg
  ·rename_i cs s0 k n hx hi
   split at hg
   ·rename_i hc
    cases hg
    obtain ⟨s, X1, α1, h1, h2, h3, h4⟩ := a.opd (x := x) (by rw [hx]; rfl)
    rw [hx] at h4
    simp only [RV] at h4
    obtain ⟨o, g, j, row, gen, live, ro, y, h5, h6⟩ := h4
    rw [h5] at h3
    have hii := hE.opd i
    rw [hi] at hii
    simp only [RV] at hii
    simp only [IOp.ex, h5, hii, if_pos hc] at hex
    cases hex
    exact .inr ⟨s, X1, α1, h1, h2, h3, by simp only [RV]; exact ⟨o, g, j, row, gen, live, ro, y, rfl, h6⟩⟩
   ·cases hg
  ·cases hg
 case iaddr esz x i =>
  have row : ∀ {cp : Bool} {e' : Nat} {es : List (List U)} {n : Int} {k : IntKind} {cs : List U}, HeldAt sts st X (cOf ds x) (.list false e' es) (x.ev env) → i.gev genv = .int k n → es[n.toNat]? = some cs → HeldAt sts st X (cOf ds x) (.eptr cs 0) v := by
   intro cp e' es n k cs hh hi hcs
   obtain ⟨s, X1, α1, h1, h2, h3, hr⟩ := hh
   have hii := hE.opd i
   rw [hi] at hii
   simp only [RV] at hr hii
   rcases hr with ⟨_, k2⟩ | ⟨o, g, off, ln, cap, row, gen, live, ro, k1, k2, k3, k4, k5, k6, _⟩
   ·have := (RLL_iff.1 k2).nil'
    subst this; simp at hcs
   ·obtain ⟨y, h7, h8⟩ := (RLL_iff.1 k6).get hcs
    have hlt : n.toNat < ln := by
     have := (List.getElem?_eq_some_iff.1 h7).1
     rwa [part_length k5] at this
    rw [part_get hlt] at h7
    rw [k1] at h3
    simp only [IOp.ex, k1, hii] at hex
    split at hex
    ·cases hex
     exact ⟨s, X1, α1, h1, h2, h3, by simp only [RV]; exact ⟨o, g, _, row, gen, live, ro, y, rfl, k2, k3, k4, h7, RL_iff.2 h8⟩⟩
    ·cases hex
  simp only [IOp.gex] at hg
  split at hg
  ·rename_i cp e es k n hx hi
   split at hg
   ·obtain ⟨cs, h1, h2⟩ := Option.map_eq_some_iff.1 hg
    cases h2
    have a1 := a.opd (x := x) (by rw [hx]; rfl)
    rw [hx] at a1
    obtain ⟨s, X1, α1, q1, q2, q3, q4⟩ := a1
    exact .inr (row (cp := cp) ⟨s, X1, α1, q1, q2, q3, RV_share q4⟩ hi h1)
   ·cases hg
  ·rename_i e es k n hx hi
   split at hg
   ·obtain ⟨cs, h1, h2⟩ := Option.map_eq_some_iff.1 hg
    cases h2
    have a1 := a.opd (x := x) (by rw [hx]; rfl)
    rw [hx] at a1
    obtain ⟨s, X1, α1, q1, q2, q3, q4⟩ := a1
    exact .inr (row (cp := false) ⟨s, X1, α1, q1, q2, q3, RV_share q4⟩ hi h1)
   ·cases hg
  ·split at hg
   ·cases hg; cases hu
   ·cases hg
  ·cases hg
 case slice str esz x lo' hi mx =>
  simp only [IOp.gex] at hg
  obtain ⟨w, h1, h2⟩ := Option.map_eq_some_iff.1 hg
  cases h2
  have hx : isEl (x.gev genv) = true := by
   cases hh : x.gev genv <;> first | rfl | skip
   all_goals
    exfalso
    rw [hh] at h1
    unfold U.slice at h1
    repeat' split at h1
    all_goals first | (cases h1; done) | (cases h1; cases hu; done) | contradiction | simp_all
  obtain ⟨s, X1, α1, q1, q2, q3, q4⟩ := a.opd hx
  simp only [IOp.ex] at hex
  obtain ⟨w', h3, h4⟩ := Option.map_eq_some_iff.1 hex
  cases h4
  have old : ∀ (y : Option Opd) {r : Option Int}, goptInt (y.map (·.gev genv)) = some r → ((y.map (·.gev genv)) = none ∧ (y.map (·.ev env)) = none) ∨ ∃ u v, (y.map (·.gev genv)) = some u ∧ (y.map (·.ev env)) = some v ∧ RV s X1 α1 u v := by
   intro y r hy
   cases y with
   | none => exact .inl ⟨rfl, rfl⟩
   | some y =>
    refine .inr ⟨_, _, rfl, rfl, ?_⟩
    have hr := hE.opd y
    simp only [Option.map_some] at hy
    cases hh : y.gev genv <;> rw [hh] at hy hr <;> simp only [goptInt, reduceCtorEq] at hy
    show RV s X1 α1 (y.gev genv) (y.ev env)
    rw [hh]
    simp only [RV] at hr ⊢
    exact hr
  have hopt : (∃ r, goptInt (lo'.map (·.gev genv)) = some r) ∧ (∃ r, goptInt (hi.map (·.gev genv)) = some r) ∧ ∃ r, goptInt (mx.map (·.gev genv)) = some r := by
   unfold U.slice at h1
   split at h1
   ·rename_i e1 e2 e3; exact ⟨⟨_, e1⟩, ⟨_, e2⟩, ⟨_, e3⟩⟩
   ·cases h1
  obtain ⟨⟨_, o1⟩, ⟨_, o2⟩, ⟨_, o3⟩⟩ := hopt
  obtain ⟨w2, k1, k2, _⟩ := slice_sim q4 (old _ o1) (old _ o2) (old _ o3) h1
  rw [h3] at k1
  cases k1
  exact .inr ⟨s, X1, α1, q1, q2, fun o ho => q3 o (slice_obj h3 ho), k2⟩
def PE (sts : List St) (st : St) (X : Nat → Prop) (c : Chk) : Prop :=
 ∃ o, ¬ X o ∧ o < st.next ∧ (∀ st', Kp st st' o → c.op.ex c.env st' = some (c.v, st')) ∧ ∀ m s, c.lo ≤ m → m < sts.length → sts.reverse[m]? = some s → c.at s = true
theorem PE.now {sts : List St} {c : Chk} (h : PE sts st X c) : c.at st = true := by
 obtain ⟨o, _, _, h3, _⟩ := h
 unfold Chk.at
 rw [h3 st (.same rfl), Bool.or_eq_true]
 exact .inl (V.beq_refl _)
theorem PE.on {sts : List St} {c : Chk} (h : PE sts st X c) (k : Fr lo st X α ω st' X' α' ω') : PE sts st' X' c := by
 obtain ⟨o, h1, h2, h3, h5⟩ := h
 exact ⟨o, fun hx => h1 ((k.x o h2).1 hx), Nat.lt_of_lt_of_le h2 k.next, fun s hs => h3 s ((k.kp o h2 h1).trans hs), h5⟩
theorem PE.act {sts : List St} {c : Chk} (h : PE sts st X c) (k : Fr lo st X α ω st' X' α' ω') : PE (st :: sts) st' X' c := by
 have hn := h.now
 obtain ⟨o, h1, h2, h3, h5⟩ := h.on k
 refine ⟨o, h1, h2, h3, fun m s h6 h7 h8 => ?_⟩
 rw [List.reverse_cons] at h8
 by_cases hm : m < sts.length
 ·rw [List.getElem?_append_left (by simpa using hm)] at h8
  exact h5 m s h6 hm h8
 ·rw [List.length_cons] at h7
  rw [List.getElem?_append_right (by simp; omega), List.length_reverse, show m - sts.length = 0 by omega] at h8
  cases h8
  exact hn
theorem PE.ok {sts : List St} {c : Chk} (h : PE sts st X c) : Chk.ok (States sts st) c = true := by
 have hn := h.now
 obtain ⟨o, h1, h2, h3, h5⟩ := h
 unfold Chk.ok
 rw [List.all_eq_true]
 intro s hs
 obtain ⟨i, hi⟩ := List.mem_iff_getElem?.1 hs
 have hlt : i < c.hi + 1 - c.lo := by
  have := (List.getElem?_eq_some_iff.1 hi).1
  unfold cut at this
  simp at this; omega
 rw [part_get hlt] at hi
 rcases states_lt hi with ⟨e1, e2⟩ | ⟨e1, e2⟩
 ·exact h5 _ s (by omega) e1 e2
 ·subst e2; exact hn
theorem eread_ok (hC : Cf st X α ω h) (hE : EnvR st X α ω genv env) {o : IOp} (he : eread o genv = true) {v : V} {a b now : Nat} (hex : o.ex env st = some (v, st)) {sts : List St} {ds : List (Nat × Nat)} (hK : HK X sts st) (hV : KnownV sts st X genv env ds) (ha : again ds now o a b = true) : PE sts st X ⟨o, env, v, a, b⟩ := by
 cases o <;> simp only [eread, Bool.false_eq_true] at he
 case load n agg x =>
  cases hx : x.gev genv <;> rw [hx] at he <;> simp only [Bool.false_eq_true] at he
  rename_i cs s0
  simp only [again, IOp.where?, Bool.and_eq_true, decide_eq_true_eq] at ha
  have hh := hV.opd (x := x) (by rw [hx]; rfl)
  rw [hx] at hh
  obtain ⟨s1, X1, α1, q1, q2, q3, q4⟩ := hh
  simp only [RV] at q4
  obtain ⟨o, g, i, row, gen, live, ro, y, h1, h2, h3, h4, h5, _⟩ := q4
  have ho : o < s1.next := q3 o (by rw [h1]; rfl)
  have hxo : ¬ X o := fun hh => h2 ((q2 o ho).2 hh)
  have rd : ∀ st', Kp s1 st' o → (IOp.load n agg x).ex env st' = (if s0 + n ≤ y.length then ofCells agg (cut y s0 n) else none).map fun w => (w, st') := fun st' hk => by
   obtain ⟨row', gen', ro', h6⟩ := hk _ _ _ _ h3
   simp only [IOp.ex, h1, St.load, h6, if_pos h4]
   rw [List.getElem?_append_left (List.getElem?_eq_some_iff.1 h5).1, h5]
  have know := hK.to (i := cOf ds x) (m := sts.length) (by rcases states_lt q1 with ⟨e1, _⟩ | ⟨e1, _⟩ <;> omega) q1 states_last o ho hxo
  rw [rd st know] at hex
  obtain ⟨w, h7, h8⟩ := Option.map_eq_some_iff.1 hex
  cases h8
  refine ⟨o, hxo, Nat.lt_of_lt_of_le ho (hK.next q1), fun st' hk => ?_, fun m s' k1 k2 k3 => ?_⟩
  ·show (IOp.load n agg x).ex env st' = _
   rw [rd st' (know.trans hk), h7]; rfl
  ·have k1 : a ≤ m := k1
   have km : (States sts st)[m]? = some s' := by unfold States; rw [List.getElem?_append_left (by simpa using k2)]; exact k3
   have := rd s' (hK.to (i := cOf ds x) (m := m) (by omega) q1 km o ho hxo)
   unfold Chk.at
   rw [Bool.or_eq_true]
   refine .inl ?_
   show (match (IOp.load n agg x).ex env s' with | some (v, _) => V.beq v _ | none => false) = true
   rw [this, h7]
   exact V.beq_refl _
theorem regD_sim {T : GTab} {Tb : Tab} {call : GCallF} (hK : CallSim T Tb call) (hO : CallOwn T call) (hCl : CloneOk T Tb) {fl : Fl} : ∀ (ops : List IOper) {st : St} {X : Nat → Prop} {α : List Ad} {ω : Om} {h : GH} {genv : GEnv} {env : Env} {genv' : GEnv} {h' : GH} {sts : List St} {acts : List Turn} {racts : List RTurn} {ds : List (Nat × Nat)} {ps : List (Nat × Nat × Option Nat)} {rps : List (Nat × Nat × (Nat → Prop))} {cs : List Chk},
  Cf st X α ω h → EnvR st X α ω genv env → Hist sts racts st → L2 (TR st.next α) acts racts → L2 (PRd α) ps rps → Known sts st genv env ds → HK X sts st → KnownV sts st X genv env ds → (∀ c ∈ cs, (∃ rp ∈ rps, PC (States sts st) rp c) ∨ PE sts st X c) →
  gevRegD T call fl lo ops genv h acts ds ps = some (genv', h') → ∃ env' st', evRegD (F Tb) ops env st sts cs = some (env', st') ∧ Behind lo st X α ω genv' h' env' st'
 | [], st, X, α, ω, h, genv, env, genv', h', sts, acts, racts, ds, ps, rps, cs, hC, hE, hH, hTR, hPR, hW, hHK, hV, hP, e => by
  unfold gevRegD at e
  unfold evRegD
  split at e
  ·rename_i hall
   cases e
   have : cs.all (Chk.ok (sts.reverse ++ [st])) = true := by
    rw [List.all_eq_true]
    intro c hc
    rcases hP c hc with ⟨rp, h1, h2⟩ | hpe
    case inr => exact hpe.ok
    obtain ⟨gp, h3, h4⟩ := L2.mem_right hPR h1
    rw [List.all_eq_true] at hall
    have h5 := hall gp h3
    rw [List.all_eq_true] at h5
    obtain ⟨e1, e2, e3⟩ := h4
    refine chk_ok hH h2 fun t ht => ?_
    rw [← e1, ← e2] at ht
    obtain ⟨g, h6, h7⟩ := L2.mem_right (hTR.reverse.cut _ _) ht
    exact h7.off hC e3 (h5 g h6)
   rw [if_pos this]
   exact ⟨env, st, rfl, X, α, ω, hC, hE, .refl⟩
  ·cases e
 | o :: os, st, X, α, ω, h, genv, env, genv', h', sts, acts, racts, ds, ps, rps, cs, hC, hE, hH, hTR, hPR, hW, hHK, hV, hP, e => by
  unfold gevRegD at e
  unfold evRegD
  have hl := hH.len.trans hTR.length.symm
  split at e
  ·rename_i g1 g2
   obtain ⟨k1, k2, _⟩ := guard_sim hE g1
   rw [k1, k2 g2]
   split at e
   ·rename_i u genv1 h1 hr
    obtain ⟨v, st1, h2, ⟨X1, α1, ω1, h3, h4, h5⟩, hq⟩ := run_sim hK hO hCl hC hE hr
    simp only [h2]
    have hsub := grun_env hr
    have hlt : u ≠ .undef → ∀ d, o.dst = some d → ∀ x, objOf v = some x → x < st1.next := fun hu d hd x hx => by
     have := (h4 d).1
     simp only [hd, GEnv.put, Env.put, GEnv.get, Env.get, if_true] at this
     exact RV.obj_lt h3 this hu hx
    have hput : ∀ {sts' : List St} {c : Nat}, Known sts' st1 genv1 env ds → (u ≠ .undef → (∀ x, objOf v = some x → x < st1.next) → ∃ s, (States sts' st1)[c]? = some s ∧ ∀ x, objOf v = some x → x < s.next) → Known sts' st1 (GEnv.put genv1 o.dst u) (Env.put env o.dst v) (onDst ds o.dst c) := by
     intro sts' c hk hc
     cases hd : o.dst with
     | none => exact hk
     | some d => exact hk.put (d := some d) fun hu => hc hu (hlt hu d hd)
    have hsub2 := grun_env2 hr
    have hnow : ∀ {sts' : List St}, o.dst ≠ none → isEl u = true → HeldAt sts' st1 X1 sts'.length u v := fun {sts'} hd hu => by
     obtain ⟨d, hd⟩ := Option.ne_none_iff_exists'.1 hd
     have := (h4 d).1
     simp only [hd, GEnv.put, Env.put, GEnv.get, Env.get, if_true] at this
     exact held_now h3 this (fun h => by rw [h] at hu; cases hu)
    have hVa : KnownV (st :: sts) st1 X1 genv1 env ds := (hV.sub hsub2).act hHK h5
    have hVo : KnownV sts st1 X1 genv1 env ds := (hV.sub hsub2).on hC hHK h5
    split at e
    ·rename_i hchk
     simp only [hchk]
     split at e
     ·by_cases hact : o.op.kind = .act
      ·simp only [hact, if_true] at e ⊢
       obtain ⟨rt, rt1, rt2⟩ := turn_ok (α := α) (T := T) hq
       have hW1 : Known (st :: sts) st1 genv1 env ds := (hW.sub hsub).grow grow_act
       obtain ⟨env', st', h6, X2, α2, ω2, h7, h8, h9⟩ := regD_sim hK hO hCl os (sts := st :: sts) (acts := ⟨quiet T o.op, none, false⟩ :: acts) (racts := rt :: racts) h3 h4 ⟨h5.next, rt2, hH⟩ ⟨rt1.grow h5.next h5.al h5.alnew, hTR.mono fun s t k => k.grow h5.next h5.al h5.alnew⟩ (hPR.mono fun p q k => k.grow h5.al)
        (hput hW1 fun _ hx => ⟨st1, by rw [← hl]; exact states_last (sts := st :: sts), hx⟩) (hHK.act h5) (hVa.put (by rw [← hl]; exact hnow (sts' := st :: sts))) (fun c hc => (hP c hc).imp (fun ⟨rp, k1, k2⟩ => ⟨rp, k1, k2.act⟩) fun k => k.act h5) e
       exact ⟨env', st', h6, X2, α2, ω2, h7, h8, h5.trans h9⟩
      ·simp only [hact, if_false] at e ⊢
       have hex : o.op.ex env st = some (v, st1) := by rw [← runEx hact]; exact h2
       have hk : Keepn st st1 := ex_keep hact hex
       have hgx : o.op.gex fl lo o.dst genv h = some (u, genv1, h1) := by
        cases hop : o.op <;> rw [hop] at hr hact <;> first | exact hr | (simp [IOp.kind] at hact)
       have hW1 : Known sts st1 genv1 env ds := (hW.sub hsub).grow (grow_on hk.next)
       obtain ⟨env', st', h6, X2, α2, ω2, h7, h8, h9⟩ := regD_sim hK hO hCl os h3 h4 (hH.on hk) (hTR.mono fun s t k => k.grow h5.next h5.al h5.alnew) (hPR.mono fun p q k => k.grow h5.al)
        (hput hW1 fun hu hx => by rw [← hl]; exact since_ok hW hact hex hx hk.next hgx hu) (hHK.on h5) (hVo.put fun hd hu => by
        rw [← hl]
        rcases since_held hE hV hex hgx hu with q | q
        ·rw [q]; exact hnow hd hu
        ·exact q.on hC hHK h5) (fun c hc => (hP c hc).imp (fun ⟨rp, k1, k2⟩ => ⟨rp, k1, k2.on hk⟩) fun k => k.on h5) e
       exact ⟨env', st', h6, X2, α2, ω2, h7, h8, h5.trans h9⟩
     ·rename_i sb sa hsa
      have hact := turn_act hsa
      simp only [hact, if_true]
      obtain ⟨rt, rt1, rt2⟩ := turn_at hC hE hsa hr h2
      have hW1 : Known (st :: sts) st1 genv1 env ds := (hW.sub hsub).grow grow_act
      obtain ⟨env', st', h6, X2, α2, ω2, h7, h8, h9⟩ := regD_sim hK hO hCl os (sts := st :: sts) (acts := mkTurn sb (sa.gev genv) :: acts) (racts := rt :: racts) h3 h4 ⟨h5.next, rt2, hH⟩ ⟨rt1.grow h5.next h5.al h5.alnew, hTR.mono fun s t k => k.grow h5.next h5.al h5.alnew⟩ (hPR.mono fun p q k => k.grow h5.al)
       (hput hW1 fun _ hx => ⟨st1, by rw [← hl]; exact states_last (sts := st :: sts), hx⟩) (hHK.act h5) (hVa.put (by rw [← hl]; exact hnow (sts' := st :: sts))) (fun c hc => (hP c hc).imp (fun ⟨rp, k1, k2⟩ => ⟨rp, k1, k2.act⟩) fun k => k.act h5) e
      exact ⟨env', st', h6, X2, α2, ω2, h7, h8, h5.trans h9⟩
    ·rename_i a b hchk
     simp only [hchk]
     split at e
     ·rename_i hcond
      obtain ⟨hread, hag, _⟩ := hcond
      have hact : o.op.kind ≠ .act := by rw [hread]; decide
      simp only [hact, if_false]
      have hex : o.op.ex env st = some (v, st1) := by rw [← runEx hact]; exact h2
      have hgx : o.op.gex fl lo o.dst genv h = some (u, genv1, h1) := by
       cases hop : o.op <;> rw [hop] at hr hact <;> first | exact hr | (simp [IOp.kind] at hact)
      have hst := read_st hread hex
      subst hst
      have hW1 : Known sts st1 genv1 env ds := hW.sub hsub
      have hold := fun c hc => (hP c hc).imp (fun ⟨rp, k1, k2⟩ => (⟨rp, k1, k2⟩ : ∃ rp ∈ rps, PC (States sts st1) rp c)) fun k => k.on h5
      by_cases hee : eread o.op genv = true
      ·rw [if_pos hee] at e
       have hpe := eread_ok (sts := sts) hC hE hee hex hHK hV hag
       obtain ⟨env', st', h6, X2, α2, ω2, h7, h8, h9⟩ := regD_sim hK hO hCl os h3 h4 hH (hTR.mono fun s t k => k.grow h5.next h5.al h5.alnew) (hPR.mono fun p q k => k.grow h5.al) (cs := ⟨o.op, env, v, a, b⟩ :: cs)
        (hput hW1 fun _ hx => ⟨st1, by rw [← hl]; exact states_last, hx⟩) (hHK.on h5) (hVo.put (by rw [← hl]; exact hnow))
        (fun c hc => by
         rcases List.mem_cons.1 hc with rfl | hc
         ·exact .inr (hpe.on h5)
         ·exact hold c hc) e
       exact ⟨env', st', h6, X2, α2, ω2, h7, h8, h5.trans h9⟩
      rw [if_neg hee] at e
      have rr1 := read_ok hE o.op
      simp only [again, Bool.and_eq_true, decide_eq_true_eq] at hag
      obtain ⟨env', st', h6, X2, α2, ω2, h7, h8, h9⟩ := regD_sim hK hO hCl os h3 h4 hH (hTR.mono fun s t k => k.grow h5.next h5.al h5.alnew) (ps := (a, b, readOf o.op genv) :: ps) (rps := (a, b, fun y => o.op.seen env = some y) :: rps) ⟨⟨rfl, rfl, rr1.grow h5.al⟩, hPR.mono fun p q k => k.grow h5.al⟩ (cs := ⟨o.op, env, v, a, b⟩ :: cs)
       (hput hW1 fun _ hx => ⟨st1, by rw [← hl]; exact states_last, hx⟩) (hHK.on h5) (hVo.put (by rw [← hl]; exact hnow))
       (fun c hc => by
        rcases List.mem_cons.1 hc with rfl | hc
        ·exact .inl ⟨_, List.mem_cons_self, ⟨rfl, rfl, fun _ h => h, st1, hC.low, hread, hex, acts.length, st1, hag.2.1, hag.2.2, by rw [← hl]; exact states_last, .refl⟩⟩
        ·exact (hold c hc).imp (fun ⟨rp, k1, k2⟩ => ⟨rp, List.mem_cons_of_mem _ k1, k2⟩) fun k => k) e
      exact ⟨env', st', h6, X2, α2, ω2, h7, h8, h5.trans h9⟩
     ·cases e
   ·cases e
  ·rename_i g1 g2
   obtain ⟨k1, _, k2⟩ := guard_sim hE g1
   rw [k1, k2 g2]
   simp only
   have hT : ∀ {sts' : List St}, Known sts' st genv env ds → Known sts' st (GEnv.put genv o.dst (.tup [])) (Env.put env o.dst (.tup [])) (onDst ds o.dst 0) := fun hk =>
    hk.put fun _ => ⟨(States _ st)[0]'(by simp [States]), List.getElem?_eq_getElem _, fun o ho => by cases ho⟩
   by_cases hact : o.op.kind = .act
   ·simp only [hact, if_true] at e ⊢
    obtain ⟨env', st', h6, X2, α2, ω2, h7, h8, h9⟩ := regD_sim hK hO hCl os (sts := st :: sts) (acts := ⟨true, none, false⟩ :: acts) (racts := (fun _ => True) :: racts) hC (hE.putNo RV_tup0 notup) ⟨Nat.le_refl _, fun _ _ _ => rfl, hH⟩ ⟨⟨fun _ _ => trivial, fun o ho => (by cases ho), fun hv => (by cases hv)⟩, hTR⟩ hPR (hT (hW.grow grow_act)) (hHK.act (Fr.refl (lo := lo) (st := st) (X := X) (α := α) (ω := ω))) ((hV.act hHK (Fr.refl (lo := lo) (st := st) (X := X) (α := α) (ω := ω))).put fun _ hu => by cases hu) (fun c hc => (hP c hc).imp (fun ⟨rp, k1, k2⟩ => ⟨rp, k1, k2.act⟩) fun k => k.act (Fr.refl (lo := lo) (st := st) (X := X) (α := α) (ω := ω))) e
    exact ⟨env', st', h6, X2, α2, ω2, h7, h8, h9⟩
   ·simp only [hact, if_false] at e ⊢
    obtain ⟨env', st', h6, X2, α2, ω2, h7, h8, h9⟩ := regD_sim hK hO hCl os hC (hE.putNo RV_tup0 notup) hH hTR hPR (hT hW) hHK (hV.put fun _ hu => by cases hu) hP e
    exact ⟨env', st', h6, X2, α2, ω2, h7, h8, h9⟩
  ·cases e
end Go.Ab
