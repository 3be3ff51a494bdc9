/- Structs behind pointers, beside rows of one's own. -/
import Derived.Test.YtgndjeknneaeiaaAbsN
namespace Go.Ab
open Go
set_option linter.unusedVariables false
set_option linter.unusedSimpArgs false

/-- Its row isn't object o. -/
def Far (x : V) (o : Nat) : Prop := ∀ a g s ln e c, x = .sl a g s ln e c → a ≠ o

theorem Far.nils {o : Nat} : Far .nils o := fun a g s ln e c h => by cases h
theorem Far.sl {a g s ln e : Nat} {c : Option Nat} {o : Nat} (h : a ≠ o) : Far (.sl a g s ln e c) o := fun a' g' s' ln' e' c' k => by cases k; exact h

theorem Own.set {st : St} {n esz : Nat} {x : V} {es : List (List V)} {o : Nat} {X : Obj} (h : Own st n esz x es) (hf : Far x o) : Own (st.set o X) n esz x es := by
  cases h with
  | nil => exact .nil
  | row h hl hn hlt => exact .row (by rw [St.get_set, if_neg (hf _ _ _ _ _ _ rfl)]; exact h) hl hn hlt

theorem Slc.set {st : St} {esz : Nat} {x : V} {es : List (List V)} {o : Nat} {X : Obj} (h : Slc st esz x es) (hf : Far x o) : Slc (st.set o X) esz x es := by
  cases h with
  | nil => exact .nil
  | row h hl hb he => exact .row (by rw [St.get_set, if_neg (hf _ _ _ _ _ _ rfl)]; exact h) hl hb he

/-- An append turns its own row, or makes one. -/
theorem append_far {st st' : St} {esz bytes : Nat} {x x' : V} {ys : List (List V)} {o : Nat} (ha : st.append esz bytes x ys = some (x', st')) (hf : Far x o) (ho : o < st.next) (hx : x = .nils ∨ ∃ a g ln, x = .sl a g 0 ln esz none) : Far x' o ∧ st'.get o = st.get o ∧ st.next ≤ st'.next := by
  rcases hx with rfl | ⟨a, g, ln, rfl⟩
  · simp only [St.append] at ha
    split at ha
    · cases ha; exact ⟨.nils, rfl, Nat.le_refl _⟩
    · split at ha
      · cases ha
        exact ⟨.sl (by omega), by rw [St.get_push, if_neg (by omega)], by rw [St.next_push]; omega⟩
      · cases ha
  · simp only [St.append, ne_eq, not_true_eq_false, if_false] at ha
    split at ha
    · cases ha; exact ⟨hf, rfl, Nat.le_refl _⟩
    · have hne := hf _ _ _ _ _ _ rfl
      split at ha
      · split at ha
        · cases ha
          exact ⟨.sl hne, by rw [St.get_set, if_neg (fun h => hne h.symm)], Nat.le_refl _⟩
        · cases ha
      · cases ha

theorem Own.shape {st : St} {n esz : Nat} {x : V} {es : List (List V)} (h : Own st n esz x es) : x = .nils ∨ ∃ a g ln, x = .sl a g 0 ln esz none := by
  cases h with
  | nil => exact .inl rfl
  | row h hl hn hlt => exact .inr ⟨_, _, _, rfl⟩

theorem Own.below {st : St} {n esz : Nat} {x : V} {es : List (List V)} {o : Nat} (h : Own st n esz x es) (ho : o < n) : Far x o := by
  cases h with
  | nil => exact .nils
  | row h hl hn hlt => exact .sl (by omega)

theorem Slc.far {st : St} {esz : Nat} {x : V} {es : List (List V)} {o : Nat} (h : Slc st esz x es) (l : st.Low) (ho : st.next ≤ o) : Far x o := by
  cases h with
  | nil => exact .nils
  | row h _ _ _ => exact .sl (by have := l _ _ h; omega)

/-- A struct behind a pointer, its fields. -/
inductive Rec (st : St) (n : Nat) : V → List V → Prop where
  | mk {o g : Nat} {cs : List V} (h : st.get o = some (.row [cs] g g false)) (hn : n ≤ o) (hlt : o < st.next) : Rec st n (.ptr o g 0 0) cs

theorem Rec.new {st : St} {n : Nat} (cs : List V) (hn : n ≤ st.next) : Rec (st.push (.row [cs] 0 0 false)) n (.ptr st.next 0 0 0) cs :=
  .mk (by rw [St.get_push, if_pos rfl]) hn (by rw [St.next_push]; omega)

theorem Rec.up {st st' : St} {n : Nat} {p : V} {cs : List V} (h : Rec st n p cs) (u : Up st.next st st') : Rec st' n p cs := by
  cases h with
  | mk h hn hlt => exact .mk (by rw [u.same _ hlt]; exact h) hn (Nat.lt_of_lt_of_le hlt u.next)

theorem rec_load {st : St} {o g : Nat} {cs : List V} (h : st.get o = some (.row [cs] g g false)) {k : Nat} {v : V} (hk : cs[k]? = some v) : st.load (.ptr o g 0 k) 1 false = some v := by
  obtain ⟨h1, h2⟩ := List.getElem?_eq_some_iff.1 hk
  have hc : cut cs k 1 = [v] := by
    unfold cut
    rw [List.drop_eq_getElem_cons h1, h2]; rfl
  simp [St.load, h, hc, show k + 1 ≤ cs.length by omega]

theorem rec_store {st : St} {o g : Nat} {cs : List V} (h : st.get o = some (.row [cs] g g false)) {k : Nat} {v : V} (hk : k < cs.length) (hv : cellsOf v = some [v] ∧ V.one v = true) :
    st.store (.ptr o g 0 k) 1 v = some (st.set o (.row [cs.set k v] g g false)) := by
  have hl : lay cs k [v] = cs.set k v := by
    unfold lay
    rw [List.set_eq_take_append_cons_drop, if_pos hk]
    simp
  unfold St.store
  simp only [h, and_self, if_true, List.getElem?_cons_zero, hv.1]
  rw [if_pos ⟨by omega, rfl, by simp only [List.all_cons, hv.2, List.all_nil, Bool.and_self]⟩, hl]
  rfl

/-- A cell of one's own, which object it stands in. -/
theorem Own.cellAt {st : St} {n : Nat} {x : V} {es : List (List V)} (h : Own st n 1 x es) (hn : n ≤ st.next) {i : Nat} {e : V} (hi : es[i]? = some [e]) :
    ∃ o g, x = .sl o g 0 es.length 1 none ∧ st.load (.ptr o g i 0) 1 false = some e ∧ ∀ v, cellsOf v = some [v] ∧ V.one v = true → ∃ X, st.store (.ptr o g i 0) 1 v = some (st.set o X) ∧ Own (st.set o X) n 1 x (es.set i [v]) ∧ Up n st (st.set o X) := by
  cases h with
  | nil => cases hi
  | row h hl hno hlt =>
    rename_i o g live
    refine ⟨o, g, rfl, by simp [St.load, h, hl, hi, cut], fun v hv => ?_⟩
    refine ⟨.row (es.set i [v]) g g false, ?_, ?_, Up.set _ hn hno hlt⟩
    · unfold St.store
      simp only [h, and_self, if_true, hi, hv.1]
      rw [if_pos ⟨by simp, rfl, by simp only [List.all_cons, hv.2, List.all_nil, Bool.and_self]⟩]
      rfl
    · have : es.length = (es.set i [v]).length := by simp
      rw [this]
      exact .row (by rw [St.get_set, if_pos rfl]) (Nat.le_refl _) hno hlt

theorem one_int {k : IntKind} {n : Int} : cellsOf (.int k n) = some [.int k n] ∧ V.one (.int k n) = true := ⟨rfl, rfl⟩
theorem one_bool {b : Bool} : cellsOf (.bool b) = some [.bool b] ∧ V.one (.bool b) = true := ⟨rfl, rfl⟩

end Go.Ab
