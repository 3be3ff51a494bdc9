/- What writers leave as it was. -/
import Derived.Test.YtflllpkjgloehaaBitU2
namespace Go.Ab
open Go
set_option linter.unusedVariables false
set_option linter.unusedSimpArgs false

theorem WrV.other {h h' : GH} {o : Nat} {a : Option Nat} {l : List Bool} (w : WrV h o a l) (k : ∀ p, (p = o ∨ a = some p) → h'[p]? = h[p]?) : WrV h' o a l := by
  rcases w with ⟨rfl, rfl, k1⟩ | ⟨p, g, live, bs, rfl, hp, hg, k1, k2⟩
  · exact .inl ⟨rfl, rfl, by rw [k o (.inl rfl)]; exact k1⟩
  · exact .inr ⟨p, g, live, bs, rfl, hp, hg, by rw [k o (.inl rfl)]; exact k1, by rw [k p (.inr rfl)]; exact k2⟩
theorem RwV.other {h h' : GH} {o : Nat} {l : List Bool} (w : RwV h o l) (k : h'[o]? = h[o]?) : RwV h' o l := by
  rcases w with ⟨e, k1⟩ | k1
  · exact .inl ⟨e, by rw [k]; exact k1⟩
  · exact .inr (by rw [k]; exact k1)
theorem RwV.lt {h : GH} {o : Nat} {l : List Bool} (w : RwV h o l) : o < h.length := by rcases w with ⟨_, k⟩ | k <;> exact get_lt k
theorem WrV.lt {h : GH} {o : Nat} {a : Option Nat} {l : List Bool} (w : WrV h o a l) : o < h.length := by rcases w with ⟨_, _, k⟩ | ⟨_, _, _, _, _, _, _, k, _⟩ <;> exact get_lt k
/-- A writer's bytes lie in no box. -/
theorem WrV.apart {h : GH} {o q : Nat} {a : Option Nat} {l : List Bool} {cs : List U} (w : WrV h o a l) (k : h[q]? = some (.box cs)) : a ≠ some q := by
  rcases w with ⟨rfl, _, _⟩ | ⟨p, _, _, _, rfl, _, _, _, k2⟩
  · intro e; cases e
  · intro e; cases e; rw [k] at k2; cases k2
theorem RwV.box {h : GH} {o : Nat} {l : List Bool} (w : RwV h o l) : ∃ cs, h[o]? = some (.box cs) := by rcases w with ⟨_, k⟩ | k <;> exact ⟨_, k⟩

end Go.Ab
