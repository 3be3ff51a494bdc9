/- Edges come back; AdjBack. -/
import Derived.Test.YtaoippgdkilacaaAdjE
import Derived.Test.YtaoippgdkilacaaHistY
import Derived.Test.YtaoippgdkilacaaValN
namespace Go.Ab
open Go
set_option linter.unusedVariables false
set_option linter.unusedSimpArgs false
set_option maxRecDepth 10000

def nds (es : List Ed) : List Nd := es.map fun e => (e.1.toNat, e.2.toNat)
theorem EdsOk.ues {N : Int} {es : List Ed} (h : EdsOk N es) : ues es = uen (nds es) := by
  have h2 := h.2
  clear h
  unfold Go.Ab.ues uen nds
  rw [List.map_map]
  refine List.map_congr_left fun e he => ?_
  have := h2 e he
  simp only [Function.comp]
  rw [show ((e.1.toNat : Nat) : Int) = e.1 by omega, show ((e.2.toNat : Nat) : Int) = e.2 by omega]
theorem EdsOk.nds {N : Int} {es : List Ed} (h : EdsOk N es) : Strict (nds es) ∧ ∀ e ∈ nds es, e.1 ≤ 4294967295 ∧ e.2 ≤ 4294967295 ∧ ((e.2 : Nat) : Int) < N := by
  obtain ⟨h1, h2⟩ := h
  refine ⟨⟨?_, fun e he => ?_⟩, fun e he => ?_⟩
  · unfold Go.Ab.nds
    rw [List.pairwise_map]
    refine (List.pairwise_iff_getElem.2 fun i j hi hj hij => ?_)
    have a := List.pairwise_iff_getElem.1 h1 i j hi hj hij
    have b := h2 _ (List.getElem_mem hi)
    have c := h2 _ (List.getElem_mem hj)
    unfold ltE at a
    unfold ltN
    simp only
    omega
  · obtain ⟨d, hd, rfl⟩ := List.mem_map.1 he
    have := h2 d hd
    simp only
    omega
  · obtain ⟨d, hd, rfl⟩ := List.mem_map.1 he
    have := h2 d hd
    simp only
    omega
/-- The greatest vertex. -/
def topV (l : List Nd) : Nat := l.foldl (fun a e => max a e.2) 0
end Go.Ab
