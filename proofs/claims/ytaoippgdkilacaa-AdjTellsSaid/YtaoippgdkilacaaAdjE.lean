/- Which bytes are edges, which are none; AdjStrange. -/
import Derived.Test.YtaoippgdkilacaaAdjD
import Derived.Test.YtaoippgdkilacaaValN
import Derived.Test.YtaoippgdkilacaaArgA
namespace Go.Ab
open Go
set_option linter.unusedVariables false
set_option linter.unusedSimpArgs false
set_option maxRecDepth 10000

theorem AdjIs.nums {n : Nat} {bs : List Nat} {l : List Nd} (h : AdjIs n bs l) (hl : bs.length ≤ 10000) :
    ∃ G, GoodG 0 G ∧ gflat G = l ∧ putL (G.length :: gbody 0 G) = bs ∧ (∀ e ∈ l, e.2 < n ∧ e.2 ≤ 4294967295) ∧ ∀ x ∈ G.length :: gbody 0 G, x < 18446744073709551616 := by
  obtain ⟨G, h1, h2, h3, h4⟩ := h
  have hp := putL_length (G.length :: gbody 0 G)
  rw [show putL (G.length :: gbody 0 G) = bs from h3, List.length_cons, ← gbody_len] at hp
  have hs := (GoodG_strict h1).2
  obtain ⟨a, b, _⟩ := gbody_bytes h1 (by omega) (fun e he => by
    have := hs e he
    rw [h2] at he
    have := (h4 e he).2
    omega)
  refine ⟨G, h1, h2, h3, h4, fun x hx => ?_⟩
  rcases List.mem_cons.1 hx with rfl | hx
  · omega
  · exact a x hx
theorem known15_G : GF gtab fid_archipelagolaw15_known [] [] 0 = some (.bool true, []) := GF_run 300 (by kernel_rfl)

end Go.Ab
