/-
  No cell of these rows narrows 'for every input' (looked for: loops, veiled, ifaces, maps, wideKeys, modest, calm, conditions, laid).
  DERIVED. THE GIVEN ROWS OF THIS SEAT. 4 by the template 'for every input the law returns true; each argument reads behind the call as it read before'; 0 by the template 'total and deterministic' (their statements: YtaoippgdkilacaaTotals.lean).
  GIVEN WITH THE SEED: the statements are not yours to turn. If you find one false, say at which input.
  Laid BY PROGRAM, IN A SANDBOX (cutbox-rows.mjs): the forced cells as the released guide's own fill.sh prints them over the translation ea3ba9c31534ccb2… (all of the seat's roots in one cut). By AI agents, Wed Nov 11 2026. No macro, syntax, notation, axiom, sorry.
-/
import Derived.Test.YtaoippgdkilacaaChecked
import GoSem.Claim
import GoSem.ClaimJoined
import GoSem.ClaimMapViews
import Derived.JoinedTies
import Derived.KernelRfl
namespace Go.Proofs.Ytaoippgdkilacaa
/- THE CELL 'sum', in the pinned program and in every row, IS THE sha256 OF THE DUMP (.gsa) THAT YtaoippgdkilacaaProg.lean LOADS. Nothing in Lean hashes anything: it is a label: what it is worth is what the hold of that sum in a sandbox is worth. -/
noncomputable def Try.pinned : Pinned := { name := "ytaoippgdkilacaa", sum := "ea3ba9c31534ccb2506818edf47498efc477c93c0ce51a78b056bb2965911f44", checked := Try.checked }
namespace Rows
def none {H : Type} : Left H := { results := [], args := [] }

/-- 'archipelagolaw15.AdjTells': WHATEVER THE INPUT: true; the input reads as it did. -/
def adjTellsSpec : ChangeSpec := { name := "adjTells", fn := fun _ => fun
  | [d1, d2, d3, d4, d5, d6, d7, d8, d9, d10] => { results := [.lit (.bool true)], args := [d1, d2, d3, d4, d5, d6, d7, d8, d9, d10] }
  | _ => none }
def adjTellsRow : OpenClaim := { program := "ytaoippgdkilacaa", sum := "ea3ba9c31534ccb2506818edf47498efc477c93c0ce51a78b056bb2965911f44", func := "archipelago/archipelagolaw15.AdjTells", spec := "adjTells", apart := false }
def AdjTellsSaid : Prop := adjTellsRow.holds Try.pinned (OpenSpec.ofChange adjTellsSpec)

/-- ITS FALSE NEIGHBOUR: 'it returns false'. Refute it at one input. -/
def adjTellsWrong : ChangeSpec := { name := "adjTells", fn := fun _ => fun
  | [d1, d2, d3, d4, d5, d6, d7, d8, d9, d10] => { results := [.lit (.bool false)], args := [d1, d2, d3, d4, d5, d6, d7, d8, d9, d10] }
  | _ => none }
def AdjTellsWrongFalsely : Prop := adjTellsRow.holds Try.pinned (OpenSpec.ofChange adjTellsWrong)

/-- 'archipelagolaw15.AdjBack': WHATEVER THE INPUT: true; the input reads as it did. -/
def adjBackSpec : ChangeSpec := { name := "adjBack", fn := fun _ => fun
  | [d1, d2, d3] => { results := [.lit (.bool true)], args := [d1, d2, d3] }
  | _ => none }
def adjBackRow : OpenClaim := { program := "ytaoippgdkilacaa", sum := "ea3ba9c31534ccb2506818edf47498efc477c93c0ce51a78b056bb2965911f44", func := "archipelago/archipelagolaw15.AdjBack", spec := "adjBack", apart := false }
def AdjBackSaid : Prop := adjBackRow.holds Try.pinned (OpenSpec.ofChange adjBackSpec)

/-- ITS FALSE NEIGHBOUR: 'it returns false'. Refute it at one input. -/
def adjBackWrong : ChangeSpec := { name := "adjBack", fn := fun _ => fun
  | [d1, d2, d3] => { results := [.lit (.bool false)], args := [d1, d2, d3] }
  | _ => none }
def AdjBackWrongFalsely : Prop := adjBackRow.holds Try.pinned (OpenSpec.ofChange adjBackWrong)

/-- 'archipelagolaw15.AdjSizes': WHATEVER THE INPUT: true; the input reads as it did. -/
def adjSizesSpec : ChangeSpec := { name := "adjSizes", fn := fun _ => fun
  | [d1, d2, d3, d4] => { results := [.lit (.bool true)], args := [d1, d2, d3, d4] }
  | _ => none }
def adjSizesRow : OpenClaim := { program := "ytaoippgdkilacaa", sum := "ea3ba9c31534ccb2506818edf47498efc477c93c0ce51a78b056bb2965911f44", func := "archipelago/archipelagolaw15.AdjSizes", spec := "adjSizes", apart := false }
def AdjSizesSaid : Prop := adjSizesRow.holds Try.pinned (OpenSpec.ofChange adjSizesSpec)

/-- ITS FALSE NEIGHBOUR: 'it returns false'. Refute it at one input. -/
def adjSizesWrong : ChangeSpec := { name := "adjSizes", fn := fun _ => fun
  | [d1, d2, d3, d4] => { results := [.lit (.bool false)], args := [d1, d2, d3, d4] }
  | _ => none }
def AdjSizesWrongFalsely : Prop := adjSizesRow.holds Try.pinned (OpenSpec.ofChange adjSizesWrong)

/-- 'archipelagolaw15.AdjStrange': WHATEVER THE INPUT: true; the input reads as it did. -/
def adjStrangeSpec : ChangeSpec := { name := "adjStrange", fn := fun _ => fun
  | [d1, d2, d3] => { results := [.lit (.bool true)], args := [d1, d2, d3] }
  | _ => none }
def adjStrangeRow : OpenClaim := { program := "ytaoippgdkilacaa", sum := "ea3ba9c31534ccb2506818edf47498efc477c93c0ce51a78b056bb2965911f44", func := "archipelago/archipelagolaw15.AdjStrange", spec := "adjStrange", apart := false }
def AdjStrangeSaid : Prop := adjStrangeRow.holds Try.pinned (OpenSpec.ofChange adjStrangeSpec)

/-- ITS FALSE NEIGHBOUR: 'it returns false'. Refute it at one input. -/
def adjStrangeWrong : ChangeSpec := { name := "adjStrange", fn := fun _ => fun
  | [d1, d2, d3] => { results := [.lit (.bool false)], args := [d1, d2, d3] }
  | _ => none }
def AdjStrangeWrongFalsely : Prop := adjStrangeRow.holds Try.pinned (OpenSpec.ofChange adjStrangeWrong)

/- THE SECOND FORM. 'bulk': how many values and letters a reading holds, each counted each time it is reached (what is shared counts as often as it is met; a slice's spare places count too). A statement '..UptoSaid' is the law's where the arguments, and the package variables that the reading takes, are together of bulk at most 1048576: NARROWER than '..Said'. Prove '..Said' where nothing that the law and all that it calls make is longer than what came in: it says more and counts as full. Else prove '..UptoSaid'. A law counts once. -/
mutual
def uptoBulk {H : Type} : DataW H → Nat
  | .lit (.string bytes) => bytes.length + 1
  | .lit _ => 1
  | .nil => 1
  | .ptr d => uptoBulk d + 1
  | .slice elems spare => uptoBulkAll elems + uptoBulkAll spare + 1
  | .agg parts => uptoBulkAll parts + 1
  | .iface _ d => uptoBulk d + 1
  | .map entries => uptoBulkEntries entries + 1
  | .held _ => 1
def uptoBulkAll {H : Type} : List (DataW H) → Nat
  | [] => 0
  | d :: r => uptoBulk d + uptoBulkAll r
def uptoBulkEntries {H : Type} : List (Lit × DataW H) → Nat
  | [] => 0
  | x :: r => uptoBulkEntry x + uptoBulkEntries r
def uptoBulkEntry {H : Type} : Lit × DataW H → Nat
  | (.string bytes, d) => bytes.length + uptoBulk d + 1
  | (_, d) => uptoBulk d + 1
 end
def uptoSmall : (H : Type) → List (DataW H) → Bool := fun _ ds => decide (uptoBulkAll ds ≤ 1048576)
def OpenSpec.upto (s : _root_.Go.ChangeSpec) : _root_.Go.OpenSpec := { _root_.Go.OpenSpec.ofChange s with cond := some uptoSmall }

/-- 'archipelagolaw15.AdjTells', WHERE WHAT IT READS IS OF BULK AT MOST 1048576: true; the input reads as it did. -/
def adjTellsUptoRow : OpenClaim := { program := "ytaoippgdkilacaa", sum := "ea3ba9c31534ccb2506818edf47498efc477c93c0ce51a78b056bb2965911f44", func := "archipelago/archipelagolaw15.AdjTells", spec := "adjTells", apart := false, narrowed := true }
def AdjTellsUptoSaid : Prop := adjTellsUptoRow.holds Try.pinned (OpenSpec.upto adjTellsSpec)

/-- 'archipelagolaw15.AdjBack', WHERE WHAT IT READS IS OF BULK AT MOST 1048576: true; the input reads as it did. -/
def adjBackUptoRow : OpenClaim := { program := "ytaoippgdkilacaa", sum := "ea3ba9c31534ccb2506818edf47498efc477c93c0ce51a78b056bb2965911f44", func := "archipelago/archipelagolaw15.AdjBack", spec := "adjBack", apart := false, narrowed := true }
def AdjBackUptoSaid : Prop := adjBackUptoRow.holds Try.pinned (OpenSpec.upto adjBackSpec)

/-- 'archipelagolaw15.AdjSizes', WHERE WHAT IT READS IS OF BULK AT MOST 1048576: true; the input reads as it did. -/
def adjSizesUptoRow : OpenClaim := { program := "ytaoippgdkilacaa", sum := "ea3ba9c31534ccb2506818edf47498efc477c93c0ce51a78b056bb2965911f44", func := "archipelago/archipelagolaw15.AdjSizes", spec := "adjSizes", apart := false, narrowed := true }
def AdjSizesUptoSaid : Prop := adjSizesUptoRow.holds Try.pinned (OpenSpec.upto adjSizesSpec)

/-- 'archipelagolaw15.AdjStrange', WHERE WHAT IT READS IS OF BULK AT MOST 1048576: true; the input reads as it did. -/
def adjStrangeUptoRow : OpenClaim := { program := "ytaoippgdkilacaa", sum := "ea3ba9c31534ccb2506818edf47498efc477c93c0ce51a78b056bb2965911f44", func := "archipelago/archipelagolaw15.AdjStrange", spec := "adjStrange", apart := false, narrowed := true }
def AdjStrangeUptoSaid : Prop := adjStrangeUptoRow.holds Try.pinned (OpenSpec.upto adjStrangeSpec)

end Rows
end Go.Proofs.Ytaoippgdkilacaa
