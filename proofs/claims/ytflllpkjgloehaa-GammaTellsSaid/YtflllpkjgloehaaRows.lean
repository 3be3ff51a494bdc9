/-
  No cell of these rows narrows 'for every input' (looked for: loops, veiled, ifaces, maps, wideKeys, modest, calm, conditions, laid).
  DERIVED. THE GIVEN ROWS OF THIS SEAT. 4 by the template 'for every input the law returns true; each argument reads behind the call as it read before'; 0 by the template 'total and deterministic' (their statements: YtflllpkjgloehaaTotals.lean).
  GIVEN WITH THE SEED: the statements are not yours to turn. If you find one false, say at which input.
  Laid BY PROGRAM, IN A SANDBOX (cutbox-rows.mjs): the forced cells as the released guide's own fill.sh prints them over the translation 34647ae97dc1277d… (all of the seat's roots in one cut). By AI agents, Wed Nov 11 2026. No macro, syntax, notation, axiom, sorry.
-/
import Derived.Test.YtflllpkjgloehaaChecked
import GoSem.Claim
import GoSem.ClaimJoined
import GoSem.ClaimMapViews
import Derived.JoinedTies
import Derived.KernelRfl
namespace Go.Proofs.Ytflllpkjgloehaa
/- THE CELL 'sum', in the pinned program and in every row, IS THE sha256 OF THE DUMP (.gsa) THAT YtflllpkjgloehaaProg.lean LOADS. Nothing in Lean hashes anything: it is a label: what it is worth is what the hold of that sum in a sandbox is worth. -/
noncomputable def Try.pinned : Pinned := { name := "ytflllpkjgloehaa", sum := "34647ae97dc1277d3c17bec3f621288f9c3b7646a7e91b5f812ea65bc0498a6d", checked := Try.checked }
namespace Rows
def none {H : Type} : Left H := { results := [], args := [] }

/-- 'archipelagolaw3.GammaTells': WHATEVER THE INPUT: true; the input reads as it did. -/
def gammaTellsSpec : ChangeSpec := { name := "gammaTells", fn := fun _ => fun
  | [d1, d2, d3] => { results := [.lit (.bool true)], args := [d1, d2, d3] }
  | _ => none }
def gammaTellsRow : OpenClaim := { program := "ytflllpkjgloehaa", sum := "34647ae97dc1277d3c17bec3f621288f9c3b7646a7e91b5f812ea65bc0498a6d", func := "archipelago/archipelagolaw3.GammaTells", spec := "gammaTells", apart := false }
def GammaTellsSaid : Prop := gammaTellsRow.holds Try.pinned (OpenSpec.ofChange gammaTellsSpec)

/-- ITS FALSE NEIGHBOUR: 'it returns false'. Refute it at one input. -/
def gammaTellsWrong : ChangeSpec := { name := "gammaTells", fn := fun _ => fun
  | [d1, d2, d3] => { results := [.lit (.bool false)], args := [d1, d2, d3] }
  | _ => none }
def GammaTellsWrongFalsely : Prop := gammaTellsRow.holds Try.pinned (OpenSpec.ofChange gammaTellsWrong)

/-- 'archipelagolaw3.GammaBack': WHATEVER THE INPUT: true; the input reads as it did. -/
def gammaBackSpec : ChangeSpec := { name := "gammaBack", fn := fun _ => fun
  | [d1, d2] => { results := [.lit (.bool true)], args := [d1, d2] }
  | _ => none }
def gammaBackRow : OpenClaim := { program := "ytflllpkjgloehaa", sum := "34647ae97dc1277d3c17bec3f621288f9c3b7646a7e91b5f812ea65bc0498a6d", func := "archipelago/archipelagolaw3.GammaBack", spec := "gammaBack", apart := false }
def GammaBackSaid : Prop := gammaBackRow.holds Try.pinned (OpenSpec.ofChange gammaBackSpec)

/-- ITS FALSE NEIGHBOUR: 'it returns false'. Refute it at one input. -/
def gammaBackWrong : ChangeSpec := { name := "gammaBack", fn := fun _ => fun
  | [d1, d2] => { results := [.lit (.bool false)], args := [d1, d2] }
  | _ => none }
def GammaBackWrongFalsely : Prop := gammaBackRow.holds Try.pinned (OpenSpec.ofChange gammaBackWrong)

/-- 'archipelagolaw3.GammaSizes': WHATEVER THE INPUT: true; the input reads as it did. -/
def gammaSizesSpec : ChangeSpec := { name := "gammaSizes", fn := fun _ => fun
  | [d1, d2, d3, d4] => { results := [.lit (.bool true)], args := [d1, d2, d3, d4] }
  | _ => none }
def gammaSizesRow : OpenClaim := { program := "ytflllpkjgloehaa", sum := "34647ae97dc1277d3c17bec3f621288f9c3b7646a7e91b5f812ea65bc0498a6d", func := "archipelago/archipelagolaw3.GammaSizes", spec := "gammaSizes", apart := false }
def GammaSizesSaid : Prop := gammaSizesRow.holds Try.pinned (OpenSpec.ofChange gammaSizesSpec)

/-- ITS FALSE NEIGHBOUR: 'it returns false'. Refute it at one input. -/
def gammaSizesWrong : ChangeSpec := { name := "gammaSizes", fn := fun _ => fun
  | [d1, d2, d3, d4] => { results := [.lit (.bool false)], args := [d1, d2, d3, d4] }
  | _ => none }
def GammaSizesWrongFalsely : Prop := gammaSizesRow.holds Try.pinned (OpenSpec.ofChange gammaSizesWrong)

/-- 'archipelagolaw3.GammaCuts': WHATEVER THE INPUT: true; the input reads as it did. -/
def gammaCutsSpec : ChangeSpec := { name := "gammaCuts", fn := fun _ => fun
  | [d1, d2, d3, d4] => { results := [.lit (.bool true)], args := [d1, d2, d3, d4] }
  | _ => none }
def gammaCutsRow : OpenClaim := { program := "ytflllpkjgloehaa", sum := "34647ae97dc1277d3c17bec3f621288f9c3b7646a7e91b5f812ea65bc0498a6d", func := "archipelago/archipelagolaw3.GammaCuts", spec := "gammaCuts", apart := false }
def GammaCutsSaid : Prop := gammaCutsRow.holds Try.pinned (OpenSpec.ofChange gammaCutsSpec)

/-- ITS FALSE NEIGHBOUR: 'it returns false'. Refute it at one input. -/
def gammaCutsWrong : ChangeSpec := { name := "gammaCuts", fn := fun _ => fun
  | [d1, d2, d3, d4] => { results := [.lit (.bool false)], args := [d1, d2, d3, d4] }
  | _ => none }
def GammaCutsWrongFalsely : Prop := gammaCutsRow.holds Try.pinned (OpenSpec.ofChange gammaCutsWrong)

/- THE SECOND FORM. 'bulk': how many values and letters a reading holds, each counted each time it is reached (what is shared counts as often as it is met; a slice's spare places count too). A statement '..UptoSaid' is the law's where the arguments, and the package variables that the reading takes, are together of bulk at most 1048576: NARROWER than '..Said'. Prove '..Said' where nothing that the law and all that it calls make is longer than what came in: it says more and counts as full. Else prove '..UptoSaid'. A law counts once. -/
mutual
def uptoBulk {H : Type} : DataW H → Nat
  | .lit (.string bytes) => bytes.length + 1
  | .lit _ => 1
  | .nil => 1
  | .ptr d => uptoBulk d + 1
  | .slice elems spare => uptoBulkAll elems + uptoBulkAll spare + 1
  | .agg parts => uptoBulkAll parts + 1
  | .iface _ d => uptoBulk d + 1
  | .map entries => uptoBulkEntries entries + 1
  | .held _ => 1
def uptoBulkAll {H : Type} : List (DataW H) → Nat
  | [] => 0
  | d :: r => uptoBulk d + uptoBulkAll r
def uptoBulkEntries {H : Type} : List (Lit × DataW H) → Nat
  | [] => 0
  | x :: r => uptoBulkEntry x + uptoBulkEntries r
def uptoBulkEntry {H : Type} : Lit × DataW H → Nat
  | (.string bytes, d) => bytes.length + uptoBulk d + 1
  | (_, d) => uptoBulk d + 1
 end
def uptoSmall : (H : Type) → List (DataW H) → Bool := fun _ ds => decide (uptoBulkAll ds ≤ 1048576)
def OpenSpec.upto (s : _root_.Go.ChangeSpec) : _root_.Go.OpenSpec := { _root_.Go.OpenSpec.ofChange s with cond := some uptoSmall }

/-- 'archipelagolaw3.GammaTells', WHERE WHAT IT READS IS OF BULK AT MOST 1048576: true; the input reads as it did. -/
def gammaTellsUptoRow : OpenClaim := { program := "ytflllpkjgloehaa", sum := "34647ae97dc1277d3c17bec3f621288f9c3b7646a7e91b5f812ea65bc0498a6d", func := "archipelago/archipelagolaw3.GammaTells", spec := "gammaTells", apart := false, narrowed := true }
def GammaTellsUptoSaid : Prop := gammaTellsUptoRow.holds Try.pinned (OpenSpec.upto gammaTellsSpec)

/-- 'archipelagolaw3.GammaBack', WHERE WHAT IT READS IS OF BULK AT MOST 1048576: true; the input reads as it did. -/
def gammaBackUptoRow : OpenClaim := { program := "ytflllpkjgloehaa", sum := "34647ae97dc1277d3c17bec3f621288f9c3b7646a7e91b5f812ea65bc0498a6d", func := "archipelago/archipelagolaw3.GammaBack", spec := "gammaBack", apart := false, narrowed := true }
def GammaBackUptoSaid : Prop := gammaBackUptoRow.holds Try.pinned (OpenSpec.upto gammaBackSpec)

/-- 'archipelagolaw3.GammaSizes', WHERE WHAT IT READS IS OF BULK AT MOST 1048576: true; the input reads as it did. -/
def gammaSizesUptoRow : OpenClaim := { program := "ytflllpkjgloehaa", sum := "34647ae97dc1277d3c17bec3f621288f9c3b7646a7e91b5f812ea65bc0498a6d", func := "archipelago/archipelagolaw3.GammaSizes", spec := "gammaSizes", apart := false, narrowed := true }
def GammaSizesUptoSaid : Prop := gammaSizesUptoRow.holds Try.pinned (OpenSpec.upto gammaSizesSpec)

/-- 'archipelagolaw3.GammaCuts', WHERE WHAT IT READS IS OF BULK AT MOST 1048576: true; the input reads as it did. -/
def gammaCutsUptoRow : OpenClaim := { program := "ytflllpkjgloehaa", sum := "34647ae97dc1277d3c17bec3f621288f9c3b7646a7e91b5f812ea65bc0498a6d", func := "archipelago/archipelagolaw3.GammaCuts", spec := "gammaCuts", apart := false, narrowed := true }
def GammaCutsUptoSaid : Prop := gammaCutsUptoRow.holds Try.pinned (OpenSpec.upto gammaCutsSpec)

end Rows
end Go.Proofs.Ytflllpkjgloehaa
