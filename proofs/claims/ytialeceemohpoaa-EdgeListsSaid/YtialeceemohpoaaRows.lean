/-
  No cell of these rows narrows 'for every input' (looked for: loops, veiled, ifaces, maps, wideKeys, modest, calm, conditions, laid).
  DERIVED. THE GIVEN ROWS OF THIS SEAT. 4 by the template 'for every input the law returns true; each argument reads behind the call as it read before'; 0 by the template 'total and deterministic' (their statements: YtialeceemohpoaaTotals.lean).
  GIVEN WITH THE SEED: the statements are not yours to turn. If you find one false, say at which input.
  Laid BY PROGRAM, IN A SANDBOX (cutbox-rows.mjs): the forced cells as the released guide's own fill.sh prints them over the translation ed5d024ca0b692a7… (all of the seat's roots in one cut). By AI agents, Wed Nov 11 2026. No macro, syntax, notation, axiom, sorry.
-/
import Derived.Test.YtialeceemohpoaaChecked
import GoSem.Claim
import GoSem.ClaimJoined
import GoSem.ClaimMapViews
import Derived.JoinedTies
import Derived.KernelRfl
namespace Go.Proofs.Ytialeceemohpoaa
/- THE CELL 'sum', in the pinned program and in every row, IS THE sha256 OF THE DUMP (.gsa) THAT YtialeceemohpoaaProg.lean LOADS. Nothing in Lean hashes anything: it is a label: what it is worth is what the hold of that sum in a sandbox is worth. -/
noncomputable def Try.pinned : Pinned := { name := "ytialeceemohpoaa", sum := "ed5d024ca0b692a73c102f0da990437539e482bf73f05b59c99eb82137aca45d", checked := Try.checked }
namespace Rows
def none {H : Type} : Left H := { results := [], args := [] }

/-- 'archipelagolaw8.EdgeTells': WHATEVER THE INPUT: true; the input reads as it did. -/
def edgeTellsSpec : ChangeSpec := { name := "edgeTells", fn := fun _ => fun
  | [d1, d2, d3, d4, d5, d6] => { results := [.lit (.bool true)], args := [d1, d2, d3, d4, d5, d6] }
  | _ => none }
def edgeTellsRow : OpenClaim := { program := "ytialeceemohpoaa", sum := "ed5d024ca0b692a73c102f0da990437539e482bf73f05b59c99eb82137aca45d", func := "archipelago/archipelagolaw8.EdgeTells", spec := "edgeTells", apart := false }
def EdgeTellsSaid : Prop := edgeTellsRow.holds Try.pinned (OpenSpec.ofChange edgeTellsSpec)

/-- ITS FALSE NEIGHBOUR: 'it returns false'. Refute it at one input. -/
def edgeTellsWrong : ChangeSpec := { name := "edgeTells", fn := fun _ => fun
  | [d1, d2, d3, d4, d5, d6] => { results := [.lit (.bool false)], args := [d1, d2, d3, d4, d5, d6] }
  | _ => none }
def EdgeTellsWrongFalsely : Prop := edgeTellsRow.holds Try.pinned (OpenSpec.ofChange edgeTellsWrong)

/-- 'archipelagolaw8.EdgeLists': WHATEVER THE INPUT: true; the input reads as it did. -/
def edgeListsSpec : ChangeSpec := { name := "edgeLists", fn := fun _ => fun
  | [d1, d2, d3, d4] => { results := [.lit (.bool true)], args := [d1, d2, d3, d4] }
  | _ => none }
def edgeListsRow : OpenClaim := { program := "ytialeceemohpoaa", sum := "ed5d024ca0b692a73c102f0da990437539e482bf73f05b59c99eb82137aca45d", func := "archipelago/archipelagolaw8.EdgeLists", spec := "edgeLists", apart := false }
def EdgeListsSaid : Prop := edgeListsRow.holds Try.pinned (OpenSpec.ofChange edgeListsSpec)

/-- ITS FALSE NEIGHBOUR: 'it returns false'. Refute it at one input. -/
def edgeListsWrong : ChangeSpec := { name := "edgeLists", fn := fun _ => fun
  | [d1, d2, d3, d4] => { results := [.lit (.bool false)], args := [d1, d2, d3, d4] }
  | _ => none }
def EdgeListsWrongFalsely : Prop := edgeListsRow.holds Try.pinned (OpenSpec.ofChange edgeListsWrong)

/-- 'archipelagolaw8.EdgeOrders': WHATEVER THE INPUT: true; the input reads as it did. -/
def edgeOrdersSpec : ChangeSpec := { name := "edgeOrders", fn := fun _ => fun
  | [d1, d2, d3, d4, d5] => { results := [.lit (.bool true)], args := [d1, d2, d3, d4, d5] }
  | _ => none }
def edgeOrdersRow : OpenClaim := { program := "ytialeceemohpoaa", sum := "ed5d024ca0b692a73c102f0da990437539e482bf73f05b59c99eb82137aca45d", func := "archipelago/archipelagolaw8.EdgeOrders", spec := "edgeOrders", apart := false }
def EdgeOrdersSaid : Prop := edgeOrdersRow.holds Try.pinned (OpenSpec.ofChange edgeOrdersSpec)

/-- ITS FALSE NEIGHBOUR: 'it returns false'. Refute it at one input. -/
def edgeOrdersWrong : ChangeSpec := { name := "edgeOrders", fn := fun _ => fun
  | [d1, d2, d3, d4, d5] => { results := [.lit (.bool false)], args := [d1, d2, d3, d4, d5] }
  | _ => none }
def EdgeOrdersWrongFalsely : Prop := edgeOrdersRow.holds Try.pinned (OpenSpec.ofChange edgeOrdersWrong)

/-- 'archipelagolaw8.EdgeNames': WHATEVER THE INPUT: true; the input reads as it did. -/
def edgeNamesSpec : ChangeSpec := { name := "edgeNames", fn := fun _ => fun
  | [d1, d2, d3] => { results := [.lit (.bool true)], args := [d1, d2, d3] }
  | _ => none }
def edgeNamesRow : OpenClaim := { program := "ytialeceemohpoaa", sum := "ed5d024ca0b692a73c102f0da990437539e482bf73f05b59c99eb82137aca45d", func := "archipelago/archipelagolaw8.EdgeNames", spec := "edgeNames", apart := false }
def EdgeNamesSaid : Prop := edgeNamesRow.holds Try.pinned (OpenSpec.ofChange edgeNamesSpec)

/-- ITS FALSE NEIGHBOUR: 'it returns false'. Refute it at one input. -/
def edgeNamesWrong : ChangeSpec := { name := "edgeNames", fn := fun _ => fun
  | [d1, d2, d3] => { results := [.lit (.bool false)], args := [d1, d2, d3] }
  | _ => none }
def EdgeNamesWrongFalsely : Prop := edgeNamesRow.holds Try.pinned (OpenSpec.ofChange edgeNamesWrong)

/- THE SECOND FORM. 'bulk': how many values and letters a reading holds, each counted each time it is reached (what is shared counts as often as it is met; a slice's spare places count too). A statement '..UptoSaid' is the law's where the arguments, and the package variables that the reading takes, are together of bulk at most 1048576: NARROWER than '..Said'. Prove '..Said' where nothing that the law and all that it calls make is longer than what came in: it says more and counts as full. Else prove '..UptoSaid'. A law counts once. -/
mutual
def uptoBulk {H : Type} : DataW H → Nat
  | .lit (.string bytes) => bytes.length + 1
  | .lit _ => 1
  | .nil => 1
  | .ptr d => uptoBulk d + 1
  | .slice elems spare => uptoBulkAll elems + uptoBulkAll spare + 1
  | .agg parts => uptoBulkAll parts + 1
  | .iface _ d => uptoBulk d + 1
  | .map entries => uptoBulkEntries entries + 1
  | .held _ => 1
def uptoBulkAll {H : Type} : List (DataW H) → Nat
  | [] => 0
  | d :: r => uptoBulk d + uptoBulkAll r
def uptoBulkEntries {H : Type} : List (Lit × DataW H) → Nat
  | [] => 0
  | x :: r => uptoBulkEntry x + uptoBulkEntries r
def uptoBulkEntry {H : Type} : Lit × DataW H → Nat
  | (.string bytes, d) => bytes.length + uptoBulk d + 1
  | (_, d) => uptoBulk d + 1
 end
def uptoSmall : (H : Type) → List (DataW H) → Bool := fun _ ds => decide (uptoBulkAll ds ≤ 1048576)
def OpenSpec.upto (s : _root_.Go.ChangeSpec) : _root_.Go.OpenSpec := { _root_.Go.OpenSpec.ofChange s with cond := some uptoSmall }

/-- 'archipelagolaw8.EdgeTells', WHERE WHAT IT READS IS OF BULK AT MOST 1048576: true; the input reads as it did. -/
def edgeTellsUptoRow : OpenClaim := { program := "ytialeceemohpoaa", sum := "ed5d024ca0b692a73c102f0da990437539e482bf73f05b59c99eb82137aca45d", func := "archipelago/archipelagolaw8.EdgeTells", spec := "edgeTells", apart := false, narrowed := true }
def EdgeTellsUptoSaid : Prop := edgeTellsUptoRow.holds Try.pinned (OpenSpec.upto edgeTellsSpec)

/-- 'archipelagolaw8.EdgeLists', WHERE WHAT IT READS IS OF BULK AT MOST 1048576: true; the input reads as it did. -/
def edgeListsUptoRow : OpenClaim := { program := "ytialeceemohpoaa", sum := "ed5d024ca0b692a73c102f0da990437539e482bf73f05b59c99eb82137aca45d", func := "archipelago/archipelagolaw8.EdgeLists", spec := "edgeLists", apart := false, narrowed := true }
def EdgeListsUptoSaid : Prop := edgeListsUptoRow.holds Try.pinned (OpenSpec.upto edgeListsSpec)

/-- 'archipelagolaw8.EdgeOrders', WHERE WHAT IT READS IS OF BULK AT MOST 1048576: true; the input reads as it did. -/
def edgeOrdersUptoRow : OpenClaim := { program := "ytialeceemohpoaa", sum := "ed5d024ca0b692a73c102f0da990437539e482bf73f05b59c99eb82137aca45d", func := "archipelago/archipelagolaw8.EdgeOrders", spec := "edgeOrders", apart := false, narrowed := true }
def EdgeOrdersUptoSaid : Prop := edgeOrdersUptoRow.holds Try.pinned (OpenSpec.upto edgeOrdersSpec)

/-- 'archipelagolaw8.EdgeNames', WHERE WHAT IT READS IS OF BULK AT MOST 1048576: true; the input reads as it did. -/
def edgeNamesUptoRow : OpenClaim := { program := "ytialeceemohpoaa", sum := "ed5d024ca0b692a73c102f0da990437539e482bf73f05b59c99eb82137aca45d", func := "archipelago/archipelagolaw8.EdgeNames", spec := "edgeNames", apart := false, narrowed := true }
def EdgeNamesUptoSaid : Prop := edgeNamesUptoRow.holds Try.pinned (OpenSpec.upto edgeNamesSpec)

end Rows
end Go.Proofs.Ytialeceemohpoaa
