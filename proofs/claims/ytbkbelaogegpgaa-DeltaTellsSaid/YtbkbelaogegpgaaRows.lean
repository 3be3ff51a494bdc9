/-
  No cell of these rows narrows 'for every input' (looked for: loops, veiled, ifaces, maps, wideKeys, modest, calm, conditions, laid).
  DERIVED. THE GIVEN ROWS OF THIS SEAT. 4 by the template 'for every input the law returns true; each argument reads behind the call as it read before'; 0 by the template 'total and deterministic' (their statements: YtbkbelaogegpgaaTotals.lean).
  GIVEN WITH THE SEED: the statements are not yours to turn. If you find one false, say at which input.
  Laid BY PROGRAM, IN A SANDBOX (cutbox-rows.mjs): the forced cells as the released guide's own fill.sh prints them over the translation a53b4ddf7a84d8a4… (all of the seat's roots in one cut). By AI agents, Wed Nov 11 2026. No macro, syntax, notation, axiom, sorry.
-/
import Derived.Test.YtbkbelaogegpgaaChecked
import GoSem.Claim
import GoSem.ClaimJoined
import GoSem.ClaimMapViews
import Derived.JoinedTies
import Derived.KernelRfl
namespace Go.Proofs.Ytbkbelaogegpgaa
/- THE CELL 'sum', in the pinned program and in every row, IS THE sha256 OF THE DUMP (.gsa) THAT YtbkbelaogegpgaaProg.lean LOADS. Nothing in Lean hashes anything: it is a label: what it is worth is what the hold of that sum in a sandbox is worth. -/
noncomputable def Try.pinned : Pinned := { name := "ytbkbelaogegpgaa", sum := "a53b4ddf7a84d8a474691be901ef9d23f8aebc67d00081d1e2a24da56eb28211", checked := Try.checked }
namespace Rows
def none {H : Type} : Left H := { results := [], args := [] }

/-- 'archipelagolaw16.DeltaTells': WHATEVER THE INPUT: true; the input reads as it did. -/
def deltaTellsSpec : ChangeSpec := { name := "deltaTells", fn := fun _ => fun
  | [d1, d2, d3, d4, d5, d6, d7, d8, d9, d10, d11, d12] => { results := [.lit (.bool true)], args := [d1, d2, d3, d4, d5, d6, d7, d8, d9, d10, d11, d12] }
  | _ => none }
def deltaTellsRow : OpenClaim := { program := "ytbkbelaogegpgaa", sum := "a53b4ddf7a84d8a474691be901ef9d23f8aebc67d00081d1e2a24da56eb28211", func := "archipelago/archipelagolaw16.DeltaTells", spec := "deltaTells", apart := false }
def DeltaTellsSaid : Prop := deltaTellsRow.holds Try.pinned (OpenSpec.ofChange deltaTellsSpec)

/-- ITS FALSE NEIGHBOUR: 'it returns false'. Refute it at one input. -/
def deltaTellsWrong : ChangeSpec := { name := "deltaTells", fn := fun _ => fun
  | [d1, d2, d3, d4, d5, d6, d7, d8, d9, d10, d11, d12] => { results := [.lit (.bool false)], args := [d1, d2, d3, d4, d5, d6, d7, d8, d9, d10, d11, d12] }
  | _ => none }
def DeltaTellsWrongFalsely : Prop := deltaTellsRow.holds Try.pinned (OpenSpec.ofChange deltaTellsWrong)

/-- 'archipelagolaw16.DeltaBack': WHATEVER THE INPUT: true; the input reads as it did. -/
def deltaBackSpec : ChangeSpec := { name := "deltaBack", fn := fun _ => fun
  | [d1, d2, d3, d4] => { results := [.lit (.bool true)], args := [d1, d2, d3, d4] }
  | _ => none }
def deltaBackRow : OpenClaim := { program := "ytbkbelaogegpgaa", sum := "a53b4ddf7a84d8a474691be901ef9d23f8aebc67d00081d1e2a24da56eb28211", func := "archipelago/archipelagolaw16.DeltaBack", spec := "deltaBack", apart := false }
def DeltaBackSaid : Prop := deltaBackRow.holds Try.pinned (OpenSpec.ofChange deltaBackSpec)

/-- ITS FALSE NEIGHBOUR: 'it returns false'. Refute it at one input. -/
def deltaBackWrong : ChangeSpec := { name := "deltaBack", fn := fun _ => fun
  | [d1, d2, d3, d4] => { results := [.lit (.bool false)], args := [d1, d2, d3, d4] }
  | _ => none }
def DeltaBackWrongFalsely : Prop := deltaBackRow.holds Try.pinned (OpenSpec.ofChange deltaBackWrong)

/-- 'archipelagolaw16.DeltaSizes': WHATEVER THE INPUT: true; the input reads as it did. -/
def deltaSizesSpec : ChangeSpec := { name := "deltaSizes", fn := fun _ => fun
  | [d1, d2, d3, d4, d5] => { results := [.lit (.bool true)], args := [d1, d2, d3, d4, d5] }
  | _ => none }
def deltaSizesRow : OpenClaim := { program := "ytbkbelaogegpgaa", sum := "a53b4ddf7a84d8a474691be901ef9d23f8aebc67d00081d1e2a24da56eb28211", func := "archipelago/archipelagolaw16.DeltaSizes", spec := "deltaSizes", apart := false }
def DeltaSizesSaid : Prop := deltaSizesRow.holds Try.pinned (OpenSpec.ofChange deltaSizesSpec)

/-- ITS FALSE NEIGHBOUR: 'it returns false'. Refute it at one input. -/
def deltaSizesWrong : ChangeSpec := { name := "deltaSizes", fn := fun _ => fun
  | [d1, d2, d3, d4, d5] => { results := [.lit (.bool false)], args := [d1, d2, d3, d4, d5] }
  | _ => none }
def DeltaSizesWrongFalsely : Prop := deltaSizesRow.holds Try.pinned (OpenSpec.ofChange deltaSizesWrong)

/-- 'archipelagolaw16.DeltaShifts': WHATEVER THE INPUT: true; the input reads as it did. -/
def deltaShiftsSpec : ChangeSpec := { name := "deltaShifts", fn := fun _ => fun
  | [d1, d2, d3] => { results := [.lit (.bool true)], args := [d1, d2, d3] }
  | _ => none }
def deltaShiftsRow : OpenClaim := { program := "ytbkbelaogegpgaa", sum := "a53b4ddf7a84d8a474691be901ef9d23f8aebc67d00081d1e2a24da56eb28211", func := "archipelago/archipelagolaw16.DeltaShifts", spec := "deltaShifts", apart := false }
def DeltaShiftsSaid : Prop := deltaShiftsRow.holds Try.pinned (OpenSpec.ofChange deltaShiftsSpec)

/-- ITS FALSE NEIGHBOUR: 'it returns false'. Refute it at one input. -/
def deltaShiftsWrong : ChangeSpec := { name := "deltaShifts", fn := fun _ => fun
  | [d1, d2, d3] => { results := [.lit (.bool false)], args := [d1, d2, d3] }
  | _ => none }
def DeltaShiftsWrongFalsely : Prop := deltaShiftsRow.holds Try.pinned (OpenSpec.ofChange deltaShiftsWrong)

/- THE SECOND FORM. 'bulk': how many values and letters a reading holds, each counted each time it is reached (what is shared counts as often as it is met; a slice's spare places count too). A statement '..UptoSaid' is the law's where the arguments, and the package variables that the reading takes, are together of bulk at most 1048576: NARROWER than '..Said'. Prove '..Said' where nothing that the law and all that it calls make is longer than what came in: it says more and counts as full. Else prove '..UptoSaid'. A law counts once. -/
mutual
def uptoBulk {H : Type} : DataW H → Nat
  | .lit (.string bytes) => bytes.length + 1
  | .lit _ => 1
  | .nil => 1
  | .ptr d => uptoBulk d + 1
  | .slice elems spare => uptoBulkAll elems + uptoBulkAll spare + 1
  | .agg parts => uptoBulkAll parts + 1
  | .iface _ d => uptoBulk d + 1
  | .map entries => uptoBulkEntries entries + 1
  | .held _ => 1
def uptoBulkAll {H : Type} : List (DataW H) → Nat
  | [] => 0
  | d :: r => uptoBulk d + uptoBulkAll r
def uptoBulkEntries {H : Type} : List (Lit × DataW H) → Nat
  | [] => 0
  | x :: r => uptoBulkEntry x + uptoBulkEntries r
def uptoBulkEntry {H : Type} : Lit × DataW H → Nat
  | (.string bytes, d) => bytes.length + uptoBulk d + 1
  | (_, d) => uptoBulk d + 1
 end
def uptoSmall : (H : Type) → List (DataW H) → Bool := fun _ ds => decide (uptoBulkAll ds ≤ 1048576)
def OpenSpec.upto (s : _root_.Go.ChangeSpec) : _root_.Go.OpenSpec := { _root_.Go.OpenSpec.ofChange s with cond := some uptoSmall }

/-- 'archipelagolaw16.DeltaTells', WHERE WHAT IT READS IS OF BULK AT MOST 1048576: true; the input reads as it did. -/
def deltaTellsUptoRow : OpenClaim := { program := "ytbkbelaogegpgaa", sum := "a53b4ddf7a84d8a474691be901ef9d23f8aebc67d00081d1e2a24da56eb28211", func := "archipelago/archipelagolaw16.DeltaTells", spec := "deltaTells", apart := false, narrowed := true }
def DeltaTellsUptoSaid : Prop := deltaTellsUptoRow.holds Try.pinned (OpenSpec.upto deltaTellsSpec)

/-- 'archipelagolaw16.DeltaBack', WHERE WHAT IT READS IS OF BULK AT MOST 1048576: true; the input reads as it did. -/
def deltaBackUptoRow : OpenClaim := { program := "ytbkbelaogegpgaa", sum := "a53b4ddf7a84d8a474691be901ef9d23f8aebc67d00081d1e2a24da56eb28211", func := "archipelago/archipelagolaw16.DeltaBack", spec := "deltaBack", apart := false, narrowed := true }
def DeltaBackUptoSaid : Prop := deltaBackUptoRow.holds Try.pinned (OpenSpec.upto deltaBackSpec)

/-- 'archipelagolaw16.DeltaSizes', WHERE WHAT IT READS IS OF BULK AT MOST 1048576: true; the input reads as it did. -/
def deltaSizesUptoRow : OpenClaim := { program := "ytbkbelaogegpgaa", sum := "a53b4ddf7a84d8a474691be901ef9d23f8aebc67d00081d1e2a24da56eb28211", func := "archipelago/archipelagolaw16.DeltaSizes", spec := "deltaSizes", apart := false, narrowed := true }
def DeltaSizesUptoSaid : Prop := deltaSizesUptoRow.holds Try.pinned (OpenSpec.upto deltaSizesSpec)

/-- 'archipelagolaw16.DeltaShifts', WHERE WHAT IT READS IS OF BULK AT MOST 1048576: true; the input reads as it did. -/
def deltaShiftsUptoRow : OpenClaim := { program := "ytbkbelaogegpgaa", sum := "a53b4ddf7a84d8a474691be901ef9d23f8aebc67d00081d1e2a24da56eb28211", func := "archipelago/archipelagolaw16.DeltaShifts", spec := "deltaShifts", apart := false, narrowed := true }
def DeltaShiftsUptoSaid : Prop := deltaShiftsUptoRow.holds Try.pinned (OpenSpec.upto deltaShiftsSpec)

end Rows
end Go.Proofs.Ytbkbelaogegpgaa
