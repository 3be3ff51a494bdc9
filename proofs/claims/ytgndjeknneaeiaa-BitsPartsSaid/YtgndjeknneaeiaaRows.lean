/-
  No cell of these rows narrows 'for every input' (looked for: loops, veiled, ifaces, maps, wideKeys, modest, calm, conditions, laid).
  DERIVED. THE GIVEN ROWS OF THIS SEAT. 6 by the template 'for every input the law returns true; each argument reads behind the call as it read before'; 0 by the template 'total and deterministic' (their statements: YtgndjeknneaeiaaTotals.lean).
  GIVEN WITH THE SEED: the statements are not yours to turn. If you find one false, say at which input.
  Laid BY PROGRAM, IN A SANDBOX (cutbox-rows.mjs): the forced cells as the released guide's own fill.sh prints them over the translation ab9bcc63033681a8… (all of the seat's roots in one cut). By AI agents, Wed Nov 11 2026. No macro, syntax, notation, axiom, sorry.
-/
import Derived.Test.YtgndjeknneaeiaaChecked
import GoSem.Claim
import GoSem.ClaimJoined
import GoSem.ClaimMapViews
import Derived.JoinedTies
import Derived.KernelRfl
namespace Go.Proofs.Ytgndjeknneaeiaa
/- THE CELL 'sum', in the pinned program and in every row, IS THE sha256 OF THE DUMP (.gsa) THAT YtgndjeknneaeiaaProg.lean LOADS. Nothing in Lean hashes anything: it is a label: what it is worth is what the hold of that sum in a sandbox is worth. -/
noncomputable def Try.pinned : Pinned := { name := "ytgndjeknneaeiaa", sum := "ab9bcc63033681a8450a2f58afebf6fda96317a625e692a5c82b6413e6b58980", checked := Try.checked }
namespace Rows
def none {H : Type} : Left H := { results := [], args := [] }

/-- 'archipelagolaw1.BitsWrite': WHATEVER THE INPUT: true; the input reads as it did. -/
def bitsWriteSpec : ChangeSpec := { name := "bitsWrite", fn := fun _ => fun
  | [d] => { results := [.lit (.bool true)], args := [d] }
  | _ => none }
def bitsWriteRow : OpenClaim := { program := "ytgndjeknneaeiaa", sum := "ab9bcc63033681a8450a2f58afebf6fda96317a625e692a5c82b6413e6b58980", func := "archipelago/archipelagolaw1.BitsWrite", spec := "bitsWrite", apart := false }
def BitsWriteSaid : Prop := bitsWriteRow.holds Try.pinned (OpenSpec.ofChange bitsWriteSpec)

/-- ITS FALSE NEIGHBOUR: 'it returns false'. Refute it at one input. -/
def bitsWriteWrong : ChangeSpec := { name := "bitsWrite", fn := fun _ => fun
  | [d] => { results := [.lit (.bool false)], args := [d] }
  | _ => none }
def BitsWriteWrongFalsely : Prop := bitsWriteRow.holds Try.pinned (OpenSpec.ofChange bitsWriteWrong)

/-- 'archipelagolaw1.BitsRead': WHATEVER THE INPUT: true; the input reads as it did. -/
def bitsReadSpec : ChangeSpec := { name := "bitsRead", fn := fun _ => fun
  | [d1, d2] => { results := [.lit (.bool true)], args := [d1, d2] }
  | _ => none }
def bitsReadRow : OpenClaim := { program := "ytgndjeknneaeiaa", sum := "ab9bcc63033681a8450a2f58afebf6fda96317a625e692a5c82b6413e6b58980", func := "archipelago/archipelagolaw1.BitsRead", spec := "bitsRead", apart := false }
def BitsReadSaid : Prop := bitsReadRow.holds Try.pinned (OpenSpec.ofChange bitsReadSpec)

/-- ITS FALSE NEIGHBOUR: 'it returns false'. Refute it at one input. -/
def bitsReadWrong : ChangeSpec := { name := "bitsRead", fn := fun _ => fun
  | [d1, d2] => { results := [.lit (.bool false)], args := [d1, d2] }
  | _ => none }
def BitsReadWrongFalsely : Prop := bitsReadRow.holds Try.pinned (OpenSpec.ofChange bitsReadWrong)

/-- 'archipelagolaw1.BitsBack': WHATEVER THE INPUT: true; the input reads as it did. -/
def bitsBackSpec : ChangeSpec := { name := "bitsBack", fn := fun _ => fun
  | [d] => { results := [.lit (.bool true)], args := [d] }
  | _ => none }
def bitsBackRow : OpenClaim := { program := "ytgndjeknneaeiaa", sum := "ab9bcc63033681a8450a2f58afebf6fda96317a625e692a5c82b6413e6b58980", func := "archipelago/archipelagolaw1.BitsBack", spec := "bitsBack", apart := false }
def BitsBackSaid : Prop := bitsBackRow.holds Try.pinned (OpenSpec.ofChange bitsBackSpec)

/-- ITS FALSE NEIGHBOUR: 'it returns false'. Refute it at one input. -/
def bitsBackWrong : ChangeSpec := { name := "bitsBack", fn := fun _ => fun
  | [d] => { results := [.lit (.bool false)], args := [d] }
  | _ => none }
def BitsBackWrongFalsely : Prop := bitsBackRow.holds Try.pinned (OpenSpec.ofChange bitsBackWrong)

/-- 'archipelagolaw1.BitsFlip': WHATEVER THE INPUT: true; the input reads as it did. -/
def bitsFlipSpec : ChangeSpec := { name := "bitsFlip", fn := fun _ => fun
  | [d1, d2, d3, d4] => { results := [.lit (.bool true)], args := [d1, d2, d3, d4] }
  | _ => none }
def bitsFlipRow : OpenClaim := { program := "ytgndjeknneaeiaa", sum := "ab9bcc63033681a8450a2f58afebf6fda96317a625e692a5c82b6413e6b58980", func := "archipelago/archipelagolaw1.BitsFlip", spec := "bitsFlip", apart := false }
def BitsFlipSaid : Prop := bitsFlipRow.holds Try.pinned (OpenSpec.ofChange bitsFlipSpec)

/-- ITS FALSE NEIGHBOUR: 'it returns false'. Refute it at one input. -/
def bitsFlipWrong : ChangeSpec := { name := "bitsFlip", fn := fun _ => fun
  | [d1, d2, d3, d4] => { results := [.lit (.bool false)], args := [d1, d2, d3, d4] }
  | _ => none }
def BitsFlipWrongFalsely : Prop := bitsFlipRow.holds Try.pinned (OpenSpec.ofChange bitsFlipWrong)

/-- 'archipelagolaw1.BitsParts': WHATEVER THE INPUT: true; the input reads as it did. -/
def bitsPartsSpec : ChangeSpec := { name := "bitsParts", fn := fun _ => fun
  | [d1, d2] => { results := [.lit (.bool true)], args := [d1, d2] }
  | _ => none }
def bitsPartsRow : OpenClaim := { program := "ytgndjeknneaeiaa", sum := "ab9bcc63033681a8450a2f58afebf6fda96317a625e692a5c82b6413e6b58980", func := "archipelago/archipelagolaw1.BitsParts", spec := "bitsParts", apart := false }
def BitsPartsSaid : Prop := bitsPartsRow.holds Try.pinned (OpenSpec.ofChange bitsPartsSpec)

/-- ITS FALSE NEIGHBOUR: 'it returns false'. Refute it at one input. -/
def bitsPartsWrong : ChangeSpec := { name := "bitsParts", fn := fun _ => fun
  | [d1, d2] => { results := [.lit (.bool false)], args := [d1, d2] }
  | _ => none }
def BitsPartsWrongFalsely : Prop := bitsPartsRow.holds Try.pinned (OpenSpec.ofChange bitsPartsWrong)

/-- 'archipelagolaw1.BitsEnds': WHATEVER THE INPUT: true; the input reads as it did. -/
def bitsEndsSpec : ChangeSpec := { name := "bitsEnds", fn := fun _ => fun
  | [d1, d2, d3] => { results := [.lit (.bool true)], args := [d1, d2, d3] }
  | _ => none }
def bitsEndsRow : OpenClaim := { program := "ytgndjeknneaeiaa", sum := "ab9bcc63033681a8450a2f58afebf6fda96317a625e692a5c82b6413e6b58980", func := "archipelago/archipelagolaw1.BitsEnds", spec := "bitsEnds", apart := false }
def BitsEndsSaid : Prop := bitsEndsRow.holds Try.pinned (OpenSpec.ofChange bitsEndsSpec)

/-- ITS FALSE NEIGHBOUR: 'it returns false'. Refute it at one input. -/
def bitsEndsWrong : ChangeSpec := { name := "bitsEnds", fn := fun _ => fun
  | [d1, d2, d3] => { results := [.lit (.bool false)], args := [d1, d2, d3] }
  | _ => none }
def BitsEndsWrongFalsely : Prop := bitsEndsRow.holds Try.pinned (OpenSpec.ofChange bitsEndsWrong)

/- THE SECOND FORM. 'bulk': how many values and letters a reading holds, each counted each time it is reached (what is shared counts as often as it is met; a slice's spare places count too). A statement '..UptoSaid' is the law's where the arguments, and the package variables that the reading takes, are together of bulk at most 1048576: NARROWER than '..Said'. Prove '..Said' where nothing that the law and all that it calls make is longer than what came in: it says more and counts as full. Else prove '..UptoSaid'. A law counts once. -/
mutual
def uptoBulk {H : Type} : DataW H → Nat
  | .lit (.string bytes) => bytes.length + 1
  | .lit _ => 1
  | .nil => 1
  | .ptr d => uptoBulk d + 1
  | .slice elems spare => uptoBulkAll elems + uptoBulkAll spare + 1
  | .agg parts => uptoBulkAll parts + 1
  | .iface _ d => uptoBulk d + 1
  | .map entries => uptoBulkEntries entries + 1
  | .held _ => 1
def uptoBulkAll {H : Type} : List (DataW H) → Nat
  | [] => 0
  | d :: r => uptoBulk d + uptoBulkAll r
def uptoBulkEntries {H : Type} : List (Lit × DataW H) → Nat
  | [] => 0
  | x :: r => uptoBulkEntry x + uptoBulkEntries r
def uptoBulkEntry {H : Type} : Lit × DataW H → Nat
  | (.string bytes, d) => bytes.length + uptoBulk d + 1
  | (_, d) => uptoBulk d + 1
 end
def uptoSmall : (H : Type) → List (DataW H) → Bool := fun _ ds => decide (uptoBulkAll ds ≤ 1048576)
def OpenSpec.upto (s : _root_.Go.ChangeSpec) : _root_.Go.OpenSpec := { _root_.Go.OpenSpec.ofChange s with cond := some uptoSmall }

/-- 'archipelagolaw1.BitsWrite', WHERE WHAT IT READS IS OF BULK AT MOST 1048576: true; the input reads as it did. -/
def bitsWriteUptoRow : OpenClaim := { program := "ytgndjeknneaeiaa", sum := "ab9bcc63033681a8450a2f58afebf6fda96317a625e692a5c82b6413e6b58980", func := "archipelago/archipelagolaw1.BitsWrite", spec := "bitsWrite", apart := false, narrowed := true }
def BitsWriteUptoSaid : Prop := bitsWriteUptoRow.holds Try.pinned (OpenSpec.upto bitsWriteSpec)

/-- 'archipelagolaw1.BitsRead', WHERE WHAT IT READS IS OF BULK AT MOST 1048576: true; the input reads as it did. -/
def bitsReadUptoRow : OpenClaim := { program := "ytgndjeknneaeiaa", sum := "ab9bcc63033681a8450a2f58afebf6fda96317a625e692a5c82b6413e6b58980", func := "archipelago/archipelagolaw1.BitsRead", spec := "bitsRead", apart := false, narrowed := true }
def BitsReadUptoSaid : Prop := bitsReadUptoRow.holds Try.pinned (OpenSpec.upto bitsReadSpec)

/-- 'archipelagolaw1.BitsBack', WHERE WHAT IT READS IS OF BULK AT MOST 1048576: true; the input reads as it did. -/
def bitsBackUptoRow : OpenClaim := { program := "ytgndjeknneaeiaa", sum := "ab9bcc63033681a8450a2f58afebf6fda96317a625e692a5c82b6413e6b58980", func := "archipelago/archipelagolaw1.BitsBack", spec := "bitsBack", apart := false, narrowed := true }
def BitsBackUptoSaid : Prop := bitsBackUptoRow.holds Try.pinned (OpenSpec.upto bitsBackSpec)

/-- 'archipelagolaw1.BitsFlip', WHERE WHAT IT READS IS OF BULK AT MOST 1048576: true; the input reads as it did. -/
def bitsFlipUptoRow : OpenClaim := { program := "ytgndjeknneaeiaa", sum := "ab9bcc63033681a8450a2f58afebf6fda96317a625e692a5c82b6413e6b58980", func := "archipelago/archipelagolaw1.BitsFlip", spec := "bitsFlip", apart := false, narrowed := true }
def BitsFlipUptoSaid : Prop := bitsFlipUptoRow.holds Try.pinned (OpenSpec.upto bitsFlipSpec)

/-- 'archipelagolaw1.BitsParts', WHERE WHAT IT READS IS OF BULK AT MOST 1048576: true; the input reads as it did. -/
def bitsPartsUptoRow : OpenClaim := { program := "ytgndjeknneaeiaa", sum := "ab9bcc63033681a8450a2f58afebf6fda96317a625e692a5c82b6413e6b58980", func := "archipelago/archipelagolaw1.BitsParts", spec := "bitsParts", apart := false, narrowed := true }
def BitsPartsUptoSaid : Prop := bitsPartsUptoRow.holds Try.pinned (OpenSpec.upto bitsPartsSpec)

/-- 'archipelagolaw1.BitsEnds', WHERE WHAT IT READS IS OF BULK AT MOST 1048576: true; the input reads as it did. -/
def bitsEndsUptoRow : OpenClaim := { program := "ytgndjeknneaeiaa", sum := "ab9bcc63033681a8450a2f58afebf6fda96317a625e692a5c82b6413e6b58980", func := "archipelago/archipelagolaw1.BitsEnds", spec := "bitsEnds", apart := false, narrowed := true }
def BitsEndsUptoSaid : Prop := bitsEndsUptoRow.holds Try.pinned (OpenSpec.upto bitsEndsSpec)

end Rows
end Go.Proofs.Ytgndjeknneaeiaa
