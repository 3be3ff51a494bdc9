/-
  No cell of these rows narrows 'for every input' (looked for: loops, veiled, ifaces, maps, wideKeys, modest, calm, conditions, laid).
  DERIVED. THE GIVEN ROWS OF THIS SEAT. 5 by the template 'for every input the law returns true; each argument reads behind the call as it read before'; 0 by the template 'total and deterministic' (their statements: YtpeafiomifmadaaTotals.lean).
  GIVEN WITH THE SEED: the statements are not yours to turn. If you find one false, say at which input.
  Laid BY PROGRAM, IN A SANDBOX (cutbox-rows.mjs): the forced cells as the released guide's own fill.sh prints them over the translation ed1142c72ff593bb… (all of the seat's roots in one cut). By AI agents, Wed Nov 11 2026. No macro, syntax, notation, axiom, sorry.
-/
import Derived.Test.YtpeafiomifmadaaChecked
import GoSem.Claim
import GoSem.ClaimJoined
import GoSem.ClaimMapViews
import Derived.JoinedTies
import Derived.KernelRfl
namespace Go.Proofs.Ytpeafiomifmadaa
/- THE CELL 'sum', in the pinned program and in every row, IS THE sha256 OF THE DUMP (.gsa) THAT YtpeafiomifmadaaProg.lean LOADS. Nothing in Lean hashes anything: it is a label: what it is worth is what the hold of that sum in a sandbox is worth. -/
noncomputable def Try.pinned : Pinned := { name := "ytpeafiomifmadaa", sum := "ed1142c72ff593bb29a241275f0a573c164f32e9d52d83c766d7cbb7bd5eddcf", checked := Try.checked }
namespace Rows
def none {H : Type} : Left H := { results := [], args := [] }

/-- 'archipelagolaw18.HeadTells': WHATEVER THE INPUT: true; the input reads as it did. -/
def headTellsSpec : ChangeSpec := { name := "headTells", fn := fun _ => fun
  | [d1, d2, d3, d4, d5, d6, d7, d8, d9] => { results := [.lit (.bool true)], args := [d1, d2, d3, d4, d5, d6, d7, d8, d9] }
  | _ => none }
def headTellsRow : OpenClaim := { program := "ytpeafiomifmadaa", sum := "ed1142c72ff593bb29a241275f0a573c164f32e9d52d83c766d7cbb7bd5eddcf", func := "archipelago/archipelagolaw18.HeadTells", spec := "headTells", apart := false }
def HeadTellsSaid : Prop := headTellsRow.holds Try.pinned (OpenSpec.ofChange headTellsSpec)

/-- ITS FALSE NEIGHBOUR: 'it returns false'. Refute it at one input. -/
def headTellsWrong : ChangeSpec := { name := "headTells", fn := fun _ => fun
  | [d1, d2, d3, d4, d5, d6, d7, d8, d9] => { results := [.lit (.bool false)], args := [d1, d2, d3, d4, d5, d6, d7, d8, d9] }
  | _ => none }
def HeadTellsWrongFalsely : Prop := headTellsRow.holds Try.pinned (OpenSpec.ofChange headTellsWrong)

/-- 'archipelagolaw18.HeadShares': WHATEVER THE INPUT: true; the input reads as it did. -/
def headSharesSpec : ChangeSpec := { name := "headShares", fn := fun _ => fun
  | [d1, d2, d3] => { results := [.lit (.bool true)], args := [d1, d2, d3] }
  | _ => none }
def headSharesRow : OpenClaim := { program := "ytpeafiomifmadaa", sum := "ed1142c72ff593bb29a241275f0a573c164f32e9d52d83c766d7cbb7bd5eddcf", func := "archipelago/archipelagolaw18.HeadShares", spec := "headShares", apart := false }
def HeadSharesSaid : Prop := headSharesRow.holds Try.pinned (OpenSpec.ofChange headSharesSpec)

/-- ITS FALSE NEIGHBOUR: 'it returns false'. Refute it at one input. -/
def headSharesWrong : ChangeSpec := { name := "headShares", fn := fun _ => fun
  | [d1, d2, d3] => { results := [.lit (.bool false)], args := [d1, d2, d3] }
  | _ => none }
def HeadSharesWrongFalsely : Prop := headSharesRow.holds Try.pinned (OpenSpec.ofChange headSharesWrong)

/-- 'archipelagolaw18.HeadBursts': WHATEVER THE INPUT: true; the input reads as it did. -/
def headBurstsSpec : ChangeSpec := { name := "headBursts", fn := fun _ => fun
  | [d1, d2, d3, d4, d5] => { results := [.lit (.bool true)], args := [d1, d2, d3, d4, d5] }
  | _ => none }
def headBurstsRow : OpenClaim := { program := "ytpeafiomifmadaa", sum := "ed1142c72ff593bb29a241275f0a573c164f32e9d52d83c766d7cbb7bd5eddcf", func := "archipelago/archipelagolaw18.HeadBursts", spec := "headBursts", apart := false }
def HeadBurstsSaid : Prop := headBurstsRow.holds Try.pinned (OpenSpec.ofChange headBurstsSpec)

/-- ITS FALSE NEIGHBOUR: 'it returns false'. Refute it at one input. -/
def headBurstsWrong : ChangeSpec := { name := "headBursts", fn := fun _ => fun
  | [d1, d2, d3, d4, d5] => { results := [.lit (.bool false)], args := [d1, d2, d3, d4, d5] }
  | _ => none }
def HeadBurstsWrongFalsely : Prop := headBurstsRow.holds Try.pinned (OpenSpec.ofChange headBurstsWrong)

/-- 'archipelagolaw18.HeadErrors': WHATEVER THE INPUT: true; the input reads as it did. -/
def headErrorsSpec : ChangeSpec := { name := "headErrors", fn := fun _ => fun
  | [d1, d2, d3, d4, d5, d6] => { results := [.lit (.bool true)], args := [d1, d2, d3, d4, d5, d6] }
  | _ => none }
def headErrorsRow : OpenClaim := { program := "ytpeafiomifmadaa", sum := "ed1142c72ff593bb29a241275f0a573c164f32e9d52d83c766d7cbb7bd5eddcf", func := "archipelago/archipelagolaw18.HeadErrors", spec := "headErrors", apart := false }
def HeadErrorsSaid : Prop := headErrorsRow.holds Try.pinned (OpenSpec.ofChange headErrorsSpec)

/-- ITS FALSE NEIGHBOUR: 'it returns false'. Refute it at one input. -/
def headErrorsWrong : ChangeSpec := { name := "headErrors", fn := fun _ => fun
  | [d1, d2, d3, d4, d5, d6] => { results := [.lit (.bool false)], args := [d1, d2, d3, d4, d5, d6] }
  | _ => none }
def HeadErrorsWrongFalsely : Prop := headErrorsRow.holds Try.pinned (OpenSpec.ofChange headErrorsWrong)

/-- 'archipelagolaw18.HeadMost': WHATEVER THE INPUT: true; the input reads as it did. -/
def headMostSpec : ChangeSpec := { name := "headMost", fn := fun _ => fun
  | [d1, d2] => { results := [.lit (.bool true)], args := [d1, d2] }
  | _ => none }
def headMostRow : OpenClaim := { program := "ytpeafiomifmadaa", sum := "ed1142c72ff593bb29a241275f0a573c164f32e9d52d83c766d7cbb7bd5eddcf", func := "archipelago/archipelagolaw18.HeadMost", spec := "headMost", apart := false }
def HeadMostSaid : Prop := headMostRow.holds Try.pinned (OpenSpec.ofChange headMostSpec)

/-- ITS FALSE NEIGHBOUR: 'it returns false'. Refute it at one input. -/
def headMostWrong : ChangeSpec := { name := "headMost", fn := fun _ => fun
  | [d1, d2] => { results := [.lit (.bool false)], args := [d1, d2] }
  | _ => none }
def HeadMostWrongFalsely : Prop := headMostRow.holds Try.pinned (OpenSpec.ofChange headMostWrong)

/- THE SECOND FORM. 'bulk': how many values and letters a reading holds, each counted each time it is reached (what is shared counts as often as it is met; a slice's spare places count too). A statement '..UptoSaid' is the law's where the arguments, and the package variables that the reading takes, are together of bulk at most 1048576: NARROWER than '..Said'. Prove '..Said' where nothing that the law and all that it calls make is longer than what came in: it says more and counts as full. Else prove '..UptoSaid'. A law counts once. -/
mutual
def uptoBulk {H : Type} : DataW H → Nat
  | .lit (.string bytes) => bytes.length + 1
  | .lit _ => 1
  | .nil => 1
  | .ptr d => uptoBulk d + 1
  | .slice elems spare => uptoBulkAll elems + uptoBulkAll spare + 1
  | .agg parts => uptoBulkAll parts + 1
  | .iface _ d => uptoBulk d + 1
  | .map entries => uptoBulkEntries entries + 1
  | .held _ => 1
def uptoBulkAll {H : Type} : List (DataW H) → Nat
  | [] => 0
  | d :: r => uptoBulk d + uptoBulkAll r
def uptoBulkEntries {H : Type} : List (Lit × DataW H) → Nat
  | [] => 0
  | x :: r => uptoBulkEntry x + uptoBulkEntries r
def uptoBulkEntry {H : Type} : Lit × DataW H → Nat
  | (.string bytes, d) => bytes.length + uptoBulk d + 1
  | (_, d) => uptoBulk d + 1
 end
def uptoSmall : (H : Type) → List (DataW H) → Bool := fun _ ds => decide (uptoBulkAll ds ≤ 1048576)
def OpenSpec.upto (s : _root_.Go.ChangeSpec) : _root_.Go.OpenSpec := { _root_.Go.OpenSpec.ofChange s with cond := some uptoSmall }

/-- 'archipelagolaw18.HeadTells', WHERE WHAT IT READS IS OF BULK AT MOST 1048576: true; the input reads as it did. -/
def headTellsUptoRow : OpenClaim := { program := "ytpeafiomifmadaa", sum := "ed1142c72ff593bb29a241275f0a573c164f32e9d52d83c766d7cbb7bd5eddcf", func := "archipelago/archipelagolaw18.HeadTells", spec := "headTells", apart := false, narrowed := true }
def HeadTellsUptoSaid : Prop := headTellsUptoRow.holds Try.pinned (OpenSpec.upto headTellsSpec)

/-- 'archipelagolaw18.HeadShares', WHERE WHAT IT READS IS OF BULK AT MOST 1048576: true; the input reads as it did. -/
def headSharesUptoRow : OpenClaim := { program := "ytpeafiomifmadaa", sum := "ed1142c72ff593bb29a241275f0a573c164f32e9d52d83c766d7cbb7bd5eddcf", func := "archipelago/archipelagolaw18.HeadShares", spec := "headShares", apart := false, narrowed := true }
def HeadSharesUptoSaid : Prop := headSharesUptoRow.holds Try.pinned (OpenSpec.upto headSharesSpec)

/-- 'archipelagolaw18.HeadBursts', WHERE WHAT IT READS IS OF BULK AT MOST 1048576: true; the input reads as it did. -/
def headBurstsUptoRow : OpenClaim := { program := "ytpeafiomifmadaa", sum := "ed1142c72ff593bb29a241275f0a573c164f32e9d52d83c766d7cbb7bd5eddcf", func := "archipelago/archipelagolaw18.HeadBursts", spec := "headBursts", apart := false, narrowed := true }
def HeadBurstsUptoSaid : Prop := headBurstsUptoRow.holds Try.pinned (OpenSpec.upto headBurstsSpec)

/-- 'archipelagolaw18.HeadErrors', WHERE WHAT IT READS IS OF BULK AT MOST 1048576: true; the input reads as it did. -/
def headErrorsUptoRow : OpenClaim := { program := "ytpeafiomifmadaa", sum := "ed1142c72ff593bb29a241275f0a573c164f32e9d52d83c766d7cbb7bd5eddcf", func := "archipelago/archipelagolaw18.HeadErrors", spec := "headErrors", apart := false, narrowed := true }
def HeadErrorsUptoSaid : Prop := headErrorsUptoRow.holds Try.pinned (OpenSpec.upto headErrorsSpec)

/-- 'archipelagolaw18.HeadMost', WHERE WHAT IT READS IS OF BULK AT MOST 1048576: true; the input reads as it did. -/
def headMostUptoRow : OpenClaim := { program := "ytpeafiomifmadaa", sum := "ed1142c72ff593bb29a241275f0a573c164f32e9d52d83c766d7cbb7bd5eddcf", func := "archipelago/archipelagolaw18.HeadMost", spec := "headMost", apart := false, narrowed := true }
def HeadMostUptoSaid : Prop := headMostUptoRow.holds Try.pinned (OpenSpec.upto headMostSpec)

end Rows
end Go.Proofs.Ytpeafiomifmadaa
