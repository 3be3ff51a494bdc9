/-
  No cell of these rows narrows 'for every input' (looked for: loops, veiled, ifaces, maps, wideKeys, modest, calm, conditions, laid).
  DERIVED. THE GIVEN ROWS OF THIS SEAT. 5 by the template 'for every input the law returns true; each argument reads behind the call as it read before'; 0 by the template 'total and deterministic' (their statements: YteihibbmeallhaaTotals.lean).
  GIVEN WITH THE SEED: the statements are not yours to turn. If you find one false, say at which input.
  Laid BY PROGRAM, IN A SANDBOX (cutbox-rows.mjs): the forced cells as the released guide's own fill.sh prints them over the translation 201987609d6ada80… (all of the seat's roots in one cut). By AI agents, Wed Nov 11 2026. No macro, syntax, notation, axiom, sorry.
-/
import Derived.Test.YteihibbmeallhaaChecked
import GoSem.Claim
import GoSem.ClaimJoined
import GoSem.ClaimMapViews
import Derived.JoinedTies
import Derived.KernelRfl
namespace Go.Proofs.Yteihibbmeallhaa
/- THE CELL 'sum', in the pinned program and in every row, IS THE sha256 OF THE DUMP (.gsa) THAT YteihibbmeallhaaProg.lean LOADS. Nothing in Lean hashes anything: it is a label: what it is worth is what the hold of that sum in a sandbox is worth. -/
noncomputable def Try.pinned : Pinned := { name := "yteihibbmeallhaa", sum := "201987609d6ada8064e45a7f1e90e645201a20e914324adc434b17267488a425", checked := Try.checked }
namespace Rows
def none {H : Type} : Left H := { results := [], args := [] }

/-- 'archipelagolaw2.VarintTells': WHATEVER THE INPUT: true; the input reads as it did. -/
def varintTellsSpec : ChangeSpec := { name := "varintTells", fn := fun _ => fun
  | [d1, d2, d3, d4, d5, d6] => { results := [.lit (.bool true)], args := [d1, d2, d3, d4, d5, d6] }
  | _ => none }
def varintTellsRow : OpenClaim := { program := "yteihibbmeallhaa", sum := "201987609d6ada8064e45a7f1e90e645201a20e914324adc434b17267488a425", func := "archipelago/archipelagolaw2.VarintTells", spec := "varintTells", apart := false }
def VarintTellsSaid : Prop := varintTellsRow.holds Try.pinned (OpenSpec.ofChange varintTellsSpec)

/-- ITS FALSE NEIGHBOUR: 'it returns false'. Refute it at one input. -/
def varintTellsWrong : ChangeSpec := { name := "varintTells", fn := fun _ => fun
  | [d1, d2, d3, d4, d5, d6] => { results := [.lit (.bool false)], args := [d1, d2, d3, d4, d5, d6] }
  | _ => none }
def VarintTellsWrongFalsely : Prop := varintTellsRow.holds Try.pinned (OpenSpec.ofChange varintTellsWrong)

/-- 'archipelagolaw2.VarintBack': WHATEVER THE INPUT: true; the input reads as it did. -/
def varintBackSpec : ChangeSpec := { name := "varintBack", fn := fun _ => fun
  | [d1, d2, d3, d4] => { results := [.lit (.bool true)], args := [d1, d2, d3, d4] }
  | _ => none }
def varintBackRow : OpenClaim := { program := "yteihibbmeallhaa", sum := "201987609d6ada8064e45a7f1e90e645201a20e914324adc434b17267488a425", func := "archipelago/archipelagolaw2.VarintBack", spec := "varintBack", apart := false }
def VarintBackSaid : Prop := varintBackRow.holds Try.pinned (OpenSpec.ofChange varintBackSpec)

/-- ITS FALSE NEIGHBOUR: 'it returns false'. Refute it at one input. -/
def varintBackWrong : ChangeSpec := { name := "varintBack", fn := fun _ => fun
  | [d1, d2, d3, d4] => { results := [.lit (.bool false)], args := [d1, d2, d3, d4] }
  | _ => none }
def VarintBackWrongFalsely : Prop := varintBackRow.holds Try.pinned (OpenSpec.ofChange varintBackWrong)

/-- 'archipelagolaw2.VarintMany': WHATEVER THE INPUT: true; the input reads as it did. -/
def varintManySpec : ChangeSpec := { name := "varintMany", fn := fun _ => fun
  | [d1, d2] => { results := [.lit (.bool true)], args := [d1, d2] }
  | _ => none }
def varintManyRow : OpenClaim := { program := "yteihibbmeallhaa", sum := "201987609d6ada8064e45a7f1e90e645201a20e914324adc434b17267488a425", func := "archipelago/archipelagolaw2.VarintMany", spec := "varintMany", apart := false }
def VarintManySaid : Prop := varintManyRow.holds Try.pinned (OpenSpec.ofChange varintManySpec)

/-- ITS FALSE NEIGHBOUR: 'it returns false'. Refute it at one input. -/
def varintManyWrong : ChangeSpec := { name := "varintMany", fn := fun _ => fun
  | [d1, d2] => { results := [.lit (.bool false)], args := [d1, d2] }
  | _ => none }
def VarintManyWrongFalsely : Prop := varintManyRow.holds Try.pinned (OpenSpec.ofChange varintManyWrong)

/-- 'archipelagolaw2.VarintForms': WHATEVER THE INPUT: true; the input reads as it did. -/
def varintFormsSpec : ChangeSpec := { name := "varintForms", fn := fun _ => fun
  | [d1, d2, d3] => { results := [.lit (.bool true)], args := [d1, d2, d3] }
  | _ => none }
def varintFormsRow : OpenClaim := { program := "yteihibbmeallhaa", sum := "201987609d6ada8064e45a7f1e90e645201a20e914324adc434b17267488a425", func := "archipelago/archipelagolaw2.VarintForms", spec := "varintForms", apart := false }
def VarintFormsSaid : Prop := varintFormsRow.holds Try.pinned (OpenSpec.ofChange varintFormsSpec)

/-- ITS FALSE NEIGHBOUR: 'it returns false'. Refute it at one input. -/
def varintFormsWrong : ChangeSpec := { name := "varintForms", fn := fun _ => fun
  | [d1, d2, d3] => { results := [.lit (.bool false)], args := [d1, d2, d3] }
  | _ => none }
def VarintFormsWrongFalsely : Prop := varintFormsRow.holds Try.pinned (OpenSpec.ofChange varintFormsWrong)

/-- 'archipelagolaw2.VarintShorts': WHATEVER THE INPUT: true; the input reads as it did. -/
def varintShortsSpec : ChangeSpec := { name := "varintShorts", fn := fun _ => fun
  | [d1, d2, d3, d4] => { results := [.lit (.bool true)], args := [d1, d2, d3, d4] }
  | _ => none }
def varintShortsRow : OpenClaim := { program := "yteihibbmeallhaa", sum := "201987609d6ada8064e45a7f1e90e645201a20e914324adc434b17267488a425", func := "archipelago/archipelagolaw2.VarintShorts", spec := "varintShorts", apart := false }
def VarintShortsSaid : Prop := varintShortsRow.holds Try.pinned (OpenSpec.ofChange varintShortsSpec)

/-- ITS FALSE NEIGHBOUR: 'it returns false'. Refute it at one input. -/
def varintShortsWrong : ChangeSpec := { name := "varintShorts", fn := fun _ => fun
  | [d1, d2, d3, d4] => { results := [.lit (.bool false)], args := [d1, d2, d3, d4] }
  | _ => none }
def VarintShortsWrongFalsely : Prop := varintShortsRow.holds Try.pinned (OpenSpec.ofChange varintShortsWrong)

/- THE SECOND FORM. 'bulk': how many values and letters a reading holds, each counted each time it is reached (what is shared counts as often as it is met; a slice's spare places count too). A statement '..UptoSaid' is the law's where the arguments, and the package variables that the reading takes, are together of bulk at most 1048576: NARROWER than '..Said'. Prove '..Said' where nothing that the law and all that it calls make is longer than what came in: it says more and counts as full. Else prove '..UptoSaid'. A law counts once. -/
mutual
def uptoBulk {H : Type} : DataW H → Nat
  | .lit (.string bytes) => bytes.length + 1
  | .lit _ => 1
  | .nil => 1
  | .ptr d => uptoBulk d + 1
  | .slice elems spare => uptoBulkAll elems + uptoBulkAll spare + 1
  | .agg parts => uptoBulkAll parts + 1
  | .iface _ d => uptoBulk d + 1
  | .map entries => uptoBulkEntries entries + 1
  | .held _ => 1
def uptoBulkAll {H : Type} : List (DataW H) → Nat
  | [] => 0
  | d :: r => uptoBulk d + uptoBulkAll r
def uptoBulkEntries {H : Type} : List (Lit × DataW H) → Nat
  | [] => 0
  | x :: r => uptoBulkEntry x + uptoBulkEntries r
def uptoBulkEntry {H : Type} : Lit × DataW H → Nat
  | (.string bytes, d) => bytes.length + uptoBulk d + 1
  | (_, d) => uptoBulk d + 1
 end
def uptoSmall : (H : Type) → List (DataW H) → Bool := fun _ ds => decide (uptoBulkAll ds ≤ 1048576)
def OpenSpec.upto (s : _root_.Go.ChangeSpec) : _root_.Go.OpenSpec := { _root_.Go.OpenSpec.ofChange s with cond := some uptoSmall }

/-- 'archipelagolaw2.VarintTells', WHERE WHAT IT READS IS OF BULK AT MOST 1048576: true; the input reads as it did. -/
def varintTellsUptoRow : OpenClaim := { program := "yteihibbmeallhaa", sum := "201987609d6ada8064e45a7f1e90e645201a20e914324adc434b17267488a425", func := "archipelago/archipelagolaw2.VarintTells", spec := "varintTells", apart := false, narrowed := true }
def VarintTellsUptoSaid : Prop := varintTellsUptoRow.holds Try.pinned (OpenSpec.upto varintTellsSpec)

/-- 'archipelagolaw2.VarintBack', WHERE WHAT IT READS IS OF BULK AT MOST 1048576: true; the input reads as it did. -/
def varintBackUptoRow : OpenClaim := { program := "yteihibbmeallhaa", sum := "201987609d6ada8064e45a7f1e90e645201a20e914324adc434b17267488a425", func := "archipelago/archipelagolaw2.VarintBack", spec := "varintBack", apart := false, narrowed := true }
def VarintBackUptoSaid : Prop := varintBackUptoRow.holds Try.pinned (OpenSpec.upto varintBackSpec)

/-- 'archipelagolaw2.VarintMany', WHERE WHAT IT READS IS OF BULK AT MOST 1048576: true; the input reads as it did. -/
def varintManyUptoRow : OpenClaim := { program := "yteihibbmeallhaa", sum := "201987609d6ada8064e45a7f1e90e645201a20e914324adc434b17267488a425", func := "archipelago/archipelagolaw2.VarintMany", spec := "varintMany", apart := false, narrowed := true }
def VarintManyUptoSaid : Prop := varintManyUptoRow.holds Try.pinned (OpenSpec.upto varintManySpec)

/-- 'archipelagolaw2.VarintForms', WHERE WHAT IT READS IS OF BULK AT MOST 1048576: true; the input reads as it did. -/
def varintFormsUptoRow : OpenClaim := { program := "yteihibbmeallhaa", sum := "201987609d6ada8064e45a7f1e90e645201a20e914324adc434b17267488a425", func := "archipelago/archipelagolaw2.VarintForms", spec := "varintForms", apart := false, narrowed := true }
def VarintFormsUptoSaid : Prop := varintFormsUptoRow.holds Try.pinned (OpenSpec.upto varintFormsSpec)

/-- 'archipelagolaw2.VarintShorts', WHERE WHAT IT READS IS OF BULK AT MOST 1048576: true; the input reads as it did. -/
def varintShortsUptoRow : OpenClaim := { program := "yteihibbmeallhaa", sum := "201987609d6ada8064e45a7f1e90e645201a20e914324adc434b17267488a425", func := "archipelago/archipelagolaw2.VarintShorts", spec := "varintShorts", apart := false, narrowed := true }
def VarintShortsUptoSaid : Prop := varintShortsUptoRow.holds Try.pinned (OpenSpec.upto varintShortsSpec)

end Rows
end Go.Proofs.Yteihibbmeallhaa
