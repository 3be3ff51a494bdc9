/-
  No cell of these rows narrows 'for every input' (looked for: loops, veiled, ifaces, maps, wideKeys, modest, calm, conditions, laid).
  DERIVED. THE GIVEN ROWS OF THIS SEAT. 4 by the template 'for every input the law returns true; each argument reads behind the call as it read before'; 0 by the template 'total and deterministic' (their statements: YtdhoihialekgmaaTotals.lean).
  GIVEN WITH THE SEED: the statements are not yours to turn. If you find one false, say at which input.
  Laid BY PROGRAM, IN A SANDBOX (cutbox-rows.mjs): the forced cells as the released guide's own fill.sh prints them over the translation b359acfb465eacc9… (all of the seat's roots in one cut). By AI agents, Wed Nov 11 2026. No macro, syntax, notation, axiom, sorry.
-/
import Derived.Test.YtdhoihialekgmaaChecked
import GoSem.Claim
import GoSem.ClaimJoined
import GoSem.ClaimMapViews
import Derived.JoinedTies
import Derived.KernelRfl
namespace Go.Proofs.Ytdhoihialekgmaa
/- THE CELL 'sum', in the pinned program and in every row, IS THE sha256 OF THE DUMP (.gsa) THAT YtdhoihialekgmaaProg.lean LOADS. Nothing in Lean hashes anything: it is a label: what it is worth is what the hold of that sum in a sandbox is worth. -/
noncomputable def Try.pinned : Pinned := { name := "ytdhoihialekgmaa", sum := "b359acfb465eacc97a5105e7b64e3fc8168be54c6296a2a03ca13860485b93f5", checked := Try.checked }
namespace Rows
def none {H : Type} : Left H := { results := [], args := [] }

/-- 'archipelagolaw9.HistoryTells': WHATEVER THE INPUT: true; the input reads as it did. -/
def historyTellsSpec : ChangeSpec := { name := "historyTells", fn := fun _ => fun
  | [d1, d2, d3, d4, d5, d6, d7, d8] => { results := [.lit (.bool true)], args := [d1, d2, d3, d4, d5, d6, d7, d8] }
  | _ => none }
def historyTellsRow : OpenClaim := { program := "ytdhoihialekgmaa", sum := "b359acfb465eacc97a5105e7b64e3fc8168be54c6296a2a03ca13860485b93f5", func := "archipelago/archipelagolaw9.HistoryTells", spec := "historyTells", unfollowed := true, recurses := true, plainKeys := false, apart := false }
def HistoryTellsSaid : Prop := historyTellsRow.holds Try.pinned (OpenSpec.ofChange historyTellsSpec)

/-- ITS FALSE NEIGHBOUR: 'it returns false'. Refute it at one input. -/
def historyTellsWrong : ChangeSpec := { name := "historyTells", fn := fun _ => fun
  | [d1, d2, d3, d4, d5, d6, d7, d8] => { results := [.lit (.bool false)], args := [d1, d2, d3, d4, d5, d6, d7, d8] }
  | _ => none }
def HistoryTellsWrongFalsely : Prop := historyTellsRow.holds Try.pinned (OpenSpec.ofChange historyTellsWrong)

/-- 'archipelagolaw9.HistoryUpto': WHATEVER THE INPUT: true; the input reads as it did. -/
def historyUptoSpec : ChangeSpec := { name := "historyUpto", fn := fun _ => fun
  | [d1, d2, d3, d4] => { results := [.lit (.bool true)], args := [d1, d2, d3, d4] }
  | _ => none }
def historyUptoRow : OpenClaim := { program := "ytdhoihialekgmaa", sum := "b359acfb465eacc97a5105e7b64e3fc8168be54c6296a2a03ca13860485b93f5", func := "archipelago/archipelagolaw9.HistoryUpto", spec := "historyUpto", unfollowed := true, recurses := true, plainKeys := false, apart := false }
def HistoryUptoSaid : Prop := historyUptoRow.holds Try.pinned (OpenSpec.ofChange historyUptoSpec)

/-- ITS FALSE NEIGHBOUR: 'it returns false'. Refute it at one input. -/
def historyUptoWrong : ChangeSpec := { name := "historyUpto", fn := fun _ => fun
  | [d1, d2, d3, d4] => { results := [.lit (.bool false)], args := [d1, d2, d3, d4] }
  | _ => none }
def HistoryUptoWrongFalsely : Prop := historyUptoRow.holds Try.pinned (OpenSpec.ofChange historyUptoWrong)

/-- 'archipelagolaw9.HistoryParts': WHATEVER THE INPUT: true; the input reads as it did. -/
def historyPartsSpec : ChangeSpec := { name := "historyParts", fn := fun _ => fun
  | [d1, d2, d3, d4, d5, d6, d7] => { results := [.lit (.bool true)], args := [d1, d2, d3, d4, d5, d6, d7] }
  | _ => none }
def historyPartsRow : OpenClaim := { program := "ytdhoihialekgmaa", sum := "b359acfb465eacc97a5105e7b64e3fc8168be54c6296a2a03ca13860485b93f5", func := "archipelago/archipelagolaw9.HistoryParts", spec := "historyParts", unfollowed := true, recurses := true, plainKeys := false, apart := false }
def HistoryPartsSaid : Prop := historyPartsRow.holds Try.pinned (OpenSpec.ofChange historyPartsSpec)

/-- ITS FALSE NEIGHBOUR: 'it returns false'. Refute it at one input. -/
def historyPartsWrong : ChangeSpec := { name := "historyParts", fn := fun _ => fun
  | [d1, d2, d3, d4, d5, d6, d7] => { results := [.lit (.bool false)], args := [d1, d2, d3, d4, d5, d6, d7] }
  | _ => none }
def HistoryPartsWrongFalsely : Prop := historyPartsRow.holds Try.pinned (OpenSpec.ofChange historyPartsWrong)

/-- 'archipelagolaw9.HistoryCopies': WHATEVER THE INPUT: true; the input reads as it did. -/
def historyCopiesSpec : ChangeSpec := { name := "historyCopies", fn := fun _ => fun
  | [d1, d2, d3] => { results := [.lit (.bool true)], args := [d1, d2, d3] }
  | _ => none }
def historyCopiesRow : OpenClaim := { program := "ytdhoihialekgmaa", sum := "b359acfb465eacc97a5105e7b64e3fc8168be54c6296a2a03ca13860485b93f5", func := "archipelago/archipelagolaw9.HistoryCopies", spec := "historyCopies", unfollowed := true, recurses := true, plainKeys := false, apart := false }
def HistoryCopiesSaid : Prop := historyCopiesRow.holds Try.pinned (OpenSpec.ofChange historyCopiesSpec)

/-- ITS FALSE NEIGHBOUR: 'it returns false'. Refute it at one input. -/
def historyCopiesWrong : ChangeSpec := { name := "historyCopies", fn := fun _ => fun
  | [d1, d2, d3] => { results := [.lit (.bool false)], args := [d1, d2, d3] }
  | _ => none }
def HistoryCopiesWrongFalsely : Prop := historyCopiesRow.holds Try.pinned (OpenSpec.ofChange historyCopiesWrong)

/- THE SECOND FORM. 'bulk': how many values and letters a reading holds, each counted each time it is reached (what is shared counts as often as it is met; a slice's spare places count too). A statement '..UptoSaid' is the law's where the arguments, and the package variables that the reading takes, are together of bulk at most 1048576: NARROWER than '..Said'. Prove '..Said' where nothing that the law and all that it calls make is longer than what came in: it says more and counts as full. Else prove '..UptoSaid'. A law counts once. -/
mutual
def uptoBulk {H : Type} : DataW H → Nat
  | .lit (.string bytes) => bytes.length + 1
  | .lit _ => 1
  | .nil => 1
  | .ptr d => uptoBulk d + 1
  | .slice elems spare => uptoBulkAll elems + uptoBulkAll spare + 1
  | .agg parts => uptoBulkAll parts + 1
  | .iface _ d => uptoBulk d + 1
  | .map entries => uptoBulkEntries entries + 1
  | .held _ => 1
def uptoBulkAll {H : Type} : List (DataW H) → Nat
  | [] => 0
  | d :: r => uptoBulk d + uptoBulkAll r
def uptoBulkEntries {H : Type} : List (Lit × DataW H) → Nat
  | [] => 0
  | x :: r => uptoBulkEntry x + uptoBulkEntries r
def uptoBulkEntry {H : Type} : Lit × DataW H → Nat
  | (.string bytes, d) => bytes.length + uptoBulk d + 1
  | (_, d) => uptoBulk d + 1
 end
def uptoSmall : (H : Type) → List (DataW H) → Bool := fun _ ds => decide (uptoBulkAll ds ≤ 1048576)
def OpenSpec.upto (s : _root_.Go.ChangeSpec) : _root_.Go.OpenSpec := { _root_.Go.OpenSpec.ofChange s with cond := some uptoSmall }

/-- 'archipelagolaw9.HistoryTells', WHERE WHAT IT READS IS OF BULK AT MOST 1048576: true; the input reads as it did. -/
def historyTellsUptoRow : OpenClaim := { program := "ytdhoihialekgmaa", sum := "b359acfb465eacc97a5105e7b64e3fc8168be54c6296a2a03ca13860485b93f5", func := "archipelago/archipelagolaw9.HistoryTells", spec := "historyTells", unfollowed := true, recurses := true, plainKeys := false, apart := false, narrowed := true }
def HistoryTellsUptoSaid : Prop := historyTellsUptoRow.holds Try.pinned (OpenSpec.upto historyTellsSpec)

/-- 'archipelagolaw9.HistoryUpto', WHERE WHAT IT READS IS OF BULK AT MOST 1048576: true; the input reads as it did. -/
def historyUptoUptoRow : OpenClaim := { program := "ytdhoihialekgmaa", sum := "b359acfb465eacc97a5105e7b64e3fc8168be54c6296a2a03ca13860485b93f5", func := "archipelago/archipelagolaw9.HistoryUpto", spec := "historyUpto", unfollowed := true, recurses := true, plainKeys := false, apart := false, narrowed := true }
def HistoryUptoUptoSaid : Prop := historyUptoUptoRow.holds Try.pinned (OpenSpec.upto historyUptoSpec)

/-- 'archipelagolaw9.HistoryParts', WHERE WHAT IT READS IS OF BULK AT MOST 1048576: true; the input reads as it did. -/
def historyPartsUptoRow : OpenClaim := { program := "ytdhoihialekgmaa", sum := "b359acfb465eacc97a5105e7b64e3fc8168be54c6296a2a03ca13860485b93f5", func := "archipelago/archipelagolaw9.HistoryParts", spec := "historyParts", unfollowed := true, recurses := true, plainKeys := false, apart := false, narrowed := true }
def HistoryPartsUptoSaid : Prop := historyPartsUptoRow.holds Try.pinned (OpenSpec.upto historyPartsSpec)

/-- 'archipelagolaw9.HistoryCopies', WHERE WHAT IT READS IS OF BULK AT MOST 1048576: true; the input reads as it did. -/
def historyCopiesUptoRow : OpenClaim := { program := "ytdhoihialekgmaa", sum := "b359acfb465eacc97a5105e7b64e3fc8168be54c6296a2a03ca13860485b93f5", func := "archipelago/archipelagolaw9.HistoryCopies", spec := "historyCopies", unfollowed := true, recurses := true, plainKeys := false, apart := false, narrowed := true }
def HistoryCopiesUptoSaid : Prop := historyCopiesUptoRow.holds Try.pinned (OpenSpec.upto historyCopiesSpec)

end Rows
end Go.Proofs.Ytdhoihialekgmaa
