/- The table of functions (printed by wip/tabgen.py). -/
import Derived.Test.YteihibbmeallhaaIrOk
import Derived.Test.YteihibbmeallhaaProg
import Derived.Test.YteihibbmeallhaaAbsL
namespace Go.Ab
open Go
def tab : Tab := fun n => match n with
  | 10 => some ir_varint_Put
  | 12 => some ir_varint_Take
  | 14 => some ir_varint_Size
  | 8 => some ir_archipelagolaw2_known
  | 9 => some ir_archipelagoref1_Put
  | 11 => some ir_archipelagolaw2_edge
  | 13 => some ir_archipelagoref1_Take
  | 15 => some ir_archipelagoref1_Size
  | 3 => some ir_archipelagolaw2_VarintTells
  | 4 => some ir_archipelagolaw2_VarintBack
  | 5 => some ir_archipelagolaw2_VarintMany
  | 6 => some ir_archipelagolaw2_VarintForms
  | 7 => some ir_archipelagolaw2_VarintShorts
  | _ => none
theorem tab_ok : TabOk Proofs.Try.prog tab := by
  intro f i h
  unfold tab at h
  split at h
  · cases h; exact ⟨_, _, Proofs.Try.func10, ok_varint_Put⟩
  · cases h; exact ⟨_, _, Proofs.Try.func12, ok_varint_Take⟩
  · cases h; exact ⟨_, _, Proofs.Try.func14, ok_varint_Size⟩
  · cases h; exact ⟨_, _, Proofs.Try.func8, ok_archipelagolaw2_known⟩
  · cases h; exact ⟨_, _, Proofs.Try.func9, ok_archipelagoref1_Put⟩
  · cases h; exact ⟨_, _, Proofs.Try.func11, ok_archipelagolaw2_edge⟩
  · cases h; exact ⟨_, _, Proofs.Try.func13, ok_archipelagoref1_Take⟩
  · cases h; exact ⟨_, _, Proofs.Try.func15, ok_archipelagoref1_Size⟩
  · cases h; exact ⟨_, _, Proofs.Try.func3, ok_archipelagolaw2_VarintTells⟩
  · cases h; exact ⟨_, _, Proofs.Try.func4, ok_archipelagolaw2_VarintBack⟩
  · cases h; exact ⟨_, _, Proofs.Try.func5, ok_archipelagolaw2_VarintMany⟩
  · cases h; exact ⟨_, _, Proofs.Try.func6, ok_archipelagolaw2_VarintForms⟩
  · cases h; exact ⟨_, _, Proofs.Try.func7, ok_archipelagolaw2_VarintShorts⟩
  · cases h
theorem tab_mixed : Proofs.Try.prog.follows .mixedOrders = true := by kernel_rfl
theorem tab_varint_Put : tab fid_varint_Put = some ir_varint_Put := rfl
theorem tab_varint_Take : tab fid_varint_Take = some ir_varint_Take := rfl
theorem tab_varint_Size : tab fid_varint_Size = some ir_varint_Size := rfl
theorem tab_archipelagolaw2_known : tab fid_archipelagolaw2_known = some ir_archipelagolaw2_known := rfl
theorem tab_archipelagoref1_Put : tab fid_archipelagoref1_Put = some ir_archipelagoref1_Put := rfl
theorem tab_archipelagolaw2_edge : tab fid_archipelagolaw2_edge = some ir_archipelagolaw2_edge := rfl
theorem tab_archipelagoref1_Take : tab fid_archipelagoref1_Take = some ir_archipelagoref1_Take := rfl
theorem tab_archipelagoref1_Size : tab fid_archipelagoref1_Size = some ir_archipelagoref1_Size := rfl
theorem tab_archipelagolaw2_VarintTells : tab fid_archipelagolaw2_VarintTells = some ir_archipelagolaw2_VarintTells := rfl
theorem tab_archipelagolaw2_VarintBack : tab fid_archipelagolaw2_VarintBack = some ir_archipelagolaw2_VarintBack := rfl
theorem tab_archipelagolaw2_VarintMany : tab fid_archipelagolaw2_VarintMany = some ir_archipelagolaw2_VarintMany := rfl
theorem tab_archipelagolaw2_VarintForms : tab fid_archipelagolaw2_VarintForms = some ir_archipelagolaw2_VarintForms := rfl
theorem tab_archipelagolaw2_VarintShorts : tab fid_archipelagolaw2_VarintShorts = some ir_archipelagolaw2_VarintShorts := rfl
end Go.Ab
