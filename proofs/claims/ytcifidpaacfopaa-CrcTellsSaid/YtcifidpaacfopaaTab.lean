/- The table of functions (printed by wip/tabgen.py). -/
import Derived.Test.YtcifidpaacfopaaIrOk
import Derived.Test.YtcifidpaacfopaaProg
import Derived.Test.YtcifidpaacfopaaAbsL
namespace Go.Ab
open Go
def tab : Tab := fun n => match n with
  | 21 => some ir_crc_step
  | 12 => some ir_crc_Sum
  | 19 => some ir_slices_Clone_byte_byte
  | 11 => some ir_crc_Seal
  | 18 => some ir_slices_Equal_byte_byte
  | 9 => some ir_crc_Open
  | 14 => some ir_crc_Next
  | 8 => some ir_archipelagolaw4_known
  | 15 => some ir_archipelagoref1_Next
  | 13 => some ir_archipelagoref1_Sum
  | 20 => some ir_archipelagoref1_Number
  | 10 => some ir_archipelagoref1_Open
  | 22 => some ir_archipelagoref1_Fixed
  | 16 => some ir_archipelagoref1_Seal
  | 3 => some ir_archipelagolaw4_CrcTells
  | 17 => some ir_archipelagoref1_Flip
  | 4 => some ir_archipelagolaw4_CrcBursts
  | 5 => some ir_archipelagolaw4_CrcTurns
  | 6 => some ir_archipelagolaw4_CrcSteps
  | 7 => some ir_archipelagolaw4_CrcSeals
  | _ => none
theorem tab_ok : TabOk Proofs.Try.prog tab := by
  intro f i h
  unfold tab at h
  split at h
  · cases h; exact ⟨_, _, Proofs.Try.func21, ok_crc_step⟩
  · cases h; exact ⟨_, _, Proofs.Try.func12, ok_crc_Sum⟩
  · cases h; exact ⟨_, _, Proofs.Try.func19, ok_slices_Clone_byte_byte⟩
  · cases h; exact ⟨_, _, Proofs.Try.func11, ok_crc_Seal⟩
  · cases h; exact ⟨_, _, Proofs.Try.func18, ok_slices_Equal_byte_byte⟩
  · cases h; exact ⟨_, _, Proofs.Try.func9, ok_crc_Open⟩
  · cases h; exact ⟨_, _, Proofs.Try.func14, ok_crc_Next⟩
  · cases h; exact ⟨_, _, Proofs.Try.func8, ok_archipelagolaw4_known⟩
  · cases h; exact ⟨_, _, Proofs.Try.func15, ok_archipelagoref1_Next⟩
  · cases h; exact ⟨_, _, Proofs.Try.func13, ok_archipelagoref1_Sum⟩
  · cases h; exact ⟨_, _, Proofs.Try.func20, ok_archipelagoref1_Number⟩
  · cases h; exact ⟨_, _, Proofs.Try.func10, ok_archipelagoref1_Open⟩
  · cases h; exact ⟨_, _, Proofs.Try.func22, ok_archipelagoref1_Fixed⟩
  · cases h; exact ⟨_, _, Proofs.Try.func16, ok_archipelagoref1_Seal⟩
  · cases h; exact ⟨_, _, Proofs.Try.func3, ok_archipelagolaw4_CrcTells⟩
  · cases h; exact ⟨_, _, Proofs.Try.func17, ok_archipelagoref1_Flip⟩
  · cases h; exact ⟨_, _, Proofs.Try.func4, ok_archipelagolaw4_CrcBursts⟩
  · cases h; exact ⟨_, _, Proofs.Try.func5, ok_archipelagolaw4_CrcTurns⟩
  · cases h; exact ⟨_, _, Proofs.Try.func6, ok_archipelagolaw4_CrcSteps⟩
  · cases h; exact ⟨_, _, Proofs.Try.func7, ok_archipelagolaw4_CrcSeals⟩
  · cases h
theorem tab_mixed : Proofs.Try.prog.follows .mixedOrders = true := by kernel_rfl
theorem tab_crc_step : tab fid_crc_step = some ir_crc_step := rfl
theorem tab_crc_Sum : tab fid_crc_Sum = some ir_crc_Sum := rfl
theorem tab_slices_Clone_byte_byte : tab fid_slices_Clone_byte_byte = some ir_slices_Clone_byte_byte := rfl
theorem tab_crc_Seal : tab fid_crc_Seal = some ir_crc_Seal := rfl
theorem tab_slices_Equal_byte_byte : tab fid_slices_Equal_byte_byte = some ir_slices_Equal_byte_byte := rfl
theorem tab_crc_Open : tab fid_crc_Open = some ir_crc_Open := rfl
theorem tab_crc_Next : tab fid_crc_Next = some ir_crc_Next := rfl
theorem tab_archipelagolaw4_known : tab fid_archipelagolaw4_known = some ir_archipelagolaw4_known := rfl
theorem tab_archipelagoref1_Next : tab fid_archipelagoref1_Next = some ir_archipelagoref1_Next := rfl
theorem tab_archipelagoref1_Sum : tab fid_archipelagoref1_Sum = some ir_archipelagoref1_Sum := rfl
theorem tab_archipelagoref1_Number : tab fid_archipelagoref1_Number = some ir_archipelagoref1_Number := rfl
theorem tab_archipelagoref1_Open : tab fid_archipelagoref1_Open = some ir_archipelagoref1_Open := rfl
theorem tab_archipelagoref1_Fixed : tab fid_archipelagoref1_Fixed = some ir_archipelagoref1_Fixed := rfl
theorem tab_archipelagoref1_Seal : tab fid_archipelagoref1_Seal = some ir_archipelagoref1_Seal := rfl
theorem tab_archipelagolaw4_CrcTells : tab fid_archipelagolaw4_CrcTells = some ir_archipelagolaw4_CrcTells := rfl
theorem tab_archipelagoref1_Flip : tab fid_archipelagoref1_Flip = some ir_archipelagoref1_Flip := rfl
theorem tab_archipelagolaw4_CrcBursts : tab fid_archipelagolaw4_CrcBursts = some ir_archipelagolaw4_CrcBursts := rfl
theorem tab_archipelagolaw4_CrcTurns : tab fid_archipelagolaw4_CrcTurns = some ir_archipelagolaw4_CrcTurns := rfl
theorem tab_archipelagolaw4_CrcSteps : tab fid_archipelagolaw4_CrcSteps = some ir_archipelagolaw4_CrcSteps := rfl
theorem tab_archipelagolaw4_CrcSeals : tab fid_archipelagolaw4_CrcSeals = some ir_archipelagolaw4_CrcSeals := rfl
end Go.Ab
