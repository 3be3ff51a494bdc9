/- The table of functions (printed by wip/tabgen.py). -/
import Derived.Test.YtpeafiomifmadaaIrOk
import Derived.Test.YtpeafiomifmadaaProg
import Derived.Test.YtpeafiomifmadaaAbsL
namespace Go.Ab
open Go
def tab : Tab := fun n => match n with
  | 9 => some ir_head_Right
  | 23 => some ir_head_put
  | 30 => some ir_slices_Clone_byte_byte
  | 33 => some ir_crc_step
  | 31 => some ir_crc_Sum
  | 24 => some ir_crc_Seal
  | 11 => some ir_head_Put
  | 13 => some ir_head_Blocks
  | 15 => some ir_head_Size
  | 32 => some ir_slices_Equal_byte_byte
  | 26 => some ir_crc_Open
  | 27 => some ir_head_take
  | 19 => some ir_head_Read
  | 8 => some ir_archipelagolaw18_known
  | 10 => some ir_archipelagoref18_Right
  | 17 => some ir_archipelagoref1_Fixed
  | 25 => some ir_archipelagoref1_Next
  | 18 => some ir_archipelagoref1_Sum
  | 22 => some ir_archipelagoref1_Seal
  | 12 => some ir_archipelagoref18_Put
  | 14 => some ir_archipelagoref18_Blocks
  | 16 => some ir_archipelagoref18_Size
  | 29 => some ir_archipelagoref1_Number
  | 28 => some ir_archipelagoref1_Open
  | 20 => some ir_archipelagoref18_Read
  | 3 => some ir_archipelagolaw18_HeadTells
  | 4 => some ir_archipelagolaw18_HeadShares
  | 21 => some ir_archipelagoref1_Flip
  | 5 => some ir_archipelagolaw18_HeadBursts
  | 6 => some ir_archipelagolaw18_HeadErrors
  | 7 => some ir_archipelagolaw18_HeadMost
  | _ => none
theorem tab_ok : TabOk Proofs.Try.prog tab := by
  intro f i h
  unfold tab at h
  split at h
  · cases h; exact ⟨_, _, Proofs.Try.func9, ok_head_Right⟩
  · cases h; exact ⟨_, _, Proofs.Try.func23, ok_head_put⟩
  · cases h; exact ⟨_, _, Proofs.Try.func30, ok_slices_Clone_byte_byte⟩
  · cases h; exact ⟨_, _, Proofs.Try.func33, ok_crc_step⟩
  · cases h; exact ⟨_, _, Proofs.Try.func31, ok_crc_Sum⟩
  · cases h; exact ⟨_, _, Proofs.Try.func24, ok_crc_Seal⟩
  · cases h; exact ⟨_, _, Proofs.Try.func11, ok_head_Put⟩
  · cases h; exact ⟨_, _, Proofs.Try.func13, ok_head_Blocks⟩
  · cases h; exact ⟨_, _, Proofs.Try.func15, ok_head_Size⟩
  · cases h; exact ⟨_, _, Proofs.Try.func32, ok_slices_Equal_byte_byte⟩
  · cases h; exact ⟨_, _, Proofs.Try.func26, ok_crc_Open⟩
  · cases h; exact ⟨_, _, Proofs.Try.func27, ok_head_take⟩
  · cases h; exact ⟨_, _, Proofs.Try.func19, ok_head_Read⟩
  · cases h; exact ⟨_, _, Proofs.Try.func8, ok_archipelagolaw18_known⟩
  · cases h; exact ⟨_, _, Proofs.Try.func10, ok_archipelagoref18_Right⟩
  · cases h; exact ⟨_, _, Proofs.Try.func17, ok_archipelagoref1_Fixed⟩
  · cases h; exact ⟨_, _, Proofs.Try.func25, ok_archipelagoref1_Next⟩
  · cases h; exact ⟨_, _, Proofs.Try.func18, ok_archipelagoref1_Sum⟩
  · cases h; exact ⟨_, _, Proofs.Try.func22, ok_archipelagoref1_Seal⟩
  · cases h; exact ⟨_, _, Proofs.Try.func12, ok_archipelagoref18_Put⟩
  · cases h; exact ⟨_, _, Proofs.Try.func14, ok_archipelagoref18_Blocks⟩
  · cases h; exact ⟨_, _, Proofs.Try.func16, ok_archipelagoref18_Size⟩
  · cases h; exact ⟨_, _, Proofs.Try.func29, ok_archipelagoref1_Number⟩
  · cases h; exact ⟨_, _, Proofs.Try.func28, ok_archipelagoref1_Open⟩
  · cases h; exact ⟨_, _, Proofs.Try.func20, ok_archipelagoref18_Read⟩
  · cases h; exact ⟨_, _, Proofs.Try.func3, ok_archipelagolaw18_HeadTells⟩
  · cases h; exact ⟨_, _, Proofs.Try.func4, ok_archipelagolaw18_HeadShares⟩
  · cases h; exact ⟨_, _, Proofs.Try.func21, ok_archipelagoref1_Flip⟩
  · cases h; exact ⟨_, _, Proofs.Try.func5, ok_archipelagolaw18_HeadBursts⟩
  · cases h; exact ⟨_, _, Proofs.Try.func6, ok_archipelagolaw18_HeadErrors⟩
  · cases h; exact ⟨_, _, Proofs.Try.func7, ok_archipelagolaw18_HeadMost⟩
  · cases h
theorem tab_mixed : Proofs.Try.prog.follows .mixedOrders = true := by kernel_rfl
theorem tab_head_Right : tab fid_head_Right = some ir_head_Right := rfl
theorem tab_head_put : tab fid_head_put = some ir_head_put := rfl
theorem tab_slices_Clone_byte_byte : tab fid_slices_Clone_byte_byte = some ir_slices_Clone_byte_byte := rfl
theorem tab_crc_step : tab fid_crc_step = some ir_crc_step := rfl
theorem tab_crc_Sum : tab fid_crc_Sum = some ir_crc_Sum := rfl
theorem tab_crc_Seal : tab fid_crc_Seal = some ir_crc_Seal := rfl
theorem tab_head_Put : tab fid_head_Put = some ir_head_Put := rfl
theorem tab_head_Blocks : tab fid_head_Blocks = some ir_head_Blocks := rfl
theorem tab_head_Size : tab fid_head_Size = some ir_head_Size := rfl
theorem tab_slices_Equal_byte_byte : tab fid_slices_Equal_byte_byte = some ir_slices_Equal_byte_byte := rfl
theorem tab_crc_Open : tab fid_crc_Open = some ir_crc_Open := rfl
theorem tab_head_take : tab fid_head_take = some ir_head_take := rfl
theorem tab_head_Read : tab fid_head_Read = some ir_head_Read := rfl
theorem tab_archipelagolaw18_known : tab fid_archipelagolaw18_known = some ir_archipelagolaw18_known := rfl
theorem tab_archipelagoref18_Right : tab fid_archipelagoref18_Right = some ir_archipelagoref18_Right := rfl
theorem tab_archipelagoref1_Fixed : tab fid_archipelagoref1_Fixed = some ir_archipelagoref1_Fixed := rfl
theorem tab_archipelagoref1_Next : tab fid_archipelagoref1_Next = some ir_archipelagoref1_Next := rfl
theorem tab_archipelagoref1_Sum : tab fid_archipelagoref1_Sum = some ir_archipelagoref1_Sum := rfl
theorem tab_archipelagoref1_Seal : tab fid_archipelagoref1_Seal = some ir_archipelagoref1_Seal := rfl
theorem tab_archipelagoref18_Put : tab fid_archipelagoref18_Put = some ir_archipelagoref18_Put := rfl
theorem tab_archipelagoref18_Blocks : tab fid_archipelagoref18_Blocks = some ir_archipelagoref18_Blocks := rfl
theorem tab_archipelagoref18_Size : tab fid_archipelagoref18_Size = some ir_archipelagoref18_Size := rfl
theorem tab_archipelagoref1_Number : tab fid_archipelagoref1_Number = some ir_archipelagoref1_Number := rfl
theorem tab_archipelagoref1_Open : tab fid_archipelagoref1_Open = some ir_archipelagoref1_Open := rfl
theorem tab_archipelagoref18_Read : tab fid_archipelagoref18_Read = some ir_archipelagoref18_Read := rfl
theorem tab_archipelagolaw18_HeadTells : tab fid_archipelagolaw18_HeadTells = some ir_archipelagolaw18_HeadTells := rfl
theorem tab_archipelagolaw18_HeadShares : tab fid_archipelagolaw18_HeadShares = some ir_archipelagolaw18_HeadShares := rfl
theorem tab_archipelagoref1_Flip : tab fid_archipelagoref1_Flip = some ir_archipelagoref1_Flip := rfl
theorem tab_archipelagolaw18_HeadBursts : tab fid_archipelagolaw18_HeadBursts = some ir_archipelagolaw18_HeadBursts := rfl
theorem tab_archipelagolaw18_HeadErrors : tab fid_archipelagolaw18_HeadErrors = some ir_archipelagolaw18_HeadErrors := rfl
theorem tab_archipelagolaw18_HeadMost : tab fid_archipelagolaw18_HeadMost = some ir_archipelagolaw18_HeadMost := rfl
end Go.Ab
