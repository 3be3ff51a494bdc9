/- The table of functions (printed by wip/tabgen.py). -/
import Derived.Test.YtnikphikjkfooaaIrOk
import Derived.Test.YtnikphikjkfooaaProg
import Derived.Test.YtnikphikjkfooaaAbsL
namespace Go.Ab
open Go
def tab : Tab := fun n => match n with
  | 12 => some ir_index_Right
  | 27 => some ir_index_put
  | 40 => some ir_slices_Clone_byte_byte
  | 45 => some ir_crc_step
  | 41 => some ir_crc_Sum
  | 28 => some ir_crc_Seal
  | 10 => some ir_index_Put
  | 29 => some ir_sort_Search
  | 30 => some ir_index_Find_1
  | 14 => some ir_index_Find
  | 16 => some ir_index_Offset
  | 19 => some ir_archipelagoref1_Fixed
  | 42 => some ir_archipelagoref1_Next
  | 32 => some ir_archipelagoref1_Sum
  | 20 => some ir_archipelagoref1_Seal
  | 31 => some ir_archipelagoref18_Right
  | 18 => some ir_archipelagoref18_Put
  | 43 => some ir_head_Right
  | 36 => some ir_head_Blocks
  | 44 => some ir_slices_Equal_byte_byte
  | 37 => some ir_crc_Open
  | 38 => some ir_index_take
  | 23 => some ir_index_Read
  | 25 => some ir_archipelagoref18_SameRows
  | 7 => some ir_archipelagolaw19_known
  | 8 => some ir_archipelagolaw19_rows
  | 9 => some ir_archipelagolaw19_bent
  | 13 => some ir_archipelagoref18_RowsRight
  | 11 => some ir_archipelagoref18_RowsPut
  | 21 => some ir_archipelagoseat_Change
  | 35 => some ir_archipelagoref1_Number
  | 39 => some ir_archipelagoref1_Open
  | 33 => some ir_archipelagoref18_Read
  | 34 => some ir_archipelagoref18_Blocks
  | 22 => some ir_archipelagoseat_Mend
  | 24 => some ir_archipelagoref18_RowsRead
  | 4 => some ir_archipelagolaw19_IndexReads
  | _ => none
theorem tab_ok : TabOk Proofs.Try.prog tab := by
  intro f i h
  unfold tab at h
  split at h
  · cases h; exact ⟨_, _, Proofs.Try.func12, ok_index_Right⟩
  · cases h; exact ⟨_, _, Proofs.Try.func27, ok_index_put⟩
  · cases h; exact ⟨_, _, Proofs.Try.func40, ok_slices_Clone_byte_byte⟩
  · cases h; exact ⟨_, _, Proofs.Try.func45, ok_crc_step⟩
  · cases h; exact ⟨_, _, Proofs.Try.func41, ok_crc_Sum⟩
  · cases h; exact ⟨_, _, Proofs.Try.func28, ok_crc_Seal⟩
  · cases h; exact ⟨_, _, Proofs.Try.func10, ok_index_Put⟩
  · cases h; exact ⟨_, _, Proofs.Try.func29, ok_sort_Search⟩
  · cases h; exact ⟨_, _, Proofs.Try.func30, ok_index_Find_1⟩
  · cases h; exact ⟨_, _, Proofs.Try.func14, ok_index_Find⟩
  · cases h; exact ⟨_, _, Proofs.Try.func16, ok_index_Offset⟩
  · cases h; exact ⟨_, _, Proofs.Try.func19, ok_archipelagoref1_Fixed⟩
  · cases h; exact ⟨_, _, Proofs.Try.func42, ok_archipelagoref1_Next⟩
  · cases h; exact ⟨_, _, Proofs.Try.func32, ok_archipelagoref1_Sum⟩
  · cases h; exact ⟨_, _, Proofs.Try.func20, ok_archipelagoref1_Seal⟩
  · cases h; exact ⟨_, _, Proofs.Try.func31, ok_archipelagoref18_Right⟩
  · cases h; exact ⟨_, _, Proofs.Try.func18, ok_archipelagoref18_Put⟩
  · cases h; exact ⟨_, _, Proofs.Try.func43, ok_head_Right⟩
  · cases h; exact ⟨_, _, Proofs.Try.func36, ok_head_Blocks⟩
  · cases h; exact ⟨_, _, Proofs.Try.func44, ok_slices_Equal_byte_byte⟩
  · cases h; exact ⟨_, _, Proofs.Try.func37, ok_crc_Open⟩
  · cases h; exact ⟨_, _, Proofs.Try.func38, ok_index_take⟩
  · cases h; exact ⟨_, _, Proofs.Try.func23, ok_index_Read⟩
  · cases h; exact ⟨_, _, Proofs.Try.func25, ok_archipelagoref18_SameRows⟩
  · cases h; exact ⟨_, _, Proofs.Try.func7, ok_archipelagolaw19_known⟩
  · cases h; exact ⟨_, _, Proofs.Try.func8, ok_archipelagolaw19_rows⟩
  · cases h; exact ⟨_, _, Proofs.Try.func9, ok_archipelagolaw19_bent⟩
  · cases h; exact ⟨_, _, Proofs.Try.func13, ok_archipelagoref18_RowsRight⟩
  · cases h; exact ⟨_, _, Proofs.Try.func11, ok_archipelagoref18_RowsPut⟩
  · cases h; exact ⟨_, _, Proofs.Try.func21, ok_archipelagoseat_Change⟩
  · cases h; exact ⟨_, _, Proofs.Try.func35, ok_archipelagoref1_Number⟩
  · cases h; exact ⟨_, _, Proofs.Try.func39, ok_archipelagoref1_Open⟩
  · cases h; exact ⟨_, _, Proofs.Try.func33, ok_archipelagoref18_Read⟩
  · cases h; exact ⟨_, _, Proofs.Try.func34, ok_archipelagoref18_Blocks⟩
  · cases h; exact ⟨_, _, Proofs.Try.func22, ok_archipelagoseat_Mend⟩
  · cases h; exact ⟨_, _, Proofs.Try.func24, ok_archipelagoref18_RowsRead⟩
  · cases h; exact ⟨_, _, Proofs.Try.func4, ok_archipelagolaw19_IndexReads⟩
  · cases h
theorem tab_mixed : Proofs.Try.prog.follows .mixedOrders = true := by kernel_rfl
theorem tab_slices_Clone_byte_byte : tab fid_slices_Clone_byte_byte = some ir_slices_Clone_byte_byte := rfl
end Go.Ab
