/- The table of functions (printed by wip/tabgen.py). -/
import Derived.Test.YtnikphikjkfooaaIrOk
import Derived.Test.YtnikphikjkfooaaProg
import Derived.Test.YtnikphikjkfooaaAbsL
namespace Go.Ab
open Go
def tab : Tab := fun n => match n with
  | 12 => some ir_index_Right
  | 27 => some ir_index_put
  | 40 => some ir_slices_Clone_byte_byte
  | 45 => some ir_crc_step
  | 41 => some ir_crc_Sum
  | 28 => some ir_crc_Seal
  | 10 => some ir_index_Put
  | 29 => some ir_sort_Search
  | 30 => some ir_index_Find_1
  | 14 => some ir_index_Find
  | 16 => some ir_index_Offset
  | 19 => some ir_archipelagoref1_Fixed
  | 42 => some ir_archipelagoref1_Next
  | 32 => some ir_archipelagoref1_Sum
  | 20 => some ir_archipelagoref1_Seal
  | 31 => some ir_archipelagoref18_Right
  | 18 => some ir_archipelagoref18_Put
  | 43 => some ir_head_Right
  | 36 => some ir_head_Blocks
  | 44 => some ir_slices_Equal_byte_byte
  | 37 => some ir_crc_Open
  | 38 => some ir_index_take
  | 23 => some ir_index_Read
  | 25 => some ir_archipelagoref18_SameRows
  | 7 => some ir_archipelagolaw19_known
  | 8 => some ir_archipelagolaw19_rows
  | 9 => some ir_archipelagolaw19_bent
  | 13 => some ir_archipelagoref18_RowsRight
  | 11 => some ir_archipelagoref18_RowsPut
  | 15 => some ir_archipelagoref18_Find
  | 17 => some ir_archipelagoref18_Offset
  | 3 => some ir_archipelagolaw19_IndexTells
  | 5 => some ir_archipelagolaw19_IndexFinds
  | _ => none
theorem tab_ok : TabOk Proofs.Try.prog tab := by
  intro f i h
  unfold tab at h
  split at h
  · cases h; exact ⟨_, _, Proofs.Try.func12, ok_index_Right⟩
  · cases h; exact ⟨_, _, Proofs.Try.func27, ok_index_put⟩
  · cases h; exact ⟨_, _, Proofs.Try.func40, ok_slices_Clone_byte_byte⟩
  · cases h; exact ⟨_, _, Proofs.Try.func45, ok_crc_step⟩
  · cases h; exact ⟨_, _, Proofs.Try.func41, ok_crc_Sum⟩
  · cases h; exact ⟨_, _, Proofs.Try.func28, ok_crc_Seal⟩
  · cases h; exact ⟨_, _, Proofs.Try.func10, ok_index_Put⟩
  · cases h; exact ⟨_, _, Proofs.Try.func29, ok_sort_Search⟩
  · cases h; exact ⟨_, _, Proofs.Try.func30, ok_index_Find_1⟩
  · cases h; exact ⟨_, _, Proofs.Try.func14, ok_index_Find⟩
  · cases h; exact ⟨_, _, Proofs.Try.func16, ok_index_Offset⟩
  · cases h; exact ⟨_, _, Proofs.Try.func19, ok_archipelagoref1_Fixed⟩
  · cases h; exact ⟨_, _, Proofs.Try.func42, ok_archipelagoref1_Next⟩
  · cases h; exact ⟨_, _, Proofs.Try.func32, ok_archipelagoref1_Sum⟩
  · cases h; exact ⟨_, _, Proofs.Try.func20, ok_archipelagoref1_Seal⟩
  · cases h; exact ⟨_, _, Proofs.Try.func31, ok_archipelagoref18_Right⟩
  · cases h; exact ⟨_, _, Proofs.Try.func18, ok_archipelagoref18_Put⟩
  · cases h; exact ⟨_, _, Proofs.Try.func43, ok_head_Right⟩
  · cases h; exact ⟨_, _, Proofs.Try.func36, ok_head_Blocks⟩
  · cases h; exact ⟨_, _, Proofs.Try.func44, ok_slices_Equal_byte_byte⟩
  · cases h; exact ⟨_, _, Proofs.Try.func37, ok_crc_Open⟩
  · cases h; exact ⟨_, _, Proofs.Try.func38, ok_index_take⟩
  · cases h; exact ⟨_, _, Proofs.Try.func23, ok_index_Read⟩
  · cases h; exact ⟨_, _, Proofs.Try.func25, ok_archipelagoref18_SameRows⟩
  · cases h; exact ⟨_, _, Proofs.Try.func7, ok_archipelagolaw19_known⟩
  · cases h; exact ⟨_, _, Proofs.Try.func8, ok_archipelagolaw19_rows⟩
  · cases h; exact ⟨_, _, Proofs.Try.func9, ok_archipelagolaw19_bent⟩
  · cases h; exact ⟨_, _, Proofs.Try.func13, ok_archipelagoref18_RowsRight⟩
  · cases h; exact ⟨_, _, Proofs.Try.func11, ok_archipelagoref18_RowsPut⟩
  · cases h; exact ⟨_, _, Proofs.Try.func15, ok_archipelagoref18_Find⟩
  · cases h; exact ⟨_, _, Proofs.Try.func17, ok_archipelagoref18_Offset⟩
  · cases h; exact ⟨_, _, Proofs.Try.func3, ok_archipelagolaw19_IndexTells⟩
  · cases h; exact ⟨_, _, Proofs.Try.func5, ok_archipelagolaw19_IndexFinds⟩
  · cases h
theorem tab_mixed : Proofs.Try.prog.follows .mixedOrders = true := by kernel_rfl
theorem tab_index_Right : tab fid_index_Right = some ir_index_Right := rfl
theorem tab_index_put : tab fid_index_put = some ir_index_put := rfl
theorem tab_slices_Clone_byte_byte : tab fid_slices_Clone_byte_byte = some ir_slices_Clone_byte_byte := rfl
theorem tab_crc_step : tab fid_crc_step = some ir_crc_step := rfl
theorem tab_crc_Sum : tab fid_crc_Sum = some ir_crc_Sum := rfl
theorem tab_crc_Seal : tab fid_crc_Seal = some ir_crc_Seal := rfl
theorem tab_index_Put : tab fid_index_Put = some ir_index_Put := rfl
theorem tab_sort_Search : tab fid_sort_Search = some ir_sort_Search := rfl
theorem tab_index_Find_1 : tab fid_index_Find_1 = some ir_index_Find_1 := rfl
theorem tab_index_Find : tab fid_index_Find = some ir_index_Find := rfl
theorem tab_index_Offset : tab fid_index_Offset = some ir_index_Offset := rfl
theorem tab_archipelagoref1_Fixed : tab fid_archipelagoref1_Fixed = some ir_archipelagoref1_Fixed := rfl
theorem tab_archipelagoref1_Next : tab fid_archipelagoref1_Next = some ir_archipelagoref1_Next := rfl
theorem tab_archipelagoref1_Sum : tab fid_archipelagoref1_Sum = some ir_archipelagoref1_Sum := rfl
theorem tab_archipelagoref1_Seal : tab fid_archipelagoref1_Seal = some ir_archipelagoref1_Seal := rfl
theorem tab_archipelagoref18_Right : tab fid_archipelagoref18_Right = some ir_archipelagoref18_Right := rfl
theorem tab_archipelagoref18_Put : tab fid_archipelagoref18_Put = some ir_archipelagoref18_Put := rfl
theorem tab_head_Right : tab fid_head_Right = some ir_head_Right := rfl
theorem tab_head_Blocks : tab fid_head_Blocks = some ir_head_Blocks := rfl
theorem tab_slices_Equal_byte_byte : tab fid_slices_Equal_byte_byte = some ir_slices_Equal_byte_byte := rfl
theorem tab_crc_Open : tab fid_crc_Open = some ir_crc_Open := rfl
theorem tab_index_take : tab fid_index_take = some ir_index_take := rfl
theorem tab_index_Read : tab fid_index_Read = some ir_index_Read := rfl
theorem tab_archipelagoref18_SameRows : tab fid_archipelagoref18_SameRows = some ir_archipelagoref18_SameRows := rfl
theorem tab_archipelagolaw19_known : tab fid_archipelagolaw19_known = some ir_archipelagolaw19_known := rfl
theorem tab_archipelagolaw19_rows : tab fid_archipelagolaw19_rows = some ir_archipelagolaw19_rows := rfl
theorem tab_archipelagolaw19_bent : tab fid_archipelagolaw19_bent = some ir_archipelagolaw19_bent := rfl
theorem tab_archipelagoref18_RowsRight : tab fid_archipelagoref18_RowsRight = some ir_archipelagoref18_RowsRight := rfl
theorem tab_archipelagoref18_RowsPut : tab fid_archipelagoref18_RowsPut = some ir_archipelagoref18_RowsPut := rfl
theorem tab_archipelagoref18_Find : tab fid_archipelagoref18_Find = some ir_archipelagoref18_Find := rfl
theorem tab_archipelagoref18_Offset : tab fid_archipelagoref18_Offset = some ir_archipelagoref18_Offset := rfl
theorem tab_archipelagolaw19_IndexTells : tab fid_archipelagolaw19_IndexTells = some ir_archipelagolaw19_IndexTells := rfl
theorem tab_archipelagolaw19_IndexFinds : tab fid_archipelagolaw19_IndexFinds = some ir_archipelagolaw19_IndexFinds := rfl
end Go.Ab
