/- The table of functions (printed by wip/tabgen.py). -/
import Derived.Test.YtgndjeknneaeiaaIrOk
import Derived.Test.YtgndjeknneaeiaaProg
import Derived.Test.YtgndjeknneaeiaaAbsL
namespace Go.Ab
open Go
def tab : Tab := fun n => match n with
  | 10 => some ir_bits_NewWriter
  | 23 => some ir_bits_bound
  | 11 => some ir_bits_Writer_Put
  | 13 => some ir_bits_Writer_Len
  | 24 => some ir_slices_Clone_byte_byte
  | 14 => some ir_bits_Writer_Bytes
  | 16 => some ir_bits_NewReader
  | 19 => some ir_bits_Reader_Left
  | 17 => some ir_bits_Reader_Take
  | 21 => some ir_bits_Flip
  | 9 => some ir_archipelagolaw1_known
  | 12 => some ir_archipelagoref1_Writer_Put
  | 15 => some ir_archipelagoref1_Writer_Bytes
  | 3 => some ir_archipelagolaw1_BitsWrite
  | 20 => some ir_archipelagoref1_Reader_Left
  | 18 => some ir_archipelagoref1_Reader_Take
  | 4 => some ir_archipelagolaw1_BitsRead
  | 5 => some ir_archipelagolaw1_BitsBack
  | 22 => some ir_archipelagoref1_Flip
  | 6 => some ir_archipelagolaw1_BitsFlip
  | 7 => some ir_archipelagolaw1_BitsParts
  | 8 => some ir_archipelagolaw1_BitsEnds
  | _ => none
theorem tab_ok : TabOk Proofs.Try.prog tab := by
  intro f i h
  unfold tab at h
  split at h
  · cases h; exact ⟨_, _, Proofs.Try.func10, ok_bits_NewWriter⟩
  · cases h; exact ⟨_, _, Proofs.Try.func23, ok_bits_bound⟩
  · cases h; exact ⟨_, _, Proofs.Try.func11, ok_bits_Writer_Put⟩
  · cases h; exact ⟨_, _, Proofs.Try.func13, ok_bits_Writer_Len⟩
  · cases h; exact ⟨_, _, Proofs.Try.func24, ok_slices_Clone_byte_byte⟩
  · cases h; exact ⟨_, _, Proofs.Try.func14, ok_bits_Writer_Bytes⟩
  · cases h; exact ⟨_, _, Proofs.Try.func16, ok_bits_NewReader⟩
  · cases h; exact ⟨_, _, Proofs.Try.func19, ok_bits_Reader_Left⟩
  · cases h; exact ⟨_, _, Proofs.Try.func17, ok_bits_Reader_Take⟩
  · cases h; exact ⟨_, _, Proofs.Try.func21, ok_bits_Flip⟩
  · cases h; exact ⟨_, _, Proofs.Try.func9, ok_archipelagolaw1_known⟩
  · cases h; exact ⟨_, _, Proofs.Try.func12, ok_archipelagoref1_Writer_Put⟩
  · cases h; exact ⟨_, _, Proofs.Try.func15, ok_archipelagoref1_Writer_Bytes⟩
  · cases h; exact ⟨_, _, Proofs.Try.func3, ok_archipelagolaw1_BitsWrite⟩
  · cases h; exact ⟨_, _, Proofs.Try.func20, ok_archipelagoref1_Reader_Left⟩
  · cases h; exact ⟨_, _, Proofs.Try.func18, ok_archipelagoref1_Reader_Take⟩
  · cases h; exact ⟨_, _, Proofs.Try.func4, ok_archipelagolaw1_BitsRead⟩
  · cases h; exact ⟨_, _, Proofs.Try.func5, ok_archipelagolaw1_BitsBack⟩
  · cases h; exact ⟨_, _, Proofs.Try.func22, ok_archipelagoref1_Flip⟩
  · cases h; exact ⟨_, _, Proofs.Try.func6, ok_archipelagolaw1_BitsFlip⟩
  · cases h; exact ⟨_, _, Proofs.Try.func7, ok_archipelagolaw1_BitsParts⟩
  · cases h; exact ⟨_, _, Proofs.Try.func8, ok_archipelagolaw1_BitsEnds⟩
  · cases h
theorem tab_mixed : Proofs.Try.prog.follows .mixedOrders = true := by kernel_rfl
theorem tab_bits_NewWriter : tab fid_bits_NewWriter = some ir_bits_NewWriter := rfl
theorem tab_bits_bound : tab fid_bits_bound = some ir_bits_bound := rfl
theorem tab_bits_Writer_Put : tab fid_bits_Writer_Put = some ir_bits_Writer_Put := rfl
theorem tab_bits_Writer_Len : tab fid_bits_Writer_Len = some ir_bits_Writer_Len := rfl
theorem tab_slices_Clone_byte_byte : tab fid_slices_Clone_byte_byte = some ir_slices_Clone_byte_byte := rfl
theorem tab_bits_Writer_Bytes : tab fid_bits_Writer_Bytes = some ir_bits_Writer_Bytes := rfl
theorem tab_bits_NewReader : tab fid_bits_NewReader = some ir_bits_NewReader := rfl
theorem tab_bits_Reader_Left : tab fid_bits_Reader_Left = some ir_bits_Reader_Left := rfl
theorem tab_bits_Reader_Take : tab fid_bits_Reader_Take = some ir_bits_Reader_Take := rfl
theorem tab_bits_Flip : tab fid_bits_Flip = some ir_bits_Flip := rfl
theorem tab_archipelagolaw1_known : tab fid_archipelagolaw1_known = some ir_archipelagolaw1_known := rfl
theorem tab_archipelagoref1_Writer_Put : tab fid_archipelagoref1_Writer_Put = some ir_archipelagoref1_Writer_Put := rfl
theorem tab_archipelagoref1_Writer_Bytes : tab fid_archipelagoref1_Writer_Bytes = some ir_archipelagoref1_Writer_Bytes := rfl
theorem tab_archipelagolaw1_BitsWrite : tab fid_archipelagolaw1_BitsWrite = some ir_archipelagolaw1_BitsWrite := rfl
theorem tab_archipelagoref1_Reader_Left : tab fid_archipelagoref1_Reader_Left = some ir_archipelagoref1_Reader_Left := rfl
theorem tab_archipelagoref1_Reader_Take : tab fid_archipelagoref1_Reader_Take = some ir_archipelagoref1_Reader_Take := rfl
theorem tab_archipelagolaw1_BitsRead : tab fid_archipelagolaw1_BitsRead = some ir_archipelagolaw1_BitsRead := rfl
theorem tab_archipelagolaw1_BitsBack : tab fid_archipelagolaw1_BitsBack = some ir_archipelagolaw1_BitsBack := rfl
theorem tab_archipelagoref1_Flip : tab fid_archipelagoref1_Flip = some ir_archipelagoref1_Flip := rfl
theorem tab_archipelagolaw1_BitsFlip : tab fid_archipelagolaw1_BitsFlip = some ir_archipelagolaw1_BitsFlip := rfl
theorem tab_archipelagolaw1_BitsParts : tab fid_archipelagolaw1_BitsParts = some ir_archipelagolaw1_BitsParts := rfl
theorem tab_archipelagolaw1_BitsEnds : tab fid_archipelagolaw1_BitsEnds = some ir_archipelagolaw1_BitsEnds := rfl
end Go.Ab
