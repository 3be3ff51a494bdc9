/- The table of functions (printed by wip/tabgen.py). -/
import Derived.Test.YtbkbelaogegpgaaIrOk
import Derived.Test.YtbkbelaogegpgaaProg
import Derived.Test.YtbkbelaogegpgaaAbsL
namespace Go.Ab
open Go
def tab : Tab := fun n => match n with
  | 48 => some ir_cmp_Or_int
  | 56 => some ir_cmp_isNaN_int64
  | 49 => some ir_cmp_Compare_int64
  | 58 => some ir_cmp_isNaN_uint32
  | 57 => some ir_cmp_Compare_uint32
  | 50 => some ir_edge_compare
  | 40 => some ir_edge_Before
  | 27 => some ir_delta_right
  | 28 => some ir_bits_NewWriter
  | 52 => some ir_bits_bound
  | 42 => some ir_bits_Writer_Put
  | 51 => some ir_math_bits_Len64
  | 41 => some ir_gamma_Put
  | 29 => some ir_delta_writer_put
  | 43 => some ir_slices_Clone_byte_byte
  | 30 => some ir_bits_Writer_Bytes
  | 11 => some ir_delta_Put
  | 31 => some ir_bits_NewReader
  | 54 => some ir_bits_Reader_Left
  | 45 => some ir_bits_Reader_Take
  | 53 => some ir_gamma_Take
  | 44 => some ir_delta_reader_num
  | 32 => some ir_delta_reader_event
  | 33 => some ir_edge_Right
  | 34 => some ir_bytes_Equal
  | 13 => some ir_delta_Read
  | 15 => some ir_archipelagoref8_SameEvents
  | 7 => some ir_archipelagolaw16_known
  | 18 => some ir_archipelagoseat_Vertices
  | 19 => some ir_archipelagoseat_Edge
  | 16 => some ir_archipelagoref8_Less
  | 23 => some ir_archipelagoref8_Before
  | 20 => some ir_archipelagoseat_insert
  | 38 => some ir_archipelagoref8_Find
  | 21 => some ir_archipelagoref8_Has
  | 39 => some ir_archipelagoref8_Rising
  | 22 => some ir_archipelagoref8_Turn
  | 8 => some ir_archipelagoseat_History
  | 9 => some ir_archipelagoseat_Late
  | 25 => some ir_archipelagoref1_Writer_Put
  | 37 => some ir_archipelagoref1_length
  | 24 => some ir_archipelagoref1_GammaPut
  | 26 => some ir_archipelagoref1_Writer_Bytes
  | 10 => some ir_archipelagoref15_DeltaPut
  | 12 => some ir_archipelagoseat_Change
  | 55 => some ir_archipelagoref1_Reader_Left
  | 47 => some ir_archipelagoref1_Reader_Take
  | 46 => some ir_archipelagoref1_GammaTake
  | 35 => some ir_archipelagoref15_event
  | 36 => some ir_archipelagoref8_Right
  | 14 => some ir_archipelagoref15_DeltaRead
  | 3 => some ir_archipelagolaw16_DeltaTells
  | _ => none
theorem tab_ok : TabOk Proofs.Try.prog tab := by
  intro f i h
  unfold tab at h
  split at h
  · cases h; exact ⟨_, _, Proofs.Try.func48, ok_cmp_Or_int⟩
  · cases h; exact ⟨_, _, Proofs.Try.func56, ok_cmp_isNaN_int64⟩
  · cases h; exact ⟨_, _, Proofs.Try.func49, ok_cmp_Compare_int64⟩
  · cases h; exact ⟨_, _, Proofs.Try.func58, ok_cmp_isNaN_uint32⟩
  · cases h; exact ⟨_, _, Proofs.Try.func57, ok_cmp_Compare_uint32⟩
  · cases h; exact ⟨_, _, Proofs.Try.func50, ok_edge_compare⟩
  · cases h; exact ⟨_, _, Proofs.Try.func40, ok_edge_Before⟩
  · cases h; exact ⟨_, _, Proofs.Try.func27, ok_delta_right⟩
  · cases h; exact ⟨_, _, Proofs.Try.func28, ok_bits_NewWriter⟩
  · cases h; exact ⟨_, _, Proofs.Try.func52, ok_bits_bound⟩
  · cases h; exact ⟨_, _, Proofs.Try.func42, ok_bits_Writer_Put⟩
  · cases h; exact ⟨_, _, Proofs.Try.func51, ok_math_bits_Len64⟩
  · cases h; exact ⟨_, _, Proofs.Try.func41, ok_gamma_Put⟩
  · cases h; exact ⟨_, _, Proofs.Try.func29, ok_delta_writer_put⟩
  · cases h; exact ⟨_, _, Proofs.Try.func43, ok_slices_Clone_byte_byte⟩
  · cases h; exact ⟨_, _, Proofs.Try.func30, ok_bits_Writer_Bytes⟩
  · cases h; exact ⟨_, _, Proofs.Try.func11, ok_delta_Put⟩
  · cases h; exact ⟨_, _, Proofs.Try.func31, ok_bits_NewReader⟩
  · cases h; exact ⟨_, _, Proofs.Try.func54, ok_bits_Reader_Left⟩
  · cases h; exact ⟨_, _, Proofs.Try.func45, ok_bits_Reader_Take⟩
  · cases h; exact ⟨_, _, Proofs.Try.func53, ok_gamma_Take⟩
  · cases h; exact ⟨_, _, Proofs.Try.func44, ok_delta_reader_num⟩
  · cases h; exact ⟨_, _, Proofs.Try.func32, ok_delta_reader_event⟩
  · cases h; exact ⟨_, _, Proofs.Try.func33, ok_edge_Right⟩
  · cases h; exact ⟨_, _, Proofs.Try.func34, ok_bytes_Equal⟩
  · cases h; exact ⟨_, _, Proofs.Try.func13, ok_delta_Read⟩
  · cases h; exact ⟨_, _, Proofs.Try.func15, ok_archipelagoref8_SameEvents⟩
  · cases h; exact ⟨_, _, Proofs.Try.func7, ok_archipelagolaw16_known⟩
  · cases h; exact ⟨_, _, Proofs.Try.func18, ok_archipelagoseat_Vertices⟩
  · cases h; exact ⟨_, _, Proofs.Try.func19, ok_archipelagoseat_Edge⟩
  · cases h; exact ⟨_, _, Proofs.Try.func16, ok_archipelagoref8_Less⟩
  · cases h; exact ⟨_, _, Proofs.Try.func23, ok_archipelagoref8_Before⟩
  · cases h; exact ⟨_, _, Proofs.Try.func20, ok_archipelagoseat_insert⟩
  · cases h; exact ⟨_, _, Proofs.Try.func38, ok_archipelagoref8_Find⟩
  · cases h; exact ⟨_, _, Proofs.Try.func21, ok_archipelagoref8_Has⟩
  · cases h; exact ⟨_, _, Proofs.Try.func39, ok_archipelagoref8_Rising⟩
  · cases h; exact ⟨_, _, Proofs.Try.func22, ok_archipelagoref8_Turn⟩
  · cases h; exact ⟨_, _, Proofs.Try.func8, ok_archipelagoseat_History⟩
  · cases h; exact ⟨_, _, Proofs.Try.func9, ok_archipelagoseat_Late⟩
  · cases h; exact ⟨_, _, Proofs.Try.func25, ok_archipelagoref1_Writer_Put⟩
  · cases h; exact ⟨_, _, Proofs.Try.func37, ok_archipelagoref1_length⟩
  · cases h; exact ⟨_, _, Proofs.Try.func24, ok_archipelagoref1_GammaPut⟩
  · cases h; exact ⟨_, _, Proofs.Try.func26, ok_archipelagoref1_Writer_Bytes⟩
  · cases h; exact ⟨_, _, Proofs.Try.func10, ok_archipelagoref15_DeltaPut⟩
  · cases h; exact ⟨_, _, Proofs.Try.func12, ok_archipelagoseat_Change⟩
  · cases h; exact ⟨_, _, Proofs.Try.func55, ok_archipelagoref1_Reader_Left⟩
  · cases h; exact ⟨_, _, Proofs.Try.func47, ok_archipelagoref1_Reader_Take⟩
  · cases h; exact ⟨_, _, Proofs.Try.func46, ok_archipelagoref1_GammaTake⟩
  · cases h; exact ⟨_, _, Proofs.Try.func35, ok_archipelagoref15_event⟩
  · cases h; exact ⟨_, _, Proofs.Try.func36, ok_archipelagoref8_Right⟩
  · cases h; exact ⟨_, _, Proofs.Try.func14, ok_archipelagoref15_DeltaRead⟩
  · cases h; exact ⟨_, _, Proofs.Try.func3, ok_archipelagolaw16_DeltaTells⟩
  · cases h
theorem tab_mixed : Proofs.Try.prog.follows .mixedOrders = true := by kernel_rfl
theorem tab_slices_Clone_byte_byte : tab fid_slices_Clone_byte_byte = some ir_slices_Clone_byte_byte := rfl
end Go.Ab
