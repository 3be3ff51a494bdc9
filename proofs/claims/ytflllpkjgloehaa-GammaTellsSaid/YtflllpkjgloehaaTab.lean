/- The table of functions (printed by wip/tabgen.py). -/
import Derived.Test.YtflllpkjgloehaaIrOk
import Derived.Test.YtflllpkjgloehaaProg
import Derived.Test.YtflllpkjgloehaaAbsL
namespace Go.Ab
open Go
def tab : Tab := fun n => match n with
  | 8 => some ir_bits_NewWriter
  | 28 => some ir_bits_bound
  | 21 => some ir_bits_Writer_Put
  | 23 => some ir_math_bits_Len64
  | 9 => some ir_gamma_Put
  | 11 => some ir_bits_Writer_Len
  | 12 => some ir_gamma_Size
  | 26 => some ir_slices_Clone_byte_byte
  | 15 => some ir_bits_Writer_Bytes
  | 16 => some ir_bits_NewReader
  | 19 => some ir_bits_Reader_Left
  | 22 => some ir_bits_Reader_Take
  | 17 => some ir_gamma_Take
  | 7 => some ir_archipelagolaw3_known
  | 24 => some ir_archipelagoref1_length
  | 25 => some ir_archipelagoref1_Writer_Put
  | 10 => some ir_archipelagoref1_GammaPut
  | 13 => some ir_archipelagoref1_GammaSize
  | 14 => some ir_archipelagoref1_Writer_Bytes
  | 20 => some ir_archipelagoref1_Reader_Left
  | 27 => some ir_archipelagoref1_Reader_Take
  | 18 => some ir_archipelagoref1_GammaTake
  | 3 => some ir_archipelagolaw3_GammaTells
  | 4 => some ir_archipelagolaw3_GammaBack
  | 5 => some ir_archipelagolaw3_GammaSizes
  | 6 => some ir_archipelagolaw3_GammaCuts
  | _ => none
theorem tab_ok : TabOk Proofs.Try.prog tab := by
  intro f i h
  unfold tab at h
  split at h
  · cases h; exact ⟨_, _, Proofs.Try.func8, ok_bits_NewWriter⟩
  · cases h; exact ⟨_, _, Proofs.Try.func28, ok_bits_bound⟩
  · cases h; exact ⟨_, _, Proofs.Try.func21, ok_bits_Writer_Put⟩
  · cases h; exact ⟨_, _, Proofs.Try.func23, ok_math_bits_Len64⟩
  · cases h; exact ⟨_, _, Proofs.Try.func9, ok_gamma_Put⟩
  · cases h; exact ⟨_, _, Proofs.Try.func11, ok_bits_Writer_Len⟩
  · cases h; exact ⟨_, _, Proofs.Try.func12, ok_gamma_Size⟩
  · cases h; exact ⟨_, _, Proofs.Try.func26, ok_slices_Clone_byte_byte⟩
  · cases h; exact ⟨_, _, Proofs.Try.func15, ok_bits_Writer_Bytes⟩
  · cases h; exact ⟨_, _, Proofs.Try.func16, ok_bits_NewReader⟩
  · cases h; exact ⟨_, _, Proofs.Try.func19, ok_bits_Reader_Left⟩
  · cases h; exact ⟨_, _, Proofs.Try.func22, ok_bits_Reader_Take⟩
  · cases h; exact ⟨_, _, Proofs.Try.func17, ok_gamma_Take⟩
  · cases h; exact ⟨_, _, Proofs.Try.func7, ok_archipelagolaw3_known⟩
  · cases h; exact ⟨_, _, Proofs.Try.func24, ok_archipelagoref1_length⟩
  · cases h; exact ⟨_, _, Proofs.Try.func25, ok_archipelagoref1_Writer_Put⟩
  · cases h; exact ⟨_, _, Proofs.Try.func10, ok_archipelagoref1_GammaPut⟩
  · cases h; exact ⟨_, _, Proofs.Try.func13, ok_archipelagoref1_GammaSize⟩
  · cases h; exact ⟨_, _, Proofs.Try.func14, ok_archipelagoref1_Writer_Bytes⟩
  · cases h; exact ⟨_, _, Proofs.Try.func20, ok_archipelagoref1_Reader_Left⟩
  · cases h; exact ⟨_, _, Proofs.Try.func27, ok_archipelagoref1_Reader_Take⟩
  · cases h; exact ⟨_, _, Proofs.Try.func18, ok_archipelagoref1_GammaTake⟩
  · cases h; exact ⟨_, _, Proofs.Try.func3, ok_archipelagolaw3_GammaTells⟩
  · cases h; exact ⟨_, _, Proofs.Try.func4, ok_archipelagolaw3_GammaBack⟩
  · cases h; exact ⟨_, _, Proofs.Try.func5, ok_archipelagolaw3_GammaSizes⟩
  · cases h; exact ⟨_, _, Proofs.Try.func6, ok_archipelagolaw3_GammaCuts⟩
  · cases h
theorem tab_mixed : Proofs.Try.prog.follows .mixedOrders = true := by kernel_rfl
theorem tab_bits_NewWriter : tab fid_bits_NewWriter = some ir_bits_NewWriter := rfl
theorem tab_bits_bound : tab fid_bits_bound = some ir_bits_bound := rfl
theorem tab_bits_Writer_Put : tab fid_bits_Writer_Put = some ir_bits_Writer_Put := rfl
theorem tab_math_bits_Len64 : tab fid_math_bits_Len64 = some ir_math_bits_Len64 := rfl
theorem tab_gamma_Put : tab fid_gamma_Put = some ir_gamma_Put := rfl
theorem tab_bits_Writer_Len : tab fid_bits_Writer_Len = some ir_bits_Writer_Len := rfl
theorem tab_gamma_Size : tab fid_gamma_Size = some ir_gamma_Size := rfl
theorem tab_slices_Clone_byte_byte : tab fid_slices_Clone_byte_byte = some ir_slices_Clone_byte_byte := rfl
theorem tab_bits_Writer_Bytes : tab fid_bits_Writer_Bytes = some ir_bits_Writer_Bytes := rfl
theorem tab_bits_NewReader : tab fid_bits_NewReader = some ir_bits_NewReader := rfl
theorem tab_bits_Reader_Left : tab fid_bits_Reader_Left = some ir_bits_Reader_Left := rfl
theorem tab_bits_Reader_Take : tab fid_bits_Reader_Take = some ir_bits_Reader_Take := rfl
theorem tab_gamma_Take : tab fid_gamma_Take = some ir_gamma_Take := rfl
theorem tab_archipelagolaw3_known : tab fid_archipelagolaw3_known = some ir_archipelagolaw3_known := rfl
theorem tab_archipelagoref1_length : tab fid_archipelagoref1_length = some ir_archipelagoref1_length := rfl
theorem tab_archipelagoref1_Writer_Put : tab fid_archipelagoref1_Writer_Put = some ir_archipelagoref1_Writer_Put := rfl
theorem tab_archipelagoref1_GammaPut : tab fid_archipelagoref1_GammaPut = some ir_archipelagoref1_GammaPut := rfl
theorem tab_archipelagoref1_GammaSize : tab fid_archipelagoref1_GammaSize = some ir_archipelagoref1_GammaSize := rfl
theorem tab_archipelagoref1_Writer_Bytes : tab fid_archipelagoref1_Writer_Bytes = some ir_archipelagoref1_Writer_Bytes := rfl
theorem tab_archipelagoref1_Reader_Left : tab fid_archipelagoref1_Reader_Left = some ir_archipelagoref1_Reader_Left := rfl
theorem tab_archipelagoref1_Reader_Take : tab fid_archipelagoref1_Reader_Take = some ir_archipelagoref1_Reader_Take := rfl
theorem tab_archipelagoref1_GammaTake : tab fid_archipelagoref1_GammaTake = some ir_archipelagoref1_GammaTake := rfl
theorem tab_archipelagolaw3_GammaTells : tab fid_archipelagolaw3_GammaTells = some ir_archipelagolaw3_GammaTells := rfl
theorem tab_archipelagolaw3_GammaBack : tab fid_archipelagolaw3_GammaBack = some ir_archipelagolaw3_GammaBack := rfl
theorem tab_archipelagolaw3_GammaSizes : tab fid_archipelagolaw3_GammaSizes = some ir_archipelagolaw3_GammaSizes := rfl
theorem tab_archipelagolaw3_GammaCuts : tab fid_archipelagolaw3_GammaCuts = some ir_archipelagolaw3_GammaCuts := rfl
end Go.Ab
