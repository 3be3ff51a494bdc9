/- Each function of the program reads as the abstract machine has it. -/
import Derived.Test.YtflllpkjgloehaaProg
import Derived.Test.YtflllpkjgloehaaAbs2
import Derived.Test.YtflllpkjgloehaaIr
import Derived.KernelRfl
namespace Go.Ab
open Go
theorem ok_bits_NewWriter : fnOf Proofs.Try.prog Proofs.Try.f8 ir_bits_NewWriter = some ir_bits_NewWriter := by kernel_rfl
theorem ok_bits_bound : fnOf Proofs.Try.prog Proofs.Try.f28 ir_bits_bound = some ir_bits_bound := by kernel_rfl
theorem ok_bits_Writer_Put : fnOf Proofs.Try.prog Proofs.Try.f21 ir_bits_Writer_Put = some ir_bits_Writer_Put := by kernel_rfl
theorem ok_math_bits_Len64 : fnOf Proofs.Try.prog Proofs.Try.f23 ir_math_bits_Len64 = some ir_math_bits_Len64 := by kernel_rfl
theorem ok_gamma_Put : fnOf Proofs.Try.prog Proofs.Try.f9 ir_gamma_Put = some ir_gamma_Put := by kernel_rfl
theorem ok_bits_Writer_Len : fnOf Proofs.Try.prog Proofs.Try.f11 ir_bits_Writer_Len = some ir_bits_Writer_Len := by kernel_rfl
theorem ok_gamma_Size : fnOf Proofs.Try.prog Proofs.Try.f12 ir_gamma_Size = some ir_gamma_Size := by kernel_rfl
theorem ok_slices_Clone_byte_byte : fnOf Proofs.Try.prog Proofs.Try.f26 ir_slices_Clone_byte_byte = some ir_slices_Clone_byte_byte := by kernel_rfl
theorem ok_bits_Writer_Bytes : fnOf Proofs.Try.prog Proofs.Try.f15 ir_bits_Writer_Bytes = some ir_bits_Writer_Bytes := by kernel_rfl
theorem ok_bits_NewReader : fnOf Proofs.Try.prog Proofs.Try.f16 ir_bits_NewReader = some ir_bits_NewReader := by kernel_rfl
theorem ok_bits_Reader_Left : fnOf Proofs.Try.prog Proofs.Try.f19 ir_bits_Reader_Left = some ir_bits_Reader_Left := by kernel_rfl
theorem ok_bits_Reader_Take : fnOf Proofs.Try.prog Proofs.Try.f22 ir_bits_Reader_Take = some ir_bits_Reader_Take := by kernel_rfl
theorem ok_gamma_Take : fnOf Proofs.Try.prog Proofs.Try.f17 ir_gamma_Take = some ir_gamma_Take := by kernel_rfl
theorem ok_archipelagolaw3_known : fnOf Proofs.Try.prog Proofs.Try.f7 ir_archipelagolaw3_known = some ir_archipelagolaw3_known := by kernel_rfl
theorem ok_archipelagoref1_length : fnOf Proofs.Try.prog Proofs.Try.f24 ir_archipelagoref1_length = some ir_archipelagoref1_length := by kernel_rfl
theorem ok_archipelagoref1_Writer_Put : fnOf Proofs.Try.prog Proofs.Try.f25 ir_archipelagoref1_Writer_Put = some ir_archipelagoref1_Writer_Put := by kernel_rfl
theorem ok_archipelagoref1_GammaPut : fnOf Proofs.Try.prog Proofs.Try.f10 ir_archipelagoref1_GammaPut = some ir_archipelagoref1_GammaPut := by kernel_rfl
theorem ok_archipelagoref1_GammaSize : fnOf Proofs.Try.prog Proofs.Try.f13 ir_archipelagoref1_GammaSize = some ir_archipelagoref1_GammaSize := by kernel_rfl
theorem ok_archipelagoref1_Writer_Bytes : fnOf Proofs.Try.prog Proofs.Try.f14 ir_archipelagoref1_Writer_Bytes = some ir_archipelagoref1_Writer_Bytes := by kernel_rfl
theorem ok_archipelagoref1_Reader_Left : fnOf Proofs.Try.prog Proofs.Try.f20 ir_archipelagoref1_Reader_Left = some ir_archipelagoref1_Reader_Left := by kernel_rfl
theorem ok_archipelagoref1_Reader_Take : fnOf Proofs.Try.prog Proofs.Try.f27 ir_archipelagoref1_Reader_Take = some ir_archipelagoref1_Reader_Take := by kernel_rfl
theorem ok_archipelagoref1_GammaTake : fnOf Proofs.Try.prog Proofs.Try.f18 ir_archipelagoref1_GammaTake = some ir_archipelagoref1_GammaTake := by kernel_rfl
theorem ok_archipelagolaw3_GammaTells : fnOf Proofs.Try.prog Proofs.Try.f3 ir_archipelagolaw3_GammaTells = some ir_archipelagolaw3_GammaTells := by kernel_rfl
theorem ok_archipelagolaw3_GammaBack : fnOf Proofs.Try.prog Proofs.Try.f4 ir_archipelagolaw3_GammaBack = some ir_archipelagolaw3_GammaBack := by kernel_rfl
theorem ok_archipelagolaw3_GammaSizes : fnOf Proofs.Try.prog Proofs.Try.f5 ir_archipelagolaw3_GammaSizes = some ir_archipelagolaw3_GammaSizes := by kernel_rfl
theorem ok_archipelagolaw3_GammaCuts : fnOf Proofs.Try.prog Proofs.Try.f6 ir_archipelagolaw3_GammaCuts = some ir_archipelagolaw3_GammaCuts := by kernel_rfl
end Go.Ab
