/- Each function of the program reads as the abstract machine has it. -/
import Derived.Test.YtgndjeknneaeiaaProg
import Derived.Test.YtgndjeknneaeiaaAbs2
import Derived.Test.YtgndjeknneaeiaaIr
import Derived.KernelRfl
namespace Go.Ab
open Go
theorem ok_bits_NewWriter : fnOf Proofs.Try.prog Proofs.Try.f10 ir_bits_NewWriter = some ir_bits_NewWriter := by kernel_rfl
theorem ok_bits_bound : fnOf Proofs.Try.prog Proofs.Try.f23 ir_bits_bound = some ir_bits_bound := by kernel_rfl
theorem ok_bits_Writer_Put : fnOf Proofs.Try.prog Proofs.Try.f11 ir_bits_Writer_Put = some ir_bits_Writer_Put := by kernel_rfl
theorem ok_bits_Writer_Len : fnOf Proofs.Try.prog Proofs.Try.f13 ir_bits_Writer_Len = some ir_bits_Writer_Len := by kernel_rfl
theorem ok_slices_Clone_byte_byte : fnOf Proofs.Try.prog Proofs.Try.f24 ir_slices_Clone_byte_byte = some ir_slices_Clone_byte_byte := by kernel_rfl
theorem ok_bits_Writer_Bytes : fnOf Proofs.Try.prog Proofs.Try.f14 ir_bits_Writer_Bytes = some ir_bits_Writer_Bytes := by kernel_rfl
theorem ok_bits_NewReader : fnOf Proofs.Try.prog Proofs.Try.f16 ir_bits_NewReader = some ir_bits_NewReader := by kernel_rfl
theorem ok_bits_Reader_Left : fnOf Proofs.Try.prog Proofs.Try.f19 ir_bits_Reader_Left = some ir_bits_Reader_Left := by kernel_rfl
theorem ok_bits_Reader_Take : fnOf Proofs.Try.prog Proofs.Try.f17 ir_bits_Reader_Take = some ir_bits_Reader_Take := by kernel_rfl
theorem ok_bits_Flip : fnOf Proofs.Try.prog Proofs.Try.f21 ir_bits_Flip = some ir_bits_Flip := by kernel_rfl
theorem ok_archipelagolaw1_known : fnOf Proofs.Try.prog Proofs.Try.f9 ir_archipelagolaw1_known = some ir_archipelagolaw1_known := by kernel_rfl
theorem ok_archipelagoref1_Writer_Put : fnOf Proofs.Try.prog Proofs.Try.f12 ir_archipelagoref1_Writer_Put = some ir_archipelagoref1_Writer_Put := by kernel_rfl
theorem ok_archipelagoref1_Writer_Bytes : fnOf Proofs.Try.prog Proofs.Try.f15 ir_archipelagoref1_Writer_Bytes = some ir_archipelagoref1_Writer_Bytes := by kernel_rfl
theorem ok_archipelagolaw1_BitsWrite : fnOf Proofs.Try.prog Proofs.Try.f3 ir_archipelagolaw1_BitsWrite = some ir_archipelagolaw1_BitsWrite := by kernel_rfl
theorem ok_archipelagoref1_Reader_Left : fnOf Proofs.Try.prog Proofs.Try.f20 ir_archipelagoref1_Reader_Left = some ir_archipelagoref1_Reader_Left := by kernel_rfl
theorem ok_archipelagoref1_Reader_Take : fnOf Proofs.Try.prog Proofs.Try.f18 ir_archipelagoref1_Reader_Take = some ir_archipelagoref1_Reader_Take := by kernel_rfl
theorem ok_archipelagolaw1_BitsRead : fnOf Proofs.Try.prog Proofs.Try.f4 ir_archipelagolaw1_BitsRead = some ir_archipelagolaw1_BitsRead := by kernel_rfl
theorem ok_archipelagolaw1_BitsBack : fnOf Proofs.Try.prog Proofs.Try.f5 ir_archipelagolaw1_BitsBack = some ir_archipelagolaw1_BitsBack := by kernel_rfl
theorem ok_archipelagoref1_Flip : fnOf Proofs.Try.prog Proofs.Try.f22 ir_archipelagoref1_Flip = some ir_archipelagoref1_Flip := by kernel_rfl
theorem ok_archipelagolaw1_BitsFlip : fnOf Proofs.Try.prog Proofs.Try.f6 ir_archipelagolaw1_BitsFlip = some ir_archipelagolaw1_BitsFlip := by kernel_rfl
theorem ok_archipelagolaw1_BitsParts : fnOf Proofs.Try.prog Proofs.Try.f7 ir_archipelagolaw1_BitsParts = some ir_archipelagolaw1_BitsParts := by kernel_rfl
theorem ok_archipelagolaw1_BitsEnds : fnOf Proofs.Try.prog Proofs.Try.f8 ir_archipelagolaw1_BitsEnds = some ir_archipelagolaw1_BitsEnds := by kernel_rfl
end Go.Ab
