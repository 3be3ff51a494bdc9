/- Each function of the program reads as the abstract machine has it. -/
import Derived.Test.YtpeafiomifmadaaProg
import Derived.Test.YtpeafiomifmadaaAbs2
import Derived.Test.YtpeafiomifmadaaIr
import Derived.KernelRfl
namespace Go.Ab
open Go
theorem ok_head_Right : fnOf Proofs.Try.prog Proofs.Try.f9 ir_head_Right = some ir_head_Right := by kernel_rfl
theorem ok_head_put : fnOf Proofs.Try.prog Proofs.Try.f23 ir_head_put = some ir_head_put := by kernel_rfl
theorem ok_slices_Clone_byte_byte : fnOf Proofs.Try.prog Proofs.Try.f30 ir_slices_Clone_byte_byte = some ir_slices_Clone_byte_byte := by kernel_rfl
theorem ok_crc_step : fnOf Proofs.Try.prog Proofs.Try.f33 ir_crc_step = some ir_crc_step := by kernel_rfl
theorem ok_crc_Sum : fnOf Proofs.Try.prog Proofs.Try.f31 ir_crc_Sum = some ir_crc_Sum := by kernel_rfl
theorem ok_crc_Seal : fnOf Proofs.Try.prog Proofs.Try.f24 ir_crc_Seal = some ir_crc_Seal := by kernel_rfl
theorem ok_head_Put : fnOf Proofs.Try.prog Proofs.Try.f11 ir_head_Put = some ir_head_Put := by kernel_rfl
theorem ok_head_Blocks : fnOf Proofs.Try.prog Proofs.Try.f13 ir_head_Blocks = some ir_head_Blocks := by kernel_rfl
theorem ok_head_Size : fnOf Proofs.Try.prog Proofs.Try.f15 ir_head_Size = some ir_head_Size := by kernel_rfl
theorem ok_slices_Equal_byte_byte : fnOf Proofs.Try.prog Proofs.Try.f32 ir_slices_Equal_byte_byte = some ir_slices_Equal_byte_byte := by kernel_rfl
theorem ok_crc_Open : fnOf Proofs.Try.prog Proofs.Try.f26 ir_crc_Open = some ir_crc_Open := by kernel_rfl
theorem ok_head_take : fnOf Proofs.Try.prog Proofs.Try.f27 ir_head_take = some ir_head_take := by kernel_rfl
theorem ok_head_Read : fnOf Proofs.Try.prog Proofs.Try.f19 ir_head_Read = some ir_head_Read := by kernel_rfl
theorem ok_archipelagolaw18_known : fnOf Proofs.Try.prog Proofs.Try.f8 ir_archipelagolaw18_known = some ir_archipelagolaw18_known := by kernel_rfl
theorem ok_archipelagoref18_Right : fnOf Proofs.Try.prog Proofs.Try.f10 ir_archipelagoref18_Right = some ir_archipelagoref18_Right := by kernel_rfl
theorem ok_archipelagoref1_Fixed : fnOf Proofs.Try.prog Proofs.Try.f17 ir_archipelagoref1_Fixed = some ir_archipelagoref1_Fixed := by kernel_rfl
theorem ok_archipelagoref1_Next : fnOf Proofs.Try.prog Proofs.Try.f25 ir_archipelagoref1_Next = some ir_archipelagoref1_Next := by kernel_rfl
theorem ok_archipelagoref1_Sum : fnOf Proofs.Try.prog Proofs.Try.f18 ir_archipelagoref1_Sum = some ir_archipelagoref1_Sum := by kernel_rfl
theorem ok_archipelagoref1_Seal : fnOf Proofs.Try.prog Proofs.Try.f22 ir_archipelagoref1_Seal = some ir_archipelagoref1_Seal := by kernel_rfl
theorem ok_archipelagoref18_Put : fnOf Proofs.Try.prog Proofs.Try.f12 ir_archipelagoref18_Put = some ir_archipelagoref18_Put := by kernel_rfl
theorem ok_archipelagoref18_Blocks : fnOf Proofs.Try.prog Proofs.Try.f14 ir_archipelagoref18_Blocks = some ir_archipelagoref18_Blocks := by kernel_rfl
theorem ok_archipelagoref18_Size : fnOf Proofs.Try.prog Proofs.Try.f16 ir_archipelagoref18_Size = some ir_archipelagoref18_Size := by kernel_rfl
theorem ok_archipelagoref1_Number : fnOf Proofs.Try.prog Proofs.Try.f29 ir_archipelagoref1_Number = some ir_archipelagoref1_Number := by kernel_rfl
theorem ok_archipelagoref1_Open : fnOf Proofs.Try.prog Proofs.Try.f28 ir_archipelagoref1_Open = some ir_archipelagoref1_Open := by kernel_rfl
theorem ok_archipelagoref18_Read : fnOf Proofs.Try.prog Proofs.Try.f20 ir_archipelagoref18_Read = some ir_archipelagoref18_Read := by kernel_rfl
theorem ok_archipelagolaw18_HeadTells : fnOf Proofs.Try.prog Proofs.Try.f3 ir_archipelagolaw18_HeadTells = some ir_archipelagolaw18_HeadTells := by kernel_rfl
theorem ok_archipelagolaw18_HeadShares : fnOf Proofs.Try.prog Proofs.Try.f4 ir_archipelagolaw18_HeadShares = some ir_archipelagolaw18_HeadShares := by kernel_rfl
theorem ok_archipelagoref1_Flip : fnOf Proofs.Try.prog Proofs.Try.f21 ir_archipelagoref1_Flip = some ir_archipelagoref1_Flip := by kernel_rfl
theorem ok_archipelagolaw18_HeadBursts : fnOf Proofs.Try.prog Proofs.Try.f5 ir_archipelagolaw18_HeadBursts = some ir_archipelagolaw18_HeadBursts := by kernel_rfl
theorem ok_archipelagolaw18_HeadErrors : fnOf Proofs.Try.prog Proofs.Try.f6 ir_archipelagolaw18_HeadErrors = some ir_archipelagolaw18_HeadErrors := by kernel_rfl
theorem ok_archipelagolaw18_HeadMost : fnOf Proofs.Try.prog Proofs.Try.f7 ir_archipelagolaw18_HeadMost = some ir_archipelagolaw18_HeadMost := by kernel_rfl
end Go.Ab
