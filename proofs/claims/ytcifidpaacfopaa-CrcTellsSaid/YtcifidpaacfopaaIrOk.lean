/- Each function of the program reads as the abstract machine has it. -/
import Derived.Test.YtcifidpaacfopaaProg
import Derived.Test.YtcifidpaacfopaaAbs2
import Derived.Test.YtcifidpaacfopaaIr
import Derived.KernelRfl
namespace Go.Ab
open Go
theorem ok_crc_step : fnOf Proofs.Try.prog Proofs.Try.f21 ir_crc_step = some ir_crc_step := by kernel_rfl
theorem ok_crc_Sum : fnOf Proofs.Try.prog Proofs.Try.f12 ir_crc_Sum = some ir_crc_Sum := by kernel_rfl
theorem ok_slices_Clone_byte_byte : fnOf Proofs.Try.prog Proofs.Try.f19 ir_slices_Clone_byte_byte = some ir_slices_Clone_byte_byte := by kernel_rfl
theorem ok_crc_Seal : fnOf Proofs.Try.prog Proofs.Try.f11 ir_crc_Seal = some ir_crc_Seal := by kernel_rfl
theorem ok_slices_Equal_byte_byte : fnOf Proofs.Try.prog Proofs.Try.f18 ir_slices_Equal_byte_byte = some ir_slices_Equal_byte_byte := by kernel_rfl
theorem ok_crc_Open : fnOf Proofs.Try.prog Proofs.Try.f9 ir_crc_Open = some ir_crc_Open := by kernel_rfl
theorem ok_crc_Next : fnOf Proofs.Try.prog Proofs.Try.f14 ir_crc_Next = some ir_crc_Next := by kernel_rfl
theorem ok_archipelagolaw4_known : fnOf Proofs.Try.prog Proofs.Try.f8 ir_archipelagolaw4_known = some ir_archipelagolaw4_known := by kernel_rfl
theorem ok_archipelagoref1_Next : fnOf Proofs.Try.prog Proofs.Try.f15 ir_archipelagoref1_Next = some ir_archipelagoref1_Next := by kernel_rfl
theorem ok_archipelagoref1_Sum : fnOf Proofs.Try.prog Proofs.Try.f13 ir_archipelagoref1_Sum = some ir_archipelagoref1_Sum := by kernel_rfl
theorem ok_archipelagoref1_Number : fnOf Proofs.Try.prog Proofs.Try.f20 ir_archipelagoref1_Number = some ir_archipelagoref1_Number := by kernel_rfl
theorem ok_archipelagoref1_Open : fnOf Proofs.Try.prog Proofs.Try.f10 ir_archipelagoref1_Open = some ir_archipelagoref1_Open := by kernel_rfl
theorem ok_archipelagoref1_Fixed : fnOf Proofs.Try.prog Proofs.Try.f22 ir_archipelagoref1_Fixed = some ir_archipelagoref1_Fixed := by kernel_rfl
theorem ok_archipelagoref1_Seal : fnOf Proofs.Try.prog Proofs.Try.f16 ir_archipelagoref1_Seal = some ir_archipelagoref1_Seal := by kernel_rfl
theorem ok_archipelagolaw4_CrcTells : fnOf Proofs.Try.prog Proofs.Try.f3 ir_archipelagolaw4_CrcTells = some ir_archipelagolaw4_CrcTells := by kernel_rfl
theorem ok_archipelagoref1_Flip : fnOf Proofs.Try.prog Proofs.Try.f17 ir_archipelagoref1_Flip = some ir_archipelagoref1_Flip := by kernel_rfl
theorem ok_archipelagolaw4_CrcBursts : fnOf Proofs.Try.prog Proofs.Try.f4 ir_archipelagolaw4_CrcBursts = some ir_archipelagolaw4_CrcBursts := by kernel_rfl
theorem ok_archipelagolaw4_CrcTurns : fnOf Proofs.Try.prog Proofs.Try.f5 ir_archipelagolaw4_CrcTurns = some ir_archipelagolaw4_CrcTurns := by kernel_rfl
theorem ok_archipelagolaw4_CrcSteps : fnOf Proofs.Try.prog Proofs.Try.f6 ir_archipelagolaw4_CrcSteps = some ir_archipelagolaw4_CrcSteps := by kernel_rfl
theorem ok_archipelagolaw4_CrcSeals : fnOf Proofs.Try.prog Proofs.Try.f7 ir_archipelagolaw4_CrcSeals = some ir_archipelagolaw4_CrcSeals := by kernel_rfl
end Go.Ab
