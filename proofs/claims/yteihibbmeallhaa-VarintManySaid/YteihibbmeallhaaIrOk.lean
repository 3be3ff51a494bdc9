/- Each function of the program reads as the abstract machine has it. -/
import Derived.Test.YteihibbmeallhaaProg
import Derived.Test.YteihibbmeallhaaAbs2
import Derived.Test.YteihibbmeallhaaIr
import Derived.KernelRfl
namespace Go.Ab
open Go
theorem ok_varint_Put : fnOf Proofs.Try.prog Proofs.Try.f10 ir_varint_Put = some ir_varint_Put := by kernel_rfl
theorem ok_varint_Take : fnOf Proofs.Try.prog Proofs.Try.f12 ir_varint_Take = some ir_varint_Take := by kernel_rfl
theorem ok_varint_Size : fnOf Proofs.Try.prog Proofs.Try.f14 ir_varint_Size = some ir_varint_Size := by kernel_rfl
theorem ok_archipelagolaw2_known : fnOf Proofs.Try.prog Proofs.Try.f8 ir_archipelagolaw2_known = some ir_archipelagolaw2_known := by kernel_rfl
theorem ok_archipelagoref1_Put : fnOf Proofs.Try.prog Proofs.Try.f9 ir_archipelagoref1_Put = some ir_archipelagoref1_Put := by kernel_rfl
theorem ok_archipelagolaw2_edge : fnOf Proofs.Try.prog Proofs.Try.f11 ir_archipelagolaw2_edge = some ir_archipelagolaw2_edge := by kernel_rfl
theorem ok_archipelagoref1_Take : fnOf Proofs.Try.prog Proofs.Try.f13 ir_archipelagoref1_Take = some ir_archipelagoref1_Take := by kernel_rfl
theorem ok_archipelagoref1_Size : fnOf Proofs.Try.prog Proofs.Try.f15 ir_archipelagoref1_Size = some ir_archipelagoref1_Size := by kernel_rfl
theorem ok_archipelagolaw2_VarintTells : fnOf Proofs.Try.prog Proofs.Try.f3 ir_archipelagolaw2_VarintTells = some ir_archipelagolaw2_VarintTells := by kernel_rfl
theorem ok_archipelagolaw2_VarintBack : fnOf Proofs.Try.prog Proofs.Try.f4 ir_archipelagolaw2_VarintBack = some ir_archipelagolaw2_VarintBack := by kernel_rfl
theorem ok_archipelagolaw2_VarintMany : fnOf Proofs.Try.prog Proofs.Try.f5 ir_archipelagolaw2_VarintMany = some ir_archipelagolaw2_VarintMany := by kernel_rfl
theorem ok_archipelagolaw2_VarintForms : fnOf Proofs.Try.prog Proofs.Try.f6 ir_archipelagolaw2_VarintForms = some ir_archipelagolaw2_VarintForms := by kernel_rfl
theorem ok_archipelagolaw2_VarintShorts : fnOf Proofs.Try.prog Proofs.Try.f7 ir_archipelagolaw2_VarintShorts = some ir_archipelagolaw2_VarintShorts := by kernel_rfl
end Go.Ab
