/- Each function of the program reads as the abstract machine has it. -/
import Derived.Test.YtialeceemohpoaaProg
import Derived.Test.YtialeceemohpoaaAbs2
import Derived.Test.YtialeceemohpoaaIr
import Derived.KernelRfl
namespace Go.Ab
open Go
theorem ok_edge_Of : fnOf Proofs.Try.prog Proofs.Try.f8 ir_edge_Of = some ir_edge_Of := by kernel_rfl
theorem ok_edge_Right : fnOf Proofs.Try.prog Proofs.Try.f9 ir_edge_Right = some ir_edge_Right := by kernel_rfl
theorem ok_cmp_Or_int : fnOf Proofs.Try.prog Proofs.Try.f19 ir_cmp_Or_int = some ir_cmp_Or_int := by kernel_rfl
theorem ok_cmp_isNaN_uint32 : fnOf Proofs.Try.prog Proofs.Try.f23 ir_cmp_isNaN_uint32 = some ir_cmp_isNaN_uint32 := by kernel_rfl
theorem ok_cmp_Compare_uint32 : fnOf Proofs.Try.prog Proofs.Try.f21 ir_cmp_Compare_uint32 = some ir_cmp_Compare_uint32 := by kernel_rfl
theorem ok_edge_compare : fnOf Proofs.Try.prog Proofs.Try.f18 ir_edge_compare = some ir_edge_compare := by kernel_rfl
theorem ok_edge_Less : fnOf Proofs.Try.prog Proofs.Try.f11 ir_edge_Less = some ir_edge_Less := by kernel_rfl
theorem ok_edge_Rising : fnOf Proofs.Try.prog Proofs.Try.f13 ir_edge_Rising = some ir_edge_Rising := by kernel_rfl
theorem ok_cmp_isNaN_int64 : fnOf Proofs.Try.prog Proofs.Try.f22 ir_cmp_isNaN_int64 = some ir_cmp_isNaN_int64 := by kernel_rfl
theorem ok_cmp_Compare_int64 : fnOf Proofs.Try.prog Proofs.Try.f20 ir_cmp_Compare_int64 = some ir_cmp_Compare_int64 := by kernel_rfl
theorem ok_edge_Before : fnOf Proofs.Try.prog Proofs.Try.f15 ir_edge_Before = some ir_edge_Before := by kernel_rfl
theorem ok_archipelagolaw8_known : fnOf Proofs.Try.prog Proofs.Try.f7 ir_archipelagolaw8_known = some ir_archipelagolaw8_known := by kernel_rfl
theorem ok_archipelagoref8_Right : fnOf Proofs.Try.prog Proofs.Try.f10 ir_archipelagoref8_Right = some ir_archipelagoref8_Right := by kernel_rfl
theorem ok_archipelagoref8_Less : fnOf Proofs.Try.prog Proofs.Try.f12 ir_archipelagoref8_Less = some ir_archipelagoref8_Less := by kernel_rfl
theorem ok_archipelagolaw8_EdgeTells : fnOf Proofs.Try.prog Proofs.Try.f3 ir_archipelagolaw8_EdgeTells = some ir_archipelagolaw8_EdgeTells := by kernel_rfl
theorem ok_archipelagoref8_Rising : fnOf Proofs.Try.prog Proofs.Try.f14 ir_archipelagoref8_Rising = some ir_archipelagoref8_Rising := by kernel_rfl
theorem ok_archipelagoref8_Before : fnOf Proofs.Try.prog Proofs.Try.f16 ir_archipelagoref8_Before = some ir_archipelagoref8_Before := by kernel_rfl
theorem ok_archipelagolaw8_EdgeLists : fnOf Proofs.Try.prog Proofs.Try.f4 ir_archipelagolaw8_EdgeLists = some ir_archipelagolaw8_EdgeLists := by kernel_rfl
theorem ok_archipelagolaw8_few : fnOf Proofs.Try.prog Proofs.Try.f17 ir_archipelagolaw8_few = some ir_archipelagolaw8_few := by kernel_rfl
theorem ok_archipelagolaw8_EdgeOrders : fnOf Proofs.Try.prog Proofs.Try.f5 ir_archipelagolaw8_EdgeOrders = some ir_archipelagolaw8_EdgeOrders := by kernel_rfl
theorem ok_archipelagolaw8_EdgeNames : fnOf Proofs.Try.prog Proofs.Try.f6 ir_archipelagolaw8_EdgeNames = some ir_archipelagolaw8_EdgeNames := by kernel_rfl
end Go.Ab
