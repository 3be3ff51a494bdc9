/- Each function of the program reads as the abstract machine has it. -/
import Derived.Test.YtaoippgdkilacaaProg
import Derived.Test.YtaoippgdkilacaaAbs2
import Derived.Test.YtaoippgdkilacaaIr
import Derived.KernelRfl
namespace Go.Ab
open Go
theorem ok_cmp_Or_int : fnOf Proofs.Try.prog Proofs.Try.f42 ir_cmp_Or_int = some ir_cmp_Or_int := by kernel_rfl
theorem ok_cmp_isNaN_uint32 : fnOf Proofs.Try.prog Proofs.Try.f44 ir_cmp_isNaN_uint32 = some ir_cmp_isNaN_uint32 := by kernel_rfl
theorem ok_cmp_Compare_uint32 : fnOf Proofs.Try.prog Proofs.Try.f43 ir_cmp_Compare_uint32 = some ir_cmp_Compare_uint32 := by kernel_rfl
theorem ok_edge_compare : fnOf Proofs.Try.prog Proofs.Try.f40 ir_edge_compare = some ir_edge_compare := by kernel_rfl
theorem ok_edge_Less : fnOf Proofs.Try.prog Proofs.Try.f36 ir_edge_Less = some ir_edge_Less := by kernel_rfl
theorem ok_edge_Rising : fnOf Proofs.Try.prog Proofs.Try.f26 ir_edge_Rising = some ir_edge_Rising := by kernel_rfl
theorem ok_varint_Put : fnOf Proofs.Try.prog Proofs.Try.f27 ir_varint_Put = some ir_varint_Put := by kernel_rfl
theorem ok_adj_Put : fnOf Proofs.Try.prog Proofs.Try.f12 ir_adj_Put = some ir_adj_Put := by kernel_rfl
theorem ok_varint_Take : fnOf Proofs.Try.prog Proofs.Try.f41 ir_varint_Take = some ir_varint_Take := by kernel_rfl
theorem ok_adj_reader_num : fnOf Proofs.Try.prog Proofs.Try.f37 ir_adj_reader_num = some ir_adj_reader_num := by kernel_rfl
theorem ok_adj_reader_edges : fnOf Proofs.Try.prog Proofs.Try.f28 ir_adj_reader_edges = some ir_adj_reader_edges := by kernel_rfl
theorem ok_bytes_Equal : fnOf Proofs.Try.prog Proofs.Try.f29 ir_bytes_Equal = some ir_bytes_Equal := by kernel_rfl
theorem ok_adj_Read : fnOf Proofs.Try.prog Proofs.Try.f14 ir_adj_Read = some ir_adj_Read := by kernel_rfl
theorem ok_archipelagoref8_SameEdges : fnOf Proofs.Try.prog Proofs.Try.f16 ir_archipelagoref8_SameEdges = some ir_archipelagoref8_SameEdges := by kernel_rfl
theorem ok_archipelagolaw15_known : fnOf Proofs.Try.prog Proofs.Try.f7 ir_archipelagolaw15_known = some ir_archipelagolaw15_known := by kernel_rfl
theorem ok_archipelagoseat_Vertices : fnOf Proofs.Try.prog Proofs.Try.f17 ir_archipelagoseat_Vertices = some ir_archipelagoseat_Vertices := by kernel_rfl
theorem ok_archipelagoseat_Edge : fnOf Proofs.Try.prog Proofs.Try.f18 ir_archipelagoseat_Edge = some ir_archipelagoseat_Edge := by kernel_rfl
theorem ok_archipelagoref8_Less : fnOf Proofs.Try.prog Proofs.Try.f24 ir_archipelagoref8_Less = some ir_archipelagoref8_Less := by kernel_rfl
theorem ok_archipelagoref8_Before : fnOf Proofs.Try.prog Proofs.Try.f32 ir_archipelagoref8_Before = some ir_archipelagoref8_Before := by kernel_rfl
theorem ok_archipelagoseat_insert : fnOf Proofs.Try.prog Proofs.Try.f19 ir_archipelagoseat_insert = some ir_archipelagoseat_insert := by kernel_rfl
theorem ok_archipelagoref8_Find : fnOf Proofs.Try.prog Proofs.Try.f33 ir_archipelagoref8_Find = some ir_archipelagoref8_Find := by kernel_rfl
theorem ok_archipelagoref8_Has : fnOf Proofs.Try.prog Proofs.Try.f20 ir_archipelagoref8_Has = some ir_archipelagoref8_Has := by kernel_rfl
theorem ok_archipelagoref8_Rising : fnOf Proofs.Try.prog Proofs.Try.f34 ir_archipelagoref8_Rising = some ir_archipelagoref8_Rising := by kernel_rfl
theorem ok_archipelagoref8_Turn : fnOf Proofs.Try.prog Proofs.Try.f21 ir_archipelagoref8_Turn = some ir_archipelagoref8_Turn := by kernel_rfl
theorem ok_archipelagoseat_History : fnOf Proofs.Try.prog Proofs.Try.f8 ir_archipelagoseat_History = some ir_archipelagoseat_History := by kernel_rfl
theorem ok_archipelagoref8_Right : fnOf Proofs.Try.prog Proofs.Try.f39 ir_archipelagoref8_Right = some ir_archipelagoref8_Right := by kernel_rfl
theorem ok_archipelagoref8_Check : fnOf Proofs.Try.prog Proofs.Try.f35 ir_archipelagoref8_Check = some ir_archipelagoref8_Check := by kernel_rfl
theorem ok_archipelagoref8_After : fnOf Proofs.Try.prog Proofs.Try.f22 ir_archipelagoref8_After = some ir_archipelagoref8_After := by kernel_rfl
theorem ok_archipelagoref8_Upto : fnOf Proofs.Try.prog Proofs.Try.f23 ir_archipelagoref8_Upto = some ir_archipelagoref8_Upto := by kernel_rfl
theorem ok_archipelagoref8_At : fnOf Proofs.Try.prog Proofs.Try.f9 ir_archipelagoref8_At = some ir_archipelagoref8_At := by kernel_rfl
theorem ok_archipelagoseat_Time : fnOf Proofs.Try.prog Proofs.Try.f10 ir_archipelagoseat_Time = some ir_archipelagoseat_Time := by kernel_rfl
theorem ok_archipelagoref1_Put : fnOf Proofs.Try.prog Proofs.Try.f25 ir_archipelagoref1_Put = some ir_archipelagoref1_Put := by kernel_rfl
theorem ok_archipelagoref15_AdjPut : fnOf Proofs.Try.prog Proofs.Try.f11 ir_archipelagoref15_AdjPut = some ir_archipelagoref15_AdjPut := by kernel_rfl
theorem ok_archipelagoseat_Change : fnOf Proofs.Try.prog Proofs.Try.f13 ir_archipelagoseat_Change = some ir_archipelagoseat_Change := by kernel_rfl
theorem ok_archipelagoref1_Take : fnOf Proofs.Try.prog Proofs.Try.f38 ir_archipelagoref1_Take = some ir_archipelagoref1_Take := by kernel_rfl
theorem ok_archipelagoref15_numbers : fnOf Proofs.Try.prog Proofs.Try.f30 ir_archipelagoref15_numbers = some ir_archipelagoref15_numbers := by kernel_rfl
theorem ok_archipelagoref15_near : fnOf Proofs.Try.prog Proofs.Try.f31 ir_archipelagoref15_near = some ir_archipelagoref15_near := by kernel_rfl
theorem ok_archipelagoref15_AdjRead : fnOf Proofs.Try.prog Proofs.Try.f15 ir_archipelagoref15_AdjRead = some ir_archipelagoref15_AdjRead := by kernel_rfl
theorem ok_archipelagolaw15_AdjTells : fnOf Proofs.Try.prog Proofs.Try.f3 ir_archipelagolaw15_AdjTells = some ir_archipelagolaw15_AdjTells := by kernel_rfl
theorem ok_archipelagolaw15_AdjBack : fnOf Proofs.Try.prog Proofs.Try.f4 ir_archipelagolaw15_AdjBack = some ir_archipelagolaw15_AdjBack := by kernel_rfl
theorem ok_archipelagolaw15_AdjSizes : fnOf Proofs.Try.prog Proofs.Try.f5 ir_archipelagolaw15_AdjSizes = some ir_archipelagolaw15_AdjSizes := by kernel_rfl
theorem ok_archipelagolaw15_AdjStrange : fnOf Proofs.Try.prog Proofs.Try.f6 ir_archipelagolaw15_AdjStrange = some ir_archipelagolaw15_AdjStrange := by kernel_rfl
end Go.Ab
