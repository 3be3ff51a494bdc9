/- Each function of the program reads as the abstract machine has it. -/
import Derived.Test.YtdhoihialekgmaaProg
import Derived.Test.YtdhoihialekgmaaAbs2
import Derived.Test.YtdhoihialekgmaaIr
import Derived.KernelRfl
namespace Go.Ab
open Go
theorem ok_edge_Right : fnOf Proofs.Try.prog Proofs.Try.f25 ir_edge_Right = some ir_edge_Right := by kernel_rfl
theorem ok_cmp_Or_int : fnOf Proofs.Try.prog Proofs.Try.f37 ir_cmp_Or_int = some ir_cmp_Or_int := by kernel_rfl
theorem ok_cmp_isNaN_int64 : fnOf Proofs.Try.prog Proofs.Try.f40 ir_cmp_isNaN_int64 = some ir_cmp_isNaN_int64 := by kernel_rfl
theorem ok_cmp_Compare_int64 : fnOf Proofs.Try.prog Proofs.Try.f38 ir_cmp_Compare_int64 = some ir_cmp_Compare_int64 := by kernel_rfl
theorem ok_cmp_isNaN_uint32 : fnOf Proofs.Try.prog Proofs.Try.f42 ir_cmp_isNaN_uint32 = some ir_cmp_isNaN_uint32 := by kernel_rfl
theorem ok_cmp_Compare_uint32 : fnOf Proofs.Try.prog Proofs.Try.f41 ir_cmp_Compare_uint32 = some ir_cmp_Compare_uint32 := by kernel_rfl
theorem ok_edge_compare : fnOf Proofs.Try.prog Proofs.Try.f39 ir_edge_compare = some ir_edge_compare := by kernel_rfl
theorem ok_edge_Before : fnOf Proofs.Try.prog Proofs.Try.f26 ir_edge_Before = some ir_edge_Before := by kernel_rfl
theorem ok_history_Check : fnOf Proofs.Try.prog Proofs.Try.f11 ir_history_Check = some ir_history_Check := by kernel_rfl
theorem ok_slices_Equal_api_Event_api_Event : fnOf Proofs.Try.prog Proofs.Try.f29 ir_slices_Equal_api_Event_api_Event = some ir_slices_Equal_api_Event_api_Event := by kernel_rfl
theorem ok_history_Same : fnOf Proofs.Try.prog Proofs.Try.f13 ir_history_Same = some ir_history_Same := by kernel_rfl
theorem ok_slices_Clone_api_Event_api_Event : fnOf Proofs.Try.prog Proofs.Try.f31 ir_slices_Clone_api_Event_api_Event = some ir_slices_Clone_api_Event_api_Event := by kernel_rfl
theorem ok_history_Copy : fnOf Proofs.Try.prog Proofs.Try.f15 ir_history_Copy = some ir_history_Copy := by kernel_rfl
theorem ok_history_Last : fnOf Proofs.Try.prog Proofs.Try.f16 ir_history_Last = some ir_history_Last := by kernel_rfl
theorem ok_sort_Search : fnOf Proofs.Try.prog Proofs.Try.f32 ir_sort_Search = some ir_sort_Search := by kernel_rfl
theorem ok_history_Upto_1 : fnOf Proofs.Try.prog Proofs.Try.f33 ir_history_Upto_1 = some ir_history_Upto_1 := by kernel_rfl
theorem ok_history_Upto : fnOf Proofs.Try.prog Proofs.Try.f18 ir_history_Upto = some ir_history_Upto := by kernel_rfl
theorem ok_archipelagolaw9_known : fnOf Proofs.Try.prog Proofs.Try.f7 ir_archipelagolaw9_known = some ir_archipelagolaw9_known := by kernel_rfl
theorem ok_archipelagoseat_Vertices : fnOf Proofs.Try.prog Proofs.Try.f20 ir_archipelagoseat_Vertices = some ir_archipelagoseat_Vertices := by kernel_rfl
theorem ok_archipelagoseat_Edge : fnOf Proofs.Try.prog Proofs.Try.f21 ir_archipelagoseat_Edge = some ir_archipelagoseat_Edge := by kernel_rfl
theorem ok_archipelagoref8_Less : fnOf Proofs.Try.prog Proofs.Try.f36 ir_archipelagoref8_Less = some ir_archipelagoref8_Less := by kernel_rfl
theorem ok_archipelagoref8_Before : fnOf Proofs.Try.prog Proofs.Try.f28 ir_archipelagoref8_Before = some ir_archipelagoref8_Before := by kernel_rfl
theorem ok_archipelagoseat_insert : fnOf Proofs.Try.prog Proofs.Try.f22 ir_archipelagoseat_insert = some ir_archipelagoseat_insert := by kernel_rfl
theorem ok_archipelagoref8_Find : fnOf Proofs.Try.prog Proofs.Try.f34 ir_archipelagoref8_Find = some ir_archipelagoref8_Find := by kernel_rfl
theorem ok_archipelagoref8_Has : fnOf Proofs.Try.prog Proofs.Try.f23 ir_archipelagoref8_Has = some ir_archipelagoref8_Has := by kernel_rfl
theorem ok_archipelagoref8_Rising : fnOf Proofs.Try.prog Proofs.Try.f35 ir_archipelagoref8_Rising = some ir_archipelagoref8_Rising := by kernel_rfl
theorem ok_archipelagoref8_Turn : fnOf Proofs.Try.prog Proofs.Try.f24 ir_archipelagoref8_Turn = some ir_archipelagoref8_Turn := by kernel_rfl
theorem ok_archipelagoseat_History : fnOf Proofs.Try.prog Proofs.Try.f8 ir_archipelagoseat_History = some ir_archipelagoseat_History := by kernel_rfl
theorem ok_archipelagoseat_Bent : fnOf Proofs.Try.prog Proofs.Try.f9 ir_archipelagoseat_Bent = some ir_archipelagoseat_Bent := by kernel_rfl
theorem ok_archipelagoseat_Late : fnOf Proofs.Try.prog Proofs.Try.f10 ir_archipelagoseat_Late = some ir_archipelagoseat_Late := by kernel_rfl
theorem ok_archipelagoref8_Right : fnOf Proofs.Try.prog Proofs.Try.f27 ir_archipelagoref8_Right = some ir_archipelagoref8_Right := by kernel_rfl
theorem ok_archipelagoref8_Check : fnOf Proofs.Try.prog Proofs.Try.f12 ir_archipelagoref8_Check = some ir_archipelagoref8_Check := by kernel_rfl
theorem ok_archipelagoref8_SameEvents : fnOf Proofs.Try.prog Proofs.Try.f30 ir_archipelagoref8_SameEvents = some ir_archipelagoref8_SameEvents := by kernel_rfl
theorem ok_archipelagoref8_Same : fnOf Proofs.Try.prog Proofs.Try.f14 ir_archipelagoref8_Same = some ir_archipelagoref8_Same := by kernel_rfl
theorem ok_archipelagolaw9_HistoryTells : fnOf Proofs.Try.prog Proofs.Try.f3 ir_archipelagolaw9_HistoryTells = some ir_archipelagolaw9_HistoryTells := by kernel_rfl
theorem ok_archipelagoseat_Time : fnOf Proofs.Try.prog Proofs.Try.f17 ir_archipelagoseat_Time = some ir_archipelagoseat_Time := by kernel_rfl
theorem ok_archipelagoref8_Upto : fnOf Proofs.Try.prog Proofs.Try.f19 ir_archipelagoref8_Upto = some ir_archipelagoref8_Upto := by kernel_rfl
theorem ok_archipelagolaw9_HistoryUpto : fnOf Proofs.Try.prog Proofs.Try.f4 ir_archipelagolaw9_HistoryUpto = some ir_archipelagolaw9_HistoryUpto := by kernel_rfl
theorem ok_archipelagolaw9_HistoryParts : fnOf Proofs.Try.prog Proofs.Try.f5 ir_archipelagolaw9_HistoryParts = some ir_archipelagolaw9_HistoryParts := by kernel_rfl
theorem ok_archipelagolaw9_HistoryCopies : fnOf Proofs.Try.prog Proofs.Try.f6 ir_archipelagolaw9_HistoryCopies = some ir_archipelagolaw9_HistoryCopies := by kernel_rfl
end Go.Ab
