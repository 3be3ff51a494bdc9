/- The table of functions (printed by wip/tabgen.py). -/
import Derived.Test.YtdhoihialekgmaaIrOk
import Derived.Test.YtdhoihialekgmaaProg
import Derived.Test.YtdhoihialekgmaaAbsL
namespace Go.Ab
open Go
def tab : Tab := fun n => match n with
  | 25 => some ir_edge_Right
  | 37 => some ir_cmp_Or_int
  | 40 => some ir_cmp_isNaN_int64
  | 38 => some ir_cmp_Compare_int64
  | 42 => some ir_cmp_isNaN_uint32
  | 41 => some ir_cmp_Compare_uint32
  | 39 => some ir_edge_compare
  | 26 => some ir_edge_Before
  | 11 => some ir_history_Check
  | 29 => some ir_slices_Equal_api_Event_api_Event
  | 13 => some ir_history_Same
  | 31 => some ir_slices_Clone_api_Event_api_Event
  | 15 => some ir_history_Copy
  | 16 => some ir_history_Last
  | 32 => some ir_sort_Search
  | 33 => some ir_history_Upto_1
  | 18 => some ir_history_Upto
  | 7 => some ir_archipelagolaw9_known
  | 20 => some ir_archipelagoseat_Vertices
  | 21 => some ir_archipelagoseat_Edge
  | 36 => some ir_archipelagoref8_Less
  | 28 => some ir_archipelagoref8_Before
  | 22 => some ir_archipelagoseat_insert
  | 34 => some ir_archipelagoref8_Find
  | 23 => some ir_archipelagoref8_Has
  | 35 => some ir_archipelagoref8_Rising
  | 24 => some ir_archipelagoref8_Turn
  | 8 => some ir_archipelagoseat_History
  | 9 => some ir_archipelagoseat_Bent
  | 10 => some ir_archipelagoseat_Late
  | 27 => some ir_archipelagoref8_Right
  | 12 => some ir_archipelagoref8_Check
  | 30 => some ir_archipelagoref8_SameEvents
  | 14 => some ir_archipelagoref8_Same
  | 3 => some ir_archipelagolaw9_HistoryTells
  | 17 => some ir_archipelagoseat_Time
  | 19 => some ir_archipelagoref8_Upto
  | 4 => some ir_archipelagolaw9_HistoryUpto
  | 5 => some ir_archipelagolaw9_HistoryParts
  | 6 => some ir_archipelagolaw9_HistoryCopies
  | _ => none
theorem tab_ok : TabOk Proofs.Try.prog tab := by
  intro f i h
  unfold tab at h
  split at h
  · cases h; exact ⟨_, _, Proofs.Try.func25, ok_edge_Right⟩
  · cases h; exact ⟨_, _, Proofs.Try.func37, ok_cmp_Or_int⟩
  · cases h; exact ⟨_, _, Proofs.Try.func40, ok_cmp_isNaN_int64⟩
  · cases h; exact ⟨_, _, Proofs.Try.func38, ok_cmp_Compare_int64⟩
  · cases h; exact ⟨_, _, Proofs.Try.func42, ok_cmp_isNaN_uint32⟩
  · cases h; exact ⟨_, _, Proofs.Try.func41, ok_cmp_Compare_uint32⟩
  · cases h; exact ⟨_, _, Proofs.Try.func39, ok_edge_compare⟩
  · cases h; exact ⟨_, _, Proofs.Try.func26, ok_edge_Before⟩
  · cases h; exact ⟨_, _, Proofs.Try.func11, ok_history_Check⟩
  · cases h; exact ⟨_, _, Proofs.Try.func29, ok_slices_Equal_api_Event_api_Event⟩
  · cases h; exact ⟨_, _, Proofs.Try.func13, ok_history_Same⟩
  · cases h; exact ⟨_, _, Proofs.Try.func31, ok_slices_Clone_api_Event_api_Event⟩
  · cases h; exact ⟨_, _, Proofs.Try.func15, ok_history_Copy⟩
  · cases h; exact ⟨_, _, Proofs.Try.func16, ok_history_Last⟩
  · cases h; exact ⟨_, _, Proofs.Try.func32, ok_sort_Search⟩
  · cases h; exact ⟨_, _, Proofs.Try.func33, ok_history_Upto_1⟩
  · cases h; exact ⟨_, _, Proofs.Try.func18, ok_history_Upto⟩
  · cases h; exact ⟨_, _, Proofs.Try.func7, ok_archipelagolaw9_known⟩
  · cases h; exact ⟨_, _, Proofs.Try.func20, ok_archipelagoseat_Vertices⟩
  · cases h; exact ⟨_, _, Proofs.Try.func21, ok_archipelagoseat_Edge⟩
  · cases h; exact ⟨_, _, Proofs.Try.func36, ok_archipelagoref8_Less⟩
  · cases h; exact ⟨_, _, Proofs.Try.func28, ok_archipelagoref8_Before⟩
  · cases h; exact ⟨_, _, Proofs.Try.func22, ok_archipelagoseat_insert⟩
  · cases h; exact ⟨_, _, Proofs.Try.func34, ok_archipelagoref8_Find⟩
  · cases h; exact ⟨_, _, Proofs.Try.func23, ok_archipelagoref8_Has⟩
  · cases h; exact ⟨_, _, Proofs.Try.func35, ok_archipelagoref8_Rising⟩
  · cases h; exact ⟨_, _, Proofs.Try.func24, ok_archipelagoref8_Turn⟩
  · cases h; exact ⟨_, _, Proofs.Try.func8, ok_archipelagoseat_History⟩
  · cases h; exact ⟨_, _, Proofs.Try.func9, ok_archipelagoseat_Bent⟩
  · cases h; exact ⟨_, _, Proofs.Try.func10, ok_archipelagoseat_Late⟩
  · cases h; exact ⟨_, _, Proofs.Try.func27, ok_archipelagoref8_Right⟩
  · cases h; exact ⟨_, _, Proofs.Try.func12, ok_archipelagoref8_Check⟩
  · cases h; exact ⟨_, _, Proofs.Try.func30, ok_archipelagoref8_SameEvents⟩
  · cases h; exact ⟨_, _, Proofs.Try.func14, ok_archipelagoref8_Same⟩
  · cases h; exact ⟨_, _, Proofs.Try.func3, ok_archipelagolaw9_HistoryTells⟩
  · cases h; exact ⟨_, _, Proofs.Try.func17, ok_archipelagoseat_Time⟩
  · cases h; exact ⟨_, _, Proofs.Try.func19, ok_archipelagoref8_Upto⟩
  · cases h; exact ⟨_, _, Proofs.Try.func4, ok_archipelagolaw9_HistoryUpto⟩
  · cases h; exact ⟨_, _, Proofs.Try.func5, ok_archipelagolaw9_HistoryParts⟩
  · cases h; exact ⟨_, _, Proofs.Try.func6, ok_archipelagolaw9_HistoryCopies⟩
  · cases h
theorem tab_mixed : Proofs.Try.prog.follows .mixedOrders = true := by kernel_rfl
theorem tab_edge_Right : tab fid_edge_Right = some ir_edge_Right := rfl
theorem tab_cmp_Or_int : tab fid_cmp_Or_int = some ir_cmp_Or_int := rfl
theorem tab_cmp_isNaN_int64 : tab fid_cmp_isNaN_int64 = some ir_cmp_isNaN_int64 := rfl
theorem tab_cmp_Compare_int64 : tab fid_cmp_Compare_int64 = some ir_cmp_Compare_int64 := rfl
theorem tab_cmp_isNaN_uint32 : tab fid_cmp_isNaN_uint32 = some ir_cmp_isNaN_uint32 := rfl
theorem tab_cmp_Compare_uint32 : tab fid_cmp_Compare_uint32 = some ir_cmp_Compare_uint32 := rfl
theorem tab_edge_compare : tab fid_edge_compare = some ir_edge_compare := rfl
theorem tab_edge_Before : tab fid_edge_Before = some ir_edge_Before := rfl
theorem tab_history_Check : tab fid_history_Check = some ir_history_Check := rfl
theorem tab_slices_Equal_api_Event_api_Event : tab fid_slices_Equal_api_Event_api_Event = some ir_slices_Equal_api_Event_api_Event := rfl
theorem tab_history_Same : tab fid_history_Same = some ir_history_Same := rfl
theorem tab_slices_Clone_api_Event_api_Event : tab fid_slices_Clone_api_Event_api_Event = some ir_slices_Clone_api_Event_api_Event := rfl
theorem tab_history_Copy : tab fid_history_Copy = some ir_history_Copy := rfl
theorem tab_history_Last : tab fid_history_Last = some ir_history_Last := rfl
theorem tab_sort_Search : tab fid_sort_Search = some ir_sort_Search := rfl
theorem tab_history_Upto_1 : tab fid_history_Upto_1 = some ir_history_Upto_1 := rfl
theorem tab_history_Upto : tab fid_history_Upto = some ir_history_Upto := rfl
theorem tab_archipelagolaw9_known : tab fid_archipelagolaw9_known = some ir_archipelagolaw9_known := rfl
theorem tab_archipelagoseat_Vertices : tab fid_archipelagoseat_Vertices = some ir_archipelagoseat_Vertices := rfl
theorem tab_archipelagoseat_Edge : tab fid_archipelagoseat_Edge = some ir_archipelagoseat_Edge := rfl
theorem tab_archipelagoref8_Less : tab fid_archipelagoref8_Less = some ir_archipelagoref8_Less := rfl
theorem tab_archipelagoref8_Before : tab fid_archipelagoref8_Before = some ir_archipelagoref8_Before := rfl
theorem tab_archipelagoseat_insert : tab fid_archipelagoseat_insert = some ir_archipelagoseat_insert := rfl
theorem tab_archipelagoref8_Find : tab fid_archipelagoref8_Find = some ir_archipelagoref8_Find := rfl
theorem tab_archipelagoref8_Has : tab fid_archipelagoref8_Has = some ir_archipelagoref8_Has := rfl
theorem tab_archipelagoref8_Rising : tab fid_archipelagoref8_Rising = some ir_archipelagoref8_Rising := rfl
theorem tab_archipelagoref8_Turn : tab fid_archipelagoref8_Turn = some ir_archipelagoref8_Turn := rfl
theorem tab_archipelagoseat_History : tab fid_archipelagoseat_History = some ir_archipelagoseat_History := rfl
theorem tab_archipelagoseat_Bent : tab fid_archipelagoseat_Bent = some ir_archipelagoseat_Bent := rfl
theorem tab_archipelagoseat_Late : tab fid_archipelagoseat_Late = some ir_archipelagoseat_Late := rfl
theorem tab_archipelagoref8_Right : tab fid_archipelagoref8_Right = some ir_archipelagoref8_Right := rfl
theorem tab_archipelagoref8_Check : tab fid_archipelagoref8_Check = some ir_archipelagoref8_Check := rfl
theorem tab_archipelagoref8_SameEvents : tab fid_archipelagoref8_SameEvents = some ir_archipelagoref8_SameEvents := rfl
theorem tab_archipelagoref8_Same : tab fid_archipelagoref8_Same = some ir_archipelagoref8_Same := rfl
theorem tab_archipelagolaw9_HistoryTells : tab fid_archipelagolaw9_HistoryTells = some ir_archipelagolaw9_HistoryTells := rfl
theorem tab_archipelagoseat_Time : tab fid_archipelagoseat_Time = some ir_archipelagoseat_Time := rfl
theorem tab_archipelagoref8_Upto : tab fid_archipelagoref8_Upto = some ir_archipelagoref8_Upto := rfl
theorem tab_archipelagolaw9_HistoryUpto : tab fid_archipelagolaw9_HistoryUpto = some ir_archipelagolaw9_HistoryUpto := rfl
theorem tab_archipelagolaw9_HistoryParts : tab fid_archipelagolaw9_HistoryParts = some ir_archipelagolaw9_HistoryParts := rfl
theorem tab_archipelagolaw9_HistoryCopies : tab fid_archipelagolaw9_HistoryCopies = some ir_archipelagolaw9_HistoryCopies := rfl
end Go.Ab
