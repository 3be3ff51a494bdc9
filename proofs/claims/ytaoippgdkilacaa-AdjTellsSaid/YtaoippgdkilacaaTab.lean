/- The table of functions (printed by wip/tabgen.py). -/
import Derived.Test.YtaoippgdkilacaaIrOk
import Derived.Test.YtaoippgdkilacaaProg
import Derived.Test.YtaoippgdkilacaaAbsL
namespace Go.Ab
open Go
def tab : Tab := fun n => match n with
  | 42 => some ir_cmp_Or_int
  | 44 => some ir_cmp_isNaN_uint32
  | 43 => some ir_cmp_Compare_uint32
  | 40 => some ir_edge_compare
  | 36 => some ir_edge_Less
  | 26 => some ir_edge_Rising
  | 27 => some ir_varint_Put
  | 12 => some ir_adj_Put
  | 41 => some ir_varint_Take
  | 37 => some ir_adj_reader_num
  | 28 => some ir_adj_reader_edges
  | 29 => some ir_bytes_Equal
  | 14 => some ir_adj_Read
  | 16 => some ir_archipelagoref8_SameEdges
  | 7 => some ir_archipelagolaw15_known
  | 17 => some ir_archipelagoseat_Vertices
  | 18 => some ir_archipelagoseat_Edge
  | 24 => some ir_archipelagoref8_Less
  | 32 => some ir_archipelagoref8_Before
  | 19 => some ir_archipelagoseat_insert
  | 33 => some ir_archipelagoref8_Find
  | 20 => some ir_archipelagoref8_Has
  | 34 => some ir_archipelagoref8_Rising
  | 21 => some ir_archipelagoref8_Turn
  | 8 => some ir_archipelagoseat_History
  | 39 => some ir_archipelagoref8_Right
  | 35 => some ir_archipelagoref8_Check
  | 22 => some ir_archipelagoref8_After
  | 23 => some ir_archipelagoref8_Upto
  | 9 => some ir_archipelagoref8_At
  | 10 => some ir_archipelagoseat_Time
  | 25 => some ir_archipelagoref1_Put
  | 11 => some ir_archipelagoref15_AdjPut
  | 13 => some ir_archipelagoseat_Change
  | 38 => some ir_archipelagoref1_Take
  | 30 => some ir_archipelagoref15_numbers
  | 31 => some ir_archipelagoref15_near
  | 15 => some ir_archipelagoref15_AdjRead
  | 3 => some ir_archipelagolaw15_AdjTells
  | 4 => some ir_archipelagolaw15_AdjBack
  | 5 => some ir_archipelagolaw15_AdjSizes
  | 6 => some ir_archipelagolaw15_AdjStrange
  | _ => none
theorem tab_ok : TabOk Proofs.Try.prog tab := by
  intro f i h
  unfold tab at h
  split at h
  · cases h; exact ⟨_, _, Proofs.Try.func42, ok_cmp_Or_int⟩
  · cases h; exact ⟨_, _, Proofs.Try.func44, ok_cmp_isNaN_uint32⟩
  · cases h; exact ⟨_, _, Proofs.Try.func43, ok_cmp_Compare_uint32⟩
  · cases h; exact ⟨_, _, Proofs.Try.func40, ok_edge_compare⟩
  · cases h; exact ⟨_, _, Proofs.Try.func36, ok_edge_Less⟩
  · cases h; exact ⟨_, _, Proofs.Try.func26, ok_edge_Rising⟩
  · cases h; exact ⟨_, _, Proofs.Try.func27, ok_varint_Put⟩
  · cases h; exact ⟨_, _, Proofs.Try.func12, ok_adj_Put⟩
  · cases h; exact ⟨_, _, Proofs.Try.func41, ok_varint_Take⟩
  · cases h; exact ⟨_, _, Proofs.Try.func37, ok_adj_reader_num⟩
  · cases h; exact ⟨_, _, Proofs.Try.func28, ok_adj_reader_edges⟩
  · cases h; exact ⟨_, _, Proofs.Try.func29, ok_bytes_Equal⟩
  · cases h; exact ⟨_, _, Proofs.Try.func14, ok_adj_Read⟩
  · cases h; exact ⟨_, _, Proofs.Try.func16, ok_archipelagoref8_SameEdges⟩
  · cases h; exact ⟨_, _, Proofs.Try.func7, ok_archipelagolaw15_known⟩
  · cases h; exact ⟨_, _, Proofs.Try.func17, ok_archipelagoseat_Vertices⟩
  · cases h; exact ⟨_, _, Proofs.Try.func18, ok_archipelagoseat_Edge⟩
  · cases h; exact ⟨_, _, Proofs.Try.func24, ok_archipelagoref8_Less⟩
  · cases h; exact ⟨_, _, Proofs.Try.func32, ok_archipelagoref8_Before⟩
  · cases h; exact ⟨_, _, Proofs.Try.func19, ok_archipelagoseat_insert⟩
  · cases h; exact ⟨_, _, Proofs.Try.func33, ok_archipelagoref8_Find⟩
  · cases h; exact ⟨_, _, Proofs.Try.func20, ok_archipelagoref8_Has⟩
  · cases h; exact ⟨_, _, Proofs.Try.func34, ok_archipelagoref8_Rising⟩
  · cases h; exact ⟨_, _, Proofs.Try.func21, ok_archipelagoref8_Turn⟩
  · cases h; exact ⟨_, _, Proofs.Try.func8, ok_archipelagoseat_History⟩
  · cases h; exact ⟨_, _, Proofs.Try.func39, ok_archipelagoref8_Right⟩
  · cases h; exact ⟨_, _, Proofs.Try.func35, ok_archipelagoref8_Check⟩
  · cases h; exact ⟨_, _, Proofs.Try.func22, ok_archipelagoref8_After⟩
  · cases h; exact ⟨_, _, Proofs.Try.func23, ok_archipelagoref8_Upto⟩
  · cases h; exact ⟨_, _, Proofs.Try.func9, ok_archipelagoref8_At⟩
  · cases h; exact ⟨_, _, Proofs.Try.func10, ok_archipelagoseat_Time⟩
  · cases h; exact ⟨_, _, Proofs.Try.func25, ok_archipelagoref1_Put⟩
  · cases h; exact ⟨_, _, Proofs.Try.func11, ok_archipelagoref15_AdjPut⟩
  · cases h; exact ⟨_, _, Proofs.Try.func13, ok_archipelagoseat_Change⟩
  · cases h; exact ⟨_, _, Proofs.Try.func38, ok_archipelagoref1_Take⟩
  · cases h; exact ⟨_, _, Proofs.Try.func30, ok_archipelagoref15_numbers⟩
  · cases h; exact ⟨_, _, Proofs.Try.func31, ok_archipelagoref15_near⟩
  · cases h; exact ⟨_, _, Proofs.Try.func15, ok_archipelagoref15_AdjRead⟩
  · cases h; exact ⟨_, _, Proofs.Try.func3, ok_archipelagolaw15_AdjTells⟩
  · cases h; exact ⟨_, _, Proofs.Try.func4, ok_archipelagolaw15_AdjBack⟩
  · cases h; exact ⟨_, _, Proofs.Try.func5, ok_archipelagolaw15_AdjSizes⟩
  · cases h; exact ⟨_, _, Proofs.Try.func6, ok_archipelagolaw15_AdjStrange⟩
  · cases h
theorem tab_mixed : Proofs.Try.prog.follows .mixedOrders = true := by kernel_rfl
theorem tab_cmp_Or_int : tab fid_cmp_Or_int = some ir_cmp_Or_int := rfl
theorem tab_cmp_isNaN_uint32 : tab fid_cmp_isNaN_uint32 = some ir_cmp_isNaN_uint32 := rfl
theorem tab_cmp_Compare_uint32 : tab fid_cmp_Compare_uint32 = some ir_cmp_Compare_uint32 := rfl
theorem tab_edge_compare : tab fid_edge_compare = some ir_edge_compare := rfl
theorem tab_edge_Less : tab fid_edge_Less = some ir_edge_Less := rfl
theorem tab_edge_Rising : tab fid_edge_Rising = some ir_edge_Rising := rfl
theorem tab_varint_Put : tab fid_varint_Put = some ir_varint_Put := rfl
theorem tab_adj_Put : tab fid_adj_Put = some ir_adj_Put := rfl
theorem tab_varint_Take : tab fid_varint_Take = some ir_varint_Take := rfl
theorem tab_adj_reader_num : tab fid_adj_reader_num = some ir_adj_reader_num := rfl
theorem tab_adj_reader_edges : tab fid_adj_reader_edges = some ir_adj_reader_edges := rfl
theorem tab_bytes_Equal : tab fid_bytes_Equal = some ir_bytes_Equal := rfl
theorem tab_adj_Read : tab fid_adj_Read = some ir_adj_Read := rfl
theorem tab_archipelagoref8_SameEdges : tab fid_archipelagoref8_SameEdges = some ir_archipelagoref8_SameEdges := rfl
theorem tab_archipelagolaw15_known : tab fid_archipelagolaw15_known = some ir_archipelagolaw15_known := rfl
theorem tab_archipelagoseat_Vertices : tab fid_archipelagoseat_Vertices = some ir_archipelagoseat_Vertices := rfl
theorem tab_archipelagoseat_Edge : tab fid_archipelagoseat_Edge = some ir_archipelagoseat_Edge := rfl
theorem tab_archipelagoref8_Less : tab fid_archipelagoref8_Less = some ir_archipelagoref8_Less := rfl
theorem tab_archipelagoref8_Before : tab fid_archipelagoref8_Before = some ir_archipelagoref8_Before := rfl
theorem tab_archipelagoseat_insert : tab fid_archipelagoseat_insert = some ir_archipelagoseat_insert := rfl
theorem tab_archipelagoref8_Find : tab fid_archipelagoref8_Find = some ir_archipelagoref8_Find := rfl
theorem tab_archipelagoref8_Has : tab fid_archipelagoref8_Has = some ir_archipelagoref8_Has := rfl
theorem tab_archipelagoref8_Rising : tab fid_archipelagoref8_Rising = some ir_archipelagoref8_Rising := rfl
theorem tab_archipelagoref8_Turn : tab fid_archipelagoref8_Turn = some ir_archipelagoref8_Turn := rfl
theorem tab_archipelagoseat_History : tab fid_archipelagoseat_History = some ir_archipelagoseat_History := rfl
theorem tab_archipelagoref8_Right : tab fid_archipelagoref8_Right = some ir_archipelagoref8_Right := rfl
theorem tab_archipelagoref8_Check : tab fid_archipelagoref8_Check = some ir_archipelagoref8_Check := rfl
theorem tab_archipelagoref8_After : tab fid_archipelagoref8_After = some ir_archipelagoref8_After := rfl
theorem tab_archipelagoref8_Upto : tab fid_archipelagoref8_Upto = some ir_archipelagoref8_Upto := rfl
theorem tab_archipelagoref8_At : tab fid_archipelagoref8_At = some ir_archipelagoref8_At := rfl
theorem tab_archipelagoseat_Time : tab fid_archipelagoseat_Time = some ir_archipelagoseat_Time := rfl
theorem tab_archipelagoref1_Put : tab fid_archipelagoref1_Put = some ir_archipelagoref1_Put := rfl
theorem tab_archipelagoref15_AdjPut : tab fid_archipelagoref15_AdjPut = some ir_archipelagoref15_AdjPut := rfl
theorem tab_archipelagoseat_Change : tab fid_archipelagoseat_Change = some ir_archipelagoseat_Change := rfl
theorem tab_archipelagoref1_Take : tab fid_archipelagoref1_Take = some ir_archipelagoref1_Take := rfl
theorem tab_archipelagoref15_numbers : tab fid_archipelagoref15_numbers = some ir_archipelagoref15_numbers := rfl
theorem tab_archipelagoref15_near : tab fid_archipelagoref15_near = some ir_archipelagoref15_near := rfl
theorem tab_archipelagoref15_AdjRead : tab fid_archipelagoref15_AdjRead = some ir_archipelagoref15_AdjRead := rfl
theorem tab_archipelagolaw15_AdjTells : tab fid_archipelagolaw15_AdjTells = some ir_archipelagolaw15_AdjTells := rfl
theorem tab_archipelagolaw15_AdjBack : tab fid_archipelagolaw15_AdjBack = some ir_archipelagolaw15_AdjBack := rfl
theorem tab_archipelagolaw15_AdjSizes : tab fid_archipelagolaw15_AdjSizes = some ir_archipelagolaw15_AdjSizes := rfl
theorem tab_archipelagolaw15_AdjStrange : tab fid_archipelagolaw15_AdjStrange = some ir_archipelagolaw15_AdjStrange := rfl
end Go.Ab
