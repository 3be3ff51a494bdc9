/- The functions as the machine of values has them (printed by wip/irgen.py). -/
import Derived.Test.YtaoippgdkilacaaTab
import Derived.Test.YtaoippgdkilacaaValM
namespace Go.Ab
open Go
def g_cmp_Or_int : GFn := ⟨.own, ⟨[], []⟩, ir_cmp_Or_int⟩
def g_cmp_isNaN_uint32 : GFn := ⟨.own, ⟨[], []⟩, ir_cmp_isNaN_uint32⟩
def g_cmp_Compare_uint32 : GFn := ⟨.own, ⟨[], []⟩, ir_cmp_Compare_uint32⟩
def g_edge_compare : GFn := ⟨.own, ⟨[], []⟩, ir_edge_compare⟩
def g_edge_Less : GFn := ⟨.own, ⟨[], []⟩, ir_edge_Less⟩
def g_edge_Rising : GFn := ⟨.own, ⟨[], []⟩, ir_edge_Rising⟩
def g_varint_Put : GFn := ⟨.own, ⟨[], []⟩, ir_varint_Put⟩
def g_adj_Put : GFn := ⟨.own, ⟨[], []⟩, ir_adj_Put⟩
def g_varint_Take : GFn := ⟨.own, ⟨[], []⟩, ir_varint_Take⟩
def g_adj_reader_num : GFn := ⟨.rw, ⟨[], []⟩, ir_adj_reader_num⟩
def g_adj_reader_edges : GFn := ⟨.rw, ⟨[], []⟩, ir_adj_reader_edges⟩
def g_bytes_Equal : GFn := ⟨.own, ⟨[], []⟩, ir_bytes_Equal⟩
def g_adj_Read : GFn := ⟨.own, ⟨[], []⟩, ir_adj_Read⟩
def g_archipelagoref8_SameEdges : GFn := ⟨.own, ⟨[], []⟩, ir_archipelagoref8_SameEdges⟩
def g_archipelagolaw15_known : GFn := ⟨.own, ⟨[], []⟩, ir_archipelagolaw15_known⟩
def g_archipelagoseat_Vertices : GFn := ⟨.own, ⟨[], []⟩, ir_archipelagoseat_Vertices⟩
def g_archipelagoseat_Edge : GFn := ⟨.own, ⟨[], []⟩, ir_archipelagoseat_Edge⟩
def g_archipelagoref8_Less : GFn := ⟨.own, ⟨[], []⟩, ir_archipelagoref8_Less⟩
def g_archipelagoref8_Before : GFn := ⟨.own, ⟨[], []⟩, ir_archipelagoref8_Before⟩
def g_archipelagoseat_insert : GFn := ⟨.own, ⟨[], []⟩, ir_archipelagoseat_insert⟩
def g_archipelagoref8_Find : GFn := ⟨.own, ⟨[], []⟩, ir_archipelagoref8_Find⟩
def g_archipelagoref8_Has : GFn := ⟨.own, ⟨[], []⟩, ir_archipelagoref8_Has⟩
def g_archipelagoref8_Rising : GFn := ⟨.own, ⟨[], []⟩, ir_archipelagoref8_Rising⟩
def g_archipelagoref8_Turn : GFn := ⟨.own, ⟨[], []⟩, ir_archipelagoref8_Turn⟩
def g_archipelagoseat_History : GFn := ⟨.own, ⟨[98], []⟩, ir_archipelagoseat_History⟩
def g_archipelagoref8_Right : GFn := ⟨.own, ⟨[], []⟩, ir_archipelagoref8_Right⟩
def g_archipelagoref8_Check : GFn := ⟨.own, ⟨[], []⟩, ir_archipelagoref8_Check⟩
def g_archipelagoref8_After : GFn := ⟨.own, ⟨[], []⟩, ir_archipelagoref8_After⟩
def g_archipelagoref8_Upto : GFn := ⟨.own, ⟨[], []⟩, ir_archipelagoref8_Upto⟩
def g_archipelagoref8_At : GFn := ⟨.own, ⟨[], []⟩, ir_archipelagoref8_At⟩
def g_archipelagoseat_Time : GFn := ⟨.own, ⟨[], []⟩, ir_archipelagoseat_Time⟩
def g_archipelagoref1_Put : GFn := ⟨.own, ⟨[], []⟩, ir_archipelagoref1_Put⟩
def g_archipelagoref15_AdjPut : GFn := ⟨.own, ⟨[], []⟩, ir_archipelagoref15_AdjPut⟩
def g_archipelagoseat_Change : GFn := ⟨.own, ⟨[], [14, 30, 35]⟩, ir_archipelagoseat_Change⟩
def g_archipelagoref1_Take : GFn := ⟨.own, ⟨[], []⟩, ir_archipelagoref1_Take⟩
def g_archipelagoref15_numbers : GFn := ⟨.own, ⟨[], []⟩, ir_archipelagoref15_numbers⟩
def g_archipelagoref15_near : GFn := ⟨.own, ⟨[], []⟩, ir_archipelagoref15_near⟩
def g_archipelagoref15_AdjRead : GFn := ⟨.own, ⟨[], []⟩, ir_archipelagoref15_AdjRead⟩
def g_archipelagolaw15_AdjTells : GFn := ⟨.own, ⟨[], []⟩, ir_archipelagolaw15_AdjTells⟩
def g_archipelagolaw15_AdjBack : GFn := ⟨.own, ⟨[], []⟩, ir_archipelagolaw15_AdjBack⟩
def g_archipelagolaw15_AdjSizes : GFn := ⟨.own, ⟨[], []⟩, ir_archipelagolaw15_AdjSizes⟩
def g_archipelagolaw15_AdjStrange : GFn := ⟨.own, ⟨[], []⟩, ir_archipelagolaw15_AdjStrange⟩
def gtab : GTab := fun n => match n with
  | 42 => some (.code g_cmp_Or_int)
  | 44 => some (.code g_cmp_isNaN_uint32)
  | 43 => some (.code g_cmp_Compare_uint32)
  | 40 => some (.code g_edge_compare)
  | 36 => some (.code g_edge_Less)
  | 26 => some (.code g_edge_Rising)
  | 27 => some (.code g_varint_Put)
  | 12 => some (.code g_adj_Put)
  | 41 => some (.code g_varint_Take)
  | 37 => some (.code g_adj_reader_num)
  | 28 => some (.code g_adj_reader_edges)
  | 29 => some (.code g_bytes_Equal)
  | 14 => some (.code g_adj_Read)
  | 16 => some (.code g_archipelagoref8_SameEdges)
  | 7 => some (.code g_archipelagolaw15_known)
  | 17 => some (.code g_archipelagoseat_Vertices)
  | 18 => some (.code g_archipelagoseat_Edge)
  | 24 => some (.code g_archipelagoref8_Less)
  | 32 => some (.code g_archipelagoref8_Before)
  | 19 => some (.code g_archipelagoseat_insert)
  | 33 => some (.code g_archipelagoref8_Find)
  | 20 => some (.code g_archipelagoref8_Has)
  | 34 => some (.code g_archipelagoref8_Rising)
  | 21 => some (.code g_archipelagoref8_Turn)
  | 8 => some (.code g_archipelagoseat_History)
  | 39 => some (.code g_archipelagoref8_Right)
  | 35 => some (.code g_archipelagoref8_Check)
  | 22 => some (.code g_archipelagoref8_After)
  | 23 => some (.code g_archipelagoref8_Upto)
  | 9 => some (.code g_archipelagoref8_At)
  | 10 => some (.code g_archipelagoseat_Time)
  | 25 => some (.code g_archipelagoref1_Put)
  | 11 => some (.code g_archipelagoref15_AdjPut)
  | 13 => some (.code g_archipelagoseat_Change)
  | 38 => some (.code g_archipelagoref1_Take)
  | 30 => some (.code g_archipelagoref15_numbers)
  | 31 => some (.code g_archipelagoref15_near)
  | 15 => some (.code g_archipelagoref15_AdjRead)
  | 3 => some (.code g_archipelagolaw15_AdjTells)
  | 4 => some (.code g_archipelagolaw15_AdjBack)
  | 5 => some (.code g_archipelagolaw15_AdjSizes)
  | 6 => some (.code g_archipelagolaw15_AdjStrange)
  | _ => none
theorem gt_cmp_Or_int : gtab fid_cmp_Or_int = some (.code g_cmp_Or_int) := rfl
theorem gt_cmp_isNaN_uint32 : gtab fid_cmp_isNaN_uint32 = some (.code g_cmp_isNaN_uint32) := rfl
theorem gt_cmp_Compare_uint32 : gtab fid_cmp_Compare_uint32 = some (.code g_cmp_Compare_uint32) := rfl
theorem gt_edge_compare : gtab fid_edge_compare = some (.code g_edge_compare) := rfl
theorem gt_edge_Less : gtab fid_edge_Less = some (.code g_edge_Less) := rfl
theorem gt_edge_Rising : gtab fid_edge_Rising = some (.code g_edge_Rising) := rfl
theorem gt_varint_Put : gtab fid_varint_Put = some (.code g_varint_Put) := rfl
theorem gt_adj_Put : gtab fid_adj_Put = some (.code g_adj_Put) := rfl
theorem gt_varint_Take : gtab fid_varint_Take = some (.code g_varint_Take) := rfl
theorem gt_adj_reader_num : gtab fid_adj_reader_num = some (.code g_adj_reader_num) := rfl
theorem gt_adj_reader_edges : gtab fid_adj_reader_edges = some (.code g_adj_reader_edges) := rfl
theorem gt_bytes_Equal : gtab fid_bytes_Equal = some (.code g_bytes_Equal) := rfl
theorem gt_adj_Read : gtab fid_adj_Read = some (.code g_adj_Read) := rfl
theorem gt_archipelagoref8_SameEdges : gtab fid_archipelagoref8_SameEdges = some (.code g_archipelagoref8_SameEdges) := rfl
theorem gt_archipelagolaw15_known : gtab fid_archipelagolaw15_known = some (.code g_archipelagolaw15_known) := rfl
theorem gt_archipelagoseat_Vertices : gtab fid_archipelagoseat_Vertices = some (.code g_archipelagoseat_Vertices) := rfl
theorem gt_archipelagoseat_Edge : gtab fid_archipelagoseat_Edge = some (.code g_archipelagoseat_Edge) := rfl
theorem gt_archipelagoref8_Less : gtab fid_archipelagoref8_Less = some (.code g_archipelagoref8_Less) := rfl
theorem gt_archipelagoref8_Before : gtab fid_archipelagoref8_Before = some (.code g_archipelagoref8_Before) := rfl
theorem gt_archipelagoseat_insert : gtab fid_archipelagoseat_insert = some (.code g_archipelagoseat_insert) := rfl
theorem gt_archipelagoref8_Find : gtab fid_archipelagoref8_Find = some (.code g_archipelagoref8_Find) := rfl
theorem gt_archipelagoref8_Has : gtab fid_archipelagoref8_Has = some (.code g_archipelagoref8_Has) := rfl
theorem gt_archipelagoref8_Rising : gtab fid_archipelagoref8_Rising = some (.code g_archipelagoref8_Rising) := rfl
theorem gt_archipelagoref8_Turn : gtab fid_archipelagoref8_Turn = some (.code g_archipelagoref8_Turn) := rfl
theorem gt_archipelagoseat_History : gtab fid_archipelagoseat_History = some (.code g_archipelagoseat_History) := rfl
theorem gt_archipelagoref8_Right : gtab fid_archipelagoref8_Right = some (.code g_archipelagoref8_Right) := rfl
theorem gt_archipelagoref8_Check : gtab fid_archipelagoref8_Check = some (.code g_archipelagoref8_Check) := rfl
theorem gt_archipelagoref8_After : gtab fid_archipelagoref8_After = some (.code g_archipelagoref8_After) := rfl
theorem gt_archipelagoref8_Upto : gtab fid_archipelagoref8_Upto = some (.code g_archipelagoref8_Upto) := rfl
theorem gt_archipelagoref8_At : gtab fid_archipelagoref8_At = some (.code g_archipelagoref8_At) := rfl
theorem gt_archipelagoseat_Time : gtab fid_archipelagoseat_Time = some (.code g_archipelagoseat_Time) := rfl
theorem gt_archipelagoref1_Put : gtab fid_archipelagoref1_Put = some (.code g_archipelagoref1_Put) := rfl
theorem gt_archipelagoref15_AdjPut : gtab fid_archipelagoref15_AdjPut = some (.code g_archipelagoref15_AdjPut) := rfl
theorem gt_archipelagoseat_Change : gtab fid_archipelagoseat_Change = some (.code g_archipelagoseat_Change) := rfl
theorem gt_archipelagoref1_Take : gtab fid_archipelagoref1_Take = some (.code g_archipelagoref1_Take) := rfl
theorem gt_archipelagoref15_numbers : gtab fid_archipelagoref15_numbers = some (.code g_archipelagoref15_numbers) := rfl
theorem gt_archipelagoref15_near : gtab fid_archipelagoref15_near = some (.code g_archipelagoref15_near) := rfl
theorem gt_archipelagoref15_AdjRead : gtab fid_archipelagoref15_AdjRead = some (.code g_archipelagoref15_AdjRead) := rfl
theorem gt_archipelagolaw15_AdjTells : gtab fid_archipelagolaw15_AdjTells = some (.code g_archipelagolaw15_AdjTells) := rfl
theorem gt_archipelagolaw15_AdjBack : gtab fid_archipelagolaw15_AdjBack = some (.code g_archipelagolaw15_AdjBack) := rfl
theorem gt_archipelagolaw15_AdjSizes : gtab fid_archipelagolaw15_AdjSizes = some (.code g_archipelagolaw15_AdjSizes) := rfl
theorem gt_archipelagolaw15_AdjStrange : gtab fid_archipelagolaw15_AdjStrange = some (.code g_archipelagolaw15_AdjStrange) := rfl
theorem gc_cmp_Or_int {call : GCallF} {lo : Nat} {us : List U} {h : GH} : gcall gtab call lo fid_cmp_Or_int us h = ownCall call lo fid_cmp_Or_int us h := rfl
theorem gc_cmp_isNaN_uint32 {call : GCallF} {lo : Nat} {us : List U} {h : GH} : gcall gtab call lo fid_cmp_isNaN_uint32 us h = ownCall call lo fid_cmp_isNaN_uint32 us h := rfl
theorem gc_cmp_Compare_uint32 {call : GCallF} {lo : Nat} {us : List U} {h : GH} : gcall gtab call lo fid_cmp_Compare_uint32 us h = ownCall call lo fid_cmp_Compare_uint32 us h := rfl
theorem gc_edge_compare {call : GCallF} {lo : Nat} {us : List U} {h : GH} : gcall gtab call lo fid_edge_compare us h = ownCall call lo fid_edge_compare us h := rfl
theorem gc_edge_Less {call : GCallF} {lo : Nat} {us : List U} {h : GH} : gcall gtab call lo fid_edge_Less us h = ownCall call lo fid_edge_Less us h := rfl
theorem gc_edge_Rising {call : GCallF} {lo : Nat} {us : List U} {h : GH} : gcall gtab call lo fid_edge_Rising us h = ownCall call lo fid_edge_Rising us h := rfl
theorem gc_varint_Put {call : GCallF} {lo : Nat} {us : List U} {h : GH} : gcall gtab call lo fid_varint_Put us h = ownCall call lo fid_varint_Put us h := rfl
theorem gc_adj_Put {call : GCallF} {lo : Nat} {us : List U} {h : GH} : gcall gtab call lo fid_adj_Put us h = ownCall call lo fid_adj_Put us h := rfl
theorem gc_varint_Take {call : GCallF} {lo : Nat} {us : List U} {h : GH} : gcall gtab call lo fid_varint_Take us h = ownCall call lo fid_varint_Take us h := rfl
theorem gc_adj_reader_num {call : GCallF} {lo : Nat} {us : List U} {h : GH} : gcall gtab call lo fid_adj_reader_num us h = rwCall call lo fid_adj_reader_num us h := rfl
theorem gc_adj_reader_edges {call : GCallF} {lo : Nat} {us : List U} {h : GH} : gcall gtab call lo fid_adj_reader_edges us h = rwCall call lo fid_adj_reader_edges us h := rfl
theorem gc_bytes_Equal {call : GCallF} {lo : Nat} {us : List U} {h : GH} : gcall gtab call lo fid_bytes_Equal us h = ownCall call lo fid_bytes_Equal us h := rfl
theorem gc_adj_Read {call : GCallF} {lo : Nat} {us : List U} {h : GH} : gcall gtab call lo fid_adj_Read us h = ownCall call lo fid_adj_Read us h := rfl
theorem gc_archipelagoref8_SameEdges {call : GCallF} {lo : Nat} {us : List U} {h : GH} : gcall gtab call lo fid_archipelagoref8_SameEdges us h = ownCall call lo fid_archipelagoref8_SameEdges us h := rfl
theorem gc_archipelagolaw15_known {call : GCallF} {lo : Nat} {us : List U} {h : GH} : gcall gtab call lo fid_archipelagolaw15_known us h = ownCall call lo fid_archipelagolaw15_known us h := rfl
theorem gc_archipelagoseat_Vertices {call : GCallF} {lo : Nat} {us : List U} {h : GH} : gcall gtab call lo fid_archipelagoseat_Vertices us h = ownCall call lo fid_archipelagoseat_Vertices us h := rfl
theorem gc_archipelagoseat_Edge {call : GCallF} {lo : Nat} {us : List U} {h : GH} : gcall gtab call lo fid_archipelagoseat_Edge us h = ownCall call lo fid_archipelagoseat_Edge us h := rfl
theorem gc_archipelagoref8_Less {call : GCallF} {lo : Nat} {us : List U} {h : GH} : gcall gtab call lo fid_archipelagoref8_Less us h = ownCall call lo fid_archipelagoref8_Less us h := rfl
theorem gc_archipelagoref8_Before {call : GCallF} {lo : Nat} {us : List U} {h : GH} : gcall gtab call lo fid_archipelagoref8_Before us h = ownCall call lo fid_archipelagoref8_Before us h := rfl
theorem gc_archipelagoseat_insert {call : GCallF} {lo : Nat} {us : List U} {h : GH} : gcall gtab call lo fid_archipelagoseat_insert us h = ownCall call lo fid_archipelagoseat_insert us h := rfl
theorem gc_archipelagoref8_Find {call : GCallF} {lo : Nat} {us : List U} {h : GH} : gcall gtab call lo fid_archipelagoref8_Find us h = ownCall call lo fid_archipelagoref8_Find us h := rfl
theorem gc_archipelagoref8_Has {call : GCallF} {lo : Nat} {us : List U} {h : GH} : gcall gtab call lo fid_archipelagoref8_Has us h = ownCall call lo fid_archipelagoref8_Has us h := rfl
theorem gc_archipelagoref8_Rising {call : GCallF} {lo : Nat} {us : List U} {h : GH} : gcall gtab call lo fid_archipelagoref8_Rising us h = ownCall call lo fid_archipelagoref8_Rising us h := rfl
theorem gc_archipelagoref8_Turn {call : GCallF} {lo : Nat} {us : List U} {h : GH} : gcall gtab call lo fid_archipelagoref8_Turn us h = ownCall call lo fid_archipelagoref8_Turn us h := rfl
theorem gc_archipelagoseat_History {call : GCallF} {lo : Nat} {us : List U} {h : GH} : gcall gtab call lo fid_archipelagoseat_History us h = ownCall call lo fid_archipelagoseat_History us h := rfl
theorem gc_archipelagoref8_Right {call : GCallF} {lo : Nat} {us : List U} {h : GH} : gcall gtab call lo fid_archipelagoref8_Right us h = ownCall call lo fid_archipelagoref8_Right us h := rfl
theorem gc_archipelagoref8_Check {call : GCallF} {lo : Nat} {us : List U} {h : GH} : gcall gtab call lo fid_archipelagoref8_Check us h = ownCall call lo fid_archipelagoref8_Check us h := rfl
theorem gc_archipelagoref8_After {call : GCallF} {lo : Nat} {us : List U} {h : GH} : gcall gtab call lo fid_archipelagoref8_After us h = ownCall call lo fid_archipelagoref8_After us h := rfl
theorem gc_archipelagoref8_Upto {call : GCallF} {lo : Nat} {us : List U} {h : GH} : gcall gtab call lo fid_archipelagoref8_Upto us h = ownCall call lo fid_archipelagoref8_Upto us h := rfl
theorem gc_archipelagoref8_At {call : GCallF} {lo : Nat} {us : List U} {h : GH} : gcall gtab call lo fid_archipelagoref8_At us h = ownCall call lo fid_archipelagoref8_At us h := rfl
theorem gc_archipelagoseat_Time {call : GCallF} {lo : Nat} {us : List U} {h : GH} : gcall gtab call lo fid_archipelagoseat_Time us h = ownCall call lo fid_archipelagoseat_Time us h := rfl
theorem gc_archipelagoref1_Put {call : GCallF} {lo : Nat} {us : List U} {h : GH} : gcall gtab call lo fid_archipelagoref1_Put us h = ownCall call lo fid_archipelagoref1_Put us h := rfl
theorem gc_archipelagoref15_AdjPut {call : GCallF} {lo : Nat} {us : List U} {h : GH} : gcall gtab call lo fid_archipelagoref15_AdjPut us h = ownCall call lo fid_archipelagoref15_AdjPut us h := rfl
theorem gc_archipelagoseat_Change {call : GCallF} {lo : Nat} {us : List U} {h : GH} : gcall gtab call lo fid_archipelagoseat_Change us h = ownCall call lo fid_archipelagoseat_Change us h := rfl
theorem gc_archipelagoref1_Take {call : GCallF} {lo : Nat} {us : List U} {h : GH} : gcall gtab call lo fid_archipelagoref1_Take us h = ownCall call lo fid_archipelagoref1_Take us h := rfl
theorem gc_archipelagoref15_numbers {call : GCallF} {lo : Nat} {us : List U} {h : GH} : gcall gtab call lo fid_archipelagoref15_numbers us h = ownCall call lo fid_archipelagoref15_numbers us h := rfl
theorem gc_archipelagoref15_near {call : GCallF} {lo : Nat} {us : List U} {h : GH} : gcall gtab call lo fid_archipelagoref15_near us h = ownCall call lo fid_archipelagoref15_near us h := rfl
theorem gc_archipelagoref15_AdjRead {call : GCallF} {lo : Nat} {us : List U} {h : GH} : gcall gtab call lo fid_archipelagoref15_AdjRead us h = ownCall call lo fid_archipelagoref15_AdjRead us h := rfl
theorem gc_archipelagolaw15_AdjTells {call : GCallF} {lo : Nat} {us : List U} {h : GH} : gcall gtab call lo fid_archipelagolaw15_AdjTells us h = ownCall call lo fid_archipelagolaw15_AdjTells us h := rfl
theorem gc_archipelagolaw15_AdjBack {call : GCallF} {lo : Nat} {us : List U} {h : GH} : gcall gtab call lo fid_archipelagolaw15_AdjBack us h = ownCall call lo fid_archipelagolaw15_AdjBack us h := rfl
theorem gc_archipelagolaw15_AdjSizes {call : GCallF} {lo : Nat} {us : List U} {h : GH} : gcall gtab call lo fid_archipelagolaw15_AdjSizes us h = ownCall call lo fid_archipelagolaw15_AdjSizes us h := rfl
theorem gc_archipelagolaw15_AdjStrange {call : GCallF} {lo : Nat} {us : List U} {h : GH} : gcall gtab call lo fid_archipelagolaw15_AdjStrange us h = ownCall call lo fid_archipelagolaw15_AdjStrange us h := rfl
theorem fn_cmp_Or_int {us : List U} {h h' : GH} {lo : Nat} {w : U} (hl : us.length = 1) (k : Z gtab ⟨[], []⟩ lo [.c ir_cmp_Or_int.body] (genvOf 0 us) h fun env h1 => ∃ vs, gres env h1 [.tmp 2] = some vs ∧ gfin .own vs h1 = some (w, h')) : GF gtab fid_cmp_Or_int us h lo = some (w, h') := GF_fn gt_cmp_Or_int hl k
theorem fnR_cmp_Or_int {us : List U} {h : GH} {lo : Nat} {R : U → GH → Prop} (hl : us.length = 1) (k : Z gtab ⟨[], []⟩ lo [.c ir_cmp_Or_int.body] (genvOf 0 us) h fun env h1 => ∃ vs, gres env h1 [.tmp 2] = some vs ∧ ∃ w h', gfin .own vs h1 = some (w, h') ∧ R w h') : ∃ w h', GF gtab fid_cmp_Or_int us h lo = some (w, h') ∧ R w h' := GF_fnR gt_cmp_Or_int hl k
theorem fn_cmp_isNaN_uint32 {us : List U} {h h' : GH} {lo : Nat} {w : U} (hl : us.length = 1) (k : Z gtab ⟨[], []⟩ lo [.c ir_cmp_isNaN_uint32.body] (genvOf 0 us) h fun env h1 => ∃ vs, gres env h1 [.tmp 2] = some vs ∧ gfin .own vs h1 = some (w, h')) : GF gtab fid_cmp_isNaN_uint32 us h lo = some (w, h') := GF_fn gt_cmp_isNaN_uint32 hl k
theorem fnR_cmp_isNaN_uint32 {us : List U} {h : GH} {lo : Nat} {R : U → GH → Prop} (hl : us.length = 1) (k : Z gtab ⟨[], []⟩ lo [.c ir_cmp_isNaN_uint32.body] (genvOf 0 us) h fun env h1 => ∃ vs, gres env h1 [.tmp 2] = some vs ∧ ∃ w h', gfin .own vs h1 = some (w, h') ∧ R w h') : ∃ w h', GF gtab fid_cmp_isNaN_uint32 us h lo = some (w, h') ∧ R w h' := GF_fnR gt_cmp_isNaN_uint32 hl k
theorem fn_cmp_Compare_uint32 {us : List U} {h h' : GH} {lo : Nat} {w : U} (hl : us.length = 2) (k : Z gtab ⟨[], []⟩ lo [.c ir_cmp_Compare_uint32.body] (genvOf 0 us) h fun env h1 => ∃ vs, gres env h1 [.tmp 4] = some vs ∧ gfin .own vs h1 = some (w, h')) : GF gtab fid_cmp_Compare_uint32 us h lo = some (w, h') := GF_fn gt_cmp_Compare_uint32 hl k
theorem fnR_cmp_Compare_uint32 {us : List U} {h : GH} {lo : Nat} {R : U → GH → Prop} (hl : us.length = 2) (k : Z gtab ⟨[], []⟩ lo [.c ir_cmp_Compare_uint32.body] (genvOf 0 us) h fun env h1 => ∃ vs, gres env h1 [.tmp 4] = some vs ∧ ∃ w h', gfin .own vs h1 = some (w, h') ∧ R w h') : ∃ w h', GF gtab fid_cmp_Compare_uint32 us h lo = some (w, h') ∧ R w h' := GF_fnR gt_cmp_Compare_uint32 hl k
theorem fn_edge_compare {us : List U} {h h' : GH} {lo : Nat} {w : U} (hl : us.length = 2) (k : Z gtab ⟨[], []⟩ lo [.c ir_edge_compare.body] (genvOf 0 us) h fun env h1 => ∃ vs, gres env h1 [.tmp 4] = some vs ∧ gfin .own vs h1 = some (w, h')) : GF gtab fid_edge_compare us h lo = some (w, h') := GF_fn gt_edge_compare hl k
theorem fnR_edge_compare {us : List U} {h : GH} {lo : Nat} {R : U → GH → Prop} (hl : us.length = 2) (k : Z gtab ⟨[], []⟩ lo [.c ir_edge_compare.body] (genvOf 0 us) h fun env h1 => ∃ vs, gres env h1 [.tmp 4] = some vs ∧ ∃ w h', gfin .own vs h1 = some (w, h') ∧ R w h') : ∃ w h', GF gtab fid_edge_compare us h lo = some (w, h') ∧ R w h' := GF_fnR gt_edge_compare hl k
theorem fn_edge_Less {us : List U} {h h' : GH} {lo : Nat} {w : U} (hl : us.length = 2) (k : Z gtab ⟨[], []⟩ lo [.c ir_edge_Less.body] (genvOf 0 us) h fun env h1 => ∃ vs, gres env h1 [.tmp 4] = some vs ∧ gfin .own vs h1 = some (w, h')) : GF gtab fid_edge_Less us h lo = some (w, h') := GF_fn gt_edge_Less hl k
theorem fnR_edge_Less {us : List U} {h : GH} {lo : Nat} {R : U → GH → Prop} (hl : us.length = 2) (k : Z gtab ⟨[], []⟩ lo [.c ir_edge_Less.body] (genvOf 0 us) h fun env h1 => ∃ vs, gres env h1 [.tmp 4] = some vs ∧ ∃ w h', gfin .own vs h1 = some (w, h') ∧ R w h') : ∃ w h', GF gtab fid_edge_Less us h lo = some (w, h') ∧ R w h' := GF_fnR gt_edge_Less hl k
theorem fn_edge_Rising {us : List U} {h h' : GH} {lo : Nat} {w : U} (hl : us.length = 1) (k : Z gtab ⟨[], []⟩ lo [.c ir_edge_Rising.body] (genvOf 0 us) h fun env h1 => ∃ vs, gres env h1 [.tmp 2] = some vs ∧ gfin .own vs h1 = some (w, h')) : GF gtab fid_edge_Rising us h lo = some (w, h') := GF_fn gt_edge_Rising hl k
theorem fnR_edge_Rising {us : List U} {h : GH} {lo : Nat} {R : U → GH → Prop} (hl : us.length = 1) (k : Z gtab ⟨[], []⟩ lo [.c ir_edge_Rising.body] (genvOf 0 us) h fun env h1 => ∃ vs, gres env h1 [.tmp 2] = some vs ∧ ∃ w h', gfin .own vs h1 = some (w, h') ∧ R w h') : ∃ w h', GF gtab fid_edge_Rising us h lo = some (w, h') ∧ R w h' := GF_fnR gt_edge_Rising hl k
theorem fn_varint_Put {us : List U} {h h' : GH} {lo : Nat} {w : U} (hl : us.length = 1) (k : Z gtab ⟨[], []⟩ lo [.c ir_varint_Put.body] (genvOf 0 us) h fun env h1 => ∃ vs, gres env h1 [.tmp 2] = some vs ∧ gfin .own vs h1 = some (w, h')) : GF gtab fid_varint_Put us h lo = some (w, h') := GF_fn gt_varint_Put hl k
theorem fnR_varint_Put {us : List U} {h : GH} {lo : Nat} {R : U → GH → Prop} (hl : us.length = 1) (k : Z gtab ⟨[], []⟩ lo [.c ir_varint_Put.body] (genvOf 0 us) h fun env h1 => ∃ vs, gres env h1 [.tmp 2] = some vs ∧ ∃ w h', gfin .own vs h1 = some (w, h') ∧ R w h') : ∃ w h', GF gtab fid_varint_Put us h lo = some (w, h') ∧ R w h' := GF_fnR gt_varint_Put hl k
theorem fn_adj_Put {us : List U} {h h' : GH} {lo : Nat} {w : U} (hl : us.length = 1) (k : Z gtab ⟨[], []⟩ lo [.c ir_adj_Put.body] (genvOf 0 us) h fun env h1 => ∃ vs, gres env h1 [.tmp 2, .tmp 3] = some vs ∧ gfin .own vs h1 = some (w, h')) : GF gtab fid_adj_Put us h lo = some (w, h') := GF_fn gt_adj_Put hl k
theorem fnR_adj_Put {us : List U} {h : GH} {lo : Nat} {R : U → GH → Prop} (hl : us.length = 1) (k : Z gtab ⟨[], []⟩ lo [.c ir_adj_Put.body] (genvOf 0 us) h fun env h1 => ∃ vs, gres env h1 [.tmp 2, .tmp 3] = some vs ∧ ∃ w h', gfin .own vs h1 = some (w, h') ∧ R w h') : ∃ w h', GF gtab fid_adj_Put us h lo = some (w, h') ∧ R w h' := GF_fnR gt_adj_Put hl k
theorem fn_varint_Take {us : List U} {h h' : GH} {lo : Nat} {w : U} (hl : us.length = 2) (k : Z gtab ⟨[], []⟩ lo [.c ir_varint_Take.body] (genvOf 0 us) h fun env h1 => ∃ vs, gres env h1 [.tmp 4, .tmp 5, .tmp 6] = some vs ∧ gfin .own vs h1 = some (w, h')) : GF gtab fid_varint_Take us h lo = some (w, h') := GF_fn gt_varint_Take hl k
theorem fnR_varint_Take {us : List U} {h : GH} {lo : Nat} {R : U → GH → Prop} (hl : us.length = 2) (k : Z gtab ⟨[], []⟩ lo [.c ir_varint_Take.body] (genvOf 0 us) h fun env h1 => ∃ vs, gres env h1 [.tmp 4, .tmp 5, .tmp 6] = some vs ∧ ∃ w h', gfin .own vs h1 = some (w, h') ∧ R w h') : ∃ w h', GF gtab fid_varint_Take us h lo = some (w, h') ∧ R w h' := GF_fnR gt_varint_Take hl k
theorem fn_adj_reader_num {us : List U} {h h' : GH} {lo : Nat} {w : U} (hl : us.length = 1) (k : Z gtab ⟨[], []⟩ lo [.c ir_adj_reader_num.body] (genvOf 0 us) h fun env h1 => ∃ vs, gres env h1 [.tmp 2] = some vs ∧ gfin .rw vs h1 = some (w, h')) : GF gtab fid_adj_reader_num us h lo = some (w, h') := GF_fn gt_adj_reader_num hl k
theorem fnR_adj_reader_num {us : List U} {h : GH} {lo : Nat} {R : U → GH → Prop} (hl : us.length = 1) (k : Z gtab ⟨[], []⟩ lo [.c ir_adj_reader_num.body] (genvOf 0 us) h fun env h1 => ∃ vs, gres env h1 [.tmp 2] = some vs ∧ ∃ w h', gfin .rw vs h1 = some (w, h') ∧ R w h') : ∃ w h', GF gtab fid_adj_reader_num us h lo = some (w, h') ∧ R w h' := GF_fnR gt_adj_reader_num hl k
theorem fn_adj_reader_edges {us : List U} {h h' : GH} {lo : Nat} {w : U} (hl : us.length = 2) (k : Z gtab ⟨[], []⟩ lo [.c ir_adj_reader_edges.body] (genvOf 0 us) h fun env h1 => ∃ vs, gres env h1 [.tmp 4] = some vs ∧ gfin .rw vs h1 = some (w, h')) : GF gtab fid_adj_reader_edges us h lo = some (w, h') := GF_fn gt_adj_reader_edges hl k
theorem fnR_adj_reader_edges {us : List U} {h : GH} {lo : Nat} {R : U → GH → Prop} (hl : us.length = 2) (k : Z gtab ⟨[], []⟩ lo [.c ir_adj_reader_edges.body] (genvOf 0 us) h fun env h1 => ∃ vs, gres env h1 [.tmp 4] = some vs ∧ ∃ w h', gfin .rw vs h1 = some (w, h') ∧ R w h') : ∃ w h', GF gtab fid_adj_reader_edges us h lo = some (w, h') ∧ R w h' := GF_fnR gt_adj_reader_edges hl k
theorem fn_bytes_Equal {us : List U} {h h' : GH} {lo : Nat} {w : U} (hl : us.length = 2) (k : Z gtab ⟨[], []⟩ lo [.c ir_bytes_Equal.body] (genvOf 0 us) h fun env h1 => ∃ vs, gres env h1 [.tmp 4] = some vs ∧ gfin .own vs h1 = some (w, h')) : GF gtab fid_bytes_Equal us h lo = some (w, h') := GF_fn gt_bytes_Equal hl k
theorem fnR_bytes_Equal {us : List U} {h : GH} {lo : Nat} {R : U → GH → Prop} (hl : us.length = 2) (k : Z gtab ⟨[], []⟩ lo [.c ir_bytes_Equal.body] (genvOf 0 us) h fun env h1 => ∃ vs, gres env h1 [.tmp 4] = some vs ∧ ∃ w h', gfin .own vs h1 = some (w, h') ∧ R w h') : ∃ w h', GF gtab fid_bytes_Equal us h lo = some (w, h') ∧ R w h' := GF_fnR gt_bytes_Equal hl k
theorem fn_adj_Read {us : List U} {h h' : GH} {lo : Nat} {w : U} (hl : us.length = 2) (k : Z gtab ⟨[], []⟩ lo [.c ir_adj_Read.body] (genvOf 0 us) h fun env h1 => ∃ vs, gres env h1 [.tmp 4, .tmp 5] = some vs ∧ gfin .own vs h1 = some (w, h')) : GF gtab fid_adj_Read us h lo = some (w, h') := GF_fn gt_adj_Read hl k
theorem fnR_adj_Read {us : List U} {h : GH} {lo : Nat} {R : U → GH → Prop} (hl : us.length = 2) (k : Z gtab ⟨[], []⟩ lo [.c ir_adj_Read.body] (genvOf 0 us) h fun env h1 => ∃ vs, gres env h1 [.tmp 4, .tmp 5] = some vs ∧ ∃ w h', gfin .own vs h1 = some (w, h') ∧ R w h') : ∃ w h', GF gtab fid_adj_Read us h lo = some (w, h') ∧ R w h' := GF_fnR gt_adj_Read hl k
theorem fn_archipelagoref8_SameEdges {us : List U} {h h' : GH} {lo : Nat} {w : U} (hl : us.length = 2) (k : Z gtab ⟨[], []⟩ lo [.c ir_archipelagoref8_SameEdges.body] (genvOf 0 us) h fun env h1 => ∃ vs, gres env h1 [.tmp 4] = some vs ∧ gfin .own vs h1 = some (w, h')) : GF gtab fid_archipelagoref8_SameEdges us h lo = some (w, h') := GF_fn gt_archipelagoref8_SameEdges hl k
theorem fnR_archipelagoref8_SameEdges {us : List U} {h : GH} {lo : Nat} {R : U → GH → Prop} (hl : us.length = 2) (k : Z gtab ⟨[], []⟩ lo [.c ir_archipelagoref8_SameEdges.body] (genvOf 0 us) h fun env h1 => ∃ vs, gres env h1 [.tmp 4] = some vs ∧ ∃ w h', gfin .own vs h1 = some (w, h') ∧ R w h') : ∃ w h', GF gtab fid_archipelagoref8_SameEdges us h lo = some (w, h') ∧ R w h' := GF_fnR gt_archipelagoref8_SameEdges hl k
theorem fn_archipelagolaw15_known {us : List U} {h h' : GH} {lo : Nat} {w : U} (hl : us.length = 0) (k : Z gtab ⟨[], []⟩ lo [.c ir_archipelagolaw15_known.body] (genvOf 0 us) h fun env h1 => ∃ vs, gres env h1 [.tmp 0] = some vs ∧ gfin .own vs h1 = some (w, h')) : GF gtab fid_archipelagolaw15_known us h lo = some (w, h') := GF_fn gt_archipelagolaw15_known hl k
theorem fnR_archipelagolaw15_known {us : List U} {h : GH} {lo : Nat} {R : U → GH → Prop} (hl : us.length = 0) (k : Z gtab ⟨[], []⟩ lo [.c ir_archipelagolaw15_known.body] (genvOf 0 us) h fun env h1 => ∃ vs, gres env h1 [.tmp 0] = some vs ∧ ∃ w h', gfin .own vs h1 = some (w, h') ∧ R w h') : ∃ w h', GF gtab fid_archipelagolaw15_known us h lo = some (w, h') ∧ R w h' := GF_fnR gt_archipelagolaw15_known hl k
theorem fn_archipelagoseat_Vertices {us : List U} {h h' : GH} {lo : Nat} {w : U} (hl : us.length = 1) (k : Z gtab ⟨[], []⟩ lo [.c ir_archipelagoseat_Vertices.body] (genvOf 0 us) h fun env h1 => ∃ vs, gres env h1 [.tmp 2] = some vs ∧ gfin .own vs h1 = some (w, h')) : GF gtab fid_archipelagoseat_Vertices us h lo = some (w, h') := GF_fn gt_archipelagoseat_Vertices hl k
theorem fnR_archipelagoseat_Vertices {us : List U} {h : GH} {lo : Nat} {R : U → GH → Prop} (hl : us.length = 1) (k : Z gtab ⟨[], []⟩ lo [.c ir_archipelagoseat_Vertices.body] (genvOf 0 us) h fun env h1 => ∃ vs, gres env h1 [.tmp 2] = some vs ∧ ∃ w h', gfin .own vs h1 = some (w, h') ∧ R w h') : ∃ w h', GF gtab fid_archipelagoseat_Vertices us h lo = some (w, h') ∧ R w h' := GF_fnR gt_archipelagoseat_Vertices hl k
theorem fn_archipelagoseat_Edge {us : List U} {h h' : GH} {lo : Nat} {w : U} (hl : us.length = 3) (k : Z gtab ⟨[], []⟩ lo [.c ir_archipelagoseat_Edge.body] (genvOf 0 us) h fun env h1 => ∃ vs, gres env h1 [.cell 6 2 true, .tmp 7] = some vs ∧ gfin .own vs h1 = some (w, h')) : GF gtab fid_archipelagoseat_Edge us h lo = some (w, h') := GF_fn gt_archipelagoseat_Edge hl k
theorem fnR_archipelagoseat_Edge {us : List U} {h : GH} {lo : Nat} {R : U → GH → Prop} (hl : us.length = 3) (k : Z gtab ⟨[], []⟩ lo [.c ir_archipelagoseat_Edge.body] (genvOf 0 us) h fun env h1 => ∃ vs, gres env h1 [.cell 6 2 true, .tmp 7] = some vs ∧ ∃ w h', gfin .own vs h1 = some (w, h') ∧ R w h') : ∃ w h', GF gtab fid_archipelagoseat_Edge us h lo = some (w, h') ∧ R w h' := GF_fnR gt_archipelagoseat_Edge hl k
theorem fn_archipelagoref8_Less {us : List U} {h h' : GH} {lo : Nat} {w : U} (hl : us.length = 2) (k : Z gtab ⟨[], []⟩ lo [.c ir_archipelagoref8_Less.body] (genvOf 0 us) h fun env h1 => ∃ vs, gres env h1 [.tmp 4] = some vs ∧ gfin .own vs h1 = some (w, h')) : GF gtab fid_archipelagoref8_Less us h lo = some (w, h') := GF_fn gt_archipelagoref8_Less hl k
theorem fnR_archipelagoref8_Less {us : List U} {h : GH} {lo : Nat} {R : U → GH → Prop} (hl : us.length = 2) (k : Z gtab ⟨[], []⟩ lo [.c ir_archipelagoref8_Less.body] (genvOf 0 us) h fun env h1 => ∃ vs, gres env h1 [.tmp 4] = some vs ∧ ∃ w h', gfin .own vs h1 = some (w, h') ∧ R w h') : ∃ w h', GF gtab fid_archipelagoref8_Less us h lo = some (w, h') ∧ R w h' := GF_fnR gt_archipelagoref8_Less hl k
theorem fn_archipelagoref8_Before {us : List U} {h h' : GH} {lo : Nat} {w : U} (hl : us.length = 2) (k : Z gtab ⟨[], []⟩ lo [.c ir_archipelagoref8_Before.body] (genvOf 0 us) h fun env h1 => ∃ vs, gres env h1 [.tmp 4] = some vs ∧ gfin .own vs h1 = some (w, h')) : GF gtab fid_archipelagoref8_Before us h lo = some (w, h') := GF_fn gt_archipelagoref8_Before hl k
theorem fnR_archipelagoref8_Before {us : List U} {h : GH} {lo : Nat} {R : U → GH → Prop} (hl : us.length = 2) (k : Z gtab ⟨[], []⟩ lo [.c ir_archipelagoref8_Before.body] (genvOf 0 us) h fun env h1 => ∃ vs, gres env h1 [.tmp 4] = some vs ∧ ∃ w h', gfin .own vs h1 = some (w, h') ∧ R w h') : ∃ w h', GF gtab fid_archipelagoref8_Before us h lo = some (w, h') ∧ R w h' := GF_fnR gt_archipelagoref8_Before hl k
theorem fn_archipelagoseat_insert {us : List U} {h h' : GH} {lo : Nat} {w : U} (hl : us.length = 2) (k : Z gtab ⟨[], []⟩ lo [.c ir_archipelagoseat_insert.body] (genvOf 0 us) h fun env h1 => ∃ vs, gres env h1 [.tmp 4] = some vs ∧ gfin .own vs h1 = some (w, h')) : GF gtab fid_archipelagoseat_insert us h lo = some (w, h') := GF_fn gt_archipelagoseat_insert hl k
theorem fnR_archipelagoseat_insert {us : List U} {h : GH} {lo : Nat} {R : U → GH → Prop} (hl : us.length = 2) (k : Z gtab ⟨[], []⟩ lo [.c ir_archipelagoseat_insert.body] (genvOf 0 us) h fun env h1 => ∃ vs, gres env h1 [.tmp 4] = some vs ∧ ∃ w h', gfin .own vs h1 = some (w, h') ∧ R w h') : ∃ w h', GF gtab fid_archipelagoseat_insert us h lo = some (w, h') ∧ R w h' := GF_fnR gt_archipelagoseat_insert hl k
theorem fn_archipelagoref8_Find {us : List U} {h h' : GH} {lo : Nat} {w : U} (hl : us.length = 2) (k : Z gtab ⟨[], []⟩ lo [.c ir_archipelagoref8_Find.body] (genvOf 0 us) h fun env h1 => ∃ vs, gres env h1 [.tmp 4] = some vs ∧ gfin .own vs h1 = some (w, h')) : GF gtab fid_archipelagoref8_Find us h lo = some (w, h') := GF_fn gt_archipelagoref8_Find hl k
theorem fnR_archipelagoref8_Find {us : List U} {h : GH} {lo : Nat} {R : U → GH → Prop} (hl : us.length = 2) (k : Z gtab ⟨[], []⟩ lo [.c ir_archipelagoref8_Find.body] (genvOf 0 us) h fun env h1 => ∃ vs, gres env h1 [.tmp 4] = some vs ∧ ∃ w h', gfin .own vs h1 = some (w, h') ∧ R w h') : ∃ w h', GF gtab fid_archipelagoref8_Find us h lo = some (w, h') ∧ R w h' := GF_fnR gt_archipelagoref8_Find hl k
theorem fn_archipelagoref8_Has {us : List U} {h h' : GH} {lo : Nat} {w : U} (hl : us.length = 2) (k : Z gtab ⟨[], []⟩ lo [.c ir_archipelagoref8_Has.body] (genvOf 0 us) h fun env h1 => ∃ vs, gres env h1 [.tmp 4] = some vs ∧ gfin .own vs h1 = some (w, h')) : GF gtab fid_archipelagoref8_Has us h lo = some (w, h') := GF_fn gt_archipelagoref8_Has hl k
theorem fnR_archipelagoref8_Has {us : List U} {h : GH} {lo : Nat} {R : U → GH → Prop} (hl : us.length = 2) (k : Z gtab ⟨[], []⟩ lo [.c ir_archipelagoref8_Has.body] (genvOf 0 us) h fun env h1 => ∃ vs, gres env h1 [.tmp 4] = some vs ∧ ∃ w h', gfin .own vs h1 = some (w, h') ∧ R w h') : ∃ w h', GF gtab fid_archipelagoref8_Has us h lo = some (w, h') ∧ R w h' := GF_fnR gt_archipelagoref8_Has hl k
theorem fn_archipelagoref8_Rising {us : List U} {h h' : GH} {lo : Nat} {w : U} (hl : us.length = 1) (k : Z gtab ⟨[], []⟩ lo [.c ir_archipelagoref8_Rising.body] (genvOf 0 us) h fun env h1 => ∃ vs, gres env h1 [.tmp 2] = some vs ∧ gfin .own vs h1 = some (w, h')) : GF gtab fid_archipelagoref8_Rising us h lo = some (w, h') := GF_fn gt_archipelagoref8_Rising hl k
theorem fnR_archipelagoref8_Rising {us : List U} {h : GH} {lo : Nat} {R : U → GH → Prop} (hl : us.length = 1) (k : Z gtab ⟨[], []⟩ lo [.c ir_archipelagoref8_Rising.body] (genvOf 0 us) h fun env h1 => ∃ vs, gres env h1 [.tmp 2] = some vs ∧ ∃ w h', gfin .own vs h1 = some (w, h') ∧ R w h') : ∃ w h', GF gtab fid_archipelagoref8_Rising us h lo = some (w, h') ∧ R w h' := GF_fnR gt_archipelagoref8_Rising hl k
theorem fn_archipelagoref8_Turn {us : List U} {h h' : GH} {lo : Nat} {w : U} (hl : us.length = 2) (k : Z gtab ⟨[], []⟩ lo [.c ir_archipelagoref8_Turn.body] (genvOf 0 us) h fun env h1 => ∃ vs, gres env h1 [.tmp 4, .tmp 5] = some vs ∧ gfin .own vs h1 = some (w, h')) : GF gtab fid_archipelagoref8_Turn us h lo = some (w, h') := GF_fn gt_archipelagoref8_Turn hl k
theorem fnR_archipelagoref8_Turn {us : List U} {h : GH} {lo : Nat} {R : U → GH → Prop} (hl : us.length = 2) (k : Z gtab ⟨[], []⟩ lo [.c ir_archipelagoref8_Turn.body] (genvOf 0 us) h fun env h1 => ∃ vs, gres env h1 [.tmp 4, .tmp 5] = some vs ∧ ∃ w h', gfin .own vs h1 = some (w, h') ∧ R w h') : ∃ w h', GF gtab fid_archipelagoref8_Turn us h lo = some (w, h') ∧ R w h' := GF_fnR gt_archipelagoref8_Turn hl k
theorem fn_archipelagoseat_History {us : List U} {h h' : GH} {lo : Nat} {w : U} (hl : us.length = 2) (k : Z gtab ⟨[98], []⟩ lo [.c ir_archipelagoseat_History.body] (genvOf 0 us) h fun env h1 => ∃ vs, gres env h1 [.cell 4 2 true] = some vs ∧ gfin .own vs h1 = some (w, h')) : GF gtab fid_archipelagoseat_History us h lo = some (w, h') := GF_fn gt_archipelagoseat_History hl k
theorem fnR_archipelagoseat_History {us : List U} {h : GH} {lo : Nat} {R : U → GH → Prop} (hl : us.length = 2) (k : Z gtab ⟨[98], []⟩ lo [.c ir_archipelagoseat_History.body] (genvOf 0 us) h fun env h1 => ∃ vs, gres env h1 [.cell 4 2 true] = some vs ∧ ∃ w h', gfin .own vs h1 = some (w, h') ∧ R w h') : ∃ w h', GF gtab fid_archipelagoseat_History us h lo = some (w, h') ∧ R w h' := GF_fnR gt_archipelagoseat_History hl k
theorem fn_archipelagoref8_Right {us : List U} {h h' : GH} {lo : Nat} {w : U} (hl : us.length = 2) (k : Z gtab ⟨[], []⟩ lo [.c ir_archipelagoref8_Right.body] (genvOf 0 us) h fun env h1 => ∃ vs, gres env h1 [.tmp 4] = some vs ∧ gfin .own vs h1 = some (w, h')) : GF gtab fid_archipelagoref8_Right us h lo = some (w, h') := GF_fn gt_archipelagoref8_Right hl k
theorem fnR_archipelagoref8_Right {us : List U} {h : GH} {lo : Nat} {R : U → GH → Prop} (hl : us.length = 2) (k : Z gtab ⟨[], []⟩ lo [.c ir_archipelagoref8_Right.body] (genvOf 0 us) h fun env h1 => ∃ vs, gres env h1 [.tmp 4] = some vs ∧ ∃ w h', gfin .own vs h1 = some (w, h') ∧ R w h') : ∃ w h', GF gtab fid_archipelagoref8_Right us h lo = some (w, h') ∧ R w h' := GF_fnR gt_archipelagoref8_Right hl k
theorem fn_archipelagoref8_Check {us : List U} {h h' : GH} {lo : Nat} {w : U} (hl : us.length = 1) (k : Z gtab ⟨[], []⟩ lo [.c ir_archipelagoref8_Check.body] (genvOf 0 us) h fun env h1 => ∃ vs, gres env h1 [.tmp 2, .tmp 3] = some vs ∧ gfin .own vs h1 = some (w, h')) : GF gtab fid_archipelagoref8_Check us h lo = some (w, h') := GF_fn gt_archipelagoref8_Check hl k
theorem fnR_archipelagoref8_Check {us : List U} {h : GH} {lo : Nat} {R : U → GH → Prop} (hl : us.length = 1) (k : Z gtab ⟨[], []⟩ lo [.c ir_archipelagoref8_Check.body] (genvOf 0 us) h fun env h1 => ∃ vs, gres env h1 [.tmp 2, .tmp 3] = some vs ∧ ∃ w h', gfin .own vs h1 = some (w, h') ∧ R w h') : ∃ w h', GF gtab fid_archipelagoref8_Check us h lo = some (w, h') ∧ R w h' := GF_fnR gt_archipelagoref8_Check hl k
theorem fn_archipelagoref8_After {us : List U} {h h' : GH} {lo : Nat} {w : U} (hl : us.length = 2) (k : Z gtab ⟨[], []⟩ lo [.c ir_archipelagoref8_After.body] (genvOf 0 us) h fun env h1 => ∃ vs, gres env h1 [.tmp 4, .tmp 5] = some vs ∧ gfin .own vs h1 = some (w, h')) : GF gtab fid_archipelagoref8_After us h lo = some (w, h') := GF_fn gt_archipelagoref8_After hl k
theorem fnR_archipelagoref8_After {us : List U} {h : GH} {lo : Nat} {R : U → GH → Prop} (hl : us.length = 2) (k : Z gtab ⟨[], []⟩ lo [.c ir_archipelagoref8_After.body] (genvOf 0 us) h fun env h1 => ∃ vs, gres env h1 [.tmp 4, .tmp 5] = some vs ∧ ∃ w h', gfin .own vs h1 = some (w, h') ∧ R w h') : ∃ w h', GF gtab fid_archipelagoref8_After us h lo = some (w, h') ∧ R w h' := GF_fnR gt_archipelagoref8_After hl k
theorem fn_archipelagoref8_Upto {us : List U} {h h' : GH} {lo : Nat} {w : U} (hl : us.length = 2) (k : Z gtab ⟨[], []⟩ lo [.c ir_archipelagoref8_Upto.body] (genvOf 0 us) h fun env h1 => ∃ vs, gres env h1 [.tmp 4] = some vs ∧ gfin .own vs h1 = some (w, h')) : GF gtab fid_archipelagoref8_Upto us h lo = some (w, h') := GF_fn gt_archipelagoref8_Upto hl k
theorem fnR_archipelagoref8_Upto {us : List U} {h : GH} {lo : Nat} {R : U → GH → Prop} (hl : us.length = 2) (k : Z gtab ⟨[], []⟩ lo [.c ir_archipelagoref8_Upto.body] (genvOf 0 us) h fun env h1 => ∃ vs, gres env h1 [.tmp 4] = some vs ∧ ∃ w h', gfin .own vs h1 = some (w, h') ∧ R w h') : ∃ w h', GF gtab fid_archipelagoref8_Upto us h lo = some (w, h') ∧ R w h' := GF_fnR gt_archipelagoref8_Upto hl k
theorem fn_archipelagoref8_At {us : List U} {h h' : GH} {lo : Nat} {w : U} (hl : us.length = 2) (k : Z gtab ⟨[], []⟩ lo [.c ir_archipelagoref8_At.body] (genvOf 0 us) h fun env h1 => ∃ vs, gres env h1 [.tmp 4, .tmp 5] = some vs ∧ gfin .own vs h1 = some (w, h')) : GF gtab fid_archipelagoref8_At us h lo = some (w, h') := GF_fn gt_archipelagoref8_At hl k
theorem fnR_archipelagoref8_At {us : List U} {h : GH} {lo : Nat} {R : U → GH → Prop} (hl : us.length = 2) (k : Z gtab ⟨[], []⟩ lo [.c ir_archipelagoref8_At.body] (genvOf 0 us) h fun env h1 => ∃ vs, gres env h1 [.tmp 4, .tmp 5] = some vs ∧ ∃ w h', gfin .own vs h1 = some (w, h') ∧ R w h') : ∃ w h', GF gtab fid_archipelagoref8_At us h lo = some (w, h') ∧ R w h' := GF_fnR gt_archipelagoref8_At hl k
theorem fn_archipelagoseat_Time {us : List U} {h h' : GH} {lo : Nat} {w : U} (hl : us.length = 2) (k : Z gtab ⟨[], []⟩ lo [.c ir_archipelagoseat_Time.body] (genvOf 0 us) h fun env h1 => ∃ vs, gres env h1 [.tmp 4] = some vs ∧ gfin .own vs h1 = some (w, h')) : GF gtab fid_archipelagoseat_Time us h lo = some (w, h') := GF_fn gt_archipelagoseat_Time hl k
theorem fnR_archipelagoseat_Time {us : List U} {h : GH} {lo : Nat} {R : U → GH → Prop} (hl : us.length = 2) (k : Z gtab ⟨[], []⟩ lo [.c ir_archipelagoseat_Time.body] (genvOf 0 us) h fun env h1 => ∃ vs, gres env h1 [.tmp 4] = some vs ∧ ∃ w h', gfin .own vs h1 = some (w, h') ∧ R w h') : ∃ w h', GF gtab fid_archipelagoseat_Time us h lo = some (w, h') ∧ R w h' := GF_fnR gt_archipelagoseat_Time hl k
theorem fn_archipelagoref1_Put {us : List U} {h h' : GH} {lo : Nat} {w : U} (hl : us.length = 1) (k : Z gtab ⟨[], []⟩ lo [.c ir_archipelagoref1_Put.body] (genvOf 0 us) h fun env h1 => ∃ vs, gres env h1 [.tmp 2] = some vs ∧ gfin .own vs h1 = some (w, h')) : GF gtab fid_archipelagoref1_Put us h lo = some (w, h') := GF_fn gt_archipelagoref1_Put hl k
theorem fnR_archipelagoref1_Put {us : List U} {h : GH} {lo : Nat} {R : U → GH → Prop} (hl : us.length = 1) (k : Z gtab ⟨[], []⟩ lo [.c ir_archipelagoref1_Put.body] (genvOf 0 us) h fun env h1 => ∃ vs, gres env h1 [.tmp 2] = some vs ∧ ∃ w h', gfin .own vs h1 = some (w, h') ∧ R w h') : ∃ w h', GF gtab fid_archipelagoref1_Put us h lo = some (w, h') ∧ R w h' := GF_fnR gt_archipelagoref1_Put hl k
theorem fn_archipelagoref15_AdjPut {us : List U} {h h' : GH} {lo : Nat} {w : U} (hl : us.length = 1) (k : Z gtab ⟨[], []⟩ lo [.c ir_archipelagoref15_AdjPut.body] (genvOf 0 us) h fun env h1 => ∃ vs, gres env h1 [.tmp 2, .tmp 3] = some vs ∧ gfin .own vs h1 = some (w, h')) : GF gtab fid_archipelagoref15_AdjPut us h lo = some (w, h') := GF_fn gt_archipelagoref15_AdjPut hl k
theorem fnR_archipelagoref15_AdjPut {us : List U} {h : GH} {lo : Nat} {R : U → GH → Prop} (hl : us.length = 1) (k : Z gtab ⟨[], []⟩ lo [.c ir_archipelagoref15_AdjPut.body] (genvOf 0 us) h fun env h1 => ∃ vs, gres env h1 [.tmp 2, .tmp 3] = some vs ∧ ∃ w h', gfin .own vs h1 = some (w, h') ∧ R w h') : ∃ w h', GF gtab fid_archipelagoref15_AdjPut us h lo = some (w, h') ∧ R w h' := GF_fnR gt_archipelagoref15_AdjPut hl k
theorem fn_archipelagoseat_Change {us : List U} {h h' : GH} {lo : Nat} {w : U} (hl : us.length = 5) (k : Z gtab ⟨[], [14, 30, 35]⟩ lo [.c ir_archipelagoseat_Change.body] (genvOf 0 us) h fun env h1 => ∃ vs, gres env h1 [.tmp 10] = some vs ∧ gfin .own vs h1 = some (w, h')) : GF gtab fid_archipelagoseat_Change us h lo = some (w, h') := GF_fn gt_archipelagoseat_Change hl k
theorem fnR_archipelagoseat_Change {us : List U} {h : GH} {lo : Nat} {R : U → GH → Prop} (hl : us.length = 5) (k : Z gtab ⟨[], [14, 30, 35]⟩ lo [.c ir_archipelagoseat_Change.body] (genvOf 0 us) h fun env h1 => ∃ vs, gres env h1 [.tmp 10] = some vs ∧ ∃ w h', gfin .own vs h1 = some (w, h') ∧ R w h') : ∃ w h', GF gtab fid_archipelagoseat_Change us h lo = some (w, h') ∧ R w h' := GF_fnR gt_archipelagoseat_Change hl k
theorem fn_archipelagoref1_Take {us : List U} {h h' : GH} {lo : Nat} {w : U} (hl : us.length = 2) (k : Z gtab ⟨[], []⟩ lo [.c ir_archipelagoref1_Take.body] (genvOf 0 us) h fun env h1 => ∃ vs, gres env h1 [.tmp 4, .tmp 5, .tmp 6] = some vs ∧ gfin .own vs h1 = some (w, h')) : GF gtab fid_archipelagoref1_Take us h lo = some (w, h') := GF_fn gt_archipelagoref1_Take hl k
theorem fnR_archipelagoref1_Take {us : List U} {h : GH} {lo : Nat} {R : U → GH → Prop} (hl : us.length = 2) (k : Z gtab ⟨[], []⟩ lo [.c ir_archipelagoref1_Take.body] (genvOf 0 us) h fun env h1 => ∃ vs, gres env h1 [.tmp 4, .tmp 5, .tmp 6] = some vs ∧ ∃ w h', gfin .own vs h1 = some (w, h') ∧ R w h') : ∃ w h', GF gtab fid_archipelagoref1_Take us h lo = some (w, h') ∧ R w h' := GF_fnR gt_archipelagoref1_Take hl k
theorem fn_archipelagoref15_numbers {us : List U} {h h' : GH} {lo : Nat} {w : U} (hl : us.length = 1) (k : Z gtab ⟨[], []⟩ lo [.c ir_archipelagoref15_numbers.body] (genvOf 0 us) h fun env h1 => ∃ vs, gres env h1 [.tmp 2, .tmp 3] = some vs ∧ gfin .own vs h1 = some (w, h')) : GF gtab fid_archipelagoref15_numbers us h lo = some (w, h') := GF_fn gt_archipelagoref15_numbers hl k
theorem fnR_archipelagoref15_numbers {us : List U} {h : GH} {lo : Nat} {R : U → GH → Prop} (hl : us.length = 1) (k : Z gtab ⟨[], []⟩ lo [.c ir_archipelagoref15_numbers.body] (genvOf 0 us) h fun env h1 => ∃ vs, gres env h1 [.tmp 2, .tmp 3] = some vs ∧ ∃ w h', gfin .own vs h1 = some (w, h') ∧ R w h') : ∃ w h', GF gtab fid_archipelagoref15_numbers us h lo = some (w, h') ∧ R w h' := GF_fnR gt_archipelagoref15_numbers hl k
theorem fn_archipelagoref15_near {us : List U} {h h' : GH} {lo : Nat} {w : U} (hl : us.length = 2) (k : Z gtab ⟨[], []⟩ lo [.c ir_archipelagoref15_near.body] (genvOf 0 us) h fun env h1 => ∃ vs, gres env h1 [.tmp 4, .tmp 5] = some vs ∧ gfin .own vs h1 = some (w, h')) : GF gtab fid_archipelagoref15_near us h lo = some (w, h') := GF_fn gt_archipelagoref15_near hl k
theorem fnR_archipelagoref15_near {us : List U} {h : GH} {lo : Nat} {R : U → GH → Prop} (hl : us.length = 2) (k : Z gtab ⟨[], []⟩ lo [.c ir_archipelagoref15_near.body] (genvOf 0 us) h fun env h1 => ∃ vs, gres env h1 [.tmp 4, .tmp 5] = some vs ∧ ∃ w h', gfin .own vs h1 = some (w, h') ∧ R w h') : ∃ w h', GF gtab fid_archipelagoref15_near us h lo = some (w, h') ∧ R w h' := GF_fnR gt_archipelagoref15_near hl k
theorem fn_archipelagoref15_AdjRead {us : List U} {h h' : GH} {lo : Nat} {w : U} (hl : us.length = 2) (k : Z gtab ⟨[], []⟩ lo [.c ir_archipelagoref15_AdjRead.body] (genvOf 0 us) h fun env h1 => ∃ vs, gres env h1 [.tmp 4, .tmp 5] = some vs ∧ gfin .own vs h1 = some (w, h')) : GF gtab fid_archipelagoref15_AdjRead us h lo = some (w, h') := GF_fn gt_archipelagoref15_AdjRead hl k
theorem fnR_archipelagoref15_AdjRead {us : List U} {h : GH} {lo : Nat} {R : U → GH → Prop} (hl : us.length = 2) (k : Z gtab ⟨[], []⟩ lo [.c ir_archipelagoref15_AdjRead.body] (genvOf 0 us) h fun env h1 => ∃ vs, gres env h1 [.tmp 4, .tmp 5] = some vs ∧ ∃ w h', gfin .own vs h1 = some (w, h') ∧ R w h') : ∃ w h', GF gtab fid_archipelagoref15_AdjRead us h lo = some (w, h') ∧ R w h' := GF_fnR gt_archipelagoref15_AdjRead hl k
theorem fn_archipelagolaw15_AdjTells {us : List U} {h h' : GH} {lo : Nat} {w : U} (hl : us.length = 10) (k : Z gtab ⟨[], []⟩ lo [.c ir_archipelagolaw15_AdjTells.body] (genvOf 0 us) h fun env h1 => ∃ vs, gres env h1 [.tmp 20] = some vs ∧ gfin .own vs h1 = some (w, h')) : GF gtab fid_archipelagolaw15_AdjTells us h lo = some (w, h') := GF_fn gt_archipelagolaw15_AdjTells hl k
theorem fnR_archipelagolaw15_AdjTells {us : List U} {h : GH} {lo : Nat} {R : U → GH → Prop} (hl : us.length = 10) (k : Z gtab ⟨[], []⟩ lo [.c ir_archipelagolaw15_AdjTells.body] (genvOf 0 us) h fun env h1 => ∃ vs, gres env h1 [.tmp 20] = some vs ∧ ∃ w h', gfin .own vs h1 = some (w, h') ∧ R w h') : ∃ w h', GF gtab fid_archipelagolaw15_AdjTells us h lo = some (w, h') ∧ R w h' := GF_fnR gt_archipelagolaw15_AdjTells hl k
theorem fn_archipelagolaw15_AdjBack {us : List U} {h h' : GH} {lo : Nat} {w : U} (hl : us.length = 3) (k : Z gtab ⟨[], []⟩ lo [.c ir_archipelagolaw15_AdjBack.body] (genvOf 0 us) h fun env h1 => ∃ vs, gres env h1 [.tmp 6] = some vs ∧ gfin .own vs h1 = some (w, h')) : GF gtab fid_archipelagolaw15_AdjBack us h lo = some (w, h') := GF_fn gt_archipelagolaw15_AdjBack hl k
theorem fnR_archipelagolaw15_AdjBack {us : List U} {h : GH} {lo : Nat} {R : U → GH → Prop} (hl : us.length = 3) (k : Z gtab ⟨[], []⟩ lo [.c ir_archipelagolaw15_AdjBack.body] (genvOf 0 us) h fun env h1 => ∃ vs, gres env h1 [.tmp 6] = some vs ∧ ∃ w h', gfin .own vs h1 = some (w, h') ∧ R w h') : ∃ w h', GF gtab fid_archipelagolaw15_AdjBack us h lo = some (w, h') ∧ R w h' := GF_fnR gt_archipelagolaw15_AdjBack hl k
theorem fn_archipelagolaw15_AdjSizes {us : List U} {h h' : GH} {lo : Nat} {w : U} (hl : us.length = 4) (k : Z gtab ⟨[], []⟩ lo [.c ir_archipelagolaw15_AdjSizes.body] (genvOf 0 us) h fun env h1 => ∃ vs, gres env h1 [.tmp 8] = some vs ∧ gfin .own vs h1 = some (w, h')) : GF gtab fid_archipelagolaw15_AdjSizes us h lo = some (w, h') := GF_fn gt_archipelagolaw15_AdjSizes hl k
theorem fnR_archipelagolaw15_AdjSizes {us : List U} {h : GH} {lo : Nat} {R : U → GH → Prop} (hl : us.length = 4) (k : Z gtab ⟨[], []⟩ lo [.c ir_archipelagolaw15_AdjSizes.body] (genvOf 0 us) h fun env h1 => ∃ vs, gres env h1 [.tmp 8] = some vs ∧ ∃ w h', gfin .own vs h1 = some (w, h') ∧ R w h') : ∃ w h', GF gtab fid_archipelagolaw15_AdjSizes us h lo = some (w, h') ∧ R w h' := GF_fnR gt_archipelagolaw15_AdjSizes hl k
theorem fn_archipelagolaw15_AdjStrange {us : List U} {h h' : GH} {lo : Nat} {w : U} (hl : us.length = 3) (k : Z gtab ⟨[], []⟩ lo [.c ir_archipelagolaw15_AdjStrange.body] (genvOf 0 us) h fun env h1 => ∃ vs, gres env h1 [.tmp 6] = some vs ∧ gfin .own vs h1 = some (w, h')) : GF gtab fid_archipelagolaw15_AdjStrange us h lo = some (w, h') := GF_fn gt_archipelagolaw15_AdjStrange hl k
theorem fnR_archipelagolaw15_AdjStrange {us : List U} {h : GH} {lo : Nat} {R : U → GH → Prop} (hl : us.length = 3) (k : Z gtab ⟨[], []⟩ lo [.c ir_archipelagolaw15_AdjStrange.body] (genvOf 0 us) h fun env h1 => ∃ vs, gres env h1 [.tmp 6] = some vs ∧ ∃ w h', gfin .own vs h1 = some (w, h') ∧ R w h') : ∃ w h', GF gtab fid_archipelagolaw15_AdjStrange us h lo = some (w, h') ∧ R w h' := GF_fnR gt_archipelagolaw15_AdjStrange hl k
theorem iq_cmp_Or_int : isRo gtab fid_cmp_Or_int = true := rfl
theorem mk_cmp_Or_int : makes gtab fid_cmp_Or_int = true := rfl
theorem iq_cmp_isNaN_uint32 : isRo gtab fid_cmp_isNaN_uint32 = true := rfl
theorem mk_cmp_isNaN_uint32 : makes gtab fid_cmp_isNaN_uint32 = true := rfl
theorem iq_cmp_Compare_uint32 : isRo gtab fid_cmp_Compare_uint32 = true := rfl
theorem mk_cmp_Compare_uint32 : makes gtab fid_cmp_Compare_uint32 = true := rfl
theorem iq_edge_compare : isRo gtab fid_edge_compare = true := rfl
theorem mk_edge_compare : makes gtab fid_edge_compare = true := rfl
theorem iq_edge_Less : isRo gtab fid_edge_Less = true := rfl
theorem mk_edge_Less : makes gtab fid_edge_Less = true := rfl
theorem iq_edge_Rising : isRo gtab fid_edge_Rising = true := rfl
theorem mk_edge_Rising : makes gtab fid_edge_Rising = true := rfl
theorem iq_varint_Put : isRo gtab fid_varint_Put = true := rfl
theorem mk_varint_Put : makes gtab fid_varint_Put = true := rfl
theorem iq_adj_Put : isRo gtab fid_adj_Put = true := rfl
theorem mk_adj_Put : makes gtab fid_adj_Put = true := rfl
theorem iq_varint_Take : isRo gtab fid_varint_Take = true := rfl
theorem mk_varint_Take : makes gtab fid_varint_Take = true := rfl
theorem iq_adj_reader_num : isRo gtab fid_adj_reader_num = false := rfl
theorem mk_adj_reader_num : makes gtab fid_adj_reader_num = false := rfl
theorem iq_adj_reader_edges : isRo gtab fid_adj_reader_edges = false := rfl
theorem mk_adj_reader_edges : makes gtab fid_adj_reader_edges = false := rfl
theorem iq_bytes_Equal : isRo gtab fid_bytes_Equal = true := rfl
theorem mk_bytes_Equal : makes gtab fid_bytes_Equal = true := rfl
theorem iq_adj_Read : isRo gtab fid_adj_Read = true := rfl
theorem mk_adj_Read : makes gtab fid_adj_Read = true := rfl
theorem iq_archipelagoref8_SameEdges : isRo gtab fid_archipelagoref8_SameEdges = true := rfl
theorem mk_archipelagoref8_SameEdges : makes gtab fid_archipelagoref8_SameEdges = true := rfl
theorem iq_archipelagolaw15_known : isRo gtab fid_archipelagolaw15_known = true := rfl
theorem mk_archipelagolaw15_known : makes gtab fid_archipelagolaw15_known = true := rfl
theorem iq_archipelagoseat_Vertices : isRo gtab fid_archipelagoseat_Vertices = true := rfl
theorem mk_archipelagoseat_Vertices : makes gtab fid_archipelagoseat_Vertices = true := rfl
theorem iq_archipelagoseat_Edge : isRo gtab fid_archipelagoseat_Edge = true := rfl
theorem mk_archipelagoseat_Edge : makes gtab fid_archipelagoseat_Edge = true := rfl
theorem iq_archipelagoref8_Less : isRo gtab fid_archipelagoref8_Less = true := rfl
theorem mk_archipelagoref8_Less : makes gtab fid_archipelagoref8_Less = true := rfl
theorem iq_archipelagoref8_Before : isRo gtab fid_archipelagoref8_Before = true := rfl
theorem mk_archipelagoref8_Before : makes gtab fid_archipelagoref8_Before = true := rfl
theorem iq_archipelagoseat_insert : isRo gtab fid_archipelagoseat_insert = true := rfl
theorem mk_archipelagoseat_insert : makes gtab fid_archipelagoseat_insert = true := rfl
theorem iq_archipelagoref8_Find : isRo gtab fid_archipelagoref8_Find = true := rfl
theorem mk_archipelagoref8_Find : makes gtab fid_archipelagoref8_Find = true := rfl
theorem iq_archipelagoref8_Has : isRo gtab fid_archipelagoref8_Has = true := rfl
theorem mk_archipelagoref8_Has : makes gtab fid_archipelagoref8_Has = true := rfl
theorem iq_archipelagoref8_Rising : isRo gtab fid_archipelagoref8_Rising = true := rfl
theorem mk_archipelagoref8_Rising : makes gtab fid_archipelagoref8_Rising = true := rfl
theorem iq_archipelagoref8_Turn : isRo gtab fid_archipelagoref8_Turn = true := rfl
theorem mk_archipelagoref8_Turn : makes gtab fid_archipelagoref8_Turn = true := rfl
theorem iq_archipelagoseat_History : isRo gtab fid_archipelagoseat_History = true := rfl
theorem mk_archipelagoseat_History : makes gtab fid_archipelagoseat_History = true := rfl
theorem iq_archipelagoref8_Right : isRo gtab fid_archipelagoref8_Right = true := rfl
theorem mk_archipelagoref8_Right : makes gtab fid_archipelagoref8_Right = true := rfl
theorem iq_archipelagoref8_Check : isRo gtab fid_archipelagoref8_Check = true := rfl
theorem mk_archipelagoref8_Check : makes gtab fid_archipelagoref8_Check = true := rfl
theorem iq_archipelagoref8_After : isRo gtab fid_archipelagoref8_After = true := rfl
theorem mk_archipelagoref8_After : makes gtab fid_archipelagoref8_After = true := rfl
theorem iq_archipelagoref8_Upto : isRo gtab fid_archipelagoref8_Upto = true := rfl
theorem mk_archipelagoref8_Upto : makes gtab fid_archipelagoref8_Upto = true := rfl
theorem iq_archipelagoref8_At : isRo gtab fid_archipelagoref8_At = true := rfl
theorem mk_archipelagoref8_At : makes gtab fid_archipelagoref8_At = true := rfl
theorem iq_archipelagoseat_Time : isRo gtab fid_archipelagoseat_Time = true := rfl
theorem mk_archipelagoseat_Time : makes gtab fid_archipelagoseat_Time = true := rfl
theorem iq_archipelagoref1_Put : isRo gtab fid_archipelagoref1_Put = true := rfl
theorem mk_archipelagoref1_Put : makes gtab fid_archipelagoref1_Put = true := rfl
theorem iq_archipelagoref15_AdjPut : isRo gtab fid_archipelagoref15_AdjPut = true := rfl
theorem mk_archipelagoref15_AdjPut : makes gtab fid_archipelagoref15_AdjPut = true := rfl
theorem iq_archipelagoseat_Change : isRo gtab fid_archipelagoseat_Change = true := rfl
theorem mk_archipelagoseat_Change : makes gtab fid_archipelagoseat_Change = true := rfl
theorem iq_archipelagoref1_Take : isRo gtab fid_archipelagoref1_Take = true := rfl
theorem mk_archipelagoref1_Take : makes gtab fid_archipelagoref1_Take = true := rfl
theorem iq_archipelagoref15_numbers : isRo gtab fid_archipelagoref15_numbers = true := rfl
theorem mk_archipelagoref15_numbers : makes gtab fid_archipelagoref15_numbers = true := rfl
theorem iq_archipelagoref15_near : isRo gtab fid_archipelagoref15_near = true := rfl
theorem mk_archipelagoref15_near : makes gtab fid_archipelagoref15_near = true := rfl
theorem iq_archipelagoref15_AdjRead : isRo gtab fid_archipelagoref15_AdjRead = true := rfl
theorem mk_archipelagoref15_AdjRead : makes gtab fid_archipelagoref15_AdjRead = true := rfl
theorem iq_archipelagolaw15_AdjTells : isRo gtab fid_archipelagolaw15_AdjTells = true := rfl
theorem mk_archipelagolaw15_AdjTells : makes gtab fid_archipelagolaw15_AdjTells = true := rfl
theorem iq_archipelagolaw15_AdjBack : isRo gtab fid_archipelagolaw15_AdjBack = true := rfl
theorem mk_archipelagolaw15_AdjBack : makes gtab fid_archipelagolaw15_AdjBack = true := rfl
theorem iq_archipelagolaw15_AdjSizes : isRo gtab fid_archipelagolaw15_AdjSizes = true := rfl
theorem mk_archipelagolaw15_AdjSizes : makes gtab fid_archipelagolaw15_AdjSizes = true := rfl
theorem iq_archipelagolaw15_AdjStrange : isRo gtab fid_archipelagolaw15_AdjStrange = true := rfl
theorem mk_archipelagolaw15_AdjStrange : makes gtab fid_archipelagolaw15_AdjStrange = true := rfl
theorem gtab_sim : TabSim gtab tab := by
  intro f g h
  unfold gtab at h
  split at h
  · cases h; rfl
  · cases h; rfl
  · cases h; rfl
  · cases h; rfl
  · cases h; rfl
  · cases h; rfl
  · cases h; rfl
  · cases h; rfl
  · cases h; rfl
  · cases h; rfl
  · cases h; rfl
  · cases h; rfl
  · cases h; rfl
  · cases h; rfl
  · cases h; rfl
  · cases h; rfl
  · cases h; rfl
  · cases h; rfl
  · cases h; rfl
  · cases h; rfl
  · cases h; rfl
  · cases h; rfl
  · cases h; rfl
  · cases h; rfl
  · cases h; rfl
  · cases h; rfl
  · cases h; rfl
  · cases h; rfl
  · cases h; rfl
  · cases h; rfl
  · cases h; rfl
  · cases h; rfl
  · cases h; rfl
  · cases h; rfl
  · cases h; rfl
  · cases h; rfl
  · cases h; rfl
  · cases h; rfl
  · cases h; rfl
  · cases h; rfl
  · cases h; rfl
  · cases h; rfl
  · cases h
theorem gtab_clone : CloneOk gtab tab := by
  intro f e b h
  unfold gtab at h
  split at h
  · cases h
  · cases h
  · cases h
  · cases h
  · cases h
  · cases h
  · cases h
  · cases h
  · cases h
  · cases h
  · cases h
  · cases h
  · cases h
  · cases h
  · cases h
  · cases h
  · cases h
  · cases h
  · cases h
  · cases h
  · cases h
  · cases h
  · cases h
  · cases h
  · cases h
  · cases h
  · cases h
  · cases h
  · cases h
  · cases h
  · cases h
  · cases h
  · cases h
  · cases h
  · cases h
  · cases h
  · cases h
  · cases h
  · cases h
  · cases h
  · cases h
  · cases h
  · cases h
end Go.Ab
