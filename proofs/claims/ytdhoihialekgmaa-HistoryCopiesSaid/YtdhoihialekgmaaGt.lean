/- The functions as the machine of values has them (printed by wip/irgen.py). -/
import Derived.Test.YtdhoihialekgmaaTab
import Derived.Test.YtdhoihialekgmaaValM
namespace Go.Ab
open Go
def g_edge_Right : GFn := ⟨.own, ⟨[], []⟩, ir_edge_Right⟩
def g_cmp_Or_int : GFn := ⟨.own, ⟨[], []⟩, ir_cmp_Or_int⟩
def g_cmp_isNaN_int64 : GFn := ⟨.own, ⟨[], []⟩, ir_cmp_isNaN_int64⟩
def g_cmp_Compare_int64 : GFn := ⟨.own, ⟨[], []⟩, ir_cmp_Compare_int64⟩
def g_cmp_isNaN_uint32 : GFn := ⟨.own, ⟨[], []⟩, ir_cmp_isNaN_uint32⟩
def g_cmp_Compare_uint32 : GFn := ⟨.own, ⟨[], []⟩, ir_cmp_Compare_uint32⟩
def g_edge_compare : GFn := ⟨.own, ⟨[], []⟩, ir_edge_compare⟩
def g_edge_Before : GFn := ⟨.own, ⟨[], []⟩, ir_edge_Before⟩
def g_history_Check : GFn := ⟨.own, ⟨[], []⟩, ir_history_Check⟩
def g_slices_Equal_api_Event_api_Event : GFn := ⟨.own, ⟨[], []⟩, ir_slices_Equal_api_Event_api_Event⟩
def g_history_Same : GFn := ⟨.own, ⟨[], []⟩, ir_history_Same⟩
def g_history_Copy : GFn := ⟨.ro, ⟨[], [5]⟩, ir_history_Copy⟩
def g_history_Last : GFn := ⟨.own, ⟨[], []⟩, ir_history_Last⟩
def g_sort_Search : GFn := ⟨.rw, ⟨[], []⟩, ir_sort_Search⟩
def g_history_Upto_1 : GFn := ⟨.ro, ⟨[], []⟩, ir_history_Upto_1⟩
def g_history_Upto : GFn := ⟨.own, ⟨[], []⟩, ir_history_Upto⟩
def g_archipelagolaw9_known : GFn := ⟨.own, ⟨[], []⟩, ir_archipelagolaw9_known⟩
def g_archipelagoseat_Vertices : GFn := ⟨.own, ⟨[], []⟩, ir_archipelagoseat_Vertices⟩
def g_archipelagoseat_Edge : GFn := ⟨.own, ⟨[], []⟩, ir_archipelagoseat_Edge⟩
def g_archipelagoref8_Less : GFn := ⟨.own, ⟨[], []⟩, ir_archipelagoref8_Less⟩
def g_archipelagoref8_Before : GFn := ⟨.own, ⟨[], []⟩, ir_archipelagoref8_Before⟩
def g_archipelagoseat_insert : GFn := ⟨.own, ⟨[], []⟩, ir_archipelagoseat_insert⟩
def g_archipelagoref8_Find : GFn := ⟨.own, ⟨[], []⟩, ir_archipelagoref8_Find⟩
def g_archipelagoref8_Has : GFn := ⟨.own, ⟨[], []⟩, ir_archipelagoref8_Has⟩
def g_archipelagoref8_Rising : GFn := ⟨.own, ⟨[], []⟩, ir_archipelagoref8_Rising⟩
def g_archipelagoref8_Turn : GFn := ⟨.own, ⟨[], []⟩, ir_archipelagoref8_Turn⟩
def g_archipelagoseat_History : GFn := ⟨.own, ⟨[98], []⟩, ir_archipelagoseat_History⟩
def g_archipelagoseat_Bent : GFn := ⟨.own, ⟨[], [14]⟩, ir_archipelagoseat_Bent⟩
def g_archipelagoseat_Late : GFn := ⟨.own, ⟨[41], []⟩, ir_archipelagoseat_Late⟩
def g_archipelagoref8_Right : GFn := ⟨.own, ⟨[], []⟩, ir_archipelagoref8_Right⟩
def g_archipelagoref8_Check : GFn := ⟨.own, ⟨[], []⟩, ir_archipelagoref8_Check⟩
def g_archipelagoref8_SameEvents : GFn := ⟨.own, ⟨[], []⟩, ir_archipelagoref8_SameEvents⟩
def g_archipelagoref8_Same : GFn := ⟨.own, ⟨[], []⟩, ir_archipelagoref8_Same⟩
def g_archipelagolaw9_HistoryTells : GFn := ⟨.own, ⟨[], []⟩, ir_archipelagolaw9_HistoryTells⟩
def g_archipelagoseat_Time : GFn := ⟨.own, ⟨[], []⟩, ir_archipelagoseat_Time⟩
def g_archipelagoref8_Upto : GFn := ⟨.own, ⟨[], []⟩, ir_archipelagoref8_Upto⟩
def g_archipelagolaw9_HistoryUpto : GFn := ⟨.own, ⟨[], []⟩, ir_archipelagolaw9_HistoryUpto⟩
def g_archipelagolaw9_HistoryParts : GFn := ⟨.own, ⟨[], []⟩, ir_archipelagolaw9_HistoryParts⟩
def g_archipelagolaw9_HistoryCopies : GFn := ⟨.own, ⟨[], []⟩, ir_archipelagolaw9_HistoryCopies⟩
def gtab : GTab := fun n => match n with
  | 25 => some (.code g_edge_Right)
  | 37 => some (.code g_cmp_Or_int)
  | 40 => some (.code g_cmp_isNaN_int64)
  | 38 => some (.code g_cmp_Compare_int64)
  | 42 => some (.code g_cmp_isNaN_uint32)
  | 41 => some (.code g_cmp_Compare_uint32)
  | 39 => some (.code g_edge_compare)
  | 26 => some (.code g_edge_Before)
  | 11 => some (.code g_history_Check)
  | 29 => some (.code g_slices_Equal_api_Event_api_Event)
  | 13 => some (.code g_history_Same)
  | 31 => some (.clone 4 24)
  | 15 => some (.code g_history_Copy)
  | 16 => some (.code g_history_Last)
  | 32 => some (.code g_sort_Search)
  | 33 => some (.code g_history_Upto_1)
  | 18 => some (.code g_history_Upto)
  | 7 => some (.code g_archipelagolaw9_known)
  | 20 => some (.code g_archipelagoseat_Vertices)
  | 21 => some (.code g_archipelagoseat_Edge)
  | 36 => some (.code g_archipelagoref8_Less)
  | 28 => some (.code g_archipelagoref8_Before)
  | 22 => some (.code g_archipelagoseat_insert)
  | 34 => some (.code g_archipelagoref8_Find)
  | 23 => some (.code g_archipelagoref8_Has)
  | 35 => some (.code g_archipelagoref8_Rising)
  | 24 => some (.code g_archipelagoref8_Turn)
  | 8 => some (.code g_archipelagoseat_History)
  | 9 => some (.code g_archipelagoseat_Bent)
  | 10 => some (.code g_archipelagoseat_Late)
  | 27 => some (.code g_archipelagoref8_Right)
  | 12 => some (.code g_archipelagoref8_Check)
  | 30 => some (.code g_archipelagoref8_SameEvents)
  | 14 => some (.code g_archipelagoref8_Same)
  | 3 => some (.code g_archipelagolaw9_HistoryTells)
  | 17 => some (.code g_archipelagoseat_Time)
  | 19 => some (.code g_archipelagoref8_Upto)
  | 4 => some (.code g_archipelagolaw9_HistoryUpto)
  | 5 => some (.code g_archipelagolaw9_HistoryParts)
  | 6 => some (.code g_archipelagolaw9_HistoryCopies)
  | _ => none
theorem gt_edge_Right : gtab fid_edge_Right = some (.code g_edge_Right) := rfl
theorem gt_cmp_Or_int : gtab fid_cmp_Or_int = some (.code g_cmp_Or_int) := rfl
theorem gt_cmp_isNaN_int64 : gtab fid_cmp_isNaN_int64 = some (.code g_cmp_isNaN_int64) := rfl
theorem gt_cmp_Compare_int64 : gtab fid_cmp_Compare_int64 = some (.code g_cmp_Compare_int64) := rfl
theorem gt_cmp_isNaN_uint32 : gtab fid_cmp_isNaN_uint32 = some (.code g_cmp_isNaN_uint32) := rfl
theorem gt_cmp_Compare_uint32 : gtab fid_cmp_Compare_uint32 = some (.code g_cmp_Compare_uint32) := rfl
theorem gt_edge_compare : gtab fid_edge_compare = some (.code g_edge_compare) := rfl
theorem gt_edge_Before : gtab fid_edge_Before = some (.code g_edge_Before) := rfl
theorem gt_history_Check : gtab fid_history_Check = some (.code g_history_Check) := rfl
theorem gt_slices_Equal_api_Event_api_Event : gtab fid_slices_Equal_api_Event_api_Event = some (.code g_slices_Equal_api_Event_api_Event) := rfl
theorem gt_history_Same : gtab fid_history_Same = some (.code g_history_Same) := rfl
theorem gt_slices_Clone_api_Event_api_Event : gtab fid_slices_Clone_api_Event_api_Event = some (.clone 4 24) := rfl
theorem gt_history_Copy : gtab fid_history_Copy = some (.code g_history_Copy) := rfl
theorem gt_history_Last : gtab fid_history_Last = some (.code g_history_Last) := rfl
theorem gt_sort_Search : gtab fid_sort_Search = some (.code g_sort_Search) := rfl
theorem gt_history_Upto_1 : gtab fid_history_Upto_1 = some (.code g_history_Upto_1) := rfl
theorem gt_history_Upto : gtab fid_history_Upto = some (.code g_history_Upto) := rfl
theorem gt_archipelagolaw9_known : gtab fid_archipelagolaw9_known = some (.code g_archipelagolaw9_known) := rfl
theorem gt_archipelagoseat_Vertices : gtab fid_archipelagoseat_Vertices = some (.code g_archipelagoseat_Vertices) := rfl
theorem gt_archipelagoseat_Edge : gtab fid_archipelagoseat_Edge = some (.code g_archipelagoseat_Edge) := rfl
theorem gt_archipelagoref8_Less : gtab fid_archipelagoref8_Less = some (.code g_archipelagoref8_Less) := rfl
theorem gt_archipelagoref8_Before : gtab fid_archipelagoref8_Before = some (.code g_archipelagoref8_Before) := rfl
theorem gt_archipelagoseat_insert : gtab fid_archipelagoseat_insert = some (.code g_archipelagoseat_insert) := rfl
theorem gt_archipelagoref8_Find : gtab fid_archipelagoref8_Find = some (.code g_archipelagoref8_Find) := rfl
theorem gt_archipelagoref8_Has : gtab fid_archipelagoref8_Has = some (.code g_archipelagoref8_Has) := rfl
theorem gt_archipelagoref8_Rising : gtab fid_archipelagoref8_Rising = some (.code g_archipelagoref8_Rising) := rfl
theorem gt_archipelagoref8_Turn : gtab fid_archipelagoref8_Turn = some (.code g_archipelagoref8_Turn) := rfl
theorem gt_archipelagoseat_History : gtab fid_archipelagoseat_History = some (.code g_archipelagoseat_History) := rfl
theorem gt_archipelagoseat_Bent : gtab fid_archipelagoseat_Bent = some (.code g_archipelagoseat_Bent) := rfl
theorem gt_archipelagoseat_Late : gtab fid_archipelagoseat_Late = some (.code g_archipelagoseat_Late) := rfl
theorem gt_archipelagoref8_Right : gtab fid_archipelagoref8_Right = some (.code g_archipelagoref8_Right) := rfl
theorem gt_archipelagoref8_Check : gtab fid_archipelagoref8_Check = some (.code g_archipelagoref8_Check) := rfl
theorem gt_archipelagoref8_SameEvents : gtab fid_archipelagoref8_SameEvents = some (.code g_archipelagoref8_SameEvents) := rfl
theorem gt_archipelagoref8_Same : gtab fid_archipelagoref8_Same = some (.code g_archipelagoref8_Same) := rfl
theorem gt_archipelagolaw9_HistoryTells : gtab fid_archipelagolaw9_HistoryTells = some (.code g_archipelagolaw9_HistoryTells) := rfl
theorem gt_archipelagoseat_Time : gtab fid_archipelagoseat_Time = some (.code g_archipelagoseat_Time) := rfl
theorem gt_archipelagoref8_Upto : gtab fid_archipelagoref8_Upto = some (.code g_archipelagoref8_Upto) := rfl
theorem gt_archipelagolaw9_HistoryUpto : gtab fid_archipelagolaw9_HistoryUpto = some (.code g_archipelagolaw9_HistoryUpto) := rfl
theorem gt_archipelagolaw9_HistoryParts : gtab fid_archipelagolaw9_HistoryParts = some (.code g_archipelagolaw9_HistoryParts) := rfl
theorem gt_archipelagolaw9_HistoryCopies : gtab fid_archipelagolaw9_HistoryCopies = some (.code g_archipelagolaw9_HistoryCopies) := rfl
theorem gc_edge_Right {call : GCallF} {lo : Nat} {us : List U} {h : GH} : gcall gtab call lo fid_edge_Right us h = ownCall call lo fid_edge_Right us h := rfl
theorem gc_cmp_Or_int {call : GCallF} {lo : Nat} {us : List U} {h : GH} : gcall gtab call lo fid_cmp_Or_int us h = ownCall call lo fid_cmp_Or_int us h := rfl
theorem gc_cmp_isNaN_int64 {call : GCallF} {lo : Nat} {us : List U} {h : GH} : gcall gtab call lo fid_cmp_isNaN_int64 us h = ownCall call lo fid_cmp_isNaN_int64 us h := rfl
theorem gc_cmp_Compare_int64 {call : GCallF} {lo : Nat} {us : List U} {h : GH} : gcall gtab call lo fid_cmp_Compare_int64 us h = ownCall call lo fid_cmp_Compare_int64 us h := rfl
theorem gc_cmp_isNaN_uint32 {call : GCallF} {lo : Nat} {us : List U} {h : GH} : gcall gtab call lo fid_cmp_isNaN_uint32 us h = ownCall call lo fid_cmp_isNaN_uint32 us h := rfl
theorem gc_cmp_Compare_uint32 {call : GCallF} {lo : Nat} {us : List U} {h : GH} : gcall gtab call lo fid_cmp_Compare_uint32 us h = ownCall call lo fid_cmp_Compare_uint32 us h := rfl
theorem gc_edge_compare {call : GCallF} {lo : Nat} {us : List U} {h : GH} : gcall gtab call lo fid_edge_compare us h = ownCall call lo fid_edge_compare us h := rfl
theorem gc_edge_Before {call : GCallF} {lo : Nat} {us : List U} {h : GH} : gcall gtab call lo fid_edge_Before us h = ownCall call lo fid_edge_Before us h := rfl
theorem gc_history_Check {call : GCallF} {lo : Nat} {us : List U} {h : GH} : gcall gtab call lo fid_history_Check us h = ownCall call lo fid_history_Check us h := rfl
theorem gc_slices_Equal_api_Event_api_Event {call : GCallF} {lo : Nat} {us : List U} {h : GH} : gcall gtab call lo fid_slices_Equal_api_Event_api_Event us h = ownCall call lo fid_slices_Equal_api_Event_api_Event us h := rfl
theorem gc_history_Same {call : GCallF} {lo : Nat} {us : List U} {h : GH} : gcall gtab call lo fid_history_Same us h = ownCall call lo fid_history_Same us h := rfl
theorem gc_slices_Clone_api_Event_api_Event {call : GCallF} {lo : Nat} {us : List U} {h : GH} : gcall gtab call lo fid_slices_Clone_api_Event_api_Event us h = cloneCall 4 24 us h := rfl
theorem gc_history_Copy {call : GCallF} {lo : Nat} {us : List U} {h : GH} : gcall gtab call lo fid_history_Copy us h = roCall call lo fid_history_Copy us h := rfl
theorem gc_history_Last {call : GCallF} {lo : Nat} {us : List U} {h : GH} : gcall gtab call lo fid_history_Last us h = ownCall call lo fid_history_Last us h := rfl
theorem gc_sort_Search {call : GCallF} {lo : Nat} {us : List U} {h : GH} : gcall gtab call lo fid_sort_Search us h = rwCall call lo fid_sort_Search us h := rfl
theorem gc_history_Upto_1 {call : GCallF} {lo : Nat} {us : List U} {h : GH} : gcall gtab call lo fid_history_Upto_1 us h = roCall call lo fid_history_Upto_1 us h := rfl
theorem gc_history_Upto {call : GCallF} {lo : Nat} {us : List U} {h : GH} : gcall gtab call lo fid_history_Upto us h = ownCall call lo fid_history_Upto us h := rfl
theorem gc_archipelagolaw9_known {call : GCallF} {lo : Nat} {us : List U} {h : GH} : gcall gtab call lo fid_archipelagolaw9_known us h = ownCall call lo fid_archipelagolaw9_known us h := rfl
theorem gc_archipelagoseat_Vertices {call : GCallF} {lo : Nat} {us : List U} {h : GH} : gcall gtab call lo fid_archipelagoseat_Vertices us h = ownCall call lo fid_archipelagoseat_Vertices us h := rfl
theorem gc_archipelagoseat_Edge {call : GCallF} {lo : Nat} {us : List U} {h : GH} : gcall gtab call lo fid_archipelagoseat_Edge us h = ownCall call lo fid_archipelagoseat_Edge us h := rfl
theorem gc_archipelagoref8_Less {call : GCallF} {lo : Nat} {us : List U} {h : GH} : gcall gtab call lo fid_archipelagoref8_Less us h = ownCall call lo fid_archipelagoref8_Less us h := rfl
theorem gc_archipelagoref8_Before {call : GCallF} {lo : Nat} {us : List U} {h : GH} : gcall gtab call lo fid_archipelagoref8_Before us h = ownCall call lo fid_archipelagoref8_Before us h := rfl
theorem gc_archipelagoseat_insert {call : GCallF} {lo : Nat} {us : List U} {h : GH} : gcall gtab call lo fid_archipelagoseat_insert us h = ownCall call lo fid_archipelagoseat_insert us h := rfl
theorem gc_archipelagoref8_Find {call : GCallF} {lo : Nat} {us : List U} {h : GH} : gcall gtab call lo fid_archipelagoref8_Find us h = ownCall call lo fid_archipelagoref8_Find us h := rfl
theorem gc_archipelagoref8_Has {call : GCallF} {lo : Nat} {us : List U} {h : GH} : gcall gtab call lo fid_archipelagoref8_Has us h = ownCall call lo fid_archipelagoref8_Has us h := rfl
theorem gc_archipelagoref8_Rising {call : GCallF} {lo : Nat} {us : List U} {h : GH} : gcall gtab call lo fid_archipelagoref8_Rising us h = ownCall call lo fid_archipelagoref8_Rising us h := rfl
theorem gc_archipelagoref8_Turn {call : GCallF} {lo : Nat} {us : List U} {h : GH} : gcall gtab call lo fid_archipelagoref8_Turn us h = ownCall call lo fid_archipelagoref8_Turn us h := rfl
theorem gc_archipelagoseat_History {call : GCallF} {lo : Nat} {us : List U} {h : GH} : gcall gtab call lo fid_archipelagoseat_History us h = ownCall call lo fid_archipelagoseat_History us h := rfl
theorem gc_archipelagoseat_Bent {call : GCallF} {lo : Nat} {us : List U} {h : GH} : gcall gtab call lo fid_archipelagoseat_Bent us h = ownCall call lo fid_archipelagoseat_Bent us h := rfl
theorem gc_archipelagoseat_Late {call : GCallF} {lo : Nat} {us : List U} {h : GH} : gcall gtab call lo fid_archipelagoseat_Late us h = ownCall call lo fid_archipelagoseat_Late us h := rfl
theorem gc_archipelagoref8_Right {call : GCallF} {lo : Nat} {us : List U} {h : GH} : gcall gtab call lo fid_archipelagoref8_Right us h = ownCall call lo fid_archipelagoref8_Right us h := rfl
theorem gc_archipelagoref8_Check {call : GCallF} {lo : Nat} {us : List U} {h : GH} : gcall gtab call lo fid_archipelagoref8_Check us h = ownCall call lo fid_archipelagoref8_Check us h := rfl
theorem gc_archipelagoref8_SameEvents {call : GCallF} {lo : Nat} {us : List U} {h : GH} : gcall gtab call lo fid_archipelagoref8_SameEvents us h = ownCall call lo fid_archipelagoref8_SameEvents us h := rfl
theorem gc_archipelagoref8_Same {call : GCallF} {lo : Nat} {us : List U} {h : GH} : gcall gtab call lo fid_archipelagoref8_Same us h = ownCall call lo fid_archipelagoref8_Same us h := rfl
theorem gc_archipelagolaw9_HistoryTells {call : GCallF} {lo : Nat} {us : List U} {h : GH} : gcall gtab call lo fid_archipelagolaw9_HistoryTells us h = ownCall call lo fid_archipelagolaw9_HistoryTells us h := rfl
theorem gc_archipelagoseat_Time {call : GCallF} {lo : Nat} {us : List U} {h : GH} : gcall gtab call lo fid_archipelagoseat_Time us h = ownCall call lo fid_archipelagoseat_Time us h := rfl
theorem gc_archipelagoref8_Upto {call : GCallF} {lo : Nat} {us : List U} {h : GH} : gcall gtab call lo fid_archipelagoref8_Upto us h = ownCall call lo fid_archipelagoref8_Upto us h := rfl
theorem gc_archipelagolaw9_HistoryUpto {call : GCallF} {lo : Nat} {us : List U} {h : GH} : gcall gtab call lo fid_archipelagolaw9_HistoryUpto us h = ownCall call lo fid_archipelagolaw9_HistoryUpto us h := rfl
theorem gc_archipelagolaw9_HistoryParts {call : GCallF} {lo : Nat} {us : List U} {h : GH} : gcall gtab call lo fid_archipelagolaw9_HistoryParts us h = ownCall call lo fid_archipelagolaw9_HistoryParts us h := rfl
theorem gc_archipelagolaw9_HistoryCopies {call : GCallF} {lo : Nat} {us : List U} {h : GH} : gcall gtab call lo fid_archipelagolaw9_HistoryCopies us h = ownCall call lo fid_archipelagolaw9_HistoryCopies us h := rfl
theorem fn_edge_Right {us : List U} {h h' : GH} {lo : Nat} {w : U} (hl : us.length = 2) (k : Z gtab ⟨[], []⟩ lo [.c ir_edge_Right.body] (genvOf 0 us) h fun env h1 => ∃ vs, gres env h1 [.tmp 4] = some vs ∧ gfin .own vs h1 = some (w, h')) : GF gtab fid_edge_Right us h lo = some (w, h') := GF_fn gt_edge_Right hl k
theorem fnR_edge_Right {us : List U} {h : GH} {lo : Nat} {R : U → GH → Prop} (hl : us.length = 2) (k : Z gtab ⟨[], []⟩ lo [.c ir_edge_Right.body] (genvOf 0 us) h fun env h1 => ∃ vs, gres env h1 [.tmp 4] = some vs ∧ ∃ w h', gfin .own vs h1 = some (w, h') ∧ R w h') : ∃ w h', GF gtab fid_edge_Right us h lo = some (w, h') ∧ R w h' := GF_fnR gt_edge_Right hl k
theorem fn_cmp_Or_int {us : List U} {h h' : GH} {lo : Nat} {w : U} (hl : us.length = 1) (k : Z gtab ⟨[], []⟩ lo [.c ir_cmp_Or_int.body] (genvOf 0 us) h fun env h1 => ∃ vs, gres env h1 [.tmp 2] = some vs ∧ gfin .own vs h1 = some (w, h')) : GF gtab fid_cmp_Or_int us h lo = some (w, h') := GF_fn gt_cmp_Or_int hl k
theorem fnR_cmp_Or_int {us : List U} {h : GH} {lo : Nat} {R : U → GH → Prop} (hl : us.length = 1) (k : Z gtab ⟨[], []⟩ lo [.c ir_cmp_Or_int.body] (genvOf 0 us) h fun env h1 => ∃ vs, gres env h1 [.tmp 2] = some vs ∧ ∃ w h', gfin .own vs h1 = some (w, h') ∧ R w h') : ∃ w h', GF gtab fid_cmp_Or_int us h lo = some (w, h') ∧ R w h' := GF_fnR gt_cmp_Or_int hl k
theorem fn_cmp_isNaN_int64 {us : List U} {h h' : GH} {lo : Nat} {w : U} (hl : us.length = 1) (k : Z gtab ⟨[], []⟩ lo [.c ir_cmp_isNaN_int64.body] (genvOf 0 us) h fun env h1 => ∃ vs, gres env h1 [.tmp 2] = some vs ∧ gfin .own vs h1 = some (w, h')) : GF gtab fid_cmp_isNaN_int64 us h lo = some (w, h') := GF_fn gt_cmp_isNaN_int64 hl k
theorem fnR_cmp_isNaN_int64 {us : List U} {h : GH} {lo : Nat} {R : U → GH → Prop} (hl : us.length = 1) (k : Z gtab ⟨[], []⟩ lo [.c ir_cmp_isNaN_int64.body] (genvOf 0 us) h fun env h1 => ∃ vs, gres env h1 [.tmp 2] = some vs ∧ ∃ w h', gfin .own vs h1 = some (w, h') ∧ R w h') : ∃ w h', GF gtab fid_cmp_isNaN_int64 us h lo = some (w, h') ∧ R w h' := GF_fnR gt_cmp_isNaN_int64 hl k
theorem fn_cmp_Compare_int64 {us : List U} {h h' : GH} {lo : Nat} {w : U} (hl : us.length = 2) (k : Z gtab ⟨[], []⟩ lo [.c ir_cmp_Compare_int64.body] (genvOf 0 us) h fun env h1 => ∃ vs, gres env h1 [.tmp 4] = some vs ∧ gfin .own vs h1 = some (w, h')) : GF gtab fid_cmp_Compare_int64 us h lo = some (w, h') := GF_fn gt_cmp_Compare_int64 hl k
theorem fnR_cmp_Compare_int64 {us : List U} {h : GH} {lo : Nat} {R : U → GH → Prop} (hl : us.length = 2) (k : Z gtab ⟨[], []⟩ lo [.c ir_cmp_Compare_int64.body] (genvOf 0 us) h fun env h1 => ∃ vs, gres env h1 [.tmp 4] = some vs ∧ ∃ w h', gfin .own vs h1 = some (w, h') ∧ R w h') : ∃ w h', GF gtab fid_cmp_Compare_int64 us h lo = some (w, h') ∧ R w h' := GF_fnR gt_cmp_Compare_int64 hl k
theorem fn_cmp_isNaN_uint32 {us : List U} {h h' : GH} {lo : Nat} {w : U} (hl : us.length = 1) (k : Z gtab ⟨[], []⟩ lo [.c ir_cmp_isNaN_uint32.body] (genvOf 0 us) h fun env h1 => ∃ vs, gres env h1 [.tmp 2] = some vs ∧ gfin .own vs h1 = some (w, h')) : GF gtab fid_cmp_isNaN_uint32 us h lo = some (w, h') := GF_fn gt_cmp_isNaN_uint32 hl k
theorem fnR_cmp_isNaN_uint32 {us : List U} {h : GH} {lo : Nat} {R : U → GH → Prop} (hl : us.length = 1) (k : Z gtab ⟨[], []⟩ lo [.c ir_cmp_isNaN_uint32.body] (genvOf 0 us) h fun env h1 => ∃ vs, gres env h1 [.tmp 2] = some vs ∧ ∃ w h', gfin .own vs h1 = some (w, h') ∧ R w h') : ∃ w h', GF gtab fid_cmp_isNaN_uint32 us h lo = some (w, h') ∧ R w h' := GF_fnR gt_cmp_isNaN_uint32 hl k
theorem fn_cmp_Compare_uint32 {us : List U} {h h' : GH} {lo : Nat} {w : U} (hl : us.length = 2) (k : Z gtab ⟨[], []⟩ lo [.c ir_cmp_Compare_uint32.body] (genvOf 0 us) h fun env h1 => ∃ vs, gres env h1 [.tmp 4] = some vs ∧ gfin .own vs h1 = some (w, h')) : GF gtab fid_cmp_Compare_uint32 us h lo = some (w, h') := GF_fn gt_cmp_Compare_uint32 hl k
theorem fnR_cmp_Compare_uint32 {us : List U} {h : GH} {lo : Nat} {R : U → GH → Prop} (hl : us.length = 2) (k : Z gtab ⟨[], []⟩ lo [.c ir_cmp_Compare_uint32.body] (genvOf 0 us) h fun env h1 => ∃ vs, gres env h1 [.tmp 4] = some vs ∧ ∃ w h', gfin .own vs h1 = some (w, h') ∧ R w h') : ∃ w h', GF gtab fid_cmp_Compare_uint32 us h lo = some (w, h') ∧ R w h' := GF_fnR gt_cmp_Compare_uint32 hl k
theorem fn_edge_compare {us : List U} {h h' : GH} {lo : Nat} {w : U} (hl : us.length = 2) (k : Z gtab ⟨[], []⟩ lo [.c ir_edge_compare.body] (genvOf 0 us) h fun env h1 => ∃ vs, gres env h1 [.tmp 4] = some vs ∧ gfin .own vs h1 = some (w, h')) : GF gtab fid_edge_compare us h lo = some (w, h') := GF_fn gt_edge_compare hl k
theorem fnR_edge_compare {us : List U} {h : GH} {lo : Nat} {R : U → GH → Prop} (hl : us.length = 2) (k : Z gtab ⟨[], []⟩ lo [.c ir_edge_compare.body] (genvOf 0 us) h fun env h1 => ∃ vs, gres env h1 [.tmp 4] = some vs ∧ ∃ w h', gfin .own vs h1 = some (w, h') ∧ R w h') : ∃ w h', GF gtab fid_edge_compare us h lo = some (w, h') ∧ R w h' := GF_fnR gt_edge_compare hl k
theorem fn_edge_Before {us : List U} {h h' : GH} {lo : Nat} {w : U} (hl : us.length = 2) (k : Z gtab ⟨[], []⟩ lo [.c ir_edge_Before.body] (genvOf 0 us) h fun env h1 => ∃ vs, gres env h1 [.tmp 4] = some vs ∧ gfin .own vs h1 = some (w, h')) : GF gtab fid_edge_Before us h lo = some (w, h') := GF_fn gt_edge_Before hl k
theorem fnR_edge_Before {us : List U} {h : GH} {lo : Nat} {R : U → GH → Prop} (hl : us.length = 2) (k : Z gtab ⟨[], []⟩ lo [.c ir_edge_Before.body] (genvOf 0 us) h fun env h1 => ∃ vs, gres env h1 [.tmp 4] = some vs ∧ ∃ w h', gfin .own vs h1 = some (w, h') ∧ R w h') : ∃ w h', GF gtab fid_edge_Before us h lo = some (w, h') ∧ R w h' := GF_fnR gt_edge_Before hl k
theorem fn_history_Check {us : List U} {h h' : GH} {lo : Nat} {w : U} (hl : us.length = 1) (k : Z gtab ⟨[], []⟩ lo [.c ir_history_Check.body] (genvOf 0 us) h fun env h1 => ∃ vs, gres env h1 [.tmp 2, .tmp 3] = some vs ∧ gfin .own vs h1 = some (w, h')) : GF gtab fid_history_Check us h lo = some (w, h') := GF_fn gt_history_Check hl k
theorem fnR_history_Check {us : List U} {h : GH} {lo : Nat} {R : U → GH → Prop} (hl : us.length = 1) (k : Z gtab ⟨[], []⟩ lo [.c ir_history_Check.body] (genvOf 0 us) h fun env h1 => ∃ vs, gres env h1 [.tmp 2, .tmp 3] = some vs ∧ ∃ w h', gfin .own vs h1 = some (w, h') ∧ R w h') : ∃ w h', GF gtab fid_history_Check us h lo = some (w, h') ∧ R w h' := GF_fnR gt_history_Check hl k
theorem fn_slices_Equal_api_Event_api_Event {us : List U} {h h' : GH} {lo : Nat} {w : U} (hl : us.length = 2) (k : Z gtab ⟨[], []⟩ lo [.c ir_slices_Equal_api_Event_api_Event.body] (genvOf 0 us) h fun env h1 => ∃ vs, gres env h1 [.tmp 4] = some vs ∧ gfin .own vs h1 = some (w, h')) : GF gtab fid_slices_Equal_api_Event_api_Event us h lo = some (w, h') := GF_fn gt_slices_Equal_api_Event_api_Event hl k
theorem fnR_slices_Equal_api_Event_api_Event {us : List U} {h : GH} {lo : Nat} {R : U → GH → Prop} (hl : us.length = 2) (k : Z gtab ⟨[], []⟩ lo [.c ir_slices_Equal_api_Event_api_Event.body] (genvOf 0 us) h fun env h1 => ∃ vs, gres env h1 [.tmp 4] = some vs ∧ ∃ w h', gfin .own vs h1 = some (w, h') ∧ R w h') : ∃ w h', GF gtab fid_slices_Equal_api_Event_api_Event us h lo = some (w, h') ∧ R w h' := GF_fnR gt_slices_Equal_api_Event_api_Event hl k
theorem fn_history_Same {us : List U} {h h' : GH} {lo : Nat} {w : U} (hl : us.length = 2) (k : Z gtab ⟨[], []⟩ lo [.c ir_history_Same.body] (genvOf 0 us) h fun env h1 => ∃ vs, gres env h1 [.tmp 4] = some vs ∧ gfin .own vs h1 = some (w, h')) : GF gtab fid_history_Same us h lo = some (w, h') := GF_fn gt_history_Same hl k
theorem fnR_history_Same {us : List U} {h : GH} {lo : Nat} {R : U → GH → Prop} (hl : us.length = 2) (k : Z gtab ⟨[], []⟩ lo [.c ir_history_Same.body] (genvOf 0 us) h fun env h1 => ∃ vs, gres env h1 [.tmp 4] = some vs ∧ ∃ w h', gfin .own vs h1 = some (w, h') ∧ R w h') : ∃ w h', GF gtab fid_history_Same us h lo = some (w, h') ∧ R w h' := GF_fnR gt_history_Same hl k
theorem fn_history_Copy {us : List U} {h h' : GH} {lo : Nat} {w : U} (hl : us.length = 1) (k : Z gtab ⟨[], [5]⟩ lo [.c ir_history_Copy.body] (genvOf 0 us) h fun env h1 => ∃ vs, gres env h1 [.cell 2 2 true] = some vs ∧ gfin .ro vs h1 = some (w, h')) : GF gtab fid_history_Copy us h lo = some (w, h') := GF_fn gt_history_Copy hl k
theorem fnR_history_Copy {us : List U} {h : GH} {lo : Nat} {R : U → GH → Prop} (hl : us.length = 1) (k : Z gtab ⟨[], [5]⟩ lo [.c ir_history_Copy.body] (genvOf 0 us) h fun env h1 => ∃ vs, gres env h1 [.cell 2 2 true] = some vs ∧ ∃ w h', gfin .ro vs h1 = some (w, h') ∧ R w h') : ∃ w h', GF gtab fid_history_Copy us h lo = some (w, h') ∧ R w h' := GF_fnR gt_history_Copy hl k
theorem fn_history_Last {us : List U} {h h' : GH} {lo : Nat} {w : U} (hl : us.length = 1) (k : Z gtab ⟨[], []⟩ lo [.c ir_history_Last.body] (genvOf 0 us) h fun env h1 => ∃ vs, gres env h1 [.tmp 2] = some vs ∧ gfin .own vs h1 = some (w, h')) : GF gtab fid_history_Last us h lo = some (w, h') := GF_fn gt_history_Last hl k
theorem fnR_history_Last {us : List U} {h : GH} {lo : Nat} {R : U → GH → Prop} (hl : us.length = 1) (k : Z gtab ⟨[], []⟩ lo [.c ir_history_Last.body] (genvOf 0 us) h fun env h1 => ∃ vs, gres env h1 [.tmp 2] = some vs ∧ ∃ w h', gfin .own vs h1 = some (w, h') ∧ R w h') : ∃ w h', GF gtab fid_history_Last us h lo = some (w, h') ∧ R w h' := GF_fnR gt_history_Last hl k
theorem fn_sort_Search {us : List U} {h h' : GH} {lo : Nat} {w : U} (hl : us.length = 2) (k : Z gtab ⟨[], []⟩ lo [.c ir_sort_Search.body] (genvOf 0 us) h fun env h1 => ∃ vs, gres env h1 [.tmp 4] = some vs ∧ gfin .rw vs h1 = some (w, h')) : GF gtab fid_sort_Search us h lo = some (w, h') := GF_fn gt_sort_Search hl k
theorem fnR_sort_Search {us : List U} {h : GH} {lo : Nat} {R : U → GH → Prop} (hl : us.length = 2) (k : Z gtab ⟨[], []⟩ lo [.c ir_sort_Search.body] (genvOf 0 us) h fun env h1 => ∃ vs, gres env h1 [.tmp 4] = some vs ∧ ∃ w h', gfin .rw vs h1 = some (w, h') ∧ R w h') : ∃ w h', GF gtab fid_sort_Search us h lo = some (w, h') ∧ R w h' := GF_fnR gt_sort_Search hl k
theorem fn_history_Upto_1 {us : List U} {h h' : GH} {lo : Nat} {w : U} (hl : us.length = 3) (k : Z gtab ⟨[], []⟩ lo [.c ir_history_Upto_1.body] (genvOf 0 us) h fun env h1 => ∃ vs, gres env h1 [.tmp 4] = some vs ∧ gfin .ro vs h1 = some (w, h')) : GF gtab fid_history_Upto_1 us h lo = some (w, h') := GF_fn gt_history_Upto_1 hl k
theorem fnR_history_Upto_1 {us : List U} {h : GH} {lo : Nat} {R : U → GH → Prop} (hl : us.length = 3) (k : Z gtab ⟨[], []⟩ lo [.c ir_history_Upto_1.body] (genvOf 0 us) h fun env h1 => ∃ vs, gres env h1 [.tmp 4] = some vs ∧ ∃ w h', gfin .ro vs h1 = some (w, h') ∧ R w h') : ∃ w h', GF gtab fid_history_Upto_1 us h lo = some (w, h') ∧ R w h' := GF_fnR gt_history_Upto_1 hl k
theorem fn_history_Upto {us : List U} {h h' : GH} {lo : Nat} {w : U} (hl : us.length = 2) (k : Z gtab ⟨[], []⟩ lo [.c ir_history_Upto.body] (genvOf 0 us) h fun env h1 => ∃ vs, gres env h1 [.tmp 4] = some vs ∧ gfin .own vs h1 = some (w, h')) : GF gtab fid_history_Upto us h lo = some (w, h') := GF_fn gt_history_Upto hl k
theorem fnR_history_Upto {us : List U} {h : GH} {lo : Nat} {R : U → GH → Prop} (hl : us.length = 2) (k : Z gtab ⟨[], []⟩ lo [.c ir_history_Upto.body] (genvOf 0 us) h fun env h1 => ∃ vs, gres env h1 [.tmp 4] = some vs ∧ ∃ w h', gfin .own vs h1 = some (w, h') ∧ R w h') : ∃ w h', GF gtab fid_history_Upto us h lo = some (w, h') ∧ R w h' := GF_fnR gt_history_Upto hl k
theorem fn_archipelagolaw9_known {us : List U} {h h' : GH} {lo : Nat} {w : U} (hl : us.length = 0) (k : Z gtab ⟨[], []⟩ lo [.c ir_archipelagolaw9_known.body] (genvOf 0 us) h fun env h1 => ∃ vs, gres env h1 [.tmp 0] = some vs ∧ gfin .own vs h1 = some (w, h')) : GF gtab fid_archipelagolaw9_known us h lo = some (w, h') := GF_fn gt_archipelagolaw9_known hl k
theorem fnR_archipelagolaw9_known {us : List U} {h : GH} {lo : Nat} {R : U → GH → Prop} (hl : us.length = 0) (k : Z gtab ⟨[], []⟩ lo [.c ir_archipelagolaw9_known.body] (genvOf 0 us) h fun env h1 => ∃ vs, gres env h1 [.tmp 0] = some vs ∧ ∃ w h', gfin .own vs h1 = some (w, h') ∧ R w h') : ∃ w h', GF gtab fid_archipelagolaw9_known us h lo = some (w, h') ∧ R w h' := GF_fnR gt_archipelagolaw9_known hl k
theorem fn_archipelagoseat_Vertices {us : List U} {h h' : GH} {lo : Nat} {w : U} (hl : us.length = 1) (k : Z gtab ⟨[], []⟩ lo [.c ir_archipelagoseat_Vertices.body] (genvOf 0 us) h fun env h1 => ∃ vs, gres env h1 [.tmp 2] = some vs ∧ gfin .own vs h1 = some (w, h')) : GF gtab fid_archipelagoseat_Vertices us h lo = some (w, h') := GF_fn gt_archipelagoseat_Vertices hl k
theorem fnR_archipelagoseat_Vertices {us : List U} {h : GH} {lo : Nat} {R : U → GH → Prop} (hl : us.length = 1) (k : Z gtab ⟨[], []⟩ lo [.c ir_archipelagoseat_Vertices.body] (genvOf 0 us) h fun env h1 => ∃ vs, gres env h1 [.tmp 2] = some vs ∧ ∃ w h', gfin .own vs h1 = some (w, h') ∧ R w h') : ∃ w h', GF gtab fid_archipelagoseat_Vertices us h lo = some (w, h') ∧ R w h' := GF_fnR gt_archipelagoseat_Vertices hl k
theorem fn_archipelagoseat_Edge {us : List U} {h h' : GH} {lo : Nat} {w : U} (hl : us.length = 3) (k : Z gtab ⟨[], []⟩ lo [.c ir_archipelagoseat_Edge.body] (genvOf 0 us) h fun env h1 => ∃ vs, gres env h1 [.cell 6 2 true, .tmp 7] = some vs ∧ gfin .own vs h1 = some (w, h')) : GF gtab fid_archipelagoseat_Edge us h lo = some (w, h') := GF_fn gt_archipelagoseat_Edge hl k
theorem fnR_archipelagoseat_Edge {us : List U} {h : GH} {lo : Nat} {R : U → GH → Prop} (hl : us.length = 3) (k : Z gtab ⟨[], []⟩ lo [.c ir_archipelagoseat_Edge.body] (genvOf 0 us) h fun env h1 => ∃ vs, gres env h1 [.cell 6 2 true, .tmp 7] = some vs ∧ ∃ w h', gfin .own vs h1 = some (w, h') ∧ R w h') : ∃ w h', GF gtab fid_archipelagoseat_Edge us h lo = some (w, h') ∧ R w h' := GF_fnR gt_archipelagoseat_Edge hl k
theorem fn_archipelagoref8_Less {us : List U} {h h' : GH} {lo : Nat} {w : U} (hl : us.length = 2) (k : Z gtab ⟨[], []⟩ lo [.c ir_archipelagoref8_Less.body] (genvOf 0 us) h fun env h1 => ∃ vs, gres env h1 [.tmp 4] = some vs ∧ gfin .own vs h1 = some (w, h')) : GF gtab fid_archipelagoref8_Less us h lo = some (w, h') := GF_fn gt_archipelagoref8_Less hl k
theorem fnR_archipelagoref8_Less {us : List U} {h : GH} {lo : Nat} {R : U → GH → Prop} (hl : us.length = 2) (k : Z gtab ⟨[], []⟩ lo [.c ir_archipelagoref8_Less.body] (genvOf 0 us) h fun env h1 => ∃ vs, gres env h1 [.tmp 4] = some vs ∧ ∃ w h', gfin .own vs h1 = some (w, h') ∧ R w h') : ∃ w h', GF gtab fid_archipelagoref8_Less us h lo = some (w, h') ∧ R w h' := GF_fnR gt_archipelagoref8_Less hl k
theorem fn_archipelagoref8_Before {us : List U} {h h' : GH} {lo : Nat} {w : U} (hl : us.length = 2) (k : Z gtab ⟨[], []⟩ lo [.c ir_archipelagoref8_Before.body] (genvOf 0 us) h fun env h1 => ∃ vs, gres env h1 [.tmp 4] = some vs ∧ gfin .own vs h1 = some (w, h')) : GF gtab fid_archipelagoref8_Before us h lo = some (w, h') := GF_fn gt_archipelagoref8_Before hl k
theorem fnR_archipelagoref8_Before {us : List U} {h : GH} {lo : Nat} {R : U → GH → Prop} (hl : us.length = 2) (k : Z gtab ⟨[], []⟩ lo [.c ir_archipelagoref8_Before.body] (genvOf 0 us) h fun env h1 => ∃ vs, gres env h1 [.tmp 4] = some vs ∧ ∃ w h', gfin .own vs h1 = some (w, h') ∧ R w h') : ∃ w h', GF gtab fid_archipelagoref8_Before us h lo = some (w, h') ∧ R w h' := GF_fnR gt_archipelagoref8_Before hl k
theorem fn_archipelagoseat_insert {us : List U} {h h' : GH} {lo : Nat} {w : U} (hl : us.length = 2) (k : Z gtab ⟨[], []⟩ lo [.c ir_archipelagoseat_insert.body] (genvOf 0 us) h fun env h1 => ∃ vs, gres env h1 [.tmp 4] = some vs ∧ gfin .own vs h1 = some (w, h')) : GF gtab fid_archipelagoseat_insert us h lo = some (w, h') := GF_fn gt_archipelagoseat_insert hl k
theorem fnR_archipelagoseat_insert {us : List U} {h : GH} {lo : Nat} {R : U → GH → Prop} (hl : us.length = 2) (k : Z gtab ⟨[], []⟩ lo [.c ir_archipelagoseat_insert.body] (genvOf 0 us) h fun env h1 => ∃ vs, gres env h1 [.tmp 4] = some vs ∧ ∃ w h', gfin .own vs h1 = some (w, h') ∧ R w h') : ∃ w h', GF gtab fid_archipelagoseat_insert us h lo = some (w, h') ∧ R w h' := GF_fnR gt_archipelagoseat_insert hl k
theorem fn_archipelagoref8_Find {us : List U} {h h' : GH} {lo : Nat} {w : U} (hl : us.length = 2) (k : Z gtab ⟨[], []⟩ lo [.c ir_archipelagoref8_Find.body] (genvOf 0 us) h fun env h1 => ∃ vs, gres env h1 [.tmp 4] = some vs ∧ gfin .own vs h1 = some (w, h')) : GF gtab fid_archipelagoref8_Find us h lo = some (w, h') := GF_fn gt_archipelagoref8_Find hl k
theorem fnR_archipelagoref8_Find {us : List U} {h : GH} {lo : Nat} {R : U → GH → Prop} (hl : us.length = 2) (k : Z gtab ⟨[], []⟩ lo [.c ir_archipelagoref8_Find.body] (genvOf 0 us) h fun env h1 => ∃ vs, gres env h1 [.tmp 4] = some vs ∧ ∃ w h', gfin .own vs h1 = some (w, h') ∧ R w h') : ∃ w h', GF gtab fid_archipelagoref8_Find us h lo = some (w, h') ∧ R w h' := GF_fnR gt_archipelagoref8_Find hl k
theorem fn_archipelagoref8_Has {us : List U} {h h' : GH} {lo : Nat} {w : U} (hl : us.length = 2) (k : Z gtab ⟨[], []⟩ lo [.c ir_archipelagoref8_Has.body] (genvOf 0 us) h fun env h1 => ∃ vs, gres env h1 [.tmp 4] = some vs ∧ gfin .own vs h1 = some (w, h')) : GF gtab fid_archipelagoref8_Has us h lo = some (w, h') := GF_fn gt_archipelagoref8_Has hl k
theorem fnR_archipelagoref8_Has {us : List U} {h : GH} {lo : Nat} {R : U → GH → Prop} (hl : us.length = 2) (k : Z gtab ⟨[], []⟩ lo [.c ir_archipelagoref8_Has.body] (genvOf 0 us) h fun env h1 => ∃ vs, gres env h1 [.tmp 4] = some vs ∧ ∃ w h', gfin .own vs h1 = some (w, h') ∧ R w h') : ∃ w h', GF gtab fid_archipelagoref8_Has us h lo = some (w, h') ∧ R w h' := GF_fnR gt_archipelagoref8_Has hl k
theorem fn_archipelagoref8_Rising {us : List U} {h h' : GH} {lo : Nat} {w : U} (hl : us.length = 1) (k : Z gtab ⟨[], []⟩ lo [.c ir_archipelagoref8_Rising.body] (genvOf 0 us) h fun env h1 => ∃ vs, gres env h1 [.tmp 2] = some vs ∧ gfin .own vs h1 = some (w, h')) : GF gtab fid_archipelagoref8_Rising us h lo = some (w, h') := GF_fn gt_archipelagoref8_Rising hl k
theorem fnR_archipelagoref8_Rising {us : List U} {h : GH} {lo : Nat} {R : U → GH → Prop} (hl : us.length = 1) (k : Z gtab ⟨[], []⟩ lo [.c ir_archipelagoref8_Rising.body] (genvOf 0 us) h fun env h1 => ∃ vs, gres env h1 [.tmp 2] = some vs ∧ ∃ w h', gfin .own vs h1 = some (w, h') ∧ R w h') : ∃ w h', GF gtab fid_archipelagoref8_Rising us h lo = some (w, h') ∧ R w h' := GF_fnR gt_archipelagoref8_Rising hl k
theorem fn_archipelagoref8_Turn {us : List U} {h h' : GH} {lo : Nat} {w : U} (hl : us.length = 2) (k : Z gtab ⟨[], []⟩ lo [.c ir_archipelagoref8_Turn.body] (genvOf 0 us) h fun env h1 => ∃ vs, gres env h1 [.tmp 4, .tmp 5] = some vs ∧ gfin .own vs h1 = some (w, h')) : GF gtab fid_archipelagoref8_Turn us h lo = some (w, h') := GF_fn gt_archipelagoref8_Turn hl k
theorem fnR_archipelagoref8_Turn {us : List U} {h : GH} {lo : Nat} {R : U → GH → Prop} (hl : us.length = 2) (k : Z gtab ⟨[], []⟩ lo [.c ir_archipelagoref8_Turn.body] (genvOf 0 us) h fun env h1 => ∃ vs, gres env h1 [.tmp 4, .tmp 5] = some vs ∧ ∃ w h', gfin .own vs h1 = some (w, h') ∧ R w h') : ∃ w h', GF gtab fid_archipelagoref8_Turn us h lo = some (w, h') ∧ R w h' := GF_fnR gt_archipelagoref8_Turn hl k
theorem fn_archipelagoseat_History {us : List U} {h h' : GH} {lo : Nat} {w : U} (hl : us.length = 2) (k : Z gtab ⟨[98], []⟩ lo [.c ir_archipelagoseat_History.body] (genvOf 0 us) h fun env h1 => ∃ vs, gres env h1 [.cell 4 2 true] = some vs ∧ gfin .own vs h1 = some (w, h')) : GF gtab fid_archipelagoseat_History us h lo = some (w, h') := GF_fn gt_archipelagoseat_History hl k
theorem fnR_archipelagoseat_History {us : List U} {h : GH} {lo : Nat} {R : U → GH → Prop} (hl : us.length = 2) (k : Z gtab ⟨[98], []⟩ lo [.c ir_archipelagoseat_History.body] (genvOf 0 us) h fun env h1 => ∃ vs, gres env h1 [.cell 4 2 true] = some vs ∧ ∃ w h', gfin .own vs h1 = some (w, h') ∧ R w h') : ∃ w h', GF gtab fid_archipelagoseat_History us h lo = some (w, h') ∧ R w h' := GF_fnR gt_archipelagoseat_History hl k
theorem fn_archipelagoseat_Bent {us : List U} {h h' : GH} {lo : Nat} {w : U} (hl : us.length = 4) (k : Z gtab ⟨[], [14]⟩ lo [.c ir_archipelagoseat_Bent.body] (genvOf 0 us) h fun env h1 => ∃ vs, gres env h1 [.cell 8 2 true] = some vs ∧ gfin .own vs h1 = some (w, h')) : GF gtab fid_archipelagoseat_Bent us h lo = some (w, h') := GF_fn gt_archipelagoseat_Bent hl k
theorem fnR_archipelagoseat_Bent {us : List U} {h : GH} {lo : Nat} {R : U → GH → Prop} (hl : us.length = 4) (k : Z gtab ⟨[], [14]⟩ lo [.c ir_archipelagoseat_Bent.body] (genvOf 0 us) h fun env h1 => ∃ vs, gres env h1 [.cell 8 2 true] = some vs ∧ ∃ w h', gfin .own vs h1 = some (w, h') ∧ R w h') : ∃ w h', GF gtab fid_archipelagoseat_Bent us h lo = some (w, h') ∧ R w h' := GF_fnR gt_archipelagoseat_Bent hl k
theorem fn_archipelagoseat_Late {us : List U} {h h' : GH} {lo : Nat} {w : U} (hl : us.length = 1) (k : Z gtab ⟨[41], []⟩ lo [.c ir_archipelagoseat_Late.body] (genvOf 0 us) h fun env h1 => ∃ vs, gres env h1 [.cell 2 2 true] = some vs ∧ gfin .own vs h1 = some (w, h')) : GF gtab fid_archipelagoseat_Late us h lo = some (w, h') := GF_fn gt_archipelagoseat_Late hl k
theorem fnR_archipelagoseat_Late {us : List U} {h : GH} {lo : Nat} {R : U → GH → Prop} (hl : us.length = 1) (k : Z gtab ⟨[41], []⟩ lo [.c ir_archipelagoseat_Late.body] (genvOf 0 us) h fun env h1 => ∃ vs, gres env h1 [.cell 2 2 true] = some vs ∧ ∃ w h', gfin .own vs h1 = some (w, h') ∧ R w h') : ∃ w h', GF gtab fid_archipelagoseat_Late us h lo = some (w, h') ∧ R w h' := GF_fnR gt_archipelagoseat_Late hl k
theorem fn_archipelagoref8_Right {us : List U} {h h' : GH} {lo : Nat} {w : U} (hl : us.length = 2) (k : Z gtab ⟨[], []⟩ lo [.c ir_archipelagoref8_Right.body] (genvOf 0 us) h fun env h1 => ∃ vs, gres env h1 [.tmp 4] = some vs ∧ gfin .own vs h1 = some (w, h')) : GF gtab fid_archipelagoref8_Right us h lo = some (w, h') := GF_fn gt_archipelagoref8_Right hl k
theorem fnR_archipelagoref8_Right {us : List U} {h : GH} {lo : Nat} {R : U → GH → Prop} (hl : us.length = 2) (k : Z gtab ⟨[], []⟩ lo [.c ir_archipelagoref8_Right.body] (genvOf 0 us) h fun env h1 => ∃ vs, gres env h1 [.tmp 4] = some vs ∧ ∃ w h', gfin .own vs h1 = some (w, h') ∧ R w h') : ∃ w h', GF gtab fid_archipelagoref8_Right us h lo = some (w, h') ∧ R w h' := GF_fnR gt_archipelagoref8_Right hl k
theorem fn_archipelagoref8_Check {us : List U} {h h' : GH} {lo : Nat} {w : U} (hl : us.length = 1) (k : Z gtab ⟨[], []⟩ lo [.c ir_archipelagoref8_Check.body] (genvOf 0 us) h fun env h1 => ∃ vs, gres env h1 [.tmp 2, .tmp 3] = some vs ∧ gfin .own vs h1 = some (w, h')) : GF gtab fid_archipelagoref8_Check us h lo = some (w, h') := GF_fn gt_archipelagoref8_Check hl k
theorem fnR_archipelagoref8_Check {us : List U} {h : GH} {lo : Nat} {R : U → GH → Prop} (hl : us.length = 1) (k : Z gtab ⟨[], []⟩ lo [.c ir_archipelagoref8_Check.body] (genvOf 0 us) h fun env h1 => ∃ vs, gres env h1 [.tmp 2, .tmp 3] = some vs ∧ ∃ w h', gfin .own vs h1 = some (w, h') ∧ R w h') : ∃ w h', GF gtab fid_archipelagoref8_Check us h lo = some (w, h') ∧ R w h' := GF_fnR gt_archipelagoref8_Check hl k
theorem fn_archipelagoref8_SameEvents {us : List U} {h h' : GH} {lo : Nat} {w : U} (hl : us.length = 2) (k : Z gtab ⟨[], []⟩ lo [.c ir_archipelagoref8_SameEvents.body] (genvOf 0 us) h fun env h1 => ∃ vs, gres env h1 [.tmp 4] = some vs ∧ gfin .own vs h1 = some (w, h')) : GF gtab fid_archipelagoref8_SameEvents us h lo = some (w, h') := GF_fn gt_archipelagoref8_SameEvents hl k
theorem fnR_archipelagoref8_SameEvents {us : List U} {h : GH} {lo : Nat} {R : U → GH → Prop} (hl : us.length = 2) (k : Z gtab ⟨[], []⟩ lo [.c ir_archipelagoref8_SameEvents.body] (genvOf 0 us) h fun env h1 => ∃ vs, gres env h1 [.tmp 4] = some vs ∧ ∃ w h', gfin .own vs h1 = some (w, h') ∧ R w h') : ∃ w h', GF gtab fid_archipelagoref8_SameEvents us h lo = some (w, h') ∧ R w h' := GF_fnR gt_archipelagoref8_SameEvents hl k
theorem fn_archipelagoref8_Same {us : List U} {h h' : GH} {lo : Nat} {w : U} (hl : us.length = 2) (k : Z gtab ⟨[], []⟩ lo [.c ir_archipelagoref8_Same.body] (genvOf 0 us) h fun env h1 => ∃ vs, gres env h1 [.tmp 4] = some vs ∧ gfin .own vs h1 = some (w, h')) : GF gtab fid_archipelagoref8_Same us h lo = some (w, h') := GF_fn gt_archipelagoref8_Same hl k
theorem fnR_archipelagoref8_Same {us : List U} {h : GH} {lo : Nat} {R : U → GH → Prop} (hl : us.length = 2) (k : Z gtab ⟨[], []⟩ lo [.c ir_archipelagoref8_Same.body] (genvOf 0 us) h fun env h1 => ∃ vs, gres env h1 [.tmp 4] = some vs ∧ ∃ w h', gfin .own vs h1 = some (w, h') ∧ R w h') : ∃ w h', GF gtab fid_archipelagoref8_Same us h lo = some (w, h') ∧ R w h' := GF_fnR gt_archipelagoref8_Same hl k
theorem fn_archipelagolaw9_HistoryTells {us : List U} {h h' : GH} {lo : Nat} {w : U} (hl : us.length = 8) (k : Z gtab ⟨[], []⟩ lo [.c ir_archipelagolaw9_HistoryTells.body] (genvOf 0 us) h fun env h1 => ∃ vs, gres env h1 [.tmp 16] = some vs ∧ gfin .own vs h1 = some (w, h')) : GF gtab fid_archipelagolaw9_HistoryTells us h lo = some (w, h') := GF_fn gt_archipelagolaw9_HistoryTells hl k
theorem fnR_archipelagolaw9_HistoryTells {us : List U} {h : GH} {lo : Nat} {R : U → GH → Prop} (hl : us.length = 8) (k : Z gtab ⟨[], []⟩ lo [.c ir_archipelagolaw9_HistoryTells.body] (genvOf 0 us) h fun env h1 => ∃ vs, gres env h1 [.tmp 16] = some vs ∧ ∃ w h', gfin .own vs h1 = some (w, h') ∧ R w h') : ∃ w h', GF gtab fid_archipelagolaw9_HistoryTells us h lo = some (w, h') ∧ R w h' := GF_fnR gt_archipelagolaw9_HistoryTells hl k
theorem fn_archipelagoseat_Time {us : List U} {h h' : GH} {lo : Nat} {w : U} (hl : us.length = 2) (k : Z gtab ⟨[], []⟩ lo [.c ir_archipelagoseat_Time.body] (genvOf 0 us) h fun env h1 => ∃ vs, gres env h1 [.tmp 4] = some vs ∧ gfin .own vs h1 = some (w, h')) : GF gtab fid_archipelagoseat_Time us h lo = some (w, h') := GF_fn gt_archipelagoseat_Time hl k
theorem fnR_archipelagoseat_Time {us : List U} {h : GH} {lo : Nat} {R : U → GH → Prop} (hl : us.length = 2) (k : Z gtab ⟨[], []⟩ lo [.c ir_archipelagoseat_Time.body] (genvOf 0 us) h fun env h1 => ∃ vs, gres env h1 [.tmp 4] = some vs ∧ ∃ w h', gfin .own vs h1 = some (w, h') ∧ R w h') : ∃ w h', GF gtab fid_archipelagoseat_Time us h lo = some (w, h') ∧ R w h' := GF_fnR gt_archipelagoseat_Time hl k
theorem fn_archipelagoref8_Upto {us : List U} {h h' : GH} {lo : Nat} {w : U} (hl : us.length = 2) (k : Z gtab ⟨[], []⟩ lo [.c ir_archipelagoref8_Upto.body] (genvOf 0 us) h fun env h1 => ∃ vs, gres env h1 [.tmp 4] = some vs ∧ gfin .own vs h1 = some (w, h')) : GF gtab fid_archipelagoref8_Upto us h lo = some (w, h') := GF_fn gt_archipelagoref8_Upto hl k
theorem fnR_archipelagoref8_Upto {us : List U} {h : GH} {lo : Nat} {R : U → GH → Prop} (hl : us.length = 2) (k : Z gtab ⟨[], []⟩ lo [.c ir_archipelagoref8_Upto.body] (genvOf 0 us) h fun env h1 => ∃ vs, gres env h1 [.tmp 4] = some vs ∧ ∃ w h', gfin .own vs h1 = some (w, h') ∧ R w h') : ∃ w h', GF gtab fid_archipelagoref8_Upto us h lo = some (w, h') ∧ R w h' := GF_fnR gt_archipelagoref8_Upto hl k
theorem fn_archipelagolaw9_HistoryUpto {us : List U} {h h' : GH} {lo : Nat} {w : U} (hl : us.length = 4) (k : Z gtab ⟨[], []⟩ lo [.c ir_archipelagolaw9_HistoryUpto.body] (genvOf 0 us) h fun env h1 => ∃ vs, gres env h1 [.tmp 8] = some vs ∧ gfin .own vs h1 = some (w, h')) : GF gtab fid_archipelagolaw9_HistoryUpto us h lo = some (w, h') := GF_fn gt_archipelagolaw9_HistoryUpto hl k
theorem fnR_archipelagolaw9_HistoryUpto {us : List U} {h : GH} {lo : Nat} {R : U → GH → Prop} (hl : us.length = 4) (k : Z gtab ⟨[], []⟩ lo [.c ir_archipelagolaw9_HistoryUpto.body] (genvOf 0 us) h fun env h1 => ∃ vs, gres env h1 [.tmp 8] = some vs ∧ ∃ w h', gfin .own vs h1 = some (w, h') ∧ R w h') : ∃ w h', GF gtab fid_archipelagolaw9_HistoryUpto us h lo = some (w, h') ∧ R w h' := GF_fnR gt_archipelagolaw9_HistoryUpto hl k
theorem fn_archipelagolaw9_HistoryParts {us : List U} {h h' : GH} {lo : Nat} {w : U} (hl : us.length = 7) (k : Z gtab ⟨[], []⟩ lo [.c ir_archipelagolaw9_HistoryParts.body] (genvOf 0 us) h fun env h1 => ∃ vs, gres env h1 [.tmp 14] = some vs ∧ gfin .own vs h1 = some (w, h')) : GF gtab fid_archipelagolaw9_HistoryParts us h lo = some (w, h') := GF_fn gt_archipelagolaw9_HistoryParts hl k
theorem fnR_archipelagolaw9_HistoryParts {us : List U} {h : GH} {lo : Nat} {R : U → GH → Prop} (hl : us.length = 7) (k : Z gtab ⟨[], []⟩ lo [.c ir_archipelagolaw9_HistoryParts.body] (genvOf 0 us) h fun env h1 => ∃ vs, gres env h1 [.tmp 14] = some vs ∧ ∃ w h', gfin .own vs h1 = some (w, h') ∧ R w h') : ∃ w h', GF gtab fid_archipelagolaw9_HistoryParts us h lo = some (w, h') ∧ R w h' := GF_fnR gt_archipelagolaw9_HistoryParts hl k
theorem fn_archipelagolaw9_HistoryCopies {us : List U} {h h' : GH} {lo : Nat} {w : U} (hl : us.length = 3) (k : Z gtab ⟨[], []⟩ lo [.c ir_archipelagolaw9_HistoryCopies.body] (genvOf 0 us) h fun env h1 => ∃ vs, gres env h1 [.tmp 6] = some vs ∧ gfin .own vs h1 = some (w, h')) : GF gtab fid_archipelagolaw9_HistoryCopies us h lo = some (w, h') := GF_fn gt_archipelagolaw9_HistoryCopies hl k
theorem fnR_archipelagolaw9_HistoryCopies {us : List U} {h : GH} {lo : Nat} {R : U → GH → Prop} (hl : us.length = 3) (k : Z gtab ⟨[], []⟩ lo [.c ir_archipelagolaw9_HistoryCopies.body] (genvOf 0 us) h fun env h1 => ∃ vs, gres env h1 [.tmp 6] = some vs ∧ ∃ w h', gfin .own vs h1 = some (w, h') ∧ R w h') : ∃ w h', GF gtab fid_archipelagolaw9_HistoryCopies us h lo = some (w, h') ∧ R w h' := GF_fnR gt_archipelagolaw9_HistoryCopies hl k
theorem iq_edge_Right : isRo gtab fid_edge_Right = true := rfl
theorem mk_edge_Right : makes gtab fid_edge_Right = true := rfl
theorem iq_cmp_Or_int : isRo gtab fid_cmp_Or_int = true := rfl
theorem mk_cmp_Or_int : makes gtab fid_cmp_Or_int = true := rfl
theorem iq_cmp_isNaN_int64 : isRo gtab fid_cmp_isNaN_int64 = true := rfl
theorem mk_cmp_isNaN_int64 : makes gtab fid_cmp_isNaN_int64 = true := rfl
theorem iq_cmp_Compare_int64 : isRo gtab fid_cmp_Compare_int64 = true := rfl
theorem mk_cmp_Compare_int64 : makes gtab fid_cmp_Compare_int64 = true := rfl
theorem iq_cmp_isNaN_uint32 : isRo gtab fid_cmp_isNaN_uint32 = true := rfl
theorem mk_cmp_isNaN_uint32 : makes gtab fid_cmp_isNaN_uint32 = true := rfl
theorem iq_cmp_Compare_uint32 : isRo gtab fid_cmp_Compare_uint32 = true := rfl
theorem mk_cmp_Compare_uint32 : makes gtab fid_cmp_Compare_uint32 = true := rfl
theorem iq_edge_compare : isRo gtab fid_edge_compare = true := rfl
theorem mk_edge_compare : makes gtab fid_edge_compare = true := rfl
theorem iq_edge_Before : isRo gtab fid_edge_Before = true := rfl
theorem mk_edge_Before : makes gtab fid_edge_Before = true := rfl
theorem iq_history_Check : isRo gtab fid_history_Check = true := rfl
theorem mk_history_Check : makes gtab fid_history_Check = true := rfl
theorem iq_slices_Equal_api_Event_api_Event : isRo gtab fid_slices_Equal_api_Event_api_Event = true := rfl
theorem mk_slices_Equal_api_Event_api_Event : makes gtab fid_slices_Equal_api_Event_api_Event = true := rfl
theorem iq_history_Same : isRo gtab fid_history_Same = true := rfl
theorem mk_history_Same : makes gtab fid_history_Same = true := rfl
theorem iq_slices_Clone_api_Event_api_Event : isRo gtab fid_slices_Clone_api_Event_api_Event = true := rfl
theorem mk_slices_Clone_api_Event_api_Event : makes gtab fid_slices_Clone_api_Event_api_Event = true := rfl
theorem iq_history_Copy : isRo gtab fid_history_Copy = true := rfl
theorem mk_history_Copy : makes gtab fid_history_Copy = false := rfl
theorem iq_history_Last : isRo gtab fid_history_Last = true := rfl
theorem mk_history_Last : makes gtab fid_history_Last = true := rfl
theorem iq_sort_Search : isRo gtab fid_sort_Search = false := rfl
theorem mk_sort_Search : makes gtab fid_sort_Search = false := rfl
theorem iq_history_Upto_1 : isRo gtab fid_history_Upto_1 = true := rfl
theorem mk_history_Upto_1 : makes gtab fid_history_Upto_1 = false := rfl
theorem iq_history_Upto : isRo gtab fid_history_Upto = true := rfl
theorem mk_history_Upto : makes gtab fid_history_Upto = true := rfl
theorem iq_archipelagolaw9_known : isRo gtab fid_archipelagolaw9_known = true := rfl
theorem mk_archipelagolaw9_known : makes gtab fid_archipelagolaw9_known = true := rfl
theorem iq_archipelagoseat_Vertices : isRo gtab fid_archipelagoseat_Vertices = true := rfl
theorem mk_archipelagoseat_Vertices : makes gtab fid_archipelagoseat_Vertices = true := rfl
theorem iq_archipelagoseat_Edge : isRo gtab fid_archipelagoseat_Edge = true := rfl
theorem mk_archipelagoseat_Edge : makes gtab fid_archipelagoseat_Edge = true := rfl
theorem iq_archipelagoref8_Less : isRo gtab fid_archipelagoref8_Less = true := rfl
theorem mk_archipelagoref8_Less : makes gtab fid_archipelagoref8_Less = true := rfl
theorem iq_archipelagoref8_Before : isRo gtab fid_archipelagoref8_Before = true := rfl
theorem mk_archipelagoref8_Before : makes gtab fid_archipelagoref8_Before = true := rfl
theorem iq_archipelagoseat_insert : isRo gtab fid_archipelagoseat_insert = true := rfl
theorem mk_archipelagoseat_insert : makes gtab fid_archipelagoseat_insert = true := rfl
theorem iq_archipelagoref8_Find : isRo gtab fid_archipelagoref8_Find = true := rfl
theorem mk_archipelagoref8_Find : makes gtab fid_archipelagoref8_Find = true := rfl
theorem iq_archipelagoref8_Has : isRo gtab fid_archipelagoref8_Has = true := rfl
theorem mk_archipelagoref8_Has : makes gtab fid_archipelagoref8_Has = true := rfl
theorem iq_archipelagoref8_Rising : isRo gtab fid_archipelagoref8_Rising = true := rfl
theorem mk_archipelagoref8_Rising : makes gtab fid_archipelagoref8_Rising = true := rfl
theorem iq_archipelagoref8_Turn : isRo gtab fid_archipelagoref8_Turn = true := rfl
theorem mk_archipelagoref8_Turn : makes gtab fid_archipelagoref8_Turn = true := rfl
theorem iq_archipelagoseat_History : isRo gtab fid_archipelagoseat_History = true := rfl
theorem mk_archipelagoseat_History : makes gtab fid_archipelagoseat_History = true := rfl
theorem iq_archipelagoseat_Bent : isRo gtab fid_archipelagoseat_Bent = true := rfl
theorem mk_archipelagoseat_Bent : makes gtab fid_archipelagoseat_Bent = true := rfl
theorem iq_archipelagoseat_Late : isRo gtab fid_archipelagoseat_Late = true := rfl
theorem mk_archipelagoseat_Late : makes gtab fid_archipelagoseat_Late = true := rfl
theorem iq_archipelagoref8_Right : isRo gtab fid_archipelagoref8_Right = true := rfl
theorem mk_archipelagoref8_Right : makes gtab fid_archipelagoref8_Right = true := rfl
theorem iq_archipelagoref8_Check : isRo gtab fid_archipelagoref8_Check = true := rfl
theorem mk_archipelagoref8_Check : makes gtab fid_archipelagoref8_Check = true := rfl
theorem iq_archipelagoref8_SameEvents : isRo gtab fid_archipelagoref8_SameEvents = true := rfl
theorem mk_archipelagoref8_SameEvents : makes gtab fid_archipelagoref8_SameEvents = true := rfl
theorem iq_archipelagoref8_Same : isRo gtab fid_archipelagoref8_Same = true := rfl
theorem mk_archipelagoref8_Same : makes gtab fid_archipelagoref8_Same = true := rfl
theorem iq_archipelagolaw9_HistoryTells : isRo gtab fid_archipelagolaw9_HistoryTells = true := rfl
theorem mk_archipelagolaw9_HistoryTells : makes gtab fid_archipelagolaw9_HistoryTells = true := rfl
theorem iq_archipelagoseat_Time : isRo gtab fid_archipelagoseat_Time = true := rfl
theorem mk_archipelagoseat_Time : makes gtab fid_archipelagoseat_Time = true := rfl
theorem iq_archipelagoref8_Upto : isRo gtab fid_archipelagoref8_Upto = true := rfl
theorem mk_archipelagoref8_Upto : makes gtab fid_archipelagoref8_Upto = true := rfl
theorem iq_archipelagolaw9_HistoryUpto : isRo gtab fid_archipelagolaw9_HistoryUpto = true := rfl
theorem mk_archipelagolaw9_HistoryUpto : makes gtab fid_archipelagolaw9_HistoryUpto = true := rfl
theorem iq_archipelagolaw9_HistoryParts : isRo gtab fid_archipelagolaw9_HistoryParts = true := rfl
theorem mk_archipelagolaw9_HistoryParts : makes gtab fid_archipelagolaw9_HistoryParts = true := rfl
theorem iq_archipelagolaw9_HistoryCopies : isRo gtab fid_archipelagolaw9_HistoryCopies = true := rfl
theorem mk_archipelagolaw9_HistoryCopies : makes gtab fid_archipelagolaw9_HistoryCopies = true := rfl
theorem gtab_sim : TabSim gtab tab := by
  intro f g h
  unfold gtab at h
  split at h
  · cases h; rfl
  · cases h; rfl
  · cases h; rfl
  · cases h; rfl
  · cases h; rfl
  · cases h; rfl
  · cases h; rfl
  · cases h; rfl
  · cases h; rfl
  · cases h; rfl
  · cases h; rfl
  · cases h
  · cases h; rfl
  · cases h; rfl
  · cases h; rfl
  · cases h; rfl
  · cases h; rfl
  · cases h; rfl
  · cases h; rfl
  · cases h; rfl
  · cases h; rfl
  · cases h; rfl
  · cases h; rfl
  · cases h; rfl
  · cases h; rfl
  · cases h; rfl
  · cases h; rfl
  · cases h; rfl
  · cases h; rfl
  · cases h; rfl
  · cases h; rfl
  · cases h; rfl
  · cases h; rfl
  · cases h; rfl
  · cases h; rfl
  · cases h; rfl
  · cases h; rfl
  · cases h; rfl
  · cases h; rfl
  · cases h; rfl
  · cases h
theorem gtab_clone : CloneOk gtab tab := by
  intro f e b h
  unfold gtab at h
  split at h
  · cases h
  · cases h
  · cases h
  · cases h
  · cases h
  · cases h
  · cases h
  · cases h
  · cases h
  · cases h
  · cases h
  · cases h; intro st x es low hs hr; exact cloneOk tab_slices_Clone_api_Event_api_Event 4 24 (by decide) rfl low hs hr
  · cases h
  · cases h
  · cases h
  · cases h
  · cases h
  · cases h
  · cases h
  · cases h
  · cases h
  · cases h
  · cases h
  · cases h
  · cases h
  · cases h
  · cases h
  · cases h
  · cases h
  · cases h
  · cases h
  · cases h
  · cases h
  · cases h
  · cases h
  · cases h
  · cases h
  · cases h
  · cases h
  · cases h
  · cases h
end Go.Ab
