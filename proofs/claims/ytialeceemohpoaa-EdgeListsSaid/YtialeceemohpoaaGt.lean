/- The functions as the machine of values has them (printed by wip/irgen.py). -/
import Derived.Test.YtialeceemohpoaaTab
import Derived.Test.YtialeceemohpoaaValM
namespace Go.Ab
open Go
def g_edge_Of : GFn := ⟨.own, ⟨[], []⟩, ir_edge_Of⟩
def g_edge_Right : GFn := ⟨.own, ⟨[], []⟩, ir_edge_Right⟩
def g_cmp_Or_int : GFn := ⟨.own, ⟨[], []⟩, ir_cmp_Or_int⟩
def g_cmp_isNaN_uint32 : GFn := ⟨.own, ⟨[], []⟩, ir_cmp_isNaN_uint32⟩
def g_cmp_Compare_uint32 : GFn := ⟨.own, ⟨[], []⟩, ir_cmp_Compare_uint32⟩
def g_edge_compare : GFn := ⟨.own, ⟨[], []⟩, ir_edge_compare⟩
def g_edge_Less : GFn := ⟨.own, ⟨[], []⟩, ir_edge_Less⟩
def g_edge_Rising : GFn := ⟨.own, ⟨[], []⟩, ir_edge_Rising⟩
def g_cmp_isNaN_int64 : GFn := ⟨.own, ⟨[], []⟩, ir_cmp_isNaN_int64⟩
def g_cmp_Compare_int64 : GFn := ⟨.own, ⟨[], []⟩, ir_cmp_Compare_int64⟩
def g_edge_Before : GFn := ⟨.own, ⟨[], []⟩, ir_edge_Before⟩
def g_archipelagolaw8_known : GFn := ⟨.own, ⟨[], []⟩, ir_archipelagolaw8_known⟩
def g_archipelagoref8_Right : GFn := ⟨.own, ⟨[], []⟩, ir_archipelagoref8_Right⟩
def g_archipelagoref8_Less : GFn := ⟨.own, ⟨[], []⟩, ir_archipelagoref8_Less⟩
def g_archipelagolaw8_EdgeTells : GFn := ⟨.own, ⟨[], []⟩, ir_archipelagolaw8_EdgeTells⟩
def g_archipelagoref8_Rising : GFn := ⟨.own, ⟨[], []⟩, ir_archipelagoref8_Rising⟩
def g_archipelagoref8_Before : GFn := ⟨.own, ⟨[], []⟩, ir_archipelagoref8_Before⟩
def g_archipelagolaw8_EdgeLists : GFn := ⟨.own, ⟨[], []⟩, ir_archipelagolaw8_EdgeLists⟩
def g_archipelagolaw8_few : GFn := ⟨.own, ⟨[], []⟩, ir_archipelagolaw8_few⟩
def g_archipelagolaw8_EdgeOrders : GFn := ⟨.own, ⟨[], []⟩, ir_archipelagolaw8_EdgeOrders⟩
def g_archipelagolaw8_EdgeNames : GFn := ⟨.own, ⟨[], []⟩, ir_archipelagolaw8_EdgeNames⟩
def gtab : GTab := fun n => match n with
  | 8 => some (.code g_edge_Of)
  | 9 => some (.code g_edge_Right)
  | 19 => some (.code g_cmp_Or_int)
  | 23 => some (.code g_cmp_isNaN_uint32)
  | 21 => some (.code g_cmp_Compare_uint32)
  | 18 => some (.code g_edge_compare)
  | 11 => some (.code g_edge_Less)
  | 13 => some (.code g_edge_Rising)
  | 22 => some (.code g_cmp_isNaN_int64)
  | 20 => some (.code g_cmp_Compare_int64)
  | 15 => some (.code g_edge_Before)
  | 7 => some (.code g_archipelagolaw8_known)
  | 10 => some (.code g_archipelagoref8_Right)
  | 12 => some (.code g_archipelagoref8_Less)
  | 3 => some (.code g_archipelagolaw8_EdgeTells)
  | 14 => some (.code g_archipelagoref8_Rising)
  | 16 => some (.code g_archipelagoref8_Before)
  | 4 => some (.code g_archipelagolaw8_EdgeLists)
  | 17 => some (.code g_archipelagolaw8_few)
  | 5 => some (.code g_archipelagolaw8_EdgeOrders)
  | 6 => some (.code g_archipelagolaw8_EdgeNames)
  | _ => none
theorem gt_edge_Of : gtab fid_edge_Of = some (.code g_edge_Of) := rfl
theorem gt_edge_Right : gtab fid_edge_Right = some (.code g_edge_Right) := rfl
theorem gt_cmp_Or_int : gtab fid_cmp_Or_int = some (.code g_cmp_Or_int) := rfl
theorem gt_cmp_isNaN_uint32 : gtab fid_cmp_isNaN_uint32 = some (.code g_cmp_isNaN_uint32) := rfl
theorem gt_cmp_Compare_uint32 : gtab fid_cmp_Compare_uint32 = some (.code g_cmp_Compare_uint32) := rfl
theorem gt_edge_compare : gtab fid_edge_compare = some (.code g_edge_compare) := rfl
theorem gt_edge_Less : gtab fid_edge_Less = some (.code g_edge_Less) := rfl
theorem gt_edge_Rising : gtab fid_edge_Rising = some (.code g_edge_Rising) := rfl
theorem gt_cmp_isNaN_int64 : gtab fid_cmp_isNaN_int64 = some (.code g_cmp_isNaN_int64) := rfl
theorem gt_cmp_Compare_int64 : gtab fid_cmp_Compare_int64 = some (.code g_cmp_Compare_int64) := rfl
theorem gt_edge_Before : gtab fid_edge_Before = some (.code g_edge_Before) := rfl
theorem gt_archipelagolaw8_known : gtab fid_archipelagolaw8_known = some (.code g_archipelagolaw8_known) := rfl
theorem gt_archipelagoref8_Right : gtab fid_archipelagoref8_Right = some (.code g_archipelagoref8_Right) := rfl
theorem gt_archipelagoref8_Less : gtab fid_archipelagoref8_Less = some (.code g_archipelagoref8_Less) := rfl
theorem gt_archipelagolaw8_EdgeTells : gtab fid_archipelagolaw8_EdgeTells = some (.code g_archipelagolaw8_EdgeTells) := rfl
theorem gt_archipelagoref8_Rising : gtab fid_archipelagoref8_Rising = some (.code g_archipelagoref8_Rising) := rfl
theorem gt_archipelagoref8_Before : gtab fid_archipelagoref8_Before = some (.code g_archipelagoref8_Before) := rfl
theorem gt_archipelagolaw8_EdgeLists : gtab fid_archipelagolaw8_EdgeLists = some (.code g_archipelagolaw8_EdgeLists) := rfl
theorem gt_archipelagolaw8_few : gtab fid_archipelagolaw8_few = some (.code g_archipelagolaw8_few) := rfl
theorem gt_archipelagolaw8_EdgeOrders : gtab fid_archipelagolaw8_EdgeOrders = some (.code g_archipelagolaw8_EdgeOrders) := rfl
theorem gt_archipelagolaw8_EdgeNames : gtab fid_archipelagolaw8_EdgeNames = some (.code g_archipelagolaw8_EdgeNames) := rfl
theorem gc_edge_Of {call : GCallF} {lo : Nat} {us : List U} {h : GH} : gcall gtab call lo fid_edge_Of us h = ownCall call lo fid_edge_Of us h := rfl
theorem gc_edge_Right {call : GCallF} {lo : Nat} {us : List U} {h : GH} : gcall gtab call lo fid_edge_Right us h = ownCall call lo fid_edge_Right us h := rfl
theorem gc_cmp_Or_int {call : GCallF} {lo : Nat} {us : List U} {h : GH} : gcall gtab call lo fid_cmp_Or_int us h = ownCall call lo fid_cmp_Or_int us h := rfl
theorem gc_cmp_isNaN_uint32 {call : GCallF} {lo : Nat} {us : List U} {h : GH} : gcall gtab call lo fid_cmp_isNaN_uint32 us h = ownCall call lo fid_cmp_isNaN_uint32 us h := rfl
theorem gc_cmp_Compare_uint32 {call : GCallF} {lo : Nat} {us : List U} {h : GH} : gcall gtab call lo fid_cmp_Compare_uint32 us h = ownCall call lo fid_cmp_Compare_uint32 us h := rfl
theorem gc_edge_compare {call : GCallF} {lo : Nat} {us : List U} {h : GH} : gcall gtab call lo fid_edge_compare us h = ownCall call lo fid_edge_compare us h := rfl
theorem gc_edge_Less {call : GCallF} {lo : Nat} {us : List U} {h : GH} : gcall gtab call lo fid_edge_Less us h = ownCall call lo fid_edge_Less us h := rfl
theorem gc_edge_Rising {call : GCallF} {lo : Nat} {us : List U} {h : GH} : gcall gtab call lo fid_edge_Rising us h = ownCall call lo fid_edge_Rising us h := rfl
theorem gc_cmp_isNaN_int64 {call : GCallF} {lo : Nat} {us : List U} {h : GH} : gcall gtab call lo fid_cmp_isNaN_int64 us h = ownCall call lo fid_cmp_isNaN_int64 us h := rfl
theorem gc_cmp_Compare_int64 {call : GCallF} {lo : Nat} {us : List U} {h : GH} : gcall gtab call lo fid_cmp_Compare_int64 us h = ownCall call lo fid_cmp_Compare_int64 us h := rfl
theorem gc_edge_Before {call : GCallF} {lo : Nat} {us : List U} {h : GH} : gcall gtab call lo fid_edge_Before us h = ownCall call lo fid_edge_Before us h := rfl
theorem gc_archipelagolaw8_known {call : GCallF} {lo : Nat} {us : List U} {h : GH} : gcall gtab call lo fid_archipelagolaw8_known us h = ownCall call lo fid_archipelagolaw8_known us h := rfl
theorem gc_archipelagoref8_Right {call : GCallF} {lo : Nat} {us : List U} {h : GH} : gcall gtab call lo fid_archipelagoref8_Right us h = ownCall call lo fid_archipelagoref8_Right us h := rfl
theorem gc_archipelagoref8_Less {call : GCallF} {lo : Nat} {us : List U} {h : GH} : gcall gtab call lo fid_archipelagoref8_Less us h = ownCall call lo fid_archipelagoref8_Less us h := rfl
theorem gc_archipelagolaw8_EdgeTells {call : GCallF} {lo : Nat} {us : List U} {h : GH} : gcall gtab call lo fid_archipelagolaw8_EdgeTells us h = ownCall call lo fid_archipelagolaw8_EdgeTells us h := rfl
theorem gc_archipelagoref8_Rising {call : GCallF} {lo : Nat} {us : List U} {h : GH} : gcall gtab call lo fid_archipelagoref8_Rising us h = ownCall call lo fid_archipelagoref8_Rising us h := rfl
theorem gc_archipelagoref8_Before {call : GCallF} {lo : Nat} {us : List U} {h : GH} : gcall gtab call lo fid_archipelagoref8_Before us h = ownCall call lo fid_archipelagoref8_Before us h := rfl
theorem gc_archipelagolaw8_EdgeLists {call : GCallF} {lo : Nat} {us : List U} {h : GH} : gcall gtab call lo fid_archipelagolaw8_EdgeLists us h = ownCall call lo fid_archipelagolaw8_EdgeLists us h := rfl
theorem gc_archipelagolaw8_few {call : GCallF} {lo : Nat} {us : List U} {h : GH} : gcall gtab call lo fid_archipelagolaw8_few us h = ownCall call lo fid_archipelagolaw8_few us h := rfl
theorem gc_archipelagolaw8_EdgeOrders {call : GCallF} {lo : Nat} {us : List U} {h : GH} : gcall gtab call lo fid_archipelagolaw8_EdgeOrders us h = ownCall call lo fid_archipelagolaw8_EdgeOrders us h := rfl
theorem gc_archipelagolaw8_EdgeNames {call : GCallF} {lo : Nat} {us : List U} {h : GH} : gcall gtab call lo fid_archipelagolaw8_EdgeNames us h = ownCall call lo fid_archipelagolaw8_EdgeNames us h := rfl
theorem fn_edge_Of {us : List U} {h h' : GH} {lo : Nat} {w : U} (hl : us.length = 2) (k : Z gtab ⟨[], []⟩ lo [.c ir_edge_Of.body] (genvOf 0 us) h fun env h1 => ∃ vs, gres env h1 [.cell 4 2 true, .tmp 5] = some vs ∧ gfin .own vs h1 = some (w, h')) : GF gtab fid_edge_Of us h lo = some (w, h') := GF_fn gt_edge_Of hl k
theorem fnR_edge_Of {us : List U} {h : GH} {lo : Nat} {R : U → GH → Prop} (hl : us.length = 2) (k : Z gtab ⟨[], []⟩ lo [.c ir_edge_Of.body] (genvOf 0 us) h fun env h1 => ∃ vs, gres env h1 [.cell 4 2 true, .tmp 5] = some vs ∧ ∃ w h', gfin .own vs h1 = some (w, h') ∧ R w h') : ∃ w h', GF gtab fid_edge_Of us h lo = some (w, h') ∧ R w h' := GF_fnR gt_edge_Of hl k
theorem fn_edge_Right {us : List U} {h h' : GH} {lo : Nat} {w : U} (hl : us.length = 2) (k : Z gtab ⟨[], []⟩ lo [.c ir_edge_Right.body] (genvOf 0 us) h fun env h1 => ∃ vs, gres env h1 [.tmp 4] = some vs ∧ gfin .own vs h1 = some (w, h')) : GF gtab fid_edge_Right us h lo = some (w, h') := GF_fn gt_edge_Right hl k
theorem fnR_edge_Right {us : List U} {h : GH} {lo : Nat} {R : U → GH → Prop} (hl : us.length = 2) (k : Z gtab ⟨[], []⟩ lo [.c ir_edge_Right.body] (genvOf 0 us) h fun env h1 => ∃ vs, gres env h1 [.tmp 4] = some vs ∧ ∃ w h', gfin .own vs h1 = some (w, h') ∧ R w h') : ∃ w h', GF gtab fid_edge_Right us h lo = some (w, h') ∧ R w h' := GF_fnR gt_edge_Right hl k
theorem fn_cmp_Or_int {us : List U} {h h' : GH} {lo : Nat} {w : U} (hl : us.length = 1) (k : Z gtab ⟨[], []⟩ lo [.c ir_cmp_Or_int.body] (genvOf 0 us) h fun env h1 => ∃ vs, gres env h1 [.tmp 2] = some vs ∧ gfin .own vs h1 = some (w, h')) : GF gtab fid_cmp_Or_int us h lo = some (w, h') := GF_fn gt_cmp_Or_int hl k
theorem fnR_cmp_Or_int {us : List U} {h : GH} {lo : Nat} {R : U → GH → Prop} (hl : us.length = 1) (k : Z gtab ⟨[], []⟩ lo [.c ir_cmp_Or_int.body] (genvOf 0 us) h fun env h1 => ∃ vs, gres env h1 [.tmp 2] = some vs ∧ ∃ w h', gfin .own vs h1 = some (w, h') ∧ R w h') : ∃ w h', GF gtab fid_cmp_Or_int us h lo = some (w, h') ∧ R w h' := GF_fnR gt_cmp_Or_int hl k
theorem fn_cmp_isNaN_uint32 {us : List U} {h h' : GH} {lo : Nat} {w : U} (hl : us.length = 1) (k : Z gtab ⟨[], []⟩ lo [.c ir_cmp_isNaN_uint32.body] (genvOf 0 us) h fun env h1 => ∃ vs, gres env h1 [.tmp 2] = some vs ∧ gfin .own vs h1 = some (w, h')) : GF gtab fid_cmp_isNaN_uint32 us h lo = some (w, h') := GF_fn gt_cmp_isNaN_uint32 hl k
theorem fnR_cmp_isNaN_uint32 {us : List U} {h : GH} {lo : Nat} {R : U → GH → Prop} (hl : us.length = 1) (k : Z gtab ⟨[], []⟩ lo [.c ir_cmp_isNaN_uint32.body] (genvOf 0 us) h fun env h1 => ∃ vs, gres env h1 [.tmp 2] = some vs ∧ ∃ w h', gfin .own vs h1 = some (w, h') ∧ R w h') : ∃ w h', GF gtab fid_cmp_isNaN_uint32 us h lo = some (w, h') ∧ R w h' := GF_fnR gt_cmp_isNaN_uint32 hl k
theorem fn_cmp_Compare_uint32 {us : List U} {h h' : GH} {lo : Nat} {w : U} (hl : us.length = 2) (k : Z gtab ⟨[], []⟩ lo [.c ir_cmp_Compare_uint32.body] (genvOf 0 us) h fun env h1 => ∃ vs, gres env h1 [.tmp 4] = some vs ∧ gfin .own vs h1 = some (w, h')) : GF gtab fid_cmp_Compare_uint32 us h lo = some (w, h') := GF_fn gt_cmp_Compare_uint32 hl k
theorem fnR_cmp_Compare_uint32 {us : List U} {h : GH} {lo : Nat} {R : U → GH → Prop} (hl : us.length = 2) (k : Z gtab ⟨[], []⟩ lo [.c ir_cmp_Compare_uint32.body] (genvOf 0 us) h fun env h1 => ∃ vs, gres env h1 [.tmp 4] = some vs ∧ ∃ w h', gfin .own vs h1 = some (w, h') ∧ R w h') : ∃ w h', GF gtab fid_cmp_Compare_uint32 us h lo = some (w, h') ∧ R w h' := GF_fnR gt_cmp_Compare_uint32 hl k
theorem fn_edge_compare {us : List U} {h h' : GH} {lo : Nat} {w : U} (hl : us.length = 2) (k : Z gtab ⟨[], []⟩ lo [.c ir_edge_compare.body] (genvOf 0 us) h fun env h1 => ∃ vs, gres env h1 [.tmp 4] = some vs ∧ gfin .own vs h1 = some (w, h')) : GF gtab fid_edge_compare us h lo = some (w, h') := GF_fn gt_edge_compare hl k
theorem fnR_edge_compare {us : List U} {h : GH} {lo : Nat} {R : U → GH → Prop} (hl : us.length = 2) (k : Z gtab ⟨[], []⟩ lo [.c ir_edge_compare.body] (genvOf 0 us) h fun env h1 => ∃ vs, gres env h1 [.tmp 4] = some vs ∧ ∃ w h', gfin .own vs h1 = some (w, h') ∧ R w h') : ∃ w h', GF gtab fid_edge_compare us h lo = some (w, h') ∧ R w h' := GF_fnR gt_edge_compare hl k
theorem fn_edge_Less {us : List U} {h h' : GH} {lo : Nat} {w : U} (hl : us.length = 2) (k : Z gtab ⟨[], []⟩ lo [.c ir_edge_Less.body] (genvOf 0 us) h fun env h1 => ∃ vs, gres env h1 [.tmp 4] = some vs ∧ gfin .own vs h1 = some (w, h')) : GF gtab fid_edge_Less us h lo = some (w, h') := GF_fn gt_edge_Less hl k
theorem fnR_edge_Less {us : List U} {h : GH} {lo : Nat} {R : U → GH → Prop} (hl : us.length = 2) (k : Z gtab ⟨[], []⟩ lo [.c ir_edge_Less.body] (genvOf 0 us) h fun env h1 => ∃ vs, gres env h1 [.tmp 4] = some vs ∧ ∃ w h', gfin .own vs h1 = some (w, h') ∧ R w h') : ∃ w h', GF gtab fid_edge_Less us h lo = some (w, h') ∧ R w h' := GF_fnR gt_edge_Less hl k
theorem fn_edge_Rising {us : List U} {h h' : GH} {lo : Nat} {w : U} (hl : us.length = 1) (k : Z gtab ⟨[], []⟩ lo [.c ir_edge_Rising.body] (genvOf 0 us) h fun env h1 => ∃ vs, gres env h1 [.tmp 2] = some vs ∧ gfin .own vs h1 = some (w, h')) : GF gtab fid_edge_Rising us h lo = some (w, h') := GF_fn gt_edge_Rising hl k
theorem fnR_edge_Rising {us : List U} {h : GH} {lo : Nat} {R : U → GH → Prop} (hl : us.length = 1) (k : Z gtab ⟨[], []⟩ lo [.c ir_edge_Rising.body] (genvOf 0 us) h fun env h1 => ∃ vs, gres env h1 [.tmp 2] = some vs ∧ ∃ w h', gfin .own vs h1 = some (w, h') ∧ R w h') : ∃ w h', GF gtab fid_edge_Rising us h lo = some (w, h') ∧ R w h' := GF_fnR gt_edge_Rising hl k
theorem fn_cmp_isNaN_int64 {us : List U} {h h' : GH} {lo : Nat} {w : U} (hl : us.length = 1) (k : Z gtab ⟨[], []⟩ lo [.c ir_cmp_isNaN_int64.body] (genvOf 0 us) h fun env h1 => ∃ vs, gres env h1 [.tmp 2] = some vs ∧ gfin .own vs h1 = some (w, h')) : GF gtab fid_cmp_isNaN_int64 us h lo = some (w, h') := GF_fn gt_cmp_isNaN_int64 hl k
theorem fnR_cmp_isNaN_int64 {us : List U} {h : GH} {lo : Nat} {R : U → GH → Prop} (hl : us.length = 1) (k : Z gtab ⟨[], []⟩ lo [.c ir_cmp_isNaN_int64.body] (genvOf 0 us) h fun env h1 => ∃ vs, gres env h1 [.tmp 2] = some vs ∧ ∃ w h', gfin .own vs h1 = some (w, h') ∧ R w h') : ∃ w h', GF gtab fid_cmp_isNaN_int64 us h lo = some (w, h') ∧ R w h' := GF_fnR gt_cmp_isNaN_int64 hl k
theorem fn_cmp_Compare_int64 {us : List U} {h h' : GH} {lo : Nat} {w : U} (hl : us.length = 2) (k : Z gtab ⟨[], []⟩ lo [.c ir_cmp_Compare_int64.body] (genvOf 0 us) h fun env h1 => ∃ vs, gres env h1 [.tmp 4] = some vs ∧ gfin .own vs h1 = some (w, h')) : GF gtab fid_cmp_Compare_int64 us h lo = some (w, h') := GF_fn gt_cmp_Compare_int64 hl k
theorem fnR_cmp_Compare_int64 {us : List U} {h : GH} {lo : Nat} {R : U → GH → Prop} (hl : us.length = 2) (k : Z gtab ⟨[], []⟩ lo [.c ir_cmp_Compare_int64.body] (genvOf 0 us) h fun env h1 => ∃ vs, gres env h1 [.tmp 4] = some vs ∧ ∃ w h', gfin .own vs h1 = some (w, h') ∧ R w h') : ∃ w h', GF gtab fid_cmp_Compare_int64 us h lo = some (w, h') ∧ R w h' := GF_fnR gt_cmp_Compare_int64 hl k
theorem fn_edge_Before {us : List U} {h h' : GH} {lo : Nat} {w : U} (hl : us.length = 2) (k : Z gtab ⟨[], []⟩ lo [.c ir_edge_Before.body] (genvOf 0 us) h fun env h1 => ∃ vs, gres env h1 [.tmp 4] = some vs ∧ gfin .own vs h1 = some (w, h')) : GF gtab fid_edge_Before us h lo = some (w, h') := GF_fn gt_edge_Before hl k
theorem fnR_edge_Before {us : List U} {h : GH} {lo : Nat} {R : U → GH → Prop} (hl : us.length = 2) (k : Z gtab ⟨[], []⟩ lo [.c ir_edge_Before.body] (genvOf 0 us) h fun env h1 => ∃ vs, gres env h1 [.tmp 4] = some vs ∧ ∃ w h', gfin .own vs h1 = some (w, h') ∧ R w h') : ∃ w h', GF gtab fid_edge_Before us h lo = some (w, h') ∧ R w h' := GF_fnR gt_edge_Before hl k
theorem fn_archipelagolaw8_known {us : List U} {h h' : GH} {lo : Nat} {w : U} (hl : us.length = 0) (k : Z gtab ⟨[], []⟩ lo [.c ir_archipelagolaw8_known.body] (genvOf 0 us) h fun env h1 => ∃ vs, gres env h1 [.tmp 0] = some vs ∧ gfin .own vs h1 = some (w, h')) : GF gtab fid_archipelagolaw8_known us h lo = some (w, h') := GF_fn gt_archipelagolaw8_known hl k
theorem fnR_archipelagolaw8_known {us : List U} {h : GH} {lo : Nat} {R : U → GH → Prop} (hl : us.length = 0) (k : Z gtab ⟨[], []⟩ lo [.c ir_archipelagolaw8_known.body] (genvOf 0 us) h fun env h1 => ∃ vs, gres env h1 [.tmp 0] = some vs ∧ ∃ w h', gfin .own vs h1 = some (w, h') ∧ R w h') : ∃ w h', GF gtab fid_archipelagolaw8_known us h lo = some (w, h') ∧ R w h' := GF_fnR gt_archipelagolaw8_known hl k
theorem fn_archipelagoref8_Right {us : List U} {h h' : GH} {lo : Nat} {w : U} (hl : us.length = 2) (k : Z gtab ⟨[], []⟩ lo [.c ir_archipelagoref8_Right.body] (genvOf 0 us) h fun env h1 => ∃ vs, gres env h1 [.tmp 4] = some vs ∧ gfin .own vs h1 = some (w, h')) : GF gtab fid_archipelagoref8_Right us h lo = some (w, h') := GF_fn gt_archipelagoref8_Right hl k
theorem fnR_archipelagoref8_Right {us : List U} {h : GH} {lo : Nat} {R : U → GH → Prop} (hl : us.length = 2) (k : Z gtab ⟨[], []⟩ lo [.c ir_archipelagoref8_Right.body] (genvOf 0 us) h fun env h1 => ∃ vs, gres env h1 [.tmp 4] = some vs ∧ ∃ w h', gfin .own vs h1 = some (w, h') ∧ R w h') : ∃ w h', GF gtab fid_archipelagoref8_Right us h lo = some (w, h') ∧ R w h' := GF_fnR gt_archipelagoref8_Right hl k
theorem fn_archipelagoref8_Less {us : List U} {h h' : GH} {lo : Nat} {w : U} (hl : us.length = 2) (k : Z gtab ⟨[], []⟩ lo [.c ir_archipelagoref8_Less.body] (genvOf 0 us) h fun env h1 => ∃ vs, gres env h1 [.tmp 4] = some vs ∧ gfin .own vs h1 = some (w, h')) : GF gtab fid_archipelagoref8_Less us h lo = some (w, h') := GF_fn gt_archipelagoref8_Less hl k
theorem fnR_archipelagoref8_Less {us : List U} {h : GH} {lo : Nat} {R : U → GH → Prop} (hl : us.length = 2) (k : Z gtab ⟨[], []⟩ lo [.c ir_archipelagoref8_Less.body] (genvOf 0 us) h fun env h1 => ∃ vs, gres env h1 [.tmp 4] = some vs ∧ ∃ w h', gfin .own vs h1 = some (w, h') ∧ R w h') : ∃ w h', GF gtab fid_archipelagoref8_Less us h lo = some (w, h') ∧ R w h' := GF_fnR gt_archipelagoref8_Less hl k
theorem fn_archipelagolaw8_EdgeTells {us : List U} {h h' : GH} {lo : Nat} {w : U} (hl : us.length = 6) (k : Z gtab ⟨[], []⟩ lo [.c ir_archipelagolaw8_EdgeTells.body] (genvOf 0 us) h fun env h1 => ∃ vs, gres env h1 [.tmp 12] = some vs ∧ gfin .own vs h1 = some (w, h')) : GF gtab fid_archipelagolaw8_EdgeTells us h lo = some (w, h') := GF_fn gt_archipelagolaw8_EdgeTells hl k
theorem fnR_archipelagolaw8_EdgeTells {us : List U} {h : GH} {lo : Nat} {R : U → GH → Prop} (hl : us.length = 6) (k : Z gtab ⟨[], []⟩ lo [.c ir_archipelagolaw8_EdgeTells.body] (genvOf 0 us) h fun env h1 => ∃ vs, gres env h1 [.tmp 12] = some vs ∧ ∃ w h', gfin .own vs h1 = some (w, h') ∧ R w h') : ∃ w h', GF gtab fid_archipelagolaw8_EdgeTells us h lo = some (w, h') ∧ R w h' := GF_fnR gt_archipelagolaw8_EdgeTells hl k
theorem fn_archipelagoref8_Rising {us : List U} {h h' : GH} {lo : Nat} {w : U} (hl : us.length = 1) (k : Z gtab ⟨[], []⟩ lo [.c ir_archipelagoref8_Rising.body] (genvOf 0 us) h fun env h1 => ∃ vs, gres env h1 [.tmp 2] = some vs ∧ gfin .own vs h1 = some (w, h')) : GF gtab fid_archipelagoref8_Rising us h lo = some (w, h') := GF_fn gt_archipelagoref8_Rising hl k
theorem fnR_archipelagoref8_Rising {us : List U} {h : GH} {lo : Nat} {R : U → GH → Prop} (hl : us.length = 1) (k : Z gtab ⟨[], []⟩ lo [.c ir_archipelagoref8_Rising.body] (genvOf 0 us) h fun env h1 => ∃ vs, gres env h1 [.tmp 2] = some vs ∧ ∃ w h', gfin .own vs h1 = some (w, h') ∧ R w h') : ∃ w h', GF gtab fid_archipelagoref8_Rising us h lo = some (w, h') ∧ R w h' := GF_fnR gt_archipelagoref8_Rising hl k
theorem fn_archipelagoref8_Before {us : List U} {h h' : GH} {lo : Nat} {w : U} (hl : us.length = 2) (k : Z gtab ⟨[], []⟩ lo [.c ir_archipelagoref8_Before.body] (genvOf 0 us) h fun env h1 => ∃ vs, gres env h1 [.tmp 4] = some vs ∧ gfin .own vs h1 = some (w, h')) : GF gtab fid_archipelagoref8_Before us h lo = some (w, h') := GF_fn gt_archipelagoref8_Before hl k
theorem fnR_archipelagoref8_Before {us : List U} {h : GH} {lo : Nat} {R : U → GH → Prop} (hl : us.length = 2) (k : Z gtab ⟨[], []⟩ lo [.c ir_archipelagoref8_Before.body] (genvOf 0 us) h fun env h1 => ∃ vs, gres env h1 [.tmp 4] = some vs ∧ ∃ w h', gfin .own vs h1 = some (w, h') ∧ R w h') : ∃ w h', GF gtab fid_archipelagoref8_Before us h lo = some (w, h') ∧ R w h' := GF_fnR gt_archipelagoref8_Before hl k
theorem fn_archipelagolaw8_EdgeLists {us : List U} {h h' : GH} {lo : Nat} {w : U} (hl : us.length = 4) (k : Z gtab ⟨[], []⟩ lo [.c ir_archipelagolaw8_EdgeLists.body] (genvOf 0 us) h fun env h1 => ∃ vs, gres env h1 [.tmp 8] = some vs ∧ gfin .own vs h1 = some (w, h')) : GF gtab fid_archipelagolaw8_EdgeLists us h lo = some (w, h') := GF_fn gt_archipelagolaw8_EdgeLists hl k
theorem fnR_archipelagolaw8_EdgeLists {us : List U} {h : GH} {lo : Nat} {R : U → GH → Prop} (hl : us.length = 4) (k : Z gtab ⟨[], []⟩ lo [.c ir_archipelagolaw8_EdgeLists.body] (genvOf 0 us) h fun env h1 => ∃ vs, gres env h1 [.tmp 8] = some vs ∧ ∃ w h', gfin .own vs h1 = some (w, h') ∧ R w h') : ∃ w h', GF gtab fid_archipelagolaw8_EdgeLists us h lo = some (w, h') ∧ R w h' := GF_fnR gt_archipelagolaw8_EdgeLists hl k
theorem fn_archipelagolaw8_few {us : List U} {h h' : GH} {lo : Nat} {w : U} (hl : us.length = 3) (k : Z gtab ⟨[], []⟩ lo [.c ir_archipelagolaw8_few.body] (genvOf 0 us) h fun env h1 => ∃ vs, gres env h1 [.cell 6 4 true] = some vs ∧ gfin .own vs h1 = some (w, h')) : GF gtab fid_archipelagolaw8_few us h lo = some (w, h') := GF_fn gt_archipelagolaw8_few hl k
theorem fnR_archipelagolaw8_few {us : List U} {h : GH} {lo : Nat} {R : U → GH → Prop} (hl : us.length = 3) (k : Z gtab ⟨[], []⟩ lo [.c ir_archipelagolaw8_few.body] (genvOf 0 us) h fun env h1 => ∃ vs, gres env h1 [.cell 6 4 true] = some vs ∧ ∃ w h', gfin .own vs h1 = some (w, h') ∧ R w h') : ∃ w h', GF gtab fid_archipelagolaw8_few us h lo = some (w, h') ∧ R w h' := GF_fnR gt_archipelagolaw8_few hl k
theorem fn_archipelagolaw8_EdgeOrders {us : List U} {h h' : GH} {lo : Nat} {w : U} (hl : us.length = 5) (k : Z gtab ⟨[], []⟩ lo [.c ir_archipelagolaw8_EdgeOrders.body] (genvOf 0 us) h fun env h1 => ∃ vs, gres env h1 [.tmp 10] = some vs ∧ gfin .own vs h1 = some (w, h')) : GF gtab fid_archipelagolaw8_EdgeOrders us h lo = some (w, h') := GF_fn gt_archipelagolaw8_EdgeOrders hl k
theorem fnR_archipelagolaw8_EdgeOrders {us : List U} {h : GH} {lo : Nat} {R : U → GH → Prop} (hl : us.length = 5) (k : Z gtab ⟨[], []⟩ lo [.c ir_archipelagolaw8_EdgeOrders.body] (genvOf 0 us) h fun env h1 => ∃ vs, gres env h1 [.tmp 10] = some vs ∧ ∃ w h', gfin .own vs h1 = some (w, h') ∧ R w h') : ∃ w h', GF gtab fid_archipelagolaw8_EdgeOrders us h lo = some (w, h') ∧ R w h' := GF_fnR gt_archipelagolaw8_EdgeOrders hl k
theorem fn_archipelagolaw8_EdgeNames {us : List U} {h h' : GH} {lo : Nat} {w : U} (hl : us.length = 3) (k : Z gtab ⟨[], []⟩ lo [.c ir_archipelagolaw8_EdgeNames.body] (genvOf 0 us) h fun env h1 => ∃ vs, gres env h1 [.tmp 6] = some vs ∧ gfin .own vs h1 = some (w, h')) : GF gtab fid_archipelagolaw8_EdgeNames us h lo = some (w, h') := GF_fn gt_archipelagolaw8_EdgeNames hl k
theorem fnR_archipelagolaw8_EdgeNames {us : List U} {h : GH} {lo : Nat} {R : U → GH → Prop} (hl : us.length = 3) (k : Z gtab ⟨[], []⟩ lo [.c ir_archipelagolaw8_EdgeNames.body] (genvOf 0 us) h fun env h1 => ∃ vs, gres env h1 [.tmp 6] = some vs ∧ ∃ w h', gfin .own vs h1 = some (w, h') ∧ R w h') : ∃ w h', GF gtab fid_archipelagolaw8_EdgeNames us h lo = some (w, h') ∧ R w h' := GF_fnR gt_archipelagolaw8_EdgeNames hl k
theorem iq_edge_Of : isRo gtab fid_edge_Of = true := rfl
theorem mk_edge_Of : makes gtab fid_edge_Of = true := rfl
theorem iq_edge_Right : isRo gtab fid_edge_Right = true := rfl
theorem mk_edge_Right : makes gtab fid_edge_Right = true := rfl
theorem iq_cmp_Or_int : isRo gtab fid_cmp_Or_int = true := rfl
theorem mk_cmp_Or_int : makes gtab fid_cmp_Or_int = true := rfl
theorem iq_cmp_isNaN_uint32 : isRo gtab fid_cmp_isNaN_uint32 = true := rfl
theorem mk_cmp_isNaN_uint32 : makes gtab fid_cmp_isNaN_uint32 = true := rfl
theorem iq_cmp_Compare_uint32 : isRo gtab fid_cmp_Compare_uint32 = true := rfl
theorem mk_cmp_Compare_uint32 : makes gtab fid_cmp_Compare_uint32 = true := rfl
theorem iq_edge_compare : isRo gtab fid_edge_compare = true := rfl
theorem mk_edge_compare : makes gtab fid_edge_compare = true := rfl
theorem iq_edge_Less : isRo gtab fid_edge_Less = true := rfl
theorem mk_edge_Less : makes gtab fid_edge_Less = true := rfl
theorem iq_edge_Rising : isRo gtab fid_edge_Rising = true := rfl
theorem mk_edge_Rising : makes gtab fid_edge_Rising = true := rfl
theorem iq_cmp_isNaN_int64 : isRo gtab fid_cmp_isNaN_int64 = true := rfl
theorem mk_cmp_isNaN_int64 : makes gtab fid_cmp_isNaN_int64 = true := rfl
theorem iq_cmp_Compare_int64 : isRo gtab fid_cmp_Compare_int64 = true := rfl
theorem mk_cmp_Compare_int64 : makes gtab fid_cmp_Compare_int64 = true := rfl
theorem iq_edge_Before : isRo gtab fid_edge_Before = true := rfl
theorem mk_edge_Before : makes gtab fid_edge_Before = true := rfl
theorem iq_archipelagolaw8_known : isRo gtab fid_archipelagolaw8_known = true := rfl
theorem mk_archipelagolaw8_known : makes gtab fid_archipelagolaw8_known = true := rfl
theorem iq_archipelagoref8_Right : isRo gtab fid_archipelagoref8_Right = true := rfl
theorem mk_archipelagoref8_Right : makes gtab fid_archipelagoref8_Right = true := rfl
theorem iq_archipelagoref8_Less : isRo gtab fid_archipelagoref8_Less = true := rfl
theorem mk_archipelagoref8_Less : makes gtab fid_archipelagoref8_Less = true := rfl
theorem iq_archipelagolaw8_EdgeTells : isRo gtab fid_archipelagolaw8_EdgeTells = true := rfl
theorem mk_archipelagolaw8_EdgeTells : makes gtab fid_archipelagolaw8_EdgeTells = true := rfl
theorem iq_archipelagoref8_Rising : isRo gtab fid_archipelagoref8_Rising = true := rfl
theorem mk_archipelagoref8_Rising : makes gtab fid_archipelagoref8_Rising = true := rfl
theorem iq_archipelagoref8_Before : isRo gtab fid_archipelagoref8_Before = true := rfl
theorem mk_archipelagoref8_Before : makes gtab fid_archipelagoref8_Before = true := rfl
theorem iq_archipelagolaw8_EdgeLists : isRo gtab fid_archipelagolaw8_EdgeLists = true := rfl
theorem mk_archipelagolaw8_EdgeLists : makes gtab fid_archipelagolaw8_EdgeLists = true := rfl
theorem iq_archipelagolaw8_few : isRo gtab fid_archipelagolaw8_few = true := rfl
theorem mk_archipelagolaw8_few : makes gtab fid_archipelagolaw8_few = true := rfl
theorem iq_archipelagolaw8_EdgeOrders : isRo gtab fid_archipelagolaw8_EdgeOrders = true := rfl
theorem mk_archipelagolaw8_EdgeOrders : makes gtab fid_archipelagolaw8_EdgeOrders = true := rfl
theorem iq_archipelagolaw8_EdgeNames : isRo gtab fid_archipelagolaw8_EdgeNames = true := rfl
theorem mk_archipelagolaw8_EdgeNames : makes gtab fid_archipelagolaw8_EdgeNames = true := rfl
theorem gtab_sim : TabSim gtab tab := by
  intro f g h
  unfold gtab at h
  split at h
  · cases h; rfl
  · cases h; rfl
  · cases h; rfl
  · cases h; rfl
  · cases h; rfl
  · cases h; rfl
  · cases h; rfl
  · cases h; rfl
  · cases h; rfl
  · cases h; rfl
  · cases h; rfl
  · cases h; rfl
  · cases h; rfl
  · cases h; rfl
  · cases h; rfl
  · cases h; rfl
  · cases h; rfl
  · cases h; rfl
  · cases h; rfl
  · cases h; rfl
  · cases h; rfl
  · cases h
theorem gtab_clone : CloneOk gtab tab := by
  intro f e b h
  unfold gtab at h
  split at h
  · cases h
  · cases h
  · cases h
  · cases h
  · cases h
  · cases h
  · cases h
  · cases h
  · cases h
  · cases h
  · cases h
  · cases h
  · cases h
  · cases h
  · cases h
  · cases h
  · cases h
  · cases h
  · cases h
  · cases h
  · cases h
  · cases h
end Go.Ab
