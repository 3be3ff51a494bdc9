/- The functions as the machine of values has them (printed by wip/irgen.py). -/
import Derived.Test.YtnikphikjkfooaaTab
import Derived.Test.YtnikphikjkfooaaValM
namespace Go.Ab
open Go
def g_index_Right : GFn := ⟨.own, ⟨[], []⟩, ir_index_Right⟩
def g_index_put : GFn := ⟨.own, ⟨[], []⟩, ir_index_put⟩
def g_crc_step : GFn := ⟨.own, ⟨[], []⟩, ir_crc_step⟩
def g_crc_Sum : GFn := ⟨.own, ⟨[], []⟩, ir_crc_Sum⟩
def g_crc_Seal : GFn := ⟨.own, ⟨[], []⟩, ir_crc_Seal⟩
def g_index_Put : GFn := ⟨.own, ⟨[], []⟩, ir_index_Put⟩
def g_sort_Search : GFn := ⟨.rw, ⟨[], []⟩, ir_sort_Search⟩
def g_index_Find_1 : GFn := ⟨.ro, ⟨[], []⟩, ir_index_Find_1⟩
def g_index_Find : GFn := ⟨.own, ⟨[], []⟩, ir_index_Find⟩
def g_index_Offset : GFn := ⟨.own, ⟨[], []⟩, ir_index_Offset⟩
def g_archipelagoref1_Fixed : GFn := ⟨.own, ⟨[], []⟩, ir_archipelagoref1_Fixed⟩
def g_archipelagoref1_Next : GFn := ⟨.own, ⟨[], []⟩, ir_archipelagoref1_Next⟩
def g_archipelagoref1_Sum : GFn := ⟨.own, ⟨[], []⟩, ir_archipelagoref1_Sum⟩
def g_archipelagoref1_Seal : GFn := ⟨.own, ⟨[], []⟩, ir_archipelagoref1_Seal⟩
def g_archipelagoref18_Right : GFn := ⟨.own, ⟨[], []⟩, ir_archipelagoref18_Right⟩
def g_archipelagoref18_Put : GFn := ⟨.own, ⟨[], []⟩, ir_archipelagoref18_Put⟩
def g_head_Right : GFn := ⟨.own, ⟨[], []⟩, ir_head_Right⟩
def g_head_Blocks : GFn := ⟨.own, ⟨[], []⟩, ir_head_Blocks⟩
def g_slices_Equal_byte_byte : GFn := ⟨.own, ⟨[], []⟩, ir_slices_Equal_byte_byte⟩
def g_crc_Open : GFn := ⟨.own, ⟨[], []⟩, ir_crc_Open⟩
def g_index_take : GFn := ⟨.own, ⟨[], []⟩, ir_index_take⟩
def g_index_Read : GFn := ⟨.own, ⟨[], []⟩, ir_index_Read⟩
def g_archipelagoref18_SameRows : GFn := ⟨.own, ⟨[], []⟩, ir_archipelagoref18_SameRows⟩
def g_archipelagolaw19_known : GFn := ⟨.own, ⟨[], []⟩, ir_archipelagolaw19_known⟩
def g_archipelagolaw19_rows : GFn := ⟨.own, ⟨[], []⟩, ir_archipelagolaw19_rows⟩
def g_archipelagolaw19_bent : GFn := ⟨.own, ⟨[], [12]⟩, ir_archipelagolaw19_bent⟩
def g_archipelagoref18_RowsRight : GFn := ⟨.own, ⟨[], []⟩, ir_archipelagoref18_RowsRight⟩
def g_archipelagoref18_RowsPut : GFn := ⟨.own, ⟨[], []⟩, ir_archipelagoref18_RowsPut⟩
def g_archipelagoref18_Find : GFn := ⟨.own, ⟨[], []⟩, ir_archipelagoref18_Find⟩
def g_archipelagoref18_Offset : GFn := ⟨.own, ⟨[], []⟩, ir_archipelagoref18_Offset⟩
def g_archipelagolaw19_IndexTells : GFn := ⟨.own, ⟨[], []⟩, ir_archipelagolaw19_IndexTells⟩
def g_archipelagolaw19_IndexFinds : GFn := ⟨.own, ⟨[], []⟩, ir_archipelagolaw19_IndexFinds⟩
def gtab : GTab := fun n => match n with
  | 12 => some (.code g_index_Right)
  | 27 => some (.code g_index_put)
  | 40 => some (.clone 1 1)
  | 45 => some (.code g_crc_step)
  | 41 => some (.code g_crc_Sum)
  | 28 => some (.code g_crc_Seal)
  | 10 => some (.code g_index_Put)
  | 29 => some (.code g_sort_Search)
  | 30 => some (.code g_index_Find_1)
  | 14 => some (.code g_index_Find)
  | 16 => some (.code g_index_Offset)
  | 19 => some (.code g_archipelagoref1_Fixed)
  | 42 => some (.code g_archipelagoref1_Next)
  | 32 => some (.code g_archipelagoref1_Sum)
  | 20 => some (.code g_archipelagoref1_Seal)
  | 31 => some (.code g_archipelagoref18_Right)
  | 18 => some (.code g_archipelagoref18_Put)
  | 43 => some (.code g_head_Right)
  | 36 => some (.code g_head_Blocks)
  | 44 => some (.code g_slices_Equal_byte_byte)
  | 37 => some (.code g_crc_Open)
  | 38 => some (.code g_index_take)
  | 23 => some (.code g_index_Read)
  | 25 => some (.code g_archipelagoref18_SameRows)
  | 7 => some (.code g_archipelagolaw19_known)
  | 8 => some (.code g_archipelagolaw19_rows)
  | 9 => some (.code g_archipelagolaw19_bent)
  | 13 => some (.code g_archipelagoref18_RowsRight)
  | 11 => some (.code g_archipelagoref18_RowsPut)
  | 15 => some (.code g_archipelagoref18_Find)
  | 17 => some (.code g_archipelagoref18_Offset)
  | 3 => some (.code g_archipelagolaw19_IndexTells)
  | 5 => some (.code g_archipelagolaw19_IndexFinds)
  | _ => none
theorem gt_index_Right : gtab fid_index_Right = some (.code g_index_Right) := rfl
theorem gt_index_put : gtab fid_index_put = some (.code g_index_put) := rfl
theorem gt_slices_Clone_byte_byte : gtab fid_slices_Clone_byte_byte = some (.clone 1 1) := rfl
theorem gt_crc_step : gtab fid_crc_step = some (.code g_crc_step) := rfl
theorem gt_crc_Sum : gtab fid_crc_Sum = some (.code g_crc_Sum) := rfl
theorem gt_crc_Seal : gtab fid_crc_Seal = some (.code g_crc_Seal) := rfl
theorem gt_index_Put : gtab fid_index_Put = some (.code g_index_Put) := rfl
theorem gt_sort_Search : gtab fid_sort_Search = some (.code g_sort_Search) := rfl
theorem gt_index_Find_1 : gtab fid_index_Find_1 = some (.code g_index_Find_1) := rfl
theorem gt_index_Find : gtab fid_index_Find = some (.code g_index_Find) := rfl
theorem gt_index_Offset : gtab fid_index_Offset = some (.code g_index_Offset) := rfl
theorem gt_archipelagoref1_Fixed : gtab fid_archipelagoref1_Fixed = some (.code g_archipelagoref1_Fixed) := rfl
theorem gt_archipelagoref1_Next : gtab fid_archipelagoref1_Next = some (.code g_archipelagoref1_Next) := rfl
theorem gt_archipelagoref1_Sum : gtab fid_archipelagoref1_Sum = some (.code g_archipelagoref1_Sum) := rfl
theorem gt_archipelagoref1_Seal : gtab fid_archipelagoref1_Seal = some (.code g_archipelagoref1_Seal) := rfl
theorem gt_archipelagoref18_Right : gtab fid_archipelagoref18_Right = some (.code g_archipelagoref18_Right) := rfl
theorem gt_archipelagoref18_Put : gtab fid_archipelagoref18_Put = some (.code g_archipelagoref18_Put) := rfl
theorem gt_head_Right : gtab fid_head_Right = some (.code g_head_Right) := rfl
theorem gt_head_Blocks : gtab fid_head_Blocks = some (.code g_head_Blocks) := rfl
theorem gt_slices_Equal_byte_byte : gtab fid_slices_Equal_byte_byte = some (.code g_slices_Equal_byte_byte) := rfl
theorem gt_crc_Open : gtab fid_crc_Open = some (.code g_crc_Open) := rfl
theorem gt_index_take : gtab fid_index_take = some (.code g_index_take) := rfl
theorem gt_index_Read : gtab fid_index_Read = some (.code g_index_Read) := rfl
theorem gt_archipelagoref18_SameRows : gtab fid_archipelagoref18_SameRows = some (.code g_archipelagoref18_SameRows) := rfl
theorem gt_archipelagolaw19_known : gtab fid_archipelagolaw19_known = some (.code g_archipelagolaw19_known) := rfl
theorem gt_archipelagolaw19_rows : gtab fid_archipelagolaw19_rows = some (.code g_archipelagolaw19_rows) := rfl
theorem gt_archipelagolaw19_bent : gtab fid_archipelagolaw19_bent = some (.code g_archipelagolaw19_bent) := rfl
theorem gt_archipelagoref18_RowsRight : gtab fid_archipelagoref18_RowsRight = some (.code g_archipelagoref18_RowsRight) := rfl
theorem gt_archipelagoref18_RowsPut : gtab fid_archipelagoref18_RowsPut = some (.code g_archipelagoref18_RowsPut) := rfl
theorem gt_archipelagoref18_Find : gtab fid_archipelagoref18_Find = some (.code g_archipelagoref18_Find) := rfl
theorem gt_archipelagoref18_Offset : gtab fid_archipelagoref18_Offset = some (.code g_archipelagoref18_Offset) := rfl
theorem gt_archipelagolaw19_IndexTells : gtab fid_archipelagolaw19_IndexTells = some (.code g_archipelagolaw19_IndexTells) := rfl
theorem gt_archipelagolaw19_IndexFinds : gtab fid_archipelagolaw19_IndexFinds = some (.code g_archipelagolaw19_IndexFinds) := rfl
theorem gc_index_Right {call : GCallF} {lo : Nat} {us : List U} {h : GH} : gcall gtab call lo fid_index_Right us h = ownCall call lo fid_index_Right us h := rfl
theorem gc_index_put {call : GCallF} {lo : Nat} {us : List U} {h : GH} : gcall gtab call lo fid_index_put us h = ownCall call lo fid_index_put us h := rfl
theorem gc_slices_Clone_byte_byte {call : GCallF} {lo : Nat} {us : List U} {h : GH} : gcall gtab call lo fid_slices_Clone_byte_byte us h = cloneCall 1 1 us h := rfl
theorem gc_crc_step {call : GCallF} {lo : Nat} {us : List U} {h : GH} : gcall gtab call lo fid_crc_step us h = ownCall call lo fid_crc_step us h := rfl
theorem gc_crc_Sum {call : GCallF} {lo : Nat} {us : List U} {h : GH} : gcall gtab call lo fid_crc_Sum us h = ownCall call lo fid_crc_Sum us h := rfl
theorem gc_crc_Seal {call : GCallF} {lo : Nat} {us : List U} {h : GH} : gcall gtab call lo fid_crc_Seal us h = ownCall call lo fid_crc_Seal us h := rfl
theorem gc_index_Put {call : GCallF} {lo : Nat} {us : List U} {h : GH} : gcall gtab call lo fid_index_Put us h = ownCall call lo fid_index_Put us h := rfl
theorem gc_sort_Search {call : GCallF} {lo : Nat} {us : List U} {h : GH} : gcall gtab call lo fid_sort_Search us h = rwCall call lo fid_sort_Search us h := rfl
theorem gc_index_Find_1 {call : GCallF} {lo : Nat} {us : List U} {h : GH} : gcall gtab call lo fid_index_Find_1 us h = roCall call lo fid_index_Find_1 us h := rfl
theorem gc_index_Find {call : GCallF} {lo : Nat} {us : List U} {h : GH} : gcall gtab call lo fid_index_Find us h = ownCall call lo fid_index_Find us h := rfl
theorem gc_index_Offset {call : GCallF} {lo : Nat} {us : List U} {h : GH} : gcall gtab call lo fid_index_Offset us h = ownCall call lo fid_index_Offset us h := rfl
theorem gc_archipelagoref1_Fixed {call : GCallF} {lo : Nat} {us : List U} {h : GH} : gcall gtab call lo fid_archipelagoref1_Fixed us h = ownCall call lo fid_archipelagoref1_Fixed us h := rfl
theorem gc_archipelagoref1_Next {call : GCallF} {lo : Nat} {us : List U} {h : GH} : gcall gtab call lo fid_archipelagoref1_Next us h = ownCall call lo fid_archipelagoref1_Next us h := rfl
theorem gc_archipelagoref1_Sum {call : GCallF} {lo : Nat} {us : List U} {h : GH} : gcall gtab call lo fid_archipelagoref1_Sum us h = ownCall call lo fid_archipelagoref1_Sum us h := rfl
theorem gc_archipelagoref1_Seal {call : GCallF} {lo : Nat} {us : List U} {h : GH} : gcall gtab call lo fid_archipelagoref1_Seal us h = ownCall call lo fid_archipelagoref1_Seal us h := rfl
theorem gc_archipelagoref18_Right {call : GCallF} {lo : Nat} {us : List U} {h : GH} : gcall gtab call lo fid_archipelagoref18_Right us h = ownCall call lo fid_archipelagoref18_Right us h := rfl
theorem gc_archipelagoref18_Put {call : GCallF} {lo : Nat} {us : List U} {h : GH} : gcall gtab call lo fid_archipelagoref18_Put us h = ownCall call lo fid_archipelagoref18_Put us h := rfl
theorem gc_head_Right {call : GCallF} {lo : Nat} {us : List U} {h : GH} : gcall gtab call lo fid_head_Right us h = ownCall call lo fid_head_Right us h := rfl
theorem gc_head_Blocks {call : GCallF} {lo : Nat} {us : List U} {h : GH} : gcall gtab call lo fid_head_Blocks us h = ownCall call lo fid_head_Blocks us h := rfl
theorem gc_slices_Equal_byte_byte {call : GCallF} {lo : Nat} {us : List U} {h : GH} : gcall gtab call lo fid_slices_Equal_byte_byte us h = ownCall call lo fid_slices_Equal_byte_byte us h := rfl
theorem gc_crc_Open {call : GCallF} {lo : Nat} {us : List U} {h : GH} : gcall gtab call lo fid_crc_Open us h = ownCall call lo fid_crc_Open us h := rfl
theorem gc_index_take {call : GCallF} {lo : Nat} {us : List U} {h : GH} : gcall gtab call lo fid_index_take us h = ownCall call lo fid_index_take us h := rfl
theorem gc_index_Read {call : GCallF} {lo : Nat} {us : List U} {h : GH} : gcall gtab call lo fid_index_Read us h = ownCall call lo fid_index_Read us h := rfl
theorem gc_archipelagoref18_SameRows {call : GCallF} {lo : Nat} {us : List U} {h : GH} : gcall gtab call lo fid_archipelagoref18_SameRows us h = ownCall call lo fid_archipelagoref18_SameRows us h := rfl
theorem gc_archipelagolaw19_known {call : GCallF} {lo : Nat} {us : List U} {h : GH} : gcall gtab call lo fid_archipelagolaw19_known us h = ownCall call lo fid_archipelagolaw19_known us h := rfl
theorem gc_archipelagolaw19_rows {call : GCallF} {lo : Nat} {us : List U} {h : GH} : gcall gtab call lo fid_archipelagolaw19_rows us h = ownCall call lo fid_archipelagolaw19_rows us h := rfl
theorem gc_archipelagolaw19_bent {call : GCallF} {lo : Nat} {us : List U} {h : GH} : gcall gtab call lo fid_archipelagolaw19_bent us h = ownCall call lo fid_archipelagolaw19_bent us h := rfl
theorem gc_archipelagoref18_RowsRight {call : GCallF} {lo : Nat} {us : List U} {h : GH} : gcall gtab call lo fid_archipelagoref18_RowsRight us h = ownCall call lo fid_archipelagoref18_RowsRight us h := rfl
theorem gc_archipelagoref18_RowsPut {call : GCallF} {lo : Nat} {us : List U} {h : GH} : gcall gtab call lo fid_archipelagoref18_RowsPut us h = ownCall call lo fid_archipelagoref18_RowsPut us h := rfl
theorem gc_archipelagoref18_Find {call : GCallF} {lo : Nat} {us : List U} {h : GH} : gcall gtab call lo fid_archipelagoref18_Find us h = ownCall call lo fid_archipelagoref18_Find us h := rfl
theorem gc_archipelagoref18_Offset {call : GCallF} {lo : Nat} {us : List U} {h : GH} : gcall gtab call lo fid_archipelagoref18_Offset us h = ownCall call lo fid_archipelagoref18_Offset us h := rfl
theorem gc_archipelagolaw19_IndexTells {call : GCallF} {lo : Nat} {us : List U} {h : GH} : gcall gtab call lo fid_archipelagolaw19_IndexTells us h = ownCall call lo fid_archipelagolaw19_IndexTells us h := rfl
theorem gc_archipelagolaw19_IndexFinds {call : GCallF} {lo : Nat} {us : List U} {h : GH} : gcall gtab call lo fid_archipelagolaw19_IndexFinds us h = ownCall call lo fid_archipelagolaw19_IndexFinds us h := rfl
theorem fn_index_Right {us : List U} {h h' : GH} {lo : Nat} {w : U} (hl : us.length = 1) (k : Z gtab ⟨[], []⟩ lo [.c ir_index_Right.body] (genvOf 0 us) h fun env h1 => ∃ vs, gres env h1 [.tmp 2] = some vs ∧ gfin .own vs h1 = some (w, h')) : GF gtab fid_index_Right us h lo = some (w, h') := GF_fn gt_index_Right hl k
theorem fnR_index_Right {us : List U} {h : GH} {lo : Nat} {R : U → GH → Prop} (hl : us.length = 1) (k : Z gtab ⟨[], []⟩ lo [.c ir_index_Right.body] (genvOf 0 us) h fun env h1 => ∃ vs, gres env h1 [.tmp 2] = some vs ∧ ∃ w h', gfin .own vs h1 = some (w, h') ∧ R w h') : ∃ w h', GF gtab fid_index_Right us h lo = some (w, h') ∧ R w h' := GF_fnR gt_index_Right hl k
theorem fn_index_put {us : List U} {h h' : GH} {lo : Nat} {w : U} (hl : us.length = 2) (k : Z gtab ⟨[], []⟩ lo [.c ir_index_put.body] (genvOf 0 us) h fun env h1 => ∃ vs, gres env h1 [.tmp 4] = some vs ∧ gfin .own vs h1 = some (w, h')) : GF gtab fid_index_put us h lo = some (w, h') := GF_fn gt_index_put hl k
theorem fnR_index_put {us : List U} {h : GH} {lo : Nat} {R : U → GH → Prop} (hl : us.length = 2) (k : Z gtab ⟨[], []⟩ lo [.c ir_index_put.body] (genvOf 0 us) h fun env h1 => ∃ vs, gres env h1 [.tmp 4] = some vs ∧ ∃ w h', gfin .own vs h1 = some (w, h') ∧ R w h') : ∃ w h', GF gtab fid_index_put us h lo = some (w, h') ∧ R w h' := GF_fnR gt_index_put hl k
theorem fn_crc_step {us : List U} {h h' : GH} {lo : Nat} {w : U} (hl : us.length = 2) (k : Z gtab ⟨[], []⟩ lo [.c ir_crc_step.body] (genvOf 0 us) h fun env h1 => ∃ vs, gres env h1 [.tmp 4] = some vs ∧ gfin .own vs h1 = some (w, h')) : GF gtab fid_crc_step us h lo = some (w, h') := GF_fn gt_crc_step hl k
theorem fnR_crc_step {us : List U} {h : GH} {lo : Nat} {R : U → GH → Prop} (hl : us.length = 2) (k : Z gtab ⟨[], []⟩ lo [.c ir_crc_step.body] (genvOf 0 us) h fun env h1 => ∃ vs, gres env h1 [.tmp 4] = some vs ∧ ∃ w h', gfin .own vs h1 = some (w, h') ∧ R w h') : ∃ w h', GF gtab fid_crc_step us h lo = some (w, h') ∧ R w h' := GF_fnR gt_crc_step hl k
theorem fn_crc_Sum {us : List U} {h h' : GH} {lo : Nat} {w : U} (hl : us.length = 1) (k : Z gtab ⟨[], []⟩ lo [.c ir_crc_Sum.body] (genvOf 0 us) h fun env h1 => ∃ vs, gres env h1 [.tmp 2] = some vs ∧ gfin .own vs h1 = some (w, h')) : GF gtab fid_crc_Sum us h lo = some (w, h') := GF_fn gt_crc_Sum hl k
theorem fnR_crc_Sum {us : List U} {h : GH} {lo : Nat} {R : U → GH → Prop} (hl : us.length = 1) (k : Z gtab ⟨[], []⟩ lo [.c ir_crc_Sum.body] (genvOf 0 us) h fun env h1 => ∃ vs, gres env h1 [.tmp 2] = some vs ∧ ∃ w h', gfin .own vs h1 = some (w, h') ∧ R w h') : ∃ w h', GF gtab fid_crc_Sum us h lo = some (w, h') ∧ R w h' := GF_fnR gt_crc_Sum hl k
theorem fn_crc_Seal {us : List U} {h h' : GH} {lo : Nat} {w : U} (hl : us.length = 1) (k : Z gtab ⟨[], []⟩ lo [.c ir_crc_Seal.body] (genvOf 0 us) h fun env h1 => ∃ vs, gres env h1 [.tmp 2] = some vs ∧ gfin .own vs h1 = some (w, h')) : GF gtab fid_crc_Seal us h lo = some (w, h') := GF_fn gt_crc_Seal hl k
theorem fnR_crc_Seal {us : List U} {h : GH} {lo : Nat} {R : U → GH → Prop} (hl : us.length = 1) (k : Z gtab ⟨[], []⟩ lo [.c ir_crc_Seal.body] (genvOf 0 us) h fun env h1 => ∃ vs, gres env h1 [.tmp 2] = some vs ∧ ∃ w h', gfin .own vs h1 = some (w, h') ∧ R w h') : ∃ w h', GF gtab fid_crc_Seal us h lo = some (w, h') ∧ R w h' := GF_fnR gt_crc_Seal hl k
theorem fn_index_Put {us : List U} {h h' : GH} {lo : Nat} {w : U} (hl : us.length = 1) (k : Z gtab ⟨[], []⟩ lo [.c ir_index_Put.body] (genvOf 0 us) h fun env h1 => ∃ vs, gres env h1 [.tmp 2, .tmp 3] = some vs ∧ gfin .own vs h1 = some (w, h')) : GF gtab fid_index_Put us h lo = some (w, h') := GF_fn gt_index_Put hl k
theorem fnR_index_Put {us : List U} {h : GH} {lo : Nat} {R : U → GH → Prop} (hl : us.length = 1) (k : Z gtab ⟨[], []⟩ lo [.c ir_index_Put.body] (genvOf 0 us) h fun env h1 => ∃ vs, gres env h1 [.tmp 2, .tmp 3] = some vs ∧ ∃ w h', gfin .own vs h1 = some (w, h') ∧ R w h') : ∃ w h', GF gtab fid_index_Put us h lo = some (w, h') ∧ R w h' := GF_fnR gt_index_Put hl k
theorem fn_sort_Search {us : List U} {h h' : GH} {lo : Nat} {w : U} (hl : us.length = 2) (k : Z gtab ⟨[], []⟩ lo [.c ir_sort_Search.body] (genvOf 0 us) h fun env h1 => ∃ vs, gres env h1 [.tmp 4] = some vs ∧ gfin .rw vs h1 = some (w, h')) : GF gtab fid_sort_Search us h lo = some (w, h') := GF_fn gt_sort_Search hl k
theorem fnR_sort_Search {us : List U} {h : GH} {lo : Nat} {R : U → GH → Prop} (hl : us.length = 2) (k : Z gtab ⟨[], []⟩ lo [.c ir_sort_Search.body] (genvOf 0 us) h fun env h1 => ∃ vs, gres env h1 [.tmp 4] = some vs ∧ ∃ w h', gfin .rw vs h1 = some (w, h') ∧ R w h') : ∃ w h', GF gtab fid_sort_Search us h lo = some (w, h') ∧ R w h' := GF_fnR gt_sort_Search hl k
theorem fn_index_Find_1 {us : List U} {h h' : GH} {lo : Nat} {w : U} (hl : us.length = 3) (k : Z gtab ⟨[], []⟩ lo [.c ir_index_Find_1.body] (genvOf 0 us) h fun env h1 => ∃ vs, gres env h1 [.tmp 4] = some vs ∧ gfin .ro vs h1 = some (w, h')) : GF gtab fid_index_Find_1 us h lo = some (w, h') := GF_fn gt_index_Find_1 hl k
theorem fnR_index_Find_1 {us : List U} {h : GH} {lo : Nat} {R : U → GH → Prop} (hl : us.length = 3) (k : Z gtab ⟨[], []⟩ lo [.c ir_index_Find_1.body] (genvOf 0 us) h fun env h1 => ∃ vs, gres env h1 [.tmp 4] = some vs ∧ ∃ w h', gfin .ro vs h1 = some (w, h') ∧ R w h') : ∃ w h', GF gtab fid_index_Find_1 us h lo = some (w, h') ∧ R w h' := GF_fnR gt_index_Find_1 hl k
theorem fn_index_Find {us : List U} {h h' : GH} {lo : Nat} {w : U} (hl : us.length = 2) (k : Z gtab ⟨[], []⟩ lo [.c ir_index_Find.body] (genvOf 0 us) h fun env h1 => ∃ vs, gres env h1 [.tmp 4] = some vs ∧ gfin .own vs h1 = some (w, h')) : GF gtab fid_index_Find us h lo = some (w, h') := GF_fn gt_index_Find hl k
theorem fnR_index_Find {us : List U} {h : GH} {lo : Nat} {R : U → GH → Prop} (hl : us.length = 2) (k : Z gtab ⟨[], []⟩ lo [.c ir_index_Find.body] (genvOf 0 us) h fun env h1 => ∃ vs, gres env h1 [.tmp 4] = some vs ∧ ∃ w h', gfin .own vs h1 = some (w, h') ∧ R w h') : ∃ w h', GF gtab fid_index_Find us h lo = some (w, h') ∧ R w h' := GF_fnR gt_index_Find hl k
theorem fn_index_Offset {us : List U} {h h' : GH} {lo : Nat} {w : U} (hl : us.length = 2) (k : Z gtab ⟨[], []⟩ lo [.c ir_index_Offset.body] (genvOf 0 us) h fun env h1 => ∃ vs, gres env h1 [.tmp 4] = some vs ∧ gfin .own vs h1 = some (w, h')) : GF gtab fid_index_Offset us h lo = some (w, h') := GF_fn gt_index_Offset hl k
theorem fnR_index_Offset {us : List U} {h : GH} {lo : Nat} {R : U → GH → Prop} (hl : us.length = 2) (k : Z gtab ⟨[], []⟩ lo [.c ir_index_Offset.body] (genvOf 0 us) h fun env h1 => ∃ vs, gres env h1 [.tmp 4] = some vs ∧ ∃ w h', gfin .own vs h1 = some (w, h') ∧ R w h') : ∃ w h', GF gtab fid_index_Offset us h lo = some (w, h') ∧ R w h' := GF_fnR gt_index_Offset hl k
theorem fn_archipelagoref1_Fixed {us : List U} {h h' : GH} {lo : Nat} {w : U} (hl : us.length = 2) (k : Z gtab ⟨[], []⟩ lo [.c ir_archipelagoref1_Fixed.body] (genvOf 0 us) h fun env h1 => ∃ vs, gres env h1 [.tmp 4] = some vs ∧ gfin .own vs h1 = some (w, h')) : GF gtab fid_archipelagoref1_Fixed us h lo = some (w, h') := GF_fn gt_archipelagoref1_Fixed hl k
theorem fnR_archipelagoref1_Fixed {us : List U} {h : GH} {lo : Nat} {R : U → GH → Prop} (hl : us.length = 2) (k : Z gtab ⟨[], []⟩ lo [.c ir_archipelagoref1_Fixed.body] (genvOf 0 us) h fun env h1 => ∃ vs, gres env h1 [.tmp 4] = some vs ∧ ∃ w h', gfin .own vs h1 = some (w, h') ∧ R w h') : ∃ w h', GF gtab fid_archipelagoref1_Fixed us h lo = some (w, h') ∧ R w h' := GF_fnR gt_archipelagoref1_Fixed hl k
theorem fn_archipelagoref1_Next {us : List U} {h h' : GH} {lo : Nat} {w : U} (hl : us.length = 2) (k : Z gtab ⟨[], []⟩ lo [.c ir_archipelagoref1_Next.body] (genvOf 0 us) h fun env h1 => ∃ vs, gres env h1 [.tmp 4] = some vs ∧ gfin .own vs h1 = some (w, h')) : GF gtab fid_archipelagoref1_Next us h lo = some (w, h') := GF_fn gt_archipelagoref1_Next hl k
theorem fnR_archipelagoref1_Next {us : List U} {h : GH} {lo : Nat} {R : U → GH → Prop} (hl : us.length = 2) (k : Z gtab ⟨[], []⟩ lo [.c ir_archipelagoref1_Next.body] (genvOf 0 us) h fun env h1 => ∃ vs, gres env h1 [.tmp 4] = some vs ∧ ∃ w h', gfin .own vs h1 = some (w, h') ∧ R w h') : ∃ w h', GF gtab fid_archipelagoref1_Next us h lo = some (w, h') ∧ R w h' := GF_fnR gt_archipelagoref1_Next hl k
theorem fn_archipelagoref1_Sum {us : List U} {h h' : GH} {lo : Nat} {w : U} (hl : us.length = 1) (k : Z gtab ⟨[], []⟩ lo [.c ir_archipelagoref1_Sum.body] (genvOf 0 us) h fun env h1 => ∃ vs, gres env h1 [.tmp 2] = some vs ∧ gfin .own vs h1 = some (w, h')) : GF gtab fid_archipelagoref1_Sum us h lo = some (w, h') := GF_fn gt_archipelagoref1_Sum hl k
theorem fnR_archipelagoref1_Sum {us : List U} {h : GH} {lo : Nat} {R : U → GH → Prop} (hl : us.length = 1) (k : Z gtab ⟨[], []⟩ lo [.c ir_archipelagoref1_Sum.body] (genvOf 0 us) h fun env h1 => ∃ vs, gres env h1 [.tmp 2] = some vs ∧ ∃ w h', gfin .own vs h1 = some (w, h') ∧ R w h') : ∃ w h', GF gtab fid_archipelagoref1_Sum us h lo = some (w, h') ∧ R w h' := GF_fnR gt_archipelagoref1_Sum hl k
theorem fn_archipelagoref1_Seal {us : List U} {h h' : GH} {lo : Nat} {w : U} (hl : us.length = 1) (k : Z gtab ⟨[], []⟩ lo [.c ir_archipelagoref1_Seal.body] (genvOf 0 us) h fun env h1 => ∃ vs, gres env h1 [.tmp 2] = some vs ∧ gfin .own vs h1 = some (w, h')) : GF gtab fid_archipelagoref1_Seal us h lo = some (w, h') := GF_fn gt_archipelagoref1_Seal hl k
theorem fnR_archipelagoref1_Seal {us : List U} {h : GH} {lo : Nat} {R : U → GH → Prop} (hl : us.length = 1) (k : Z gtab ⟨[], []⟩ lo [.c ir_archipelagoref1_Seal.body] (genvOf 0 us) h fun env h1 => ∃ vs, gres env h1 [.tmp 2] = some vs ∧ ∃ w h', gfin .own vs h1 = some (w, h') ∧ R w h') : ∃ w h', GF gtab fid_archipelagoref1_Seal us h lo = some (w, h') ∧ R w h' := GF_fnR gt_archipelagoref1_Seal hl k
theorem fn_archipelagoref18_Right {us : List U} {h h' : GH} {lo : Nat} {w : U} (hl : us.length = 1) (k : Z gtab ⟨[], []⟩ lo [.c ir_archipelagoref18_Right.body] (genvOf 0 us) h fun env h1 => ∃ vs, gres env h1 [.tmp 2] = some vs ∧ gfin .own vs h1 = some (w, h')) : GF gtab fid_archipelagoref18_Right us h lo = some (w, h') := GF_fn gt_archipelagoref18_Right hl k
theorem fnR_archipelagoref18_Right {us : List U} {h : GH} {lo : Nat} {R : U → GH → Prop} (hl : us.length = 1) (k : Z gtab ⟨[], []⟩ lo [.c ir_archipelagoref18_Right.body] (genvOf 0 us) h fun env h1 => ∃ vs, gres env h1 [.tmp 2] = some vs ∧ ∃ w h', gfin .own vs h1 = some (w, h') ∧ R w h') : ∃ w h', GF gtab fid_archipelagoref18_Right us h lo = some (w, h') ∧ R w h' := GF_fnR gt_archipelagoref18_Right hl k
theorem fn_archipelagoref18_Put {us : List U} {h h' : GH} {lo : Nat} {w : U} (hl : us.length = 1) (k : Z gtab ⟨[], []⟩ lo [.c ir_archipelagoref18_Put.body] (genvOf 0 us) h fun env h1 => ∃ vs, gres env h1 [.tmp 2] = some vs ∧ gfin .own vs h1 = some (w, h')) : GF gtab fid_archipelagoref18_Put us h lo = some (w, h') := GF_fn gt_archipelagoref18_Put hl k
theorem fnR_archipelagoref18_Put {us : List U} {h : GH} {lo : Nat} {R : U → GH → Prop} (hl : us.length = 1) (k : Z gtab ⟨[], []⟩ lo [.c ir_archipelagoref18_Put.body] (genvOf 0 us) h fun env h1 => ∃ vs, gres env h1 [.tmp 2] = some vs ∧ ∃ w h', gfin .own vs h1 = some (w, h') ∧ R w h') : ∃ w h', GF gtab fid_archipelagoref18_Put us h lo = some (w, h') ∧ R w h' := GF_fnR gt_archipelagoref18_Put hl k
theorem fn_head_Right {us : List U} {h h' : GH} {lo : Nat} {w : U} (hl : us.length = 1) (k : Z gtab ⟨[], []⟩ lo [.c ir_head_Right.body] (genvOf 0 us) h fun env h1 => ∃ vs, gres env h1 [.tmp 2] = some vs ∧ gfin .own vs h1 = some (w, h')) : GF gtab fid_head_Right us h lo = some (w, h') := GF_fn gt_head_Right hl k
theorem fnR_head_Right {us : List U} {h : GH} {lo : Nat} {R : U → GH → Prop} (hl : us.length = 1) (k : Z gtab ⟨[], []⟩ lo [.c ir_head_Right.body] (genvOf 0 us) h fun env h1 => ∃ vs, gres env h1 [.tmp 2] = some vs ∧ ∃ w h', gfin .own vs h1 = some (w, h') ∧ R w h') : ∃ w h', GF gtab fid_head_Right us h lo = some (w, h') ∧ R w h' := GF_fnR gt_head_Right hl k
theorem fn_head_Blocks {us : List U} {h h' : GH} {lo : Nat} {w : U} (hl : us.length = 1) (k : Z gtab ⟨[], []⟩ lo [.c ir_head_Blocks.body] (genvOf 0 us) h fun env h1 => ∃ vs, gres env h1 [.tmp 2] = some vs ∧ gfin .own vs h1 = some (w, h')) : GF gtab fid_head_Blocks us h lo = some (w, h') := GF_fn gt_head_Blocks hl k
theorem fnR_head_Blocks {us : List U} {h : GH} {lo : Nat} {R : U → GH → Prop} (hl : us.length = 1) (k : Z gtab ⟨[], []⟩ lo [.c ir_head_Blocks.body] (genvOf 0 us) h fun env h1 => ∃ vs, gres env h1 [.tmp 2] = some vs ∧ ∃ w h', gfin .own vs h1 = some (w, h') ∧ R w h') : ∃ w h', GF gtab fid_head_Blocks us h lo = some (w, h') ∧ R w h' := GF_fnR gt_head_Blocks hl k
theorem fn_slices_Equal_byte_byte {us : List U} {h h' : GH} {lo : Nat} {w : U} (hl : us.length = 2) (k : Z gtab ⟨[], []⟩ lo [.c ir_slices_Equal_byte_byte.body] (genvOf 0 us) h fun env h1 => ∃ vs, gres env h1 [.tmp 4] = some vs ∧ gfin .own vs h1 = some (w, h')) : GF gtab fid_slices_Equal_byte_byte us h lo = some (w, h') := GF_fn gt_slices_Equal_byte_byte hl k
theorem fnR_slices_Equal_byte_byte {us : List U} {h : GH} {lo : Nat} {R : U → GH → Prop} (hl : us.length = 2) (k : Z gtab ⟨[], []⟩ lo [.c ir_slices_Equal_byte_byte.body] (genvOf 0 us) h fun env h1 => ∃ vs, gres env h1 [.tmp 4] = some vs ∧ ∃ w h', gfin .own vs h1 = some (w, h') ∧ R w h') : ∃ w h', GF gtab fid_slices_Equal_byte_byte us h lo = some (w, h') ∧ R w h' := GF_fnR gt_slices_Equal_byte_byte hl k
theorem fn_crc_Open {us : List U} {h h' : GH} {lo : Nat} {w : U} (hl : us.length = 1) (k : Z gtab ⟨[], []⟩ lo [.c ir_crc_Open.body] (genvOf 0 us) h fun env h1 => ∃ vs, gres env h1 [.tmp 2, .tmp 3] = some vs ∧ gfin .own vs h1 = some (w, h')) : GF gtab fid_crc_Open us h lo = some (w, h') := GF_fn gt_crc_Open hl k
theorem fnR_crc_Open {us : List U} {h : GH} {lo : Nat} {R : U → GH → Prop} (hl : us.length = 1) (k : Z gtab ⟨[], []⟩ lo [.c ir_crc_Open.body] (genvOf 0 us) h fun env h1 => ∃ vs, gres env h1 [.tmp 2, .tmp 3] = some vs ∧ ∃ w h', gfin .own vs h1 = some (w, h') ∧ R w h') : ∃ w h', GF gtab fid_crc_Open us h lo = some (w, h') ∧ R w h' := GF_fnR gt_crc_Open hl k
theorem fn_index_take {us : List U} {h h' : GH} {lo : Nat} {w : U} (hl : us.length = 1) (k : Z gtab ⟨[], []⟩ lo [.c ir_index_take.body] (genvOf 0 us) h fun env h1 => ∃ vs, gres env h1 [.tmp 2] = some vs ∧ gfin .own vs h1 = some (w, h')) : GF gtab fid_index_take us h lo = some (w, h') := GF_fn gt_index_take hl k
theorem fnR_index_take {us : List U} {h : GH} {lo : Nat} {R : U → GH → Prop} (hl : us.length = 1) (k : Z gtab ⟨[], []⟩ lo [.c ir_index_take.body] (genvOf 0 us) h fun env h1 => ∃ vs, gres env h1 [.tmp 2] = some vs ∧ ∃ w h', gfin .own vs h1 = some (w, h') ∧ R w h') : ∃ w h', GF gtab fid_index_take us h lo = some (w, h') ∧ R w h' := GF_fnR gt_index_take hl k
theorem fn_index_Read {us : List U} {h h' : GH} {lo : Nat} {w : U} (hl : us.length = 2) (k : Z gtab ⟨[], []⟩ lo [.c ir_index_Read.body] (genvOf 0 us) h fun env h1 => ∃ vs, gres env h1 [.tmp 4, .tmp 5] = some vs ∧ gfin .own vs h1 = some (w, h')) : GF gtab fid_index_Read us h lo = some (w, h') := GF_fn gt_index_Read hl k
theorem fnR_index_Read {us : List U} {h : GH} {lo : Nat} {R : U → GH → Prop} (hl : us.length = 2) (k : Z gtab ⟨[], []⟩ lo [.c ir_index_Read.body] (genvOf 0 us) h fun env h1 => ∃ vs, gres env h1 [.tmp 4, .tmp 5] = some vs ∧ ∃ w h', gfin .own vs h1 = some (w, h') ∧ R w h') : ∃ w h', GF gtab fid_index_Read us h lo = some (w, h') ∧ R w h' := GF_fnR gt_index_Read hl k
theorem fn_archipelagoref18_SameRows {us : List U} {h h' : GH} {lo : Nat} {w : U} (hl : us.length = 2) (k : Z gtab ⟨[], []⟩ lo [.c ir_archipelagoref18_SameRows.body] (genvOf 0 us) h fun env h1 => ∃ vs, gres env h1 [.tmp 4] = some vs ∧ gfin .own vs h1 = some (w, h')) : GF gtab fid_archipelagoref18_SameRows us h lo = some (w, h') := GF_fn gt_archipelagoref18_SameRows hl k
theorem fnR_archipelagoref18_SameRows {us : List U} {h : GH} {lo : Nat} {R : U → GH → Prop} (hl : us.length = 2) (k : Z gtab ⟨[], []⟩ lo [.c ir_archipelagoref18_SameRows.body] (genvOf 0 us) h fun env h1 => ∃ vs, gres env h1 [.tmp 4] = some vs ∧ ∃ w h', gfin .own vs h1 = some (w, h') ∧ R w h') : ∃ w h', GF gtab fid_archipelagoref18_SameRows us h lo = some (w, h') ∧ R w h' := GF_fnR gt_archipelagoref18_SameRows hl k
theorem fn_archipelagolaw19_known {us : List U} {h h' : GH} {lo : Nat} {w : U} (hl : us.length = 0) (k : Z gtab ⟨[], []⟩ lo [.c ir_archipelagolaw19_known.body] (genvOf 0 us) h fun env h1 => ∃ vs, gres env h1 [.tmp 0] = some vs ∧ gfin .own vs h1 = some (w, h')) : GF gtab fid_archipelagolaw19_known us h lo = some (w, h') := GF_fn gt_archipelagolaw19_known hl k
theorem fnR_archipelagolaw19_known {us : List U} {h : GH} {lo : Nat} {R : U → GH → Prop} (hl : us.length = 0) (k : Z gtab ⟨[], []⟩ lo [.c ir_archipelagolaw19_known.body] (genvOf 0 us) h fun env h1 => ∃ vs, gres env h1 [.tmp 0] = some vs ∧ ∃ w h', gfin .own vs h1 = some (w, h') ∧ R w h') : ∃ w h', GF gtab fid_archipelagolaw19_known us h lo = some (w, h') ∧ R w h' := GF_fnR gt_archipelagolaw19_known hl k
theorem fn_archipelagolaw19_rows {us : List U} {h h' : GH} {lo : Nat} {w : U} (hl : us.length = 1) (k : Z gtab ⟨[], []⟩ lo [.c ir_archipelagolaw19_rows.body] (genvOf 0 us) h fun env h1 => ∃ vs, gres env h1 [.tmp 2] = some vs ∧ gfin .own vs h1 = some (w, h')) : GF gtab fid_archipelagolaw19_rows us h lo = some (w, h') := GF_fn gt_archipelagolaw19_rows hl k
theorem fnR_archipelagolaw19_rows {us : List U} {h : GH} {lo : Nat} {R : U → GH → Prop} (hl : us.length = 1) (k : Z gtab ⟨[], []⟩ lo [.c ir_archipelagolaw19_rows.body] (genvOf 0 us) h fun env h1 => ∃ vs, gres env h1 [.tmp 2] = some vs ∧ ∃ w h', gfin .own vs h1 = some (w, h') ∧ R w h') : ∃ w h', GF gtab fid_archipelagolaw19_rows us h lo = some (w, h') ∧ R w h' := GF_fnR gt_archipelagolaw19_rows hl k
theorem fn_archipelagolaw19_bent {us : List U} {h h' : GH} {lo : Nat} {w : U} (hl : us.length = 4) (k : Z gtab ⟨[], [12]⟩ lo [.c ir_archipelagolaw19_bent.body] (genvOf 0 us) h fun env h1 => ∃ vs, gres env h1 [.tmp 8] = some vs ∧ gfin .own vs h1 = some (w, h')) : GF gtab fid_archipelagolaw19_bent us h lo = some (w, h') := GF_fn gt_archipelagolaw19_bent hl k
theorem fnR_archipelagolaw19_bent {us : List U} {h : GH} {lo : Nat} {R : U → GH → Prop} (hl : us.length = 4) (k : Z gtab ⟨[], [12]⟩ lo [.c ir_archipelagolaw19_bent.body] (genvOf 0 us) h fun env h1 => ∃ vs, gres env h1 [.tmp 8] = some vs ∧ ∃ w h', gfin .own vs h1 = some (w, h') ∧ R w h') : ∃ w h', GF gtab fid_archipelagolaw19_bent us h lo = some (w, h') ∧ R w h' := GF_fnR gt_archipelagolaw19_bent hl k
theorem fn_archipelagoref18_RowsRight {us : List U} {h h' : GH} {lo : Nat} {w : U} (hl : us.length = 1) (k : Z gtab ⟨[], []⟩ lo [.c ir_archipelagoref18_RowsRight.body] (genvOf 0 us) h fun env h1 => ∃ vs, gres env h1 [.tmp 2] = some vs ∧ gfin .own vs h1 = some (w, h')) : GF gtab fid_archipelagoref18_RowsRight us h lo = some (w, h') := GF_fn gt_archipelagoref18_RowsRight hl k
theorem fnR_archipelagoref18_RowsRight {us : List U} {h : GH} {lo : Nat} {R : U → GH → Prop} (hl : us.length = 1) (k : Z gtab ⟨[], []⟩ lo [.c ir_archipelagoref18_RowsRight.body] (genvOf 0 us) h fun env h1 => ∃ vs, gres env h1 [.tmp 2] = some vs ∧ ∃ w h', gfin .own vs h1 = some (w, h') ∧ R w h') : ∃ w h', GF gtab fid_archipelagoref18_RowsRight us h lo = some (w, h') ∧ R w h' := GF_fnR gt_archipelagoref18_RowsRight hl k
theorem fn_archipelagoref18_RowsPut {us : List U} {h h' : GH} {lo : Nat} {w : U} (hl : us.length = 1) (k : Z gtab ⟨[], []⟩ lo [.c ir_archipelagoref18_RowsPut.body] (genvOf 0 us) h fun env h1 => ∃ vs, gres env h1 [.tmp 2, .tmp 3] = some vs ∧ gfin .own vs h1 = some (w, h')) : GF gtab fid_archipelagoref18_RowsPut us h lo = some (w, h') := GF_fn gt_archipelagoref18_RowsPut hl k
theorem fnR_archipelagoref18_RowsPut {us : List U} {h : GH} {lo : Nat} {R : U → GH → Prop} (hl : us.length = 1) (k : Z gtab ⟨[], []⟩ lo [.c ir_archipelagoref18_RowsPut.body] (genvOf 0 us) h fun env h1 => ∃ vs, gres env h1 [.tmp 2, .tmp 3] = some vs ∧ ∃ w h', gfin .own vs h1 = some (w, h') ∧ R w h') : ∃ w h', GF gtab fid_archipelagoref18_RowsPut us h lo = some (w, h') ∧ R w h' := GF_fnR gt_archipelagoref18_RowsPut hl k
theorem fn_archipelagoref18_Find {us : List U} {h h' : GH} {lo : Nat} {w : U} (hl : us.length = 2) (k : Z gtab ⟨[], []⟩ lo [.c ir_archipelagoref18_Find.body] (genvOf 0 us) h fun env h1 => ∃ vs, gres env h1 [.tmp 4] = some vs ∧ gfin .own vs h1 = some (w, h')) : GF gtab fid_archipelagoref18_Find us h lo = some (w, h') := GF_fn gt_archipelagoref18_Find hl k
theorem fnR_archipelagoref18_Find {us : List U} {h : GH} {lo : Nat} {R : U → GH → Prop} (hl : us.length = 2) (k : Z gtab ⟨[], []⟩ lo [.c ir_archipelagoref18_Find.body] (genvOf 0 us) h fun env h1 => ∃ vs, gres env h1 [.tmp 4] = some vs ∧ ∃ w h', gfin .own vs h1 = some (w, h') ∧ R w h') : ∃ w h', GF gtab fid_archipelagoref18_Find us h lo = some (w, h') ∧ R w h' := GF_fnR gt_archipelagoref18_Find hl k
theorem fn_archipelagoref18_Offset {us : List U} {h h' : GH} {lo : Nat} {w : U} (hl : us.length = 2) (k : Z gtab ⟨[], []⟩ lo [.c ir_archipelagoref18_Offset.body] (genvOf 0 us) h fun env h1 => ∃ vs, gres env h1 [.tmp 4] = some vs ∧ gfin .own vs h1 = some (w, h')) : GF gtab fid_archipelagoref18_Offset us h lo = some (w, h') := GF_fn gt_archipelagoref18_Offset hl k
theorem fnR_archipelagoref18_Offset {us : List U} {h : GH} {lo : Nat} {R : U → GH → Prop} (hl : us.length = 2) (k : Z gtab ⟨[], []⟩ lo [.c ir_archipelagoref18_Offset.body] (genvOf 0 us) h fun env h1 => ∃ vs, gres env h1 [.tmp 4] = some vs ∧ ∃ w h', gfin .own vs h1 = some (w, h') ∧ R w h') : ∃ w h', GF gtab fid_archipelagoref18_Offset us h lo = some (w, h') ∧ R w h' := GF_fnR gt_archipelagoref18_Offset hl k
theorem fn_archipelagolaw19_IndexTells {us : List U} {h h' : GH} {lo : Nat} {w : U} (hl : us.length = 7) (k : Z gtab ⟨[], []⟩ lo [.c ir_archipelagolaw19_IndexTells.body] (genvOf 0 us) h fun env h1 => ∃ vs, gres env h1 [.tmp 14] = some vs ∧ gfin .own vs h1 = some (w, h')) : GF gtab fid_archipelagolaw19_IndexTells us h lo = some (w, h') := GF_fn gt_archipelagolaw19_IndexTells hl k
theorem fnR_archipelagolaw19_IndexTells {us : List U} {h : GH} {lo : Nat} {R : U → GH → Prop} (hl : us.length = 7) (k : Z gtab ⟨[], []⟩ lo [.c ir_archipelagolaw19_IndexTells.body] (genvOf 0 us) h fun env h1 => ∃ vs, gres env h1 [.tmp 14] = some vs ∧ ∃ w h', gfin .own vs h1 = some (w, h') ∧ R w h') : ∃ w h', GF gtab fid_archipelagolaw19_IndexTells us h lo = some (w, h') ∧ R w h' := GF_fnR gt_archipelagolaw19_IndexTells hl k
theorem fn_archipelagolaw19_IndexFinds {us : List U} {h h' : GH} {lo : Nat} {w : U} (hl : us.length = 3) (k : Z gtab ⟨[], []⟩ lo [.c ir_archipelagolaw19_IndexFinds.body] (genvOf 0 us) h fun env h1 => ∃ vs, gres env h1 [.tmp 6] = some vs ∧ gfin .own vs h1 = some (w, h')) : GF gtab fid_archipelagolaw19_IndexFinds us h lo = some (w, h') := GF_fn gt_archipelagolaw19_IndexFinds hl k
theorem fnR_archipelagolaw19_IndexFinds {us : List U} {h : GH} {lo : Nat} {R : U → GH → Prop} (hl : us.length = 3) (k : Z gtab ⟨[], []⟩ lo [.c ir_archipelagolaw19_IndexFinds.body] (genvOf 0 us) h fun env h1 => ∃ vs, gres env h1 [.tmp 6] = some vs ∧ ∃ w h', gfin .own vs h1 = some (w, h') ∧ R w h') : ∃ w h', GF gtab fid_archipelagolaw19_IndexFinds us h lo = some (w, h') ∧ R w h' := GF_fnR gt_archipelagolaw19_IndexFinds hl k
theorem iq_index_Right : isRo gtab fid_index_Right = true := rfl
theorem mk_index_Right : makes gtab fid_index_Right = true := rfl
theorem iq_index_put : isRo gtab fid_index_put = true := rfl
theorem mk_index_put : makes gtab fid_index_put = true := rfl
theorem iq_slices_Clone_byte_byte : isRo gtab fid_slices_Clone_byte_byte = true := rfl
theorem mk_slices_Clone_byte_byte : makes gtab fid_slices_Clone_byte_byte = true := rfl
theorem iq_crc_step : isRo gtab fid_crc_step = true := rfl
theorem mk_crc_step : makes gtab fid_crc_step = true := rfl
theorem iq_crc_Sum : isRo gtab fid_crc_Sum = true := rfl
theorem mk_crc_Sum : makes gtab fid_crc_Sum = true := rfl
theorem iq_crc_Seal : isRo gtab fid_crc_Seal = true := rfl
theorem mk_crc_Seal : makes gtab fid_crc_Seal = true := rfl
theorem iq_index_Put : isRo gtab fid_index_Put = true := rfl
theorem mk_index_Put : makes gtab fid_index_Put = true := rfl
theorem iq_sort_Search : isRo gtab fid_sort_Search = false := rfl
theorem mk_sort_Search : makes gtab fid_sort_Search = false := rfl
theorem iq_index_Find_1 : isRo gtab fid_index_Find_1 = true := rfl
theorem mk_index_Find_1 : makes gtab fid_index_Find_1 = false := rfl
theorem iq_index_Find : isRo gtab fid_index_Find = true := rfl
theorem mk_index_Find : makes gtab fid_index_Find = true := rfl
theorem iq_index_Offset : isRo gtab fid_index_Offset = true := rfl
theorem mk_index_Offset : makes gtab fid_index_Offset = true := rfl
theorem iq_archipelagoref1_Fixed : isRo gtab fid_archipelagoref1_Fixed = true := rfl
theorem mk_archipelagoref1_Fixed : makes gtab fid_archipelagoref1_Fixed = true := rfl
theorem iq_archipelagoref1_Next : isRo gtab fid_archipelagoref1_Next = true := rfl
theorem mk_archipelagoref1_Next : makes gtab fid_archipelagoref1_Next = true := rfl
theorem iq_archipelagoref1_Sum : isRo gtab fid_archipelagoref1_Sum = true := rfl
theorem mk_archipelagoref1_Sum : makes gtab fid_archipelagoref1_Sum = true := rfl
theorem iq_archipelagoref1_Seal : isRo gtab fid_archipelagoref1_Seal = true := rfl
theorem mk_archipelagoref1_Seal : makes gtab fid_archipelagoref1_Seal = true := rfl
theorem iq_archipelagoref18_Right : isRo gtab fid_archipelagoref18_Right = true := rfl
theorem mk_archipelagoref18_Right : makes gtab fid_archipelagoref18_Right = true := rfl
theorem iq_archipelagoref18_Put : isRo gtab fid_archipelagoref18_Put = true := rfl
theorem mk_archipelagoref18_Put : makes gtab fid_archipelagoref18_Put = true := rfl
theorem iq_head_Right : isRo gtab fid_head_Right = true := rfl
theorem mk_head_Right : makes gtab fid_head_Right = true := rfl
theorem iq_head_Blocks : isRo gtab fid_head_Blocks = true := rfl
theorem mk_head_Blocks : makes gtab fid_head_Blocks = true := rfl
theorem iq_slices_Equal_byte_byte : isRo gtab fid_slices_Equal_byte_byte = true := rfl
theorem mk_slices_Equal_byte_byte : makes gtab fid_slices_Equal_byte_byte = true := rfl
theorem iq_crc_Open : isRo gtab fid_crc_Open = true := rfl
theorem mk_crc_Open : makes gtab fid_crc_Open = true := rfl
theorem iq_index_take : isRo gtab fid_index_take = true := rfl
theorem mk_index_take : makes gtab fid_index_take = true := rfl
theorem iq_index_Read : isRo gtab fid_index_Read = true := rfl
theorem mk_index_Read : makes gtab fid_index_Read = true := rfl
theorem iq_archipelagoref18_SameRows : isRo gtab fid_archipelagoref18_SameRows = true := rfl
theorem mk_archipelagoref18_SameRows : makes gtab fid_archipelagoref18_SameRows = true := rfl
theorem iq_archipelagolaw19_known : isRo gtab fid_archipelagolaw19_known = true := rfl
theorem mk_archipelagolaw19_known : makes gtab fid_archipelagolaw19_known = true := rfl
theorem iq_archipelagolaw19_rows : isRo gtab fid_archipelagolaw19_rows = true := rfl
theorem mk_archipelagolaw19_rows : makes gtab fid_archipelagolaw19_rows = true := rfl
theorem iq_archipelagolaw19_bent : isRo gtab fid_archipelagolaw19_bent = true := rfl
theorem mk_archipelagolaw19_bent : makes gtab fid_archipelagolaw19_bent = true := rfl
theorem iq_archipelagoref18_RowsRight : isRo gtab fid_archipelagoref18_RowsRight = true := rfl
theorem mk_archipelagoref18_RowsRight : makes gtab fid_archipelagoref18_RowsRight = true := rfl
theorem iq_archipelagoref18_RowsPut : isRo gtab fid_archipelagoref18_RowsPut = true := rfl
theorem mk_archipelagoref18_RowsPut : makes gtab fid_archipelagoref18_RowsPut = true := rfl
theorem iq_archipelagoref18_Find : isRo gtab fid_archipelagoref18_Find = true := rfl
theorem mk_archipelagoref18_Find : makes gtab fid_archipelagoref18_Find = true := rfl
theorem iq_archipelagoref18_Offset : isRo gtab fid_archipelagoref18_Offset = true := rfl
theorem mk_archipelagoref18_Offset : makes gtab fid_archipelagoref18_Offset = true := rfl
theorem iq_archipelagolaw19_IndexTells : isRo gtab fid_archipelagolaw19_IndexTells = true := rfl
theorem mk_archipelagolaw19_IndexTells : makes gtab fid_archipelagolaw19_IndexTells = true := rfl
theorem iq_archipelagolaw19_IndexFinds : isRo gtab fid_archipelagolaw19_IndexFinds = true := rfl
theorem mk_archipelagolaw19_IndexFinds : makes gtab fid_archipelagolaw19_IndexFinds = true := rfl
theorem gtab_sim : TabSim gtab tab := by
  intro f g h
  unfold gtab at h
  split at h
  · cases h; rfl
  · cases h; rfl
  · cases h
  · cases h; rfl
  · cases h; rfl
  · cases h; rfl
  · cases h; rfl
  · cases h; rfl
  · cases h; rfl
  · cases h; rfl
  · cases h; rfl
  · cases h; rfl
  · cases h; rfl
  · cases h; rfl
  · cases h; rfl
  · cases h; rfl
  · cases h; rfl
  · cases h; rfl
  · cases h; rfl
  · cases h; rfl
  · cases h; rfl
  · cases h; rfl
  · cases h; rfl
  · cases h; rfl
  · cases h; rfl
  · cases h; rfl
  · cases h; rfl
  · cases h; rfl
  · cases h; rfl
  · cases h; rfl
  · cases h; rfl
  · cases h; rfl
  · cases h; rfl
  · cases h
theorem gtab_clone : CloneOk gtab tab := by
  intro f e b h
  unfold gtab at h
  split at h
  · cases h
  · cases h
  · cases h; intro st x es low hs hr; exact cloneOk tab_slices_Clone_byte_byte 1 1 (by decide) rfl low hs hr
  · cases h
  · cases h
  · cases h
  · cases h
  · cases h
  · cases h
  · cases h
  · cases h
  · cases h
  · cases h
  · cases h
  · cases h
  · cases h
  · cases h
  · cases h
  · cases h
  · cases h
  · cases h
  · cases h
  · cases h
  · cases h
  · cases h
  · cases h
  · cases h
  · cases h
  · cases h
  · cases h
  · cases h
  · cases h
  · cases h
  · cases h
end Go.Ab
