/- The functions as the machine of values has them (printed by wip/irgen.py). -/
import Derived.Test.YtnikphikjkfooaaTab
import Derived.Test.YtnikphikjkfooaaValM
namespace Go.Ab
open Go
def g_index_Right : GFn := ⟨.own, ⟨[], []⟩, ir_index_Right⟩
def g_index_put : GFn := ⟨.own, ⟨[], []⟩, ir_index_put⟩
def g_crc_step : GFn := ⟨.own, ⟨[], []⟩, ir_crc_step⟩
def g_crc_Sum : GFn := ⟨.own, ⟨[], []⟩, ir_crc_Sum⟩
def g_crc_Seal : GFn := ⟨.own, ⟨[], []⟩, ir_crc_Seal⟩
def g_index_Put : GFn := ⟨.own, ⟨[], []⟩, ir_index_Put⟩
def g_sort_Search : GFn := ⟨.rw, ⟨[], []⟩, ir_sort_Search⟩
def g_index_Find_1 : GFn := ⟨.ro, ⟨[], []⟩, ir_index_Find_1⟩
def g_index_Find : GFn := ⟨.own, ⟨[], []⟩, ir_index_Find⟩
def g_index_Offset : GFn := ⟨.own, ⟨[], []⟩, ir_index_Offset⟩
def g_archipelagoref1_Fixed : GFn := ⟨.own, ⟨[], []⟩, ir_archipelagoref1_Fixed⟩
def g_archipelagoref1_Next : GFn := ⟨.own, ⟨[], []⟩, ir_archipelagoref1_Next⟩
def g_archipelagoref1_Sum : GFn := ⟨.own, ⟨[], []⟩, ir_archipelagoref1_Sum⟩
def g_archipelagoref1_Seal : GFn := ⟨.own, ⟨[], []⟩, ir_archipelagoref1_Seal⟩
def g_archipelagoref18_Right : GFn := ⟨.own, ⟨[], []⟩, ir_archipelagoref18_Right⟩
def g_archipelagoref18_Put : GFn := ⟨.own, ⟨[], []⟩, ir_archipelagoref18_Put⟩
def g_head_Right : GFn := ⟨.own, ⟨[], []⟩, ir_head_Right⟩
def g_head_Blocks : GFn := ⟨.own, ⟨[], []⟩, ir_head_Blocks⟩
def g_slices_Equal_byte_byte : GFn := ⟨.own, ⟨[], []⟩, ir_slices_Equal_byte_byte⟩
def g_crc_Open : GFn := ⟨.own, ⟨[], []⟩, ir_crc_Open⟩
def g_index_take : GFn := ⟨.own, ⟨[], []⟩, ir_index_take⟩
def g_index_Read : GFn := ⟨.own, ⟨[], []⟩, ir_index_Read⟩
def g_archipelagoref18_SameRows : GFn := ⟨.own, ⟨[], []⟩, ir_archipelagoref18_SameRows⟩
def g_archipelagolaw19_known : GFn := ⟨.own, ⟨[], []⟩, ir_archipelagolaw19_known⟩
def g_archipelagolaw19_rows : GFn := ⟨.own, ⟨[], []⟩, ir_archipelagolaw19_rows⟩
def g_archipelagoref1_Flip : GFn := ⟨.own, ⟨[], [10]⟩, ir_archipelagoref1_Flip⟩
def g_archipelagolaw19_IndexBursts : GFn := ⟨.own, ⟨[], []⟩, ir_archipelagolaw19_IndexBursts⟩
def gtab : GTab := fun n => match n with
  | 12 => some (.code g_index_Right)
  | 27 => some (.code g_index_put)
  | 40 => some (.clone 1 1)
  | 45 => some (.code g_crc_step)
  | 41 => some (.code g_crc_Sum)
  | 28 => some (.code g_crc_Seal)
  | 10 => some (.code g_index_Put)
  | 29 => some (.code g_sort_Search)
  | 30 => some (.code g_index_Find_1)
  | 14 => some (.code g_index_Find)
  | 16 => some (.code g_index_Offset)
  | 19 => some (.code g_archipelagoref1_Fixed)
  | 42 => some (.code g_archipelagoref1_Next)
  | 32 => some (.code g_archipelagoref1_Sum)
  | 20 => some (.code g_archipelagoref1_Seal)
  | 31 => some (.code g_archipelagoref18_Right)
  | 18 => some (.code g_archipelagoref18_Put)
  | 43 => some (.code g_head_Right)
  | 36 => some (.code g_head_Blocks)
  | 44 => some (.code g_slices_Equal_byte_byte)
  | 37 => some (.code g_crc_Open)
  | 38 => some (.code g_index_take)
  | 23 => some (.code g_index_Read)
  | 25 => some (.code g_archipelagoref18_SameRows)
  | 7 => some (.code g_archipelagolaw19_known)
  | 8 => some (.code g_archipelagolaw19_rows)
  | 26 => some (.code g_archipelagoref1_Flip)
  | 6 => some (.code g_archipelagolaw19_IndexBursts)
  | _ => none
theorem gt_index_Right : gtab fid_index_Right = some (.code g_index_Right) := rfl
theorem gt_index_put : gtab fid_index_put = some (.code g_index_put) := rfl
theorem gt_crc_step : gtab fid_crc_step = some (.code g_crc_step) := rfl
theorem gt_crc_Sum : gtab fid_crc_Sum = some (.code g_crc_Sum) := rfl
theorem gt_crc_Seal : gtab fid_crc_Seal = some (.code g_crc_Seal) := rfl
theorem gt_index_Put : gtab fid_index_Put = some (.code g_index_Put) := rfl
theorem gt_archipelagoref1_Fixed : gtab fid_archipelagoref1_Fixed = some (.code g_archipelagoref1_Fixed) := rfl
theorem gt_archipelagoref1_Next : gtab fid_archipelagoref1_Next = some (.code g_archipelagoref1_Next) := rfl
theorem gt_archipelagoref1_Sum : gtab fid_archipelagoref1_Sum = some (.code g_archipelagoref1_Sum) := rfl
theorem gt_archipelagoref1_Seal : gtab fid_archipelagoref1_Seal = some (.code g_archipelagoref1_Seal) := rfl
theorem gt_archipelagoref18_Right : gtab fid_archipelagoref18_Right = some (.code g_archipelagoref18_Right) := rfl
theorem gt_archipelagoref18_Put : gtab fid_archipelagoref18_Put = some (.code g_archipelagoref18_Put) := rfl
theorem gt_head_Right : gtab fid_head_Right = some (.code g_head_Right) := rfl
theorem gt_head_Blocks : gtab fid_head_Blocks = some (.code g_head_Blocks) := rfl
theorem gt_slices_Equal_byte_byte : gtab fid_slices_Equal_byte_byte = some (.code g_slices_Equal_byte_byte) := rfl
theorem gt_crc_Open : gtab fid_crc_Open = some (.code g_crc_Open) := rfl
theorem gt_index_take : gtab fid_index_take = some (.code g_index_take) := rfl
theorem gt_index_Read : gtab fid_index_Read = some (.code g_index_Read) := rfl
theorem gt_archipelagoref18_SameRows : gtab fid_archipelagoref18_SameRows = some (.code g_archipelagoref18_SameRows) := rfl
theorem gt_archipelagolaw19_rows : gtab fid_archipelagolaw19_rows = some (.code g_archipelagolaw19_rows) := rfl
theorem gt_archipelagoref1_Flip : gtab fid_archipelagoref1_Flip = some (.code g_archipelagoref1_Flip) := rfl
theorem gt_archipelagolaw19_IndexBursts : gtab fid_archipelagolaw19_IndexBursts = some (.code g_archipelagolaw19_IndexBursts) := rfl
theorem gc_index_Right {call : GCallF} {lo : Nat} {us : List U} {h : GH} : gcall gtab call lo fid_index_Right us h = ownCall call lo fid_index_Right us h := rfl
theorem gc_index_put {call : GCallF} {lo : Nat} {us : List U} {h : GH} : gcall gtab call lo fid_index_put us h = ownCall call lo fid_index_put us h := rfl
theorem gc_slices_Clone_byte_byte {call : GCallF} {lo : Nat} {us : List U} {h : GH} : gcall gtab call lo fid_slices_Clone_byte_byte us h = cloneCall 1 1 us h := rfl
theorem gc_crc_step {call : GCallF} {lo : Nat} {us : List U} {h : GH} : gcall gtab call lo fid_crc_step us h = ownCall call lo fid_crc_step us h := rfl
theorem gc_crc_Sum {call : GCallF} {lo : Nat} {us : List U} {h : GH} : gcall gtab call lo fid_crc_Sum us h = ownCall call lo fid_crc_Sum us h := rfl
theorem gc_crc_Seal {call : GCallF} {lo : Nat} {us : List U} {h : GH} : gcall gtab call lo fid_crc_Seal us h = ownCall call lo fid_crc_Seal us h := rfl
theorem gc_index_Put {call : GCallF} {lo : Nat} {us : List U} {h : GH} : gcall gtab call lo fid_index_Put us h = ownCall call lo fid_index_Put us h := rfl
theorem gc_archipelagoref1_Fixed {call : GCallF} {lo : Nat} {us : List U} {h : GH} : gcall gtab call lo fid_archipelagoref1_Fixed us h = ownCall call lo fid_archipelagoref1_Fixed us h := rfl
theorem gc_archipelagoref1_Next {call : GCallF} {lo : Nat} {us : List U} {h : GH} : gcall gtab call lo fid_archipelagoref1_Next us h = ownCall call lo fid_archipelagoref1_Next us h := rfl
theorem gc_archipelagoref1_Sum {call : GCallF} {lo : Nat} {us : List U} {h : GH} : gcall gtab call lo fid_archipelagoref1_Sum us h = ownCall call lo fid_archipelagoref1_Sum us h := rfl
theorem gc_archipelagoref1_Seal {call : GCallF} {lo : Nat} {us : List U} {h : GH} : gcall gtab call lo fid_archipelagoref1_Seal us h = ownCall call lo fid_archipelagoref1_Seal us h := rfl
theorem gc_archipelagoref18_Right {call : GCallF} {lo : Nat} {us : List U} {h : GH} : gcall gtab call lo fid_archipelagoref18_Right us h = ownCall call lo fid_archipelagoref18_Right us h := rfl
theorem gc_archipelagoref18_Put {call : GCallF} {lo : Nat} {us : List U} {h : GH} : gcall gtab call lo fid_archipelagoref18_Put us h = ownCall call lo fid_archipelagoref18_Put us h := rfl
theorem gc_head_Right {call : GCallF} {lo : Nat} {us : List U} {h : GH} : gcall gtab call lo fid_head_Right us h = ownCall call lo fid_head_Right us h := rfl
theorem gc_head_Blocks {call : GCallF} {lo : Nat} {us : List U} {h : GH} : gcall gtab call lo fid_head_Blocks us h = ownCall call lo fid_head_Blocks us h := rfl
theorem gc_slices_Equal_byte_byte {call : GCallF} {lo : Nat} {us : List U} {h : GH} : gcall gtab call lo fid_slices_Equal_byte_byte us h = ownCall call lo fid_slices_Equal_byte_byte us h := rfl
theorem gc_crc_Open {call : GCallF} {lo : Nat} {us : List U} {h : GH} : gcall gtab call lo fid_crc_Open us h = ownCall call lo fid_crc_Open us h := rfl
theorem gc_index_take {call : GCallF} {lo : Nat} {us : List U} {h : GH} : gcall gtab call lo fid_index_take us h = ownCall call lo fid_index_take us h := rfl
theorem gc_index_Read {call : GCallF} {lo : Nat} {us : List U} {h : GH} : gcall gtab call lo fid_index_Read us h = ownCall call lo fid_index_Read us h := rfl
theorem gc_archipelagoref18_SameRows {call : GCallF} {lo : Nat} {us : List U} {h : GH} : gcall gtab call lo fid_archipelagoref18_SameRows us h = ownCall call lo fid_archipelagoref18_SameRows us h := rfl
theorem gc_archipelagolaw19_known {call : GCallF} {lo : Nat} {us : List U} {h : GH} : gcall gtab call lo fid_archipelagolaw19_known us h = ownCall call lo fid_archipelagolaw19_known us h := rfl
theorem gc_archipelagolaw19_rows {call : GCallF} {lo : Nat} {us : List U} {h : GH} : gcall gtab call lo fid_archipelagolaw19_rows us h = ownCall call lo fid_archipelagolaw19_rows us h := rfl
theorem gc_archipelagoref1_Flip {call : GCallF} {lo : Nat} {us : List U} {h : GH} : gcall gtab call lo fid_archipelagoref1_Flip us h = ownCall call lo fid_archipelagoref1_Flip us h := rfl
theorem fn_index_Right {us : List U} {h h' : GH} {lo : Nat} {w : U} (hl : us.length = 1) (k : Z gtab ⟨[], []⟩ lo [.c ir_index_Right.body] (genvOf 0 us) h fun env h1 => ∃ vs, gres env h1 [.tmp 2] = some vs ∧ gfin .own vs h1 = some (w, h')) : GF gtab fid_index_Right us h lo = some (w, h') := GF_fn gt_index_Right hl k
theorem fn_index_put {us : List U} {h h' : GH} {lo : Nat} {w : U} (hl : us.length = 2) (k : Z gtab ⟨[], []⟩ lo [.c ir_index_put.body] (genvOf 0 us) h fun env h1 => ∃ vs, gres env h1 [.tmp 4] = some vs ∧ gfin .own vs h1 = some (w, h')) : GF gtab fid_index_put us h lo = some (w, h') := GF_fn gt_index_put hl k
theorem fn_crc_step {us : List U} {h h' : GH} {lo : Nat} {w : U} (hl : us.length = 2) (k : Z gtab ⟨[], []⟩ lo [.c ir_crc_step.body] (genvOf 0 us) h fun env h1 => ∃ vs, gres env h1 [.tmp 4] = some vs ∧ gfin .own vs h1 = some (w, h')) : GF gtab fid_crc_step us h lo = some (w, h') := GF_fn gt_crc_step hl k
theorem fn_crc_Sum {us : List U} {h h' : GH} {lo : Nat} {w : U} (hl : us.length = 1) (k : Z gtab ⟨[], []⟩ lo [.c ir_crc_Sum.body] (genvOf 0 us) h fun env h1 => ∃ vs, gres env h1 [.tmp 2] = some vs ∧ gfin .own vs h1 = some (w, h')) : GF gtab fid_crc_Sum us h lo = some (w, h') := GF_fn gt_crc_Sum hl k
theorem fn_crc_Seal {us : List U} {h h' : GH} {lo : Nat} {w : U} (hl : us.length = 1) (k : Z gtab ⟨[], []⟩ lo [.c ir_crc_Seal.body] (genvOf 0 us) h fun env h1 => ∃ vs, gres env h1 [.tmp 2] = some vs ∧ gfin .own vs h1 = some (w, h')) : GF gtab fid_crc_Seal us h lo = some (w, h') := GF_fn gt_crc_Seal hl k
theorem fn_index_Put {us : List U} {h h' : GH} {lo : Nat} {w : U} (hl : us.length = 1) (k : Z gtab ⟨[], []⟩ lo [.c ir_index_Put.body] (genvOf 0 us) h fun env h1 => ∃ vs, gres env h1 [.tmp 2, .tmp 3] = some vs ∧ gfin .own vs h1 = some (w, h')) : GF gtab fid_index_Put us h lo = some (w, h') := GF_fn gt_index_Put hl k
theorem fn_archipelagoref1_Fixed {us : List U} {h h' : GH} {lo : Nat} {w : U} (hl : us.length = 2) (k : Z gtab ⟨[], []⟩ lo [.c ir_archipelagoref1_Fixed.body] (genvOf 0 us) h fun env h1 => ∃ vs, gres env h1 [.tmp 4] = some vs ∧ gfin .own vs h1 = some (w, h')) : GF gtab fid_archipelagoref1_Fixed us h lo = some (w, h') := GF_fn gt_archipelagoref1_Fixed hl k
theorem fn_archipelagoref1_Next {us : List U} {h h' : GH} {lo : Nat} {w : U} (hl : us.length = 2) (k : Z gtab ⟨[], []⟩ lo [.c ir_archipelagoref1_Next.body] (genvOf 0 us) h fun env h1 => ∃ vs, gres env h1 [.tmp 4] = some vs ∧ gfin .own vs h1 = some (w, h')) : GF gtab fid_archipelagoref1_Next us h lo = some (w, h') := GF_fn gt_archipelagoref1_Next hl k
theorem fn_archipelagoref1_Sum {us : List U} {h h' : GH} {lo : Nat} {w : U} (hl : us.length = 1) (k : Z gtab ⟨[], []⟩ lo [.c ir_archipelagoref1_Sum.body] (genvOf 0 us) h fun env h1 => ∃ vs, gres env h1 [.tmp 2] = some vs ∧ gfin .own vs h1 = some (w, h')) : GF gtab fid_archipelagoref1_Sum us h lo = some (w, h') := GF_fn gt_archipelagoref1_Sum hl k
theorem fn_archipelagoref1_Seal {us : List U} {h h' : GH} {lo : Nat} {w : U} (hl : us.length = 1) (k : Z gtab ⟨[], []⟩ lo [.c ir_archipelagoref1_Seal.body] (genvOf 0 us) h fun env h1 => ∃ vs, gres env h1 [.tmp 2] = some vs ∧ gfin .own vs h1 = some (w, h')) : GF gtab fid_archipelagoref1_Seal us h lo = some (w, h') := GF_fn gt_archipelagoref1_Seal hl k
theorem fn_archipelagoref18_Right {us : List U} {h h' : GH} {lo : Nat} {w : U} (hl : us.length = 1) (k : Z gtab ⟨[], []⟩ lo [.c ir_archipelagoref18_Right.body] (genvOf 0 us) h fun env h1 => ∃ vs, gres env h1 [.tmp 2] = some vs ∧ gfin .own vs h1 = some (w, h')) : GF gtab fid_archipelagoref18_Right us h lo = some (w, h') := GF_fn gt_archipelagoref18_Right hl k
theorem fn_archipelagoref18_Put {us : List U} {h h' : GH} {lo : Nat} {w : U} (hl : us.length = 1) (k : Z gtab ⟨[], []⟩ lo [.c ir_archipelagoref18_Put.body] (genvOf 0 us) h fun env h1 => ∃ vs, gres env h1 [.tmp 2] = some vs ∧ gfin .own vs h1 = some (w, h')) : GF gtab fid_archipelagoref18_Put us h lo = some (w, h') := GF_fn gt_archipelagoref18_Put hl k
theorem fn_head_Right {us : List U} {h h' : GH} {lo : Nat} {w : U} (hl : us.length = 1) (k : Z gtab ⟨[], []⟩ lo [.c ir_head_Right.body] (genvOf 0 us) h fun env h1 => ∃ vs, gres env h1 [.tmp 2] = some vs ∧ gfin .own vs h1 = some (w, h')) : GF gtab fid_head_Right us h lo = some (w, h') := GF_fn gt_head_Right hl k
theorem fn_head_Blocks {us : List U} {h h' : GH} {lo : Nat} {w : U} (hl : us.length = 1) (k : Z gtab ⟨[], []⟩ lo [.c ir_head_Blocks.body] (genvOf 0 us) h fun env h1 => ∃ vs, gres env h1 [.tmp 2] = some vs ∧ gfin .own vs h1 = some (w, h')) : GF gtab fid_head_Blocks us h lo = some (w, h') := GF_fn gt_head_Blocks hl k
theorem fn_slices_Equal_byte_byte {us : List U} {h h' : GH} {lo : Nat} {w : U} (hl : us.length = 2) (k : Z gtab ⟨[], []⟩ lo [.c ir_slices_Equal_byte_byte.body] (genvOf 0 us) h fun env h1 => ∃ vs, gres env h1 [.tmp 4] = some vs ∧ gfin .own vs h1 = some (w, h')) : GF gtab fid_slices_Equal_byte_byte us h lo = some (w, h') := GF_fn gt_slices_Equal_byte_byte hl k
theorem fn_crc_Open {us : List U} {h h' : GH} {lo : Nat} {w : U} (hl : us.length = 1) (k : Z gtab ⟨[], []⟩ lo [.c ir_crc_Open.body] (genvOf 0 us) h fun env h1 => ∃ vs, gres env h1 [.tmp 2, .tmp 3] = some vs ∧ gfin .own vs h1 = some (w, h')) : GF gtab fid_crc_Open us h lo = some (w, h') := GF_fn gt_crc_Open hl k
theorem fn_index_take {us : List U} {h h' : GH} {lo : Nat} {w : U} (hl : us.length = 1) (k : Z gtab ⟨[], []⟩ lo [.c ir_index_take.body] (genvOf 0 us) h fun env h1 => ∃ vs, gres env h1 [.tmp 2] = some vs ∧ gfin .own vs h1 = some (w, h')) : GF gtab fid_index_take us h lo = some (w, h') := GF_fn gt_index_take hl k
theorem fn_index_Read {us : List U} {h h' : GH} {lo : Nat} {w : U} (hl : us.length = 2) (k : Z gtab ⟨[], []⟩ lo [.c ir_index_Read.body] (genvOf 0 us) h fun env h1 => ∃ vs, gres env h1 [.tmp 4, .tmp 5] = some vs ∧ gfin .own vs h1 = some (w, h')) : GF gtab fid_index_Read us h lo = some (w, h') := GF_fn gt_index_Read hl k
theorem fnR_index_Read {us : List U} {h : GH} {lo : Nat} {R : U → GH → Prop} (hl : us.length = 2) (k : Z gtab ⟨[], []⟩ lo [.c ir_index_Read.body] (genvOf 0 us) h fun env h1 => ∃ vs, gres env h1 [.tmp 4, .tmp 5] = some vs ∧ ∃ w h', gfin .own vs h1 = some (w, h') ∧ R w h') : ∃ w h', GF gtab fid_index_Read us h lo = some (w, h') ∧ R w h' := GF_fnR gt_index_Read hl k
theorem fn_archipelagoref18_SameRows {us : List U} {h h' : GH} {lo : Nat} {w : U} (hl : us.length = 2) (k : Z gtab ⟨[], []⟩ lo [.c ir_archipelagoref18_SameRows.body] (genvOf 0 us) h fun env h1 => ∃ vs, gres env h1 [.tmp 4] = some vs ∧ gfin .own vs h1 = some (w, h')) : GF gtab fid_archipelagoref18_SameRows us h lo = some (w, h') := GF_fn gt_archipelagoref18_SameRows hl k
theorem fn_archipelagolaw19_rows {us : List U} {h h' : GH} {lo : Nat} {w : U} (hl : us.length = 1) (k : Z gtab ⟨[], []⟩ lo [.c ir_archipelagolaw19_rows.body] (genvOf 0 us) h fun env h1 => ∃ vs, gres env h1 [.tmp 2] = some vs ∧ gfin .own vs h1 = some (w, h')) : GF gtab fid_archipelagolaw19_rows us h lo = some (w, h') := GF_fn gt_archipelagolaw19_rows hl k
theorem fn_archipelagoref1_Flip {us : List U} {h h' : GH} {lo : Nat} {w : U} (hl : us.length = 3) (k : Z gtab ⟨[], [10]⟩ lo [.c ir_archipelagoref1_Flip.body] (genvOf 0 us) h fun env h1 => ∃ vs, gres env h1 [.tmp 6] = some vs ∧ gfin .own vs h1 = some (w, h')) : GF gtab fid_archipelagoref1_Flip us h lo = some (w, h') := GF_fn gt_archipelagoref1_Flip hl k
theorem fn_archipelagolaw19_IndexBursts {us : List U} {h h' : GH} {lo : Nat} {w : U} (hl : us.length = 3) (k : Z gtab ⟨[], []⟩ lo [.c ir_archipelagolaw19_IndexBursts.body] (genvOf 0 us) h fun env h1 => ∃ vs, gres env h1 [.tmp 6] = some vs ∧ gfin .own vs h1 = some (w, h')) : GF gtab fid_archipelagolaw19_IndexBursts us h lo = some (w, h') := GF_fn gt_archipelagolaw19_IndexBursts hl k
theorem iq_archipelagoref1_Fixed : isRo gtab fid_archipelagoref1_Fixed = true := rfl
theorem iq_index_take : isRo gtab fid_index_take = true := rfl
theorem iq_index_Read : isRo gtab fid_index_Read = true := rfl
theorem gtab_sim : TabSim gtab tab := by
  intro f g h
  unfold gtab at h
  split at h
  · cases h; rfl
  · cases h; rfl
  · cases h
  · cases h; rfl
  · cases h; rfl
  · cases h; rfl
  · cases h; rfl
  · cases h; rfl
  · cases h; rfl
  · cases h; rfl
  · cases h; rfl
  · cases h; rfl
  · cases h; rfl
  · cases h; rfl
  · cases h; rfl
  · cases h; rfl
  · cases h; rfl
  · cases h; rfl
  · cases h; rfl
  · cases h; rfl
  · cases h; rfl
  · cases h; rfl
  · cases h; rfl
  · cases h; rfl
  · cases h; rfl
  · cases h; rfl
  · cases h; rfl
  · cases h; rfl
  · cases h
theorem gtab_clone : CloneOk gtab tab := by
  intro f e b h
  unfold gtab at h
  split at h
  · cases h
  · cases h
  · cases h; intro st x es low hs hr; exact cloneOk tab_slices_Clone_byte_byte 1 1 (by decide) rfl low hs hr
  · cases h
  · cases h
  · cases h
  · cases h
  · cases h
  · cases h
  · cases h
  · cases h
  · cases h
  · cases h
  · cases h
  · cases h
  · cases h
  · cases h
  · cases h
  · cases h
  · cases h
  · cases h
  · cases h
  · cases h
  · cases h
  · cases h
  · cases h
  · cases h
  · cases h
  · cases h
end Go.Ab
