/- The functions as the machine of values has them (printed by wip/irgen.py). -/
import Derived.Test.YtnikphikjkfooaaTab
import Derived.Test.YtnikphikjkfooaaValM
namespace Go.Ab
open Go
def g_index_Right : GFn := ⟨.own, ⟨[], []⟩, ir_index_Right⟩
def g_index_put : GFn := ⟨.own, ⟨[], []⟩, ir_index_put⟩
def g_crc_step : GFn := ⟨.own, ⟨[], []⟩, ir_crc_step⟩
def g_crc_Sum : GFn := ⟨.own, ⟨[], []⟩, ir_crc_Sum⟩
def g_crc_Seal : GFn := ⟨.own, ⟨[], []⟩, ir_crc_Seal⟩
def g_index_Put : GFn := ⟨.own, ⟨[], []⟩, ir_index_Put⟩
def g_sort_Search : GFn := ⟨.rw, ⟨[], []⟩, ir_sort_Search⟩
def g_index_Find_1 : GFn := ⟨.ro, ⟨[], []⟩, ir_index_Find_1⟩
def g_index_Find : GFn := ⟨.own, ⟨[], []⟩, ir_index_Find⟩
def g_index_Offset : GFn := ⟨.own, ⟨[], []⟩, ir_index_Offset⟩
def g_archipelagoref1_Fixed : GFn := ⟨.own, ⟨[], []⟩, ir_archipelagoref1_Fixed⟩
def g_archipelagoref1_Next : GFn := ⟨.own, ⟨[], []⟩, ir_archipelagoref1_Next⟩
def g_archipelagoref1_Sum : GFn := ⟨.own, ⟨[], []⟩, ir_archipelagoref1_Sum⟩
def g_archipelagoref1_Seal : GFn := ⟨.own, ⟨[], []⟩, ir_archipelagoref1_Seal⟩
def g_archipelagoref18_Right : GFn := ⟨.own, ⟨[], []⟩, ir_archipelagoref18_Right⟩
def g_archipelagoref18_Put : GFn := ⟨.own, ⟨[], []⟩, ir_archipelagoref18_Put⟩
def g_head_Right : GFn := ⟨.own, ⟨[], []⟩, ir_head_Right⟩
def g_head_Blocks : GFn := ⟨.own, ⟨[], []⟩, ir_head_Blocks⟩
def g_slices_Equal_byte_byte : GFn := ⟨.own, ⟨[], []⟩, ir_slices_Equal_byte_byte⟩
def g_crc_Open : GFn := ⟨.own, ⟨[], []⟩, ir_crc_Open⟩
def g_index_take : GFn := ⟨.own, ⟨[], []⟩, ir_index_take⟩
def g_index_Read : GFn := ⟨.own, ⟨[], []⟩, ir_index_Read⟩
def g_archipelagoref18_SameRows : GFn := ⟨.own, ⟨[], []⟩, ir_archipelagoref18_SameRows⟩
def g_archipelagolaw19_known : GFn := ⟨.own, ⟨[], []⟩, ir_archipelagolaw19_known⟩
def g_archipelagolaw19_rows : GFn := ⟨.own, ⟨[], []⟩, ir_archipelagolaw19_rows⟩
def g_archipelagolaw19_bent : GFn := ⟨.own, ⟨[], [12]⟩, ir_archipelagolaw19_bent⟩
def g_archipelagoref18_RowsRight : GFn := ⟨.own, ⟨[], []⟩, ir_archipelagoref18_RowsRight⟩
def g_archipelagoref18_RowsPut : GFn := ⟨.own, ⟨[], []⟩, ir_archipelagoref18_RowsPut⟩
def g_archipelagoseat_Change : GFn := ⟨.own, ⟨[], [14, 30, 35]⟩, ir_archipelagoseat_Change⟩
def g_archipelagoref1_Number : GFn := ⟨.own, ⟨[], []⟩, ir_archipelagoref1_Number⟩
def g_archipelagoref1_Open : GFn := ⟨.own, ⟨[], []⟩, ir_archipelagoref1_Open⟩
def g_archipelagoref18_Read : GFn := ⟨.own, ⟨[], []⟩, ir_archipelagoref18_Read⟩
def g_archipelagoref18_Blocks : GFn := ⟨.own, ⟨[], []⟩, ir_archipelagoref18_Blocks⟩
def g_archipelagoseat_Mend : GFn := ⟨.own, ⟨[], [11]⟩, ir_archipelagoseat_Mend⟩
def g_archipelagoref18_RowsRead : GFn := ⟨.own, ⟨[], [71]⟩, ir_archipelagoref18_RowsRead⟩
def g_archipelagolaw19_IndexReads : GFn := ⟨.own, ⟨[133], []⟩, ir_archipelagolaw19_IndexReads⟩
def gtab : GTab := fun n => match n with
  | 12 => some (.code g_index_Right)
  | 27 => some (.code g_index_put)
  | 40 => some (.clone 1 1)
  | 45 => some (.code g_crc_step)
  | 41 => some (.code g_crc_Sum)
  | 28 => some (.code g_crc_Seal)
  | 10 => some (.code g_index_Put)
  | 29 => some (.code g_sort_Search)
  | 30 => some (.code g_index_Find_1)
  | 14 => some (.code g_index_Find)
  | 16 => some (.code g_index_Offset)
  | 19 => some (.code g_archipelagoref1_Fixed)
  | 42 => some (.code g_archipelagoref1_Next)
  | 32 => some (.code g_archipelagoref1_Sum)
  | 20 => some (.code g_archipelagoref1_Seal)
  | 31 => some (.code g_archipelagoref18_Right)
  | 18 => some (.code g_archipelagoref18_Put)
  | 43 => some (.code g_head_Right)
  | 36 => some (.code g_head_Blocks)
  | 44 => some (.code g_slices_Equal_byte_byte)
  | 37 => some (.code g_crc_Open)
  | 38 => some (.code g_index_take)
  | 23 => some (.code g_index_Read)
  | 25 => some (.code g_archipelagoref18_SameRows)
  | 7 => some (.code g_archipelagolaw19_known)
  | 8 => some (.code g_archipelagolaw19_rows)
  | 9 => some (.code g_archipelagolaw19_bent)
  | 13 => some (.code g_archipelagoref18_RowsRight)
  | 11 => some (.code g_archipelagoref18_RowsPut)
  | 21 => some (.code g_archipelagoseat_Change)
  | 35 => some (.code g_archipelagoref1_Number)
  | 39 => some (.code g_archipelagoref1_Open)
  | 33 => some (.code g_archipelagoref18_Read)
  | 34 => some (.code g_archipelagoref18_Blocks)
  | 22 => some (.code g_archipelagoseat_Mend)
  | 24 => some (.code g_archipelagoref18_RowsRead)
  | 4 => some (.code g_archipelagolaw19_IndexReads)
  | _ => none
theorem gt_index_Right : gtab fid_index_Right = some (.code g_index_Right) := rfl
theorem gt_crc_step : gtab fid_crc_step = some (.code g_crc_step) := rfl
theorem gt_crc_Sum : gtab fid_crc_Sum = some (.code g_crc_Sum) := rfl
theorem gt_crc_Seal : gtab fid_crc_Seal = some (.code g_crc_Seal) := rfl
theorem gt_archipelagoref1_Fixed : gtab fid_archipelagoref1_Fixed = some (.code g_archipelagoref1_Fixed) := rfl
theorem gt_archipelagoref1_Next : gtab fid_archipelagoref1_Next = some (.code g_archipelagoref1_Next) := rfl
theorem gt_archipelagoref1_Sum : gtab fid_archipelagoref1_Sum = some (.code g_archipelagoref1_Sum) := rfl
theorem gt_archipelagoref1_Seal : gtab fid_archipelagoref1_Seal = some (.code g_archipelagoref1_Seal) := rfl
theorem gt_archipelagoref18_Right : gtab fid_archipelagoref18_Right = some (.code g_archipelagoref18_Right) := rfl
theorem gt_archipelagoref18_Put : gtab fid_archipelagoref18_Put = some (.code g_archipelagoref18_Put) := rfl
theorem gt_head_Right : gtab fid_head_Right = some (.code g_head_Right) := rfl
theorem gt_head_Blocks : gtab fid_head_Blocks = some (.code g_head_Blocks) := rfl
theorem gt_slices_Equal_byte_byte : gtab fid_slices_Equal_byte_byte = some (.code g_slices_Equal_byte_byte) := rfl
theorem gt_crc_Open : gtab fid_crc_Open = some (.code g_crc_Open) := rfl
theorem gt_index_take : gtab fid_index_take = some (.code g_index_take) := rfl
theorem gt_index_Read : gtab fid_index_Read = some (.code g_index_Read) := rfl
theorem gt_archipelagoref18_SameRows : gtab fid_archipelagoref18_SameRows = some (.code g_archipelagoref18_SameRows) := rfl
theorem gt_archipelagolaw19_rows : gtab fid_archipelagolaw19_rows = some (.code g_archipelagolaw19_rows) := rfl
theorem gt_archipelagolaw19_bent : gtab fid_archipelagolaw19_bent = some (.code g_archipelagolaw19_bent) := rfl
theorem gt_archipelagoref18_RowsRight : gtab fid_archipelagoref18_RowsRight = some (.code g_archipelagoref18_RowsRight) := rfl
theorem gt_archipelagoref18_RowsPut : gtab fid_archipelagoref18_RowsPut = some (.code g_archipelagoref18_RowsPut) := rfl
theorem gt_archipelagoseat_Change : gtab fid_archipelagoseat_Change = some (.code g_archipelagoseat_Change) := rfl
theorem gt_archipelagoref1_Number : gtab fid_archipelagoref1_Number = some (.code g_archipelagoref1_Number) := rfl
theorem gt_archipelagoref1_Open : gtab fid_archipelagoref1_Open = some (.code g_archipelagoref1_Open) := rfl
theorem gt_archipelagoref18_Read : gtab fid_archipelagoref18_Read = some (.code g_archipelagoref18_Read) := rfl
theorem gt_archipelagoref18_Blocks : gtab fid_archipelagoref18_Blocks = some (.code g_archipelagoref18_Blocks) := rfl
theorem gt_archipelagoseat_Mend : gtab fid_archipelagoseat_Mend = some (.code g_archipelagoseat_Mend) := rfl
theorem gt_archipelagoref18_RowsRead : gtab fid_archipelagoref18_RowsRead = some (.code g_archipelagoref18_RowsRead) := rfl
theorem gt_archipelagolaw19_IndexReads : gtab fid_archipelagolaw19_IndexReads = some (.code g_archipelagolaw19_IndexReads) := rfl
theorem gc_index_Right {call : GCallF} {lo : Nat} {us : List U} {h : GH} : gcall gtab call lo fid_index_Right us h = ownCall call lo fid_index_Right us h := rfl
theorem gc_slices_Clone_byte_byte {call : GCallF} {lo : Nat} {us : List U} {h : GH} : gcall gtab call lo fid_slices_Clone_byte_byte us h = cloneCall 1 1 us h := rfl
theorem gc_crc_step {call : GCallF} {lo : Nat} {us : List U} {h : GH} : gcall gtab call lo fid_crc_step us h = ownCall call lo fid_crc_step us h := rfl
theorem gc_crc_Sum {call : GCallF} {lo : Nat} {us : List U} {h : GH} : gcall gtab call lo fid_crc_Sum us h = ownCall call lo fid_crc_Sum us h := rfl
theorem gc_crc_Seal {call : GCallF} {lo : Nat} {us : List U} {h : GH} : gcall gtab call lo fid_crc_Seal us h = ownCall call lo fid_crc_Seal us h := rfl
theorem gc_archipelagoref1_Fixed {call : GCallF} {lo : Nat} {us : List U} {h : GH} : gcall gtab call lo fid_archipelagoref1_Fixed us h = ownCall call lo fid_archipelagoref1_Fixed us h := rfl
theorem gc_archipelagoref1_Next {call : GCallF} {lo : Nat} {us : List U} {h : GH} : gcall gtab call lo fid_archipelagoref1_Next us h = ownCall call lo fid_archipelagoref1_Next us h := rfl
theorem gc_archipelagoref1_Sum {call : GCallF} {lo : Nat} {us : List U} {h : GH} : gcall gtab call lo fid_archipelagoref1_Sum us h = ownCall call lo fid_archipelagoref1_Sum us h := rfl
theorem gc_archipelagoref1_Seal {call : GCallF} {lo : Nat} {us : List U} {h : GH} : gcall gtab call lo fid_archipelagoref1_Seal us h = ownCall call lo fid_archipelagoref1_Seal us h := rfl
theorem gc_archipelagoref18_Right {call : GCallF} {lo : Nat} {us : List U} {h : GH} : gcall gtab call lo fid_archipelagoref18_Right us h = ownCall call lo fid_archipelagoref18_Right us h := rfl
theorem gc_archipelagoref18_Put {call : GCallF} {lo : Nat} {us : List U} {h : GH} : gcall gtab call lo fid_archipelagoref18_Put us h = ownCall call lo fid_archipelagoref18_Put us h := rfl
theorem gc_head_Right {call : GCallF} {lo : Nat} {us : List U} {h : GH} : gcall gtab call lo fid_head_Right us h = ownCall call lo fid_head_Right us h := rfl
theorem gc_head_Blocks {call : GCallF} {lo : Nat} {us : List U} {h : GH} : gcall gtab call lo fid_head_Blocks us h = ownCall call lo fid_head_Blocks us h := rfl
theorem gc_slices_Equal_byte_byte {call : GCallF} {lo : Nat} {us : List U} {h : GH} : gcall gtab call lo fid_slices_Equal_byte_byte us h = ownCall call lo fid_slices_Equal_byte_byte us h := rfl
theorem gc_crc_Open {call : GCallF} {lo : Nat} {us : List U} {h : GH} : gcall gtab call lo fid_crc_Open us h = ownCall call lo fid_crc_Open us h := rfl
theorem gc_index_take {call : GCallF} {lo : Nat} {us : List U} {h : GH} : gcall gtab call lo fid_index_take us h = ownCall call lo fid_index_take us h := rfl
theorem gc_index_Read {call : GCallF} {lo : Nat} {us : List U} {h : GH} : gcall gtab call lo fid_index_Read us h = ownCall call lo fid_index_Read us h := rfl
theorem gc_archipelagoref18_SameRows {call : GCallF} {lo : Nat} {us : List U} {h : GH} : gcall gtab call lo fid_archipelagoref18_SameRows us h = ownCall call lo fid_archipelagoref18_SameRows us h := rfl
theorem gc_archipelagolaw19_known {call : GCallF} {lo : Nat} {us : List U} {h : GH} : gcall gtab call lo fid_archipelagolaw19_known us h = ownCall call lo fid_archipelagolaw19_known us h := rfl
theorem gc_archipelagolaw19_rows {call : GCallF} {lo : Nat} {us : List U} {h : GH} : gcall gtab call lo fid_archipelagolaw19_rows us h = ownCall call lo fid_archipelagolaw19_rows us h := rfl
theorem gc_archipelagolaw19_bent {call : GCallF} {lo : Nat} {us : List U} {h : GH} : gcall gtab call lo fid_archipelagolaw19_bent us h = ownCall call lo fid_archipelagolaw19_bent us h := rfl
theorem gc_archipelagoref18_RowsRight {call : GCallF} {lo : Nat} {us : List U} {h : GH} : gcall gtab call lo fid_archipelagoref18_RowsRight us h = ownCall call lo fid_archipelagoref18_RowsRight us h := rfl
theorem gc_archipelagoref18_RowsPut {call : GCallF} {lo : Nat} {us : List U} {h : GH} : gcall gtab call lo fid_archipelagoref18_RowsPut us h = ownCall call lo fid_archipelagoref18_RowsPut us h := rfl
theorem gc_archipelagoseat_Change {call : GCallF} {lo : Nat} {us : List U} {h : GH} : gcall gtab call lo fid_archipelagoseat_Change us h = ownCall call lo fid_archipelagoseat_Change us h := rfl
theorem gc_archipelagoref1_Number {call : GCallF} {lo : Nat} {us : List U} {h : GH} : gcall gtab call lo fid_archipelagoref1_Number us h = ownCall call lo fid_archipelagoref1_Number us h := rfl
theorem gc_archipelagoref1_Open {call : GCallF} {lo : Nat} {us : List U} {h : GH} : gcall gtab call lo fid_archipelagoref1_Open us h = ownCall call lo fid_archipelagoref1_Open us h := rfl
theorem gc_archipelagoref18_Read {call : GCallF} {lo : Nat} {us : List U} {h : GH} : gcall gtab call lo fid_archipelagoref18_Read us h = ownCall call lo fid_archipelagoref18_Read us h := rfl
theorem gc_archipelagoref18_Blocks {call : GCallF} {lo : Nat} {us : List U} {h : GH} : gcall gtab call lo fid_archipelagoref18_Blocks us h = ownCall call lo fid_archipelagoref18_Blocks us h := rfl
theorem gc_archipelagoseat_Mend {call : GCallF} {lo : Nat} {us : List U} {h : GH} : gcall gtab call lo fid_archipelagoseat_Mend us h = ownCall call lo fid_archipelagoseat_Mend us h := rfl
theorem gc_archipelagoref18_RowsRead {call : GCallF} {lo : Nat} {us : List U} {h : GH} : gcall gtab call lo fid_archipelagoref18_RowsRead us h = ownCall call lo fid_archipelagoref18_RowsRead us h := rfl
theorem fn_index_Right {us : List U} {h h' : GH} {lo : Nat} {w : U} (hl : us.length = 1) (k : Z gtab ⟨[], []⟩ lo [.c ir_index_Right.body] (genvOf 0 us) h fun env h1 => ∃ vs, gres env h1 [.tmp 2] = some vs ∧ gfin .own vs h1 = some (w, h')) : GF gtab fid_index_Right us h lo = some (w, h') := GF_fn gt_index_Right hl k
theorem fn_crc_step {us : List U} {h h' : GH} {lo : Nat} {w : U} (hl : us.length = 2) (k : Z gtab ⟨[], []⟩ lo [.c ir_crc_step.body] (genvOf 0 us) h fun env h1 => ∃ vs, gres env h1 [.tmp 4] = some vs ∧ gfin .own vs h1 = some (w, h')) : GF gtab fid_crc_step us h lo = some (w, h') := GF_fn gt_crc_step hl k
theorem fn_crc_Sum {us : List U} {h h' : GH} {lo : Nat} {w : U} (hl : us.length = 1) (k : Z gtab ⟨[], []⟩ lo [.c ir_crc_Sum.body] (genvOf 0 us) h fun env h1 => ∃ vs, gres env h1 [.tmp 2] = some vs ∧ gfin .own vs h1 = some (w, h')) : GF gtab fid_crc_Sum us h lo = some (w, h') := GF_fn gt_crc_Sum hl k
theorem fn_crc_Seal {us : List U} {h h' : GH} {lo : Nat} {w : U} (hl : us.length = 1) (k : Z gtab ⟨[], []⟩ lo [.c ir_crc_Seal.body] (genvOf 0 us) h fun env h1 => ∃ vs, gres env h1 [.tmp 2] = some vs ∧ gfin .own vs h1 = some (w, h')) : GF gtab fid_crc_Seal us h lo = some (w, h') := GF_fn gt_crc_Seal hl k
theorem fn_archipelagoref1_Fixed {us : List U} {h h' : GH} {lo : Nat} {w : U} (hl : us.length = 2) (k : Z gtab ⟨[], []⟩ lo [.c ir_archipelagoref1_Fixed.body] (genvOf 0 us) h fun env h1 => ∃ vs, gres env h1 [.tmp 4] = some vs ∧ gfin .own vs h1 = some (w, h')) : GF gtab fid_archipelagoref1_Fixed us h lo = some (w, h') := GF_fn gt_archipelagoref1_Fixed hl k
theorem fn_archipelagoref1_Next {us : List U} {h h' : GH} {lo : Nat} {w : U} (hl : us.length = 2) (k : Z gtab ⟨[], []⟩ lo [.c ir_archipelagoref1_Next.body] (genvOf 0 us) h fun env h1 => ∃ vs, gres env h1 [.tmp 4] = some vs ∧ gfin .own vs h1 = some (w, h')) : GF gtab fid_archipelagoref1_Next us h lo = some (w, h') := GF_fn gt_archipelagoref1_Next hl k
theorem fn_archipelagoref1_Sum {us : List U} {h h' : GH} {lo : Nat} {w : U} (hl : us.length = 1) (k : Z gtab ⟨[], []⟩ lo [.c ir_archipelagoref1_Sum.body] (genvOf 0 us) h fun env h1 => ∃ vs, gres env h1 [.tmp 2] = some vs ∧ gfin .own vs h1 = some (w, h')) : GF gtab fid_archipelagoref1_Sum us h lo = some (w, h') := GF_fn gt_archipelagoref1_Sum hl k
theorem fn_archipelagoref1_Seal {us : List U} {h h' : GH} {lo : Nat} {w : U} (hl : us.length = 1) (k : Z gtab ⟨[], []⟩ lo [.c ir_archipelagoref1_Seal.body] (genvOf 0 us) h fun env h1 => ∃ vs, gres env h1 [.tmp 2] = some vs ∧ gfin .own vs h1 = some (w, h')) : GF gtab fid_archipelagoref1_Seal us h lo = some (w, h') := GF_fn gt_archipelagoref1_Seal hl k
theorem fn_archipelagoref18_Right {us : List U} {h h' : GH} {lo : Nat} {w : U} (hl : us.length = 1) (k : Z gtab ⟨[], []⟩ lo [.c ir_archipelagoref18_Right.body] (genvOf 0 us) h fun env h1 => ∃ vs, gres env h1 [.tmp 2] = some vs ∧ gfin .own vs h1 = some (w, h')) : GF gtab fid_archipelagoref18_Right us h lo = some (w, h') := GF_fn gt_archipelagoref18_Right hl k
theorem fn_archipelagoref18_Put {us : List U} {h h' : GH} {lo : Nat} {w : U} (hl : us.length = 1) (k : Z gtab ⟨[], []⟩ lo [.c ir_archipelagoref18_Put.body] (genvOf 0 us) h fun env h1 => ∃ vs, gres env h1 [.tmp 2] = some vs ∧ gfin .own vs h1 = some (w, h')) : GF gtab fid_archipelagoref18_Put us h lo = some (w, h') := GF_fn gt_archipelagoref18_Put hl k
theorem fn_head_Right {us : List U} {h h' : GH} {lo : Nat} {w : U} (hl : us.length = 1) (k : Z gtab ⟨[], []⟩ lo [.c ir_head_Right.body] (genvOf 0 us) h fun env h1 => ∃ vs, gres env h1 [.tmp 2] = some vs ∧ gfin .own vs h1 = some (w, h')) : GF gtab fid_head_Right us h lo = some (w, h') := GF_fn gt_head_Right hl k
theorem fn_head_Blocks {us : List U} {h h' : GH} {lo : Nat} {w : U} (hl : us.length = 1) (k : Z gtab ⟨[], []⟩ lo [.c ir_head_Blocks.body] (genvOf 0 us) h fun env h1 => ∃ vs, gres env h1 [.tmp 2] = some vs ∧ gfin .own vs h1 = some (w, h')) : GF gtab fid_head_Blocks us h lo = some (w, h') := GF_fn gt_head_Blocks hl k
theorem fn_slices_Equal_byte_byte {us : List U} {h h' : GH} {lo : Nat} {w : U} (hl : us.length = 2) (k : Z gtab ⟨[], []⟩ lo [.c ir_slices_Equal_byte_byte.body] (genvOf 0 us) h fun env h1 => ∃ vs, gres env h1 [.tmp 4] = some vs ∧ gfin .own vs h1 = some (w, h')) : GF gtab fid_slices_Equal_byte_byte us h lo = some (w, h') := GF_fn gt_slices_Equal_byte_byte hl k
theorem fn_crc_Open {us : List U} {h h' : GH} {lo : Nat} {w : U} (hl : us.length = 1) (k : Z gtab ⟨[], []⟩ lo [.c ir_crc_Open.body] (genvOf 0 us) h fun env h1 => ∃ vs, gres env h1 [.tmp 2, .tmp 3] = some vs ∧ gfin .own vs h1 = some (w, h')) : GF gtab fid_crc_Open us h lo = some (w, h') := GF_fn gt_crc_Open hl k
theorem fn_index_take {us : List U} {h h' : GH} {lo : Nat} {w : U} (hl : us.length = 1) (k : Z gtab ⟨[], []⟩ lo [.c ir_index_take.body] (genvOf 0 us) h fun env h1 => ∃ vs, gres env h1 [.tmp 2] = some vs ∧ gfin .own vs h1 = some (w, h')) : GF gtab fid_index_take us h lo = some (w, h') := GF_fn gt_index_take hl k
theorem fn_index_Read {us : List U} {h h' : GH} {lo : Nat} {w : U} (hl : us.length = 2) (k : Z gtab ⟨[], []⟩ lo [.c ir_index_Read.body] (genvOf 0 us) h fun env h1 => ∃ vs, gres env h1 [.tmp 4, .tmp 5] = some vs ∧ gfin .own vs h1 = some (w, h')) : GF gtab fid_index_Read us h lo = some (w, h') := GF_fn gt_index_Read hl k
theorem fnR_index_Read {us : List U} {h : GH} {lo : Nat} {R : U → GH → Prop} (hl : us.length = 2) (k : Z gtab ⟨[], []⟩ lo [.c ir_index_Read.body] (genvOf 0 us) h fun env h1 => ∃ vs, gres env h1 [.tmp 4, .tmp 5] = some vs ∧ ∃ w h', gfin .own vs h1 = some (w, h') ∧ R w h') : ∃ w h', GF gtab fid_index_Read us h lo = some (w, h') ∧ R w h' := GF_fnR gt_index_Read hl k
theorem fn_archipelagoref18_SameRows {us : List U} {h h' : GH} {lo : Nat} {w : U} (hl : us.length = 2) (k : Z gtab ⟨[], []⟩ lo [.c ir_archipelagoref18_SameRows.body] (genvOf 0 us) h fun env h1 => ∃ vs, gres env h1 [.tmp 4] = some vs ∧ gfin .own vs h1 = some (w, h')) : GF gtab fid_archipelagoref18_SameRows us h lo = some (w, h') := GF_fn gt_archipelagoref18_SameRows hl k
theorem fn_archipelagolaw19_rows {us : List U} {h h' : GH} {lo : Nat} {w : U} (hl : us.length = 1) (k : Z gtab ⟨[], []⟩ lo [.c ir_archipelagolaw19_rows.body] (genvOf 0 us) h fun env h1 => ∃ vs, gres env h1 [.tmp 2] = some vs ∧ gfin .own vs h1 = some (w, h')) : GF gtab fid_archipelagolaw19_rows us h lo = some (w, h') := GF_fn gt_archipelagolaw19_rows hl k
theorem fnR_archipelagolaw19_bent {us : List U} {h : GH} {lo : Nat} {R : U → GH → Prop} (hl : us.length = 4) (k : Z gtab ⟨[], [12]⟩ lo [.c ir_archipelagolaw19_bent.body] (genvOf 0 us) h fun env h1 => ∃ vs, gres env h1 [.tmp 8] = some vs ∧ ∃ w h', gfin .own vs h1 = some (w, h') ∧ R w h') : ∃ w h', GF gtab fid_archipelagolaw19_bent us h lo = some (w, h') ∧ R w h' := GF_fnR gt_archipelagolaw19_bent hl k
theorem fn_archipelagoref18_RowsRight {us : List U} {h h' : GH} {lo : Nat} {w : U} (hl : us.length = 1) (k : Z gtab ⟨[], []⟩ lo [.c ir_archipelagoref18_RowsRight.body] (genvOf 0 us) h fun env h1 => ∃ vs, gres env h1 [.tmp 2] = some vs ∧ gfin .own vs h1 = some (w, h')) : GF gtab fid_archipelagoref18_RowsRight us h lo = some (w, h') := GF_fn gt_archipelagoref18_RowsRight hl k
theorem fn_archipelagoref18_RowsPut {us : List U} {h h' : GH} {lo : Nat} {w : U} (hl : us.length = 1) (k : Z gtab ⟨[], []⟩ lo [.c ir_archipelagoref18_RowsPut.body] (genvOf 0 us) h fun env h1 => ∃ vs, gres env h1 [.tmp 2, .tmp 3] = some vs ∧ gfin .own vs h1 = some (w, h')) : GF gtab fid_archipelagoref18_RowsPut us h lo = some (w, h') := GF_fn gt_archipelagoref18_RowsPut hl k
theorem fnR_archipelagoseat_Change {us : List U} {h : GH} {lo : Nat} {R : U → GH → Prop} (hl : us.length = 5) (k : Z gtab ⟨[], [14, 30, 35]⟩ lo [.c ir_archipelagoseat_Change.body] (genvOf 0 us) h fun env h1 => ∃ vs, gres env h1 [.tmp 10] = some vs ∧ ∃ w h', gfin .own vs h1 = some (w, h') ∧ R w h') : ∃ w h', GF gtab fid_archipelagoseat_Change us h lo = some (w, h') ∧ R w h' := GF_fnR gt_archipelagoseat_Change hl k
theorem fn_archipelagoref1_Number {us : List U} {h h' : GH} {lo : Nat} {w : U} (hl : us.length = 1) (k : Z gtab ⟨[], []⟩ lo [.c ir_archipelagoref1_Number.body] (genvOf 0 us) h fun env h1 => ∃ vs, gres env h1 [.tmp 2] = some vs ∧ gfin .own vs h1 = some (w, h')) : GF gtab fid_archipelagoref1_Number us h lo = some (w, h') := GF_fn gt_archipelagoref1_Number hl k
theorem fn_archipelagoref1_Open {us : List U} {h h' : GH} {lo : Nat} {w : U} (hl : us.length = 1) (k : Z gtab ⟨[], []⟩ lo [.c ir_archipelagoref1_Open.body] (genvOf 0 us) h fun env h1 => ∃ vs, gres env h1 [.tmp 2, .tmp 3] = some vs ∧ gfin .own vs h1 = some (w, h')) : GF gtab fid_archipelagoref1_Open us h lo = some (w, h') := GF_fn gt_archipelagoref1_Open hl k
theorem fn_archipelagoref18_Read {us : List U} {h h' : GH} {lo : Nat} {w : U} (hl : us.length = 1) (k : Z gtab ⟨[], []⟩ lo [.c ir_archipelagoref18_Read.body] (genvOf 0 us) h fun env h1 => ∃ vs, gres env h1 [.cell 2 3 true, .tmp 3] = some vs ∧ gfin .own vs h1 = some (w, h')) : GF gtab fid_archipelagoref18_Read us h lo = some (w, h') := GF_fn gt_archipelagoref18_Read hl k
theorem fn_archipelagoref18_Blocks {us : List U} {h h' : GH} {lo : Nat} {w : U} (hl : us.length = 1) (k : Z gtab ⟨[], []⟩ lo [.c ir_archipelagoref18_Blocks.body] (genvOf 0 us) h fun env h1 => ∃ vs, gres env h1 [.tmp 2] = some vs ∧ gfin .own vs h1 = some (w, h')) : GF gtab fid_archipelagoref18_Blocks us h lo = some (w, h') := GF_fn gt_archipelagoref18_Blocks hl k
theorem fnR_archipelagoseat_Mend {us : List U} {h : GH} {lo : Nat} {R : U → GH → Prop} (hl : us.length = 1) (k : Z gtab ⟨[], [11]⟩ lo [.c ir_archipelagoseat_Mend.body] (genvOf 0 us) h fun env h1 => ∃ vs, gres env h1 [.tmp 2] = some vs ∧ ∃ w h', gfin .own vs h1 = some (w, h') ∧ R w h') : ∃ w h', GF gtab fid_archipelagoseat_Mend us h lo = some (w, h') ∧ R w h' := GF_fnR gt_archipelagoseat_Mend hl k
theorem fn_archipelagoref18_RowsRead {us : List U} {h h' : GH} {lo : Nat} {w : U} (hl : us.length = 2) (k : Z gtab ⟨[], [71]⟩ lo [.c ir_archipelagoref18_RowsRead.body] (genvOf 0 us) h fun env h1 => ∃ vs, gres env h1 [.tmp 4, .tmp 5] = some vs ∧ gfin .own vs h1 = some (w, h')) : GF gtab fid_archipelagoref18_RowsRead us h lo = some (w, h') := GF_fn gt_archipelagoref18_RowsRead hl k
theorem fnR_archipelagoref18_RowsRead {us : List U} {h : GH} {lo : Nat} {R : U → GH → Prop} (hl : us.length = 2) (k : Z gtab ⟨[], [71]⟩ lo [.c ir_archipelagoref18_RowsRead.body] (genvOf 0 us) h fun env h1 => ∃ vs, gres env h1 [.tmp 4, .tmp 5] = some vs ∧ ∃ w h', gfin .own vs h1 = some (w, h') ∧ R w h') : ∃ w h', GF gtab fid_archipelagoref18_RowsRead us h lo = some (w, h') ∧ R w h' := GF_fnR gt_archipelagoref18_RowsRead hl k
theorem fn_archipelagolaw19_IndexReads {us : List U} {h h' : GH} {lo : Nat} {w : U} (hl : us.length = 11) (k : Z gtab ⟨[133], []⟩ lo [.c ir_archipelagolaw19_IndexReads.body] (genvOf 0 us) h fun env h1 => ∃ vs, gres env h1 [.tmp 22] = some vs ∧ gfin .own vs h1 = some (w, h')) : GF gtab fid_archipelagolaw19_IndexReads us h lo = some (w, h') := GF_fn gt_archipelagolaw19_IndexReads hl k
theorem iq_archipelagoref1_Fixed : isRo gtab fid_archipelagoref1_Fixed = true := rfl
theorem iq_archipelagoref1_Sum : isRo gtab fid_archipelagoref1_Sum = true := rfl
theorem iq_index_take : isRo gtab fid_index_take = true := rfl
theorem iq_archipelagoref1_Number : isRo gtab fid_archipelagoref1_Number = true := rfl
theorem gtab_sim : TabSim gtab tab := by
  intro f g h
  unfold gtab at h
  split at h
  · cases h; rfl
  · cases h; rfl
  · cases h
  · cases h; rfl
  · cases h; rfl
  · cases h; rfl
  · cases h; rfl
  · cases h; rfl
  · cases h; rfl
  · cases h; rfl
  · cases h; rfl
  · cases h; rfl
  · cases h; rfl
  · cases h; rfl
  · cases h; rfl
  · cases h; rfl
  · cases h; rfl
  · cases h; rfl
  · cases h; rfl
  · cases h; rfl
  · cases h; rfl
  · cases h; rfl
  · cases h; rfl
  · cases h; rfl
  · cases h; rfl
  · cases h; rfl
  · cases h; rfl
  · cases h; rfl
  · cases h; rfl
  · cases h; rfl
  · cases h; rfl
  · cases h; rfl
  · cases h; rfl
  · cases h; rfl
  · cases h; rfl
  · cases h; rfl
  · cases h; rfl
  · cases h
theorem gtab_clone : CloneOk gtab tab := by
  intro f e b h
  unfold gtab at h
  split at h
  · cases h
  · cases h
  · cases h; intro st x es low hs hr; exact cloneOk tab_slices_Clone_byte_byte 1 1 (by decide) rfl low hs hr
  · cases h
  · cases h
  · cases h
  · cases h
  · cases h
  · cases h
  · cases h
  · cases h
  · cases h
  · cases h
  · cases h
  · cases h
  · cases h
  · cases h
  · cases h
  · cases h
  · cases h
  · cases h
  · cases h
  · cases h
  · cases h
  · cases h
  · cases h
  · cases h
  · cases h
  · cases h
  · cases h
  · cases h
  · cases h
  · cases h
  · cases h
  · cases h
  · cases h
  · cases h
  · cases h
end Go.Ab
