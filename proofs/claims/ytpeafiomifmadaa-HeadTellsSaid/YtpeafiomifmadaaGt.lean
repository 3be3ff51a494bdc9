/- The functions as the machine of values has them (printed by wip/irgen.py). -/
import Derived.Test.YtpeafiomifmadaaTab
import Derived.Test.YtpeafiomifmadaaValM
namespace Go.Ab
open Go
def g_head_Right : GFn := ⟨.own, ⟨[], []⟩, ir_head_Right⟩
def g_head_put : GFn := ⟨.own, ⟨[], []⟩, ir_head_put⟩
def g_crc_step : GFn := ⟨.own, ⟨[], []⟩, ir_crc_step⟩
def g_crc_Sum : GFn := ⟨.own, ⟨[], []⟩, ir_crc_Sum⟩
def g_crc_Seal : GFn := ⟨.own, ⟨[], []⟩, ir_crc_Seal⟩
def g_head_Put : GFn := ⟨.own, ⟨[], []⟩, ir_head_Put⟩
def g_head_Blocks : GFn := ⟨.own, ⟨[], []⟩, ir_head_Blocks⟩
def g_head_Size : GFn := ⟨.own, ⟨[], []⟩, ir_head_Size⟩
def g_slices_Equal_byte_byte : GFn := ⟨.own, ⟨[], []⟩, ir_slices_Equal_byte_byte⟩
def g_crc_Open : GFn := ⟨.own, ⟨[], []⟩, ir_crc_Open⟩
def g_head_take : GFn := ⟨.own, ⟨[], []⟩, ir_head_take⟩
def g_head_Read : GFn := ⟨.own, ⟨[], []⟩, ir_head_Read⟩
def g_archipelagolaw18_known : GFn := ⟨.own, ⟨[], []⟩, ir_archipelagolaw18_known⟩
def g_archipelagoref18_Right : GFn := ⟨.own, ⟨[], []⟩, ir_archipelagoref18_Right⟩
def g_archipelagoref1_Fixed : GFn := ⟨.own, ⟨[], []⟩, ir_archipelagoref1_Fixed⟩
def g_archipelagoref1_Next : GFn := ⟨.own, ⟨[], []⟩, ir_archipelagoref1_Next⟩
def g_archipelagoref1_Sum : GFn := ⟨.own, ⟨[], []⟩, ir_archipelagoref1_Sum⟩
def g_archipelagoref1_Seal : GFn := ⟨.own, ⟨[], []⟩, ir_archipelagoref1_Seal⟩
def g_archipelagoref18_Put : GFn := ⟨.own, ⟨[], []⟩, ir_archipelagoref18_Put⟩
def g_archipelagoref18_Blocks : GFn := ⟨.own, ⟨[], []⟩, ir_archipelagoref18_Blocks⟩
def g_archipelagoref18_Size : GFn := ⟨.own, ⟨[], []⟩, ir_archipelagoref18_Size⟩
def g_archipelagoref1_Number : GFn := ⟨.own, ⟨[], []⟩, ir_archipelagoref1_Number⟩
def g_archipelagoref1_Open : GFn := ⟨.own, ⟨[], []⟩, ir_archipelagoref1_Open⟩
def g_archipelagoref18_Read : GFn := ⟨.own, ⟨[], []⟩, ir_archipelagoref18_Read⟩
def g_archipelagolaw18_HeadTells : GFn := ⟨.own, ⟨[], [105]⟩, ir_archipelagolaw18_HeadTells⟩
def g_archipelagolaw18_HeadShares : GFn := ⟨.own, ⟨[], []⟩, ir_archipelagolaw18_HeadShares⟩
def g_archipelagoref1_Flip : GFn := ⟨.own, ⟨[], [10]⟩, ir_archipelagoref1_Flip⟩
def g_archipelagolaw18_HeadBursts : GFn := ⟨.own, ⟨[], []⟩, ir_archipelagolaw18_HeadBursts⟩
def g_archipelagolaw18_HeadErrors : GFn := ⟨.own, ⟨[], [21, 25, 30, 34, 39]⟩, ir_archipelagolaw18_HeadErrors⟩
def g_archipelagolaw18_HeadMost : GFn := ⟨.own, ⟨[], []⟩, ir_archipelagolaw18_HeadMost⟩
def gtab : GTab := fun n => match n with
  | 9 => some (.code g_head_Right)
  | 23 => some (.code g_head_put)
  | 30 => some (.clone 1 1)
  | 33 => some (.code g_crc_step)
  | 31 => some (.code g_crc_Sum)
  | 24 => some (.code g_crc_Seal)
  | 11 => some (.code g_head_Put)
  | 13 => some (.code g_head_Blocks)
  | 15 => some (.code g_head_Size)
  | 32 => some (.code g_slices_Equal_byte_byte)
  | 26 => some (.code g_crc_Open)
  | 27 => some (.code g_head_take)
  | 19 => some (.code g_head_Read)
  | 8 => some (.code g_archipelagolaw18_known)
  | 10 => some (.code g_archipelagoref18_Right)
  | 17 => some (.code g_archipelagoref1_Fixed)
  | 25 => some (.code g_archipelagoref1_Next)
  | 18 => some (.code g_archipelagoref1_Sum)
  | 22 => some (.code g_archipelagoref1_Seal)
  | 12 => some (.code g_archipelagoref18_Put)
  | 14 => some (.code g_archipelagoref18_Blocks)
  | 16 => some (.code g_archipelagoref18_Size)
  | 29 => some (.code g_archipelagoref1_Number)
  | 28 => some (.code g_archipelagoref1_Open)
  | 20 => some (.code g_archipelagoref18_Read)
  | 3 => some (.code g_archipelagolaw18_HeadTells)
  | 4 => some (.code g_archipelagolaw18_HeadShares)
  | 21 => some (.code g_archipelagoref1_Flip)
  | 5 => some (.code g_archipelagolaw18_HeadBursts)
  | 6 => some (.code g_archipelagolaw18_HeadErrors)
  | 7 => some (.code g_archipelagolaw18_HeadMost)
  | _ => none
theorem gt_head_Right : gtab fid_head_Right = some (.code g_head_Right) := rfl
theorem gt_head_put : gtab fid_head_put = some (.code g_head_put) := rfl
theorem gt_slices_Clone_byte_byte : gtab fid_slices_Clone_byte_byte = some (.clone 1 1) := rfl
theorem gt_crc_step : gtab fid_crc_step = some (.code g_crc_step) := rfl
theorem gt_crc_Sum : gtab fid_crc_Sum = some (.code g_crc_Sum) := rfl
theorem gt_crc_Seal : gtab fid_crc_Seal = some (.code g_crc_Seal) := rfl
theorem gt_head_Put : gtab fid_head_Put = some (.code g_head_Put) := rfl
theorem gt_head_Blocks : gtab fid_head_Blocks = some (.code g_head_Blocks) := rfl
theorem gt_head_Size : gtab fid_head_Size = some (.code g_head_Size) := rfl
theorem gt_slices_Equal_byte_byte : gtab fid_slices_Equal_byte_byte = some (.code g_slices_Equal_byte_byte) := rfl
theorem gt_crc_Open : gtab fid_crc_Open = some (.code g_crc_Open) := rfl
theorem gt_head_take : gtab fid_head_take = some (.code g_head_take) := rfl
theorem gt_head_Read : gtab fid_head_Read = some (.code g_head_Read) := rfl
theorem gt_archipelagolaw18_known : gtab fid_archipelagolaw18_known = some (.code g_archipelagolaw18_known) := rfl
theorem gt_archipelagoref18_Right : gtab fid_archipelagoref18_Right = some (.code g_archipelagoref18_Right) := rfl
theorem gt_archipelagoref1_Fixed : gtab fid_archipelagoref1_Fixed = some (.code g_archipelagoref1_Fixed) := rfl
theorem gt_archipelagoref1_Next : gtab fid_archipelagoref1_Next = some (.code g_archipelagoref1_Next) := rfl
theorem gt_archipelagoref1_Sum : gtab fid_archipelagoref1_Sum = some (.code g_archipelagoref1_Sum) := rfl
theorem gt_archipelagoref1_Seal : gtab fid_archipelagoref1_Seal = some (.code g_archipelagoref1_Seal) := rfl
theorem gt_archipelagoref18_Put : gtab fid_archipelagoref18_Put = some (.code g_archipelagoref18_Put) := rfl
theorem gt_archipelagoref18_Blocks : gtab fid_archipelagoref18_Blocks = some (.code g_archipelagoref18_Blocks) := rfl
theorem gt_archipelagoref18_Size : gtab fid_archipelagoref18_Size = some (.code g_archipelagoref18_Size) := rfl
theorem gt_archipelagoref1_Number : gtab fid_archipelagoref1_Number = some (.code g_archipelagoref1_Number) := rfl
theorem gt_archipelagoref1_Open : gtab fid_archipelagoref1_Open = some (.code g_archipelagoref1_Open) := rfl
theorem gt_archipelagoref18_Read : gtab fid_archipelagoref18_Read = some (.code g_archipelagoref18_Read) := rfl
theorem gt_archipelagolaw18_HeadTells : gtab fid_archipelagolaw18_HeadTells = some (.code g_archipelagolaw18_HeadTells) := rfl
theorem gt_archipelagolaw18_HeadShares : gtab fid_archipelagolaw18_HeadShares = some (.code g_archipelagolaw18_HeadShares) := rfl
theorem gt_archipelagoref1_Flip : gtab fid_archipelagoref1_Flip = some (.code g_archipelagoref1_Flip) := rfl
theorem gt_archipelagolaw18_HeadBursts : gtab fid_archipelagolaw18_HeadBursts = some (.code g_archipelagolaw18_HeadBursts) := rfl
theorem gt_archipelagolaw18_HeadErrors : gtab fid_archipelagolaw18_HeadErrors = some (.code g_archipelagolaw18_HeadErrors) := rfl
theorem gt_archipelagolaw18_HeadMost : gtab fid_archipelagolaw18_HeadMost = some (.code g_archipelagolaw18_HeadMost) := rfl
theorem gc_head_Right {call : GCallF} {lo : Nat} {us : List U} {h : GH} : gcall gtab call lo fid_head_Right us h = ownCall call lo fid_head_Right us h := rfl
theorem gc_head_put {call : GCallF} {lo : Nat} {us : List U} {h : GH} : gcall gtab call lo fid_head_put us h = ownCall call lo fid_head_put us h := rfl
theorem gc_slices_Clone_byte_byte {call : GCallF} {lo : Nat} {us : List U} {h : GH} : gcall gtab call lo fid_slices_Clone_byte_byte us h = cloneCall 1 1 us h := rfl
theorem gc_crc_step {call : GCallF} {lo : Nat} {us : List U} {h : GH} : gcall gtab call lo fid_crc_step us h = ownCall call lo fid_crc_step us h := rfl
theorem gc_crc_Sum {call : GCallF} {lo : Nat} {us : List U} {h : GH} : gcall gtab call lo fid_crc_Sum us h = ownCall call lo fid_crc_Sum us h := rfl
theorem gc_crc_Seal {call : GCallF} {lo : Nat} {us : List U} {h : GH} : gcall gtab call lo fid_crc_Seal us h = ownCall call lo fid_crc_Seal us h := rfl
theorem gc_head_Put {call : GCallF} {lo : Nat} {us : List U} {h : GH} : gcall gtab call lo fid_head_Put us h = ownCall call lo fid_head_Put us h := rfl
theorem gc_head_Blocks {call : GCallF} {lo : Nat} {us : List U} {h : GH} : gcall gtab call lo fid_head_Blocks us h = ownCall call lo fid_head_Blocks us h := rfl
theorem gc_head_Size {call : GCallF} {lo : Nat} {us : List U} {h : GH} : gcall gtab call lo fid_head_Size us h = ownCall call lo fid_head_Size us h := rfl
theorem gc_slices_Equal_byte_byte {call : GCallF} {lo : Nat} {us : List U} {h : GH} : gcall gtab call lo fid_slices_Equal_byte_byte us h = ownCall call lo fid_slices_Equal_byte_byte us h := rfl
theorem gc_crc_Open {call : GCallF} {lo : Nat} {us : List U} {h : GH} : gcall gtab call lo fid_crc_Open us h = ownCall call lo fid_crc_Open us h := rfl
theorem gc_head_take {call : GCallF} {lo : Nat} {us : List U} {h : GH} : gcall gtab call lo fid_head_take us h = ownCall call lo fid_head_take us h := rfl
theorem gc_head_Read {call : GCallF} {lo : Nat} {us : List U} {h : GH} : gcall gtab call lo fid_head_Read us h = ownCall call lo fid_head_Read us h := rfl
theorem gc_archipelagolaw18_known {call : GCallF} {lo : Nat} {us : List U} {h : GH} : gcall gtab call lo fid_archipelagolaw18_known us h = ownCall call lo fid_archipelagolaw18_known us h := rfl
theorem gc_archipelagoref18_Right {call : GCallF} {lo : Nat} {us : List U} {h : GH} : gcall gtab call lo fid_archipelagoref18_Right us h = ownCall call lo fid_archipelagoref18_Right us h := rfl
theorem gc_archipelagoref1_Fixed {call : GCallF} {lo : Nat} {us : List U} {h : GH} : gcall gtab call lo fid_archipelagoref1_Fixed us h = ownCall call lo fid_archipelagoref1_Fixed us h := rfl
theorem gc_archipelagoref1_Next {call : GCallF} {lo : Nat} {us : List U} {h : GH} : gcall gtab call lo fid_archipelagoref1_Next us h = ownCall call lo fid_archipelagoref1_Next us h := rfl
theorem gc_archipelagoref1_Sum {call : GCallF} {lo : Nat} {us : List U} {h : GH} : gcall gtab call lo fid_archipelagoref1_Sum us h = ownCall call lo fid_archipelagoref1_Sum us h := rfl
theorem gc_archipelagoref1_Seal {call : GCallF} {lo : Nat} {us : List U} {h : GH} : gcall gtab call lo fid_archipelagoref1_Seal us h = ownCall call lo fid_archipelagoref1_Seal us h := rfl
theorem gc_archipelagoref18_Put {call : GCallF} {lo : Nat} {us : List U} {h : GH} : gcall gtab call lo fid_archipelagoref18_Put us h = ownCall call lo fid_archipelagoref18_Put us h := rfl
theorem gc_archipelagoref18_Blocks {call : GCallF} {lo : Nat} {us : List U} {h : GH} : gcall gtab call lo fid_archipelagoref18_Blocks us h = ownCall call lo fid_archipelagoref18_Blocks us h := rfl
theorem gc_archipelagoref18_Size {call : GCallF} {lo : Nat} {us : List U} {h : GH} : gcall gtab call lo fid_archipelagoref18_Size us h = ownCall call lo fid_archipelagoref18_Size us h := rfl
theorem gc_archipelagoref1_Number {call : GCallF} {lo : Nat} {us : List U} {h : GH} : gcall gtab call lo fid_archipelagoref1_Number us h = ownCall call lo fid_archipelagoref1_Number us h := rfl
theorem gc_archipelagoref1_Open {call : GCallF} {lo : Nat} {us : List U} {h : GH} : gcall gtab call lo fid_archipelagoref1_Open us h = ownCall call lo fid_archipelagoref1_Open us h := rfl
theorem gc_archipelagoref18_Read {call : GCallF} {lo : Nat} {us : List U} {h : GH} : gcall gtab call lo fid_archipelagoref18_Read us h = ownCall call lo fid_archipelagoref18_Read us h := rfl
theorem gc_archipelagolaw18_HeadTells {call : GCallF} {lo : Nat} {us : List U} {h : GH} : gcall gtab call lo fid_archipelagolaw18_HeadTells us h = ownCall call lo fid_archipelagolaw18_HeadTells us h := rfl
theorem gc_archipelagolaw18_HeadShares {call : GCallF} {lo : Nat} {us : List U} {h : GH} : gcall gtab call lo fid_archipelagolaw18_HeadShares us h = ownCall call lo fid_archipelagolaw18_HeadShares us h := rfl
theorem gc_archipelagoref1_Flip {call : GCallF} {lo : Nat} {us : List U} {h : GH} : gcall gtab call lo fid_archipelagoref1_Flip us h = ownCall call lo fid_archipelagoref1_Flip us h := rfl
theorem gc_archipelagolaw18_HeadBursts {call : GCallF} {lo : Nat} {us : List U} {h : GH} : gcall gtab call lo fid_archipelagolaw18_HeadBursts us h = ownCall call lo fid_archipelagolaw18_HeadBursts us h := rfl
theorem gc_archipelagolaw18_HeadErrors {call : GCallF} {lo : Nat} {us : List U} {h : GH} : gcall gtab call lo fid_archipelagolaw18_HeadErrors us h = ownCall call lo fid_archipelagolaw18_HeadErrors us h := rfl
theorem gc_archipelagolaw18_HeadMost {call : GCallF} {lo : Nat} {us : List U} {h : GH} : gcall gtab call lo fid_archipelagolaw18_HeadMost us h = ownCall call lo fid_archipelagolaw18_HeadMost us h := rfl
theorem fn_head_Right {us : List U} {h h' : GH} {lo : Nat} {w : U} (hl : us.length = 1) (k : Z gtab ⟨[], []⟩ lo [.c ir_head_Right.body] (genvOf 0 us) h fun env h1 => ∃ vs, gres env h1 [.tmp 2] = some vs ∧ gfin .own vs h1 = some (w, h')) : GF gtab fid_head_Right us h lo = some (w, h') := GF_fn gt_head_Right hl k
theorem fnR_head_Right {us : List U} {h : GH} {lo : Nat} {R : U → GH → Prop} (hl : us.length = 1) (k : Z gtab ⟨[], []⟩ lo [.c ir_head_Right.body] (genvOf 0 us) h fun env h1 => ∃ vs, gres env h1 [.tmp 2] = some vs ∧ ∃ w h', gfin .own vs h1 = some (w, h') ∧ R w h') : ∃ w h', GF gtab fid_head_Right us h lo = some (w, h') ∧ R w h' := GF_fnR gt_head_Right hl k
theorem fn_head_put {us : List U} {h h' : GH} {lo : Nat} {w : U} (hl : us.length = 2) (k : Z gtab ⟨[], []⟩ lo [.c ir_head_put.body] (genvOf 0 us) h fun env h1 => ∃ vs, gres env h1 [.tmp 4] = some vs ∧ gfin .own vs h1 = some (w, h')) : GF gtab fid_head_put us h lo = some (w, h') := GF_fn gt_head_put hl k
theorem fnR_head_put {us : List U} {h : GH} {lo : Nat} {R : U → GH → Prop} (hl : us.length = 2) (k : Z gtab ⟨[], []⟩ lo [.c ir_head_put.body] (genvOf 0 us) h fun env h1 => ∃ vs, gres env h1 [.tmp 4] = some vs ∧ ∃ w h', gfin .own vs h1 = some (w, h') ∧ R w h') : ∃ w h', GF gtab fid_head_put us h lo = some (w, h') ∧ R w h' := GF_fnR gt_head_put hl k
theorem fn_crc_step {us : List U} {h h' : GH} {lo : Nat} {w : U} (hl : us.length = 2) (k : Z gtab ⟨[], []⟩ lo [.c ir_crc_step.body] (genvOf 0 us) h fun env h1 => ∃ vs, gres env h1 [.tmp 4] = some vs ∧ gfin .own vs h1 = some (w, h')) : GF gtab fid_crc_step us h lo = some (w, h') := GF_fn gt_crc_step hl k
theorem fnR_crc_step {us : List U} {h : GH} {lo : Nat} {R : U → GH → Prop} (hl : us.length = 2) (k : Z gtab ⟨[], []⟩ lo [.c ir_crc_step.body] (genvOf 0 us) h fun env h1 => ∃ vs, gres env h1 [.tmp 4] = some vs ∧ ∃ w h', gfin .own vs h1 = some (w, h') ∧ R w h') : ∃ w h', GF gtab fid_crc_step us h lo = some (w, h') ∧ R w h' := GF_fnR gt_crc_step hl k
theorem fn_crc_Sum {us : List U} {h h' : GH} {lo : Nat} {w : U} (hl : us.length = 1) (k : Z gtab ⟨[], []⟩ lo [.c ir_crc_Sum.body] (genvOf 0 us) h fun env h1 => ∃ vs, gres env h1 [.tmp 2] = some vs ∧ gfin .own vs h1 = some (w, h')) : GF gtab fid_crc_Sum us h lo = some (w, h') := GF_fn gt_crc_Sum hl k
theorem fnR_crc_Sum {us : List U} {h : GH} {lo : Nat} {R : U → GH → Prop} (hl : us.length = 1) (k : Z gtab ⟨[], []⟩ lo [.c ir_crc_Sum.body] (genvOf 0 us) h fun env h1 => ∃ vs, gres env h1 [.tmp 2] = some vs ∧ ∃ w h', gfin .own vs h1 = some (w, h') ∧ R w h') : ∃ w h', GF gtab fid_crc_Sum us h lo = some (w, h') ∧ R w h' := GF_fnR gt_crc_Sum hl k
theorem fn_crc_Seal {us : List U} {h h' : GH} {lo : Nat} {w : U} (hl : us.length = 1) (k : Z gtab ⟨[], []⟩ lo [.c ir_crc_Seal.body] (genvOf 0 us) h fun env h1 => ∃ vs, gres env h1 [.tmp 2] = some vs ∧ gfin .own vs h1 = some (w, h')) : GF gtab fid_crc_Seal us h lo = some (w, h') := GF_fn gt_crc_Seal hl k
theorem fnR_crc_Seal {us : List U} {h : GH} {lo : Nat} {R : U → GH → Prop} (hl : us.length = 1) (k : Z gtab ⟨[], []⟩ lo [.c ir_crc_Seal.body] (genvOf 0 us) h fun env h1 => ∃ vs, gres env h1 [.tmp 2] = some vs ∧ ∃ w h', gfin .own vs h1 = some (w, h') ∧ R w h') : ∃ w h', GF gtab fid_crc_Seal us h lo = some (w, h') ∧ R w h' := GF_fnR gt_crc_Seal hl k
theorem fn_head_Put {us : List U} {h h' : GH} {lo : Nat} {w : U} (hl : us.length = 1) (k : Z gtab ⟨[], []⟩ lo [.c ir_head_Put.body] (genvOf 0 us) h fun env h1 => ∃ vs, gres env h1 [.tmp 2] = some vs ∧ gfin .own vs h1 = some (w, h')) : GF gtab fid_head_Put us h lo = some (w, h') := GF_fn gt_head_Put hl k
theorem fnR_head_Put {us : List U} {h : GH} {lo : Nat} {R : U → GH → Prop} (hl : us.length = 1) (k : Z gtab ⟨[], []⟩ lo [.c ir_head_Put.body] (genvOf 0 us) h fun env h1 => ∃ vs, gres env h1 [.tmp 2] = some vs ∧ ∃ w h', gfin .own vs h1 = some (w, h') ∧ R w h') : ∃ w h', GF gtab fid_head_Put us h lo = some (w, h') ∧ R w h' := GF_fnR gt_head_Put hl k
theorem fn_head_Blocks {us : List U} {h h' : GH} {lo : Nat} {w : U} (hl : us.length = 1) (k : Z gtab ⟨[], []⟩ lo [.c ir_head_Blocks.body] (genvOf 0 us) h fun env h1 => ∃ vs, gres env h1 [.tmp 2] = some vs ∧ gfin .own vs h1 = some (w, h')) : GF gtab fid_head_Blocks us h lo = some (w, h') := GF_fn gt_head_Blocks hl k
theorem fnR_head_Blocks {us : List U} {h : GH} {lo : Nat} {R : U → GH → Prop} (hl : us.length = 1) (k : Z gtab ⟨[], []⟩ lo [.c ir_head_Blocks.body] (genvOf 0 us) h fun env h1 => ∃ vs, gres env h1 [.tmp 2] = some vs ∧ ∃ w h', gfin .own vs h1 = some (w, h') ∧ R w h') : ∃ w h', GF gtab fid_head_Blocks us h lo = some (w, h') ∧ R w h' := GF_fnR gt_head_Blocks hl k
theorem fn_head_Size {us : List U} {h h' : GH} {lo : Nat} {w : U} (hl : us.length = 2) (k : Z gtab ⟨[], []⟩ lo [.c ir_head_Size.body] (genvOf 0 us) h fun env h1 => ∃ vs, gres env h1 [.tmp 4] = some vs ∧ gfin .own vs h1 = some (w, h')) : GF gtab fid_head_Size us h lo = some (w, h') := GF_fn gt_head_Size hl k
theorem fnR_head_Size {us : List U} {h : GH} {lo : Nat} {R : U → GH → Prop} (hl : us.length = 2) (k : Z gtab ⟨[], []⟩ lo [.c ir_head_Size.body] (genvOf 0 us) h fun env h1 => ∃ vs, gres env h1 [.tmp 4] = some vs ∧ ∃ w h', gfin .own vs h1 = some (w, h') ∧ R w h') : ∃ w h', GF gtab fid_head_Size us h lo = some (w, h') ∧ R w h' := GF_fnR gt_head_Size hl k
theorem fn_slices_Equal_byte_byte {us : List U} {h h' : GH} {lo : Nat} {w : U} (hl : us.length = 2) (k : Z gtab ⟨[], []⟩ lo [.c ir_slices_Equal_byte_byte.body] (genvOf 0 us) h fun env h1 => ∃ vs, gres env h1 [.tmp 4] = some vs ∧ gfin .own vs h1 = some (w, h')) : GF gtab fid_slices_Equal_byte_byte us h lo = some (w, h') := GF_fn gt_slices_Equal_byte_byte hl k
theorem fnR_slices_Equal_byte_byte {us : List U} {h : GH} {lo : Nat} {R : U → GH → Prop} (hl : us.length = 2) (k : Z gtab ⟨[], []⟩ lo [.c ir_slices_Equal_byte_byte.body] (genvOf 0 us) h fun env h1 => ∃ vs, gres env h1 [.tmp 4] = some vs ∧ ∃ w h', gfin .own vs h1 = some (w, h') ∧ R w h') : ∃ w h', GF gtab fid_slices_Equal_byte_byte us h lo = some (w, h') ∧ R w h' := GF_fnR gt_slices_Equal_byte_byte hl k
theorem fn_crc_Open {us : List U} {h h' : GH} {lo : Nat} {w : U} (hl : us.length = 1) (k : Z gtab ⟨[], []⟩ lo [.c ir_crc_Open.body] (genvOf 0 us) h fun env h1 => ∃ vs, gres env h1 [.tmp 2, .tmp 3] = some vs ∧ gfin .own vs h1 = some (w, h')) : GF gtab fid_crc_Open us h lo = some (w, h') := GF_fn gt_crc_Open hl k
theorem fnR_crc_Open {us : List U} {h : GH} {lo : Nat} {R : U → GH → Prop} (hl : us.length = 1) (k : Z gtab ⟨[], []⟩ lo [.c ir_crc_Open.body] (genvOf 0 us) h fun env h1 => ∃ vs, gres env h1 [.tmp 2, .tmp 3] = some vs ∧ ∃ w h', gfin .own vs h1 = some (w, h') ∧ R w h') : ∃ w h', GF gtab fid_crc_Open us h lo = some (w, h') ∧ R w h' := GF_fnR gt_crc_Open hl k
theorem fn_head_take {us : List U} {h h' : GH} {lo : Nat} {w : U} (hl : us.length = 1) (k : Z gtab ⟨[], []⟩ lo [.c ir_head_take.body] (genvOf 0 us) h fun env h1 => ∃ vs, gres env h1 [.tmp 2] = some vs ∧ gfin .own vs h1 = some (w, h')) : GF gtab fid_head_take us h lo = some (w, h') := GF_fn gt_head_take hl k
theorem fnR_head_take {us : List U} {h : GH} {lo : Nat} {R : U → GH → Prop} (hl : us.length = 1) (k : Z gtab ⟨[], []⟩ lo [.c ir_head_take.body] (genvOf 0 us) h fun env h1 => ∃ vs, gres env h1 [.tmp 2] = some vs ∧ ∃ w h', gfin .own vs h1 = some (w, h') ∧ R w h') : ∃ w h', GF gtab fid_head_take us h lo = some (w, h') ∧ R w h' := GF_fnR gt_head_take hl k
theorem fn_head_Read {us : List U} {h h' : GH} {lo : Nat} {w : U} (hl : us.length = 1) (k : Z gtab ⟨[], []⟩ lo [.c ir_head_Read.body] (genvOf 0 us) h fun env h1 => ∃ vs, gres env h1 [.cell 2 3 true, .tmp 3] = some vs ∧ gfin .own vs h1 = some (w, h')) : GF gtab fid_head_Read us h lo = some (w, h') := GF_fn gt_head_Read hl k
theorem fnR_head_Read {us : List U} {h : GH} {lo : Nat} {R : U → GH → Prop} (hl : us.length = 1) (k : Z gtab ⟨[], []⟩ lo [.c ir_head_Read.body] (genvOf 0 us) h fun env h1 => ∃ vs, gres env h1 [.cell 2 3 true, .tmp 3] = some vs ∧ ∃ w h', gfin .own vs h1 = some (w, h') ∧ R w h') : ∃ w h', GF gtab fid_head_Read us h lo = some (w, h') ∧ R w h' := GF_fnR gt_head_Read hl k
theorem fn_archipelagolaw18_known {us : List U} {h h' : GH} {lo : Nat} {w : U} (hl : us.length = 0) (k : Z gtab ⟨[], []⟩ lo [.c ir_archipelagolaw18_known.body] (genvOf 0 us) h fun env h1 => ∃ vs, gres env h1 [.tmp 0] = some vs ∧ gfin .own vs h1 = some (w, h')) : GF gtab fid_archipelagolaw18_known us h lo = some (w, h') := GF_fn gt_archipelagolaw18_known hl k
theorem fnR_archipelagolaw18_known {us : List U} {h : GH} {lo : Nat} {R : U → GH → Prop} (hl : us.length = 0) (k : Z gtab ⟨[], []⟩ lo [.c ir_archipelagolaw18_known.body] (genvOf 0 us) h fun env h1 => ∃ vs, gres env h1 [.tmp 0] = some vs ∧ ∃ w h', gfin .own vs h1 = some (w, h') ∧ R w h') : ∃ w h', GF gtab fid_archipelagolaw18_known us h lo = some (w, h') ∧ R w h' := GF_fnR gt_archipelagolaw18_known hl k
theorem fn_archipelagoref18_Right {us : List U} {h h' : GH} {lo : Nat} {w : U} (hl : us.length = 1) (k : Z gtab ⟨[], []⟩ lo [.c ir_archipelagoref18_Right.body] (genvOf 0 us) h fun env h1 => ∃ vs, gres env h1 [.tmp 2] = some vs ∧ gfin .own vs h1 = some (w, h')) : GF gtab fid_archipelagoref18_Right us h lo = some (w, h') := GF_fn gt_archipelagoref18_Right hl k
theorem fnR_archipelagoref18_Right {us : List U} {h : GH} {lo : Nat} {R : U → GH → Prop} (hl : us.length = 1) (k : Z gtab ⟨[], []⟩ lo [.c ir_archipelagoref18_Right.body] (genvOf 0 us) h fun env h1 => ∃ vs, gres env h1 [.tmp 2] = some vs ∧ ∃ w h', gfin .own vs h1 = some (w, h') ∧ R w h') : ∃ w h', GF gtab fid_archipelagoref18_Right us h lo = some (w, h') ∧ R w h' := GF_fnR gt_archipelagoref18_Right hl k
theorem fn_archipelagoref1_Fixed {us : List U} {h h' : GH} {lo : Nat} {w : U} (hl : us.length = 2) (k : Z gtab ⟨[], []⟩ lo [.c ir_archipelagoref1_Fixed.body] (genvOf 0 us) h fun env h1 => ∃ vs, gres env h1 [.tmp 4] = some vs ∧ gfin .own vs h1 = some (w, h')) : GF gtab fid_archipelagoref1_Fixed us h lo = some (w, h') := GF_fn gt_archipelagoref1_Fixed hl k
theorem fnR_archipelagoref1_Fixed {us : List U} {h : GH} {lo : Nat} {R : U → GH → Prop} (hl : us.length = 2) (k : Z gtab ⟨[], []⟩ lo [.c ir_archipelagoref1_Fixed.body] (genvOf 0 us) h fun env h1 => ∃ vs, gres env h1 [.tmp 4] = some vs ∧ ∃ w h', gfin .own vs h1 = some (w, h') ∧ R w h') : ∃ w h', GF gtab fid_archipelagoref1_Fixed us h lo = some (w, h') ∧ R w h' := GF_fnR gt_archipelagoref1_Fixed hl k
theorem fn_archipelagoref1_Next {us : List U} {h h' : GH} {lo : Nat} {w : U} (hl : us.length = 2) (k : Z gtab ⟨[], []⟩ lo [.c ir_archipelagoref1_Next.body] (genvOf 0 us) h fun env h1 => ∃ vs, gres env h1 [.tmp 4] = some vs ∧ gfin .own vs h1 = some (w, h')) : GF gtab fid_archipelagoref1_Next us h lo = some (w, h') := GF_fn gt_archipelagoref1_Next hl k
theorem fnR_archipelagoref1_Next {us : List U} {h : GH} {lo : Nat} {R : U → GH → Prop} (hl : us.length = 2) (k : Z gtab ⟨[], []⟩ lo [.c ir_archipelagoref1_Next.body] (genvOf 0 us) h fun env h1 => ∃ vs, gres env h1 [.tmp 4] = some vs ∧ ∃ w h', gfin .own vs h1 = some (w, h') ∧ R w h') : ∃ w h', GF gtab fid_archipelagoref1_Next us h lo = some (w, h') ∧ R w h' := GF_fnR gt_archipelagoref1_Next hl k
theorem fn_archipelagoref1_Sum {us : List U} {h h' : GH} {lo : Nat} {w : U} (hl : us.length = 1) (k : Z gtab ⟨[], []⟩ lo [.c ir_archipelagoref1_Sum.body] (genvOf 0 us) h fun env h1 => ∃ vs, gres env h1 [.tmp 2] = some vs ∧ gfin .own vs h1 = some (w, h')) : GF gtab fid_archipelagoref1_Sum us h lo = some (w, h') := GF_fn gt_archipelagoref1_Sum hl k
theorem fnR_archipelagoref1_Sum {us : List U} {h : GH} {lo : Nat} {R : U → GH → Prop} (hl : us.length = 1) (k : Z gtab ⟨[], []⟩ lo [.c ir_archipelagoref1_Sum.body] (genvOf 0 us) h fun env h1 => ∃ vs, gres env h1 [.tmp 2] = some vs ∧ ∃ w h', gfin .own vs h1 = some (w, h') ∧ R w h') : ∃ w h', GF gtab fid_archipelagoref1_Sum us h lo = some (w, h') ∧ R w h' := GF_fnR gt_archipelagoref1_Sum hl k
theorem fn_archipelagoref1_Seal {us : List U} {h h' : GH} {lo : Nat} {w : U} (hl : us.length = 1) (k : Z gtab ⟨[], []⟩ lo [.c ir_archipelagoref1_Seal.body] (genvOf 0 us) h fun env h1 => ∃ vs, gres env h1 [.tmp 2] = some vs ∧ gfin .own vs h1 = some (w, h')) : GF gtab fid_archipelagoref1_Seal us h lo = some (w, h') := GF_fn gt_archipelagoref1_Seal hl k
theorem fnR_archipelagoref1_Seal {us : List U} {h : GH} {lo : Nat} {R : U → GH → Prop} (hl : us.length = 1) (k : Z gtab ⟨[], []⟩ lo [.c ir_archipelagoref1_Seal.body] (genvOf 0 us) h fun env h1 => ∃ vs, gres env h1 [.tmp 2] = some vs ∧ ∃ w h', gfin .own vs h1 = some (w, h') ∧ R w h') : ∃ w h', GF gtab fid_archipelagoref1_Seal us h lo = some (w, h') ∧ R w h' := GF_fnR gt_archipelagoref1_Seal hl k
theorem fn_archipelagoref18_Put {us : List U} {h h' : GH} {lo : Nat} {w : U} (hl : us.length = 1) (k : Z gtab ⟨[], []⟩ lo [.c ir_archipelagoref18_Put.body] (genvOf 0 us) h fun env h1 => ∃ vs, gres env h1 [.tmp 2] = some vs ∧ gfin .own vs h1 = some (w, h')) : GF gtab fid_archipelagoref18_Put us h lo = some (w, h') := GF_fn gt_archipelagoref18_Put hl k
theorem fnR_archipelagoref18_Put {us : List U} {h : GH} {lo : Nat} {R : U → GH → Prop} (hl : us.length = 1) (k : Z gtab ⟨[], []⟩ lo [.c ir_archipelagoref18_Put.body] (genvOf 0 us) h fun env h1 => ∃ vs, gres env h1 [.tmp 2] = some vs ∧ ∃ w h', gfin .own vs h1 = some (w, h') ∧ R w h') : ∃ w h', GF gtab fid_archipelagoref18_Put us h lo = some (w, h') ∧ R w h' := GF_fnR gt_archipelagoref18_Put hl k
theorem fn_archipelagoref18_Blocks {us : List U} {h h' : GH} {lo : Nat} {w : U} (hl : us.length = 1) (k : Z gtab ⟨[], []⟩ lo [.c ir_archipelagoref18_Blocks.body] (genvOf 0 us) h fun env h1 => ∃ vs, gres env h1 [.tmp 2] = some vs ∧ gfin .own vs h1 = some (w, h')) : GF gtab fid_archipelagoref18_Blocks us h lo = some (w, h') := GF_fn gt_archipelagoref18_Blocks hl k
theorem fnR_archipelagoref18_Blocks {us : List U} {h : GH} {lo : Nat} {R : U → GH → Prop} (hl : us.length = 1) (k : Z gtab ⟨[], []⟩ lo [.c ir_archipelagoref18_Blocks.body] (genvOf 0 us) h fun env h1 => ∃ vs, gres env h1 [.tmp 2] = some vs ∧ ∃ w h', gfin .own vs h1 = some (w, h') ∧ R w h') : ∃ w h', GF gtab fid_archipelagoref18_Blocks us h lo = some (w, h') ∧ R w h' := GF_fnR gt_archipelagoref18_Blocks hl k
theorem fn_archipelagoref18_Size {us : List U} {h h' : GH} {lo : Nat} {w : U} (hl : us.length = 2) (k : Z gtab ⟨[], []⟩ lo [.c ir_archipelagoref18_Size.body] (genvOf 0 us) h fun env h1 => ∃ vs, gres env h1 [.tmp 4] = some vs ∧ gfin .own vs h1 = some (w, h')) : GF gtab fid_archipelagoref18_Size us h lo = some (w, h') := GF_fn gt_archipelagoref18_Size hl k
theorem fnR_archipelagoref18_Size {us : List U} {h : GH} {lo : Nat} {R : U → GH → Prop} (hl : us.length = 2) (k : Z gtab ⟨[], []⟩ lo [.c ir_archipelagoref18_Size.body] (genvOf 0 us) h fun env h1 => ∃ vs, gres env h1 [.tmp 4] = some vs ∧ ∃ w h', gfin .own vs h1 = some (w, h') ∧ R w h') : ∃ w h', GF gtab fid_archipelagoref18_Size us h lo = some (w, h') ∧ R w h' := GF_fnR gt_archipelagoref18_Size hl k
theorem fn_archipelagoref1_Number {us : List U} {h h' : GH} {lo : Nat} {w : U} (hl : us.length = 1) (k : Z gtab ⟨[], []⟩ lo [.c ir_archipelagoref1_Number.body] (genvOf 0 us) h fun env h1 => ∃ vs, gres env h1 [.tmp 2] = some vs ∧ gfin .own vs h1 = some (w, h')) : GF gtab fid_archipelagoref1_Number us h lo = some (w, h') := GF_fn gt_archipelagoref1_Number hl k
theorem fnR_archipelagoref1_Number {us : List U} {h : GH} {lo : Nat} {R : U → GH → Prop} (hl : us.length = 1) (k : Z gtab ⟨[], []⟩ lo [.c ir_archipelagoref1_Number.body] (genvOf 0 us) h fun env h1 => ∃ vs, gres env h1 [.tmp 2] = some vs ∧ ∃ w h', gfin .own vs h1 = some (w, h') ∧ R w h') : ∃ w h', GF gtab fid_archipelagoref1_Number us h lo = some (w, h') ∧ R w h' := GF_fnR gt_archipelagoref1_Number hl k
theorem fn_archipelagoref1_Open {us : List U} {h h' : GH} {lo : Nat} {w : U} (hl : us.length = 1) (k : Z gtab ⟨[], []⟩ lo [.c ir_archipelagoref1_Open.body] (genvOf 0 us) h fun env h1 => ∃ vs, gres env h1 [.tmp 2, .tmp 3] = some vs ∧ gfin .own vs h1 = some (w, h')) : GF gtab fid_archipelagoref1_Open us h lo = some (w, h') := GF_fn gt_archipelagoref1_Open hl k
theorem fnR_archipelagoref1_Open {us : List U} {h : GH} {lo : Nat} {R : U → GH → Prop} (hl : us.length = 1) (k : Z gtab ⟨[], []⟩ lo [.c ir_archipelagoref1_Open.body] (genvOf 0 us) h fun env h1 => ∃ vs, gres env h1 [.tmp 2, .tmp 3] = some vs ∧ ∃ w h', gfin .own vs h1 = some (w, h') ∧ R w h') : ∃ w h', GF gtab fid_archipelagoref1_Open us h lo = some (w, h') ∧ R w h' := GF_fnR gt_archipelagoref1_Open hl k
theorem fn_archipelagoref18_Read {us : List U} {h h' : GH} {lo : Nat} {w : U} (hl : us.length = 1) (k : Z gtab ⟨[], []⟩ lo [.c ir_archipelagoref18_Read.body] (genvOf 0 us) h fun env h1 => ∃ vs, gres env h1 [.cell 2 3 true, .tmp 3] = some vs ∧ gfin .own vs h1 = some (w, h')) : GF gtab fid_archipelagoref18_Read us h lo = some (w, h') := GF_fn gt_archipelagoref18_Read hl k
theorem fnR_archipelagoref18_Read {us : List U} {h : GH} {lo : Nat} {R : U → GH → Prop} (hl : us.length = 1) (k : Z gtab ⟨[], []⟩ lo [.c ir_archipelagoref18_Read.body] (genvOf 0 us) h fun env h1 => ∃ vs, gres env h1 [.cell 2 3 true, .tmp 3] = some vs ∧ ∃ w h', gfin .own vs h1 = some (w, h') ∧ R w h') : ∃ w h', GF gtab fid_archipelagoref18_Read us h lo = some (w, h') ∧ R w h' := GF_fnR gt_archipelagoref18_Read hl k
theorem fn_archipelagolaw18_HeadTells {us : List U} {h h' : GH} {lo : Nat} {w : U} (hl : us.length = 9) (k : Z gtab ⟨[], [105]⟩ lo [.c ir_archipelagolaw18_HeadTells.body] (genvOf 0 us) h fun env h1 => ∃ vs, gres env h1 [.tmp 18] = some vs ∧ gfin .own vs h1 = some (w, h')) : GF gtab fid_archipelagolaw18_HeadTells us h lo = some (w, h') := GF_fn gt_archipelagolaw18_HeadTells hl k
theorem fnR_archipelagolaw18_HeadTells {us : List U} {h : GH} {lo : Nat} {R : U → GH → Prop} (hl : us.length = 9) (k : Z gtab ⟨[], [105]⟩ lo [.c ir_archipelagolaw18_HeadTells.body] (genvOf 0 us) h fun env h1 => ∃ vs, gres env h1 [.tmp 18] = some vs ∧ ∃ w h', gfin .own vs h1 = some (w, h') ∧ R w h') : ∃ w h', GF gtab fid_archipelagolaw18_HeadTells us h lo = some (w, h') ∧ R w h' := GF_fnR gt_archipelagolaw18_HeadTells hl k
theorem fn_archipelagolaw18_HeadShares {us : List U} {h h' : GH} {lo : Nat} {w : U} (hl : us.length = 3) (k : Z gtab ⟨[], []⟩ lo [.c ir_archipelagolaw18_HeadShares.body] (genvOf 0 us) h fun env h1 => ∃ vs, gres env h1 [.tmp 6] = some vs ∧ gfin .own vs h1 = some (w, h')) : GF gtab fid_archipelagolaw18_HeadShares us h lo = some (w, h') := GF_fn gt_archipelagolaw18_HeadShares hl k
theorem fnR_archipelagolaw18_HeadShares {us : List U} {h : GH} {lo : Nat} {R : U → GH → Prop} (hl : us.length = 3) (k : Z gtab ⟨[], []⟩ lo [.c ir_archipelagolaw18_HeadShares.body] (genvOf 0 us) h fun env h1 => ∃ vs, gres env h1 [.tmp 6] = some vs ∧ ∃ w h', gfin .own vs h1 = some (w, h') ∧ R w h') : ∃ w h', GF gtab fid_archipelagolaw18_HeadShares us h lo = some (w, h') ∧ R w h' := GF_fnR gt_archipelagolaw18_HeadShares hl k
theorem fn_archipelagoref1_Flip {us : List U} {h h' : GH} {lo : Nat} {w : U} (hl : us.length = 3) (k : Z gtab ⟨[], [10]⟩ lo [.c ir_archipelagoref1_Flip.body] (genvOf 0 us) h fun env h1 => ∃ vs, gres env h1 [.tmp 6] = some vs ∧ gfin .own vs h1 = some (w, h')) : GF gtab fid_archipelagoref1_Flip us h lo = some (w, h') := GF_fn gt_archipelagoref1_Flip hl k
theorem fnR_archipelagoref1_Flip {us : List U} {h : GH} {lo : Nat} {R : U → GH → Prop} (hl : us.length = 3) (k : Z gtab ⟨[], [10]⟩ lo [.c ir_archipelagoref1_Flip.body] (genvOf 0 us) h fun env h1 => ∃ vs, gres env h1 [.tmp 6] = some vs ∧ ∃ w h', gfin .own vs h1 = some (w, h') ∧ R w h') : ∃ w h', GF gtab fid_archipelagoref1_Flip us h lo = some (w, h') ∧ R w h' := GF_fnR gt_archipelagoref1_Flip hl k
theorem fn_archipelagolaw18_HeadBursts {us : List U} {h h' : GH} {lo : Nat} {w : U} (hl : us.length = 5) (k : Z gtab ⟨[], []⟩ lo [.c ir_archipelagolaw18_HeadBursts.body] (genvOf 0 us) h fun env h1 => ∃ vs, gres env h1 [.tmp 10] = some vs ∧ gfin .own vs h1 = some (w, h')) : GF gtab fid_archipelagolaw18_HeadBursts us h lo = some (w, h') := GF_fn gt_archipelagolaw18_HeadBursts hl k
theorem fnR_archipelagolaw18_HeadBursts {us : List U} {h : GH} {lo : Nat} {R : U → GH → Prop} (hl : us.length = 5) (k : Z gtab ⟨[], []⟩ lo [.c ir_archipelagolaw18_HeadBursts.body] (genvOf 0 us) h fun env h1 => ∃ vs, gres env h1 [.tmp 10] = some vs ∧ ∃ w h', gfin .own vs h1 = some (w, h') ∧ R w h') : ∃ w h', GF gtab fid_archipelagolaw18_HeadBursts us h lo = some (w, h') ∧ R w h' := GF_fnR gt_archipelagolaw18_HeadBursts hl k
theorem fn_archipelagolaw18_HeadErrors {us : List U} {h h' : GH} {lo : Nat} {w : U} (hl : us.length = 6) (k : Z gtab ⟨[], [21, 25, 30, 34, 39]⟩ lo [.c ir_archipelagolaw18_HeadErrors.body] (genvOf 0 us) h fun env h1 => ∃ vs, gres env h1 [.tmp 12] = some vs ∧ gfin .own vs h1 = some (w, h')) : GF gtab fid_archipelagolaw18_HeadErrors us h lo = some (w, h') := GF_fn gt_archipelagolaw18_HeadErrors hl k
theorem fnR_archipelagolaw18_HeadErrors {us : List U} {h : GH} {lo : Nat} {R : U → GH → Prop} (hl : us.length = 6) (k : Z gtab ⟨[], [21, 25, 30, 34, 39]⟩ lo [.c ir_archipelagolaw18_HeadErrors.body] (genvOf 0 us) h fun env h1 => ∃ vs, gres env h1 [.tmp 12] = some vs ∧ ∃ w h', gfin .own vs h1 = some (w, h') ∧ R w h') : ∃ w h', GF gtab fid_archipelagolaw18_HeadErrors us h lo = some (w, h') ∧ R w h' := GF_fnR gt_archipelagolaw18_HeadErrors hl k
theorem fn_archipelagolaw18_HeadMost {us : List U} {h h' : GH} {lo : Nat} {w : U} (hl : us.length = 2) (k : Z gtab ⟨[], []⟩ lo [.c ir_archipelagolaw18_HeadMost.body] (genvOf 0 us) h fun env h1 => ∃ vs, gres env h1 [.tmp 4] = some vs ∧ gfin .own vs h1 = some (w, h')) : GF gtab fid_archipelagolaw18_HeadMost us h lo = some (w, h') := GF_fn gt_archipelagolaw18_HeadMost hl k
theorem fnR_archipelagolaw18_HeadMost {us : List U} {h : GH} {lo : Nat} {R : U → GH → Prop} (hl : us.length = 2) (k : Z gtab ⟨[], []⟩ lo [.c ir_archipelagolaw18_HeadMost.body] (genvOf 0 us) h fun env h1 => ∃ vs, gres env h1 [.tmp 4] = some vs ∧ ∃ w h', gfin .own vs h1 = some (w, h') ∧ R w h') : ∃ w h', GF gtab fid_archipelagolaw18_HeadMost us h lo = some (w, h') ∧ R w h' := GF_fnR gt_archipelagolaw18_HeadMost hl k
theorem iq_head_Right : isRo gtab fid_head_Right = true := rfl
theorem mk_head_Right : makes gtab fid_head_Right = true := rfl
theorem iq_head_put : isRo gtab fid_head_put = true := rfl
theorem mk_head_put : makes gtab fid_head_put = true := rfl
theorem iq_slices_Clone_byte_byte : isRo gtab fid_slices_Clone_byte_byte = true := rfl
theorem mk_slices_Clone_byte_byte : makes gtab fid_slices_Clone_byte_byte = true := rfl
theorem iq_crc_step : isRo gtab fid_crc_step = true := rfl
theorem mk_crc_step : makes gtab fid_crc_step = true := rfl
theorem iq_crc_Sum : isRo gtab fid_crc_Sum = true := rfl
theorem mk_crc_Sum : makes gtab fid_crc_Sum = true := rfl
theorem iq_crc_Seal : isRo gtab fid_crc_Seal = true := rfl
theorem mk_crc_Seal : makes gtab fid_crc_Seal = true := rfl
theorem iq_head_Put : isRo gtab fid_head_Put = true := rfl
theorem mk_head_Put : makes gtab fid_head_Put = true := rfl
theorem iq_head_Blocks : isRo gtab fid_head_Blocks = true := rfl
theorem mk_head_Blocks : makes gtab fid_head_Blocks = true := rfl
theorem iq_head_Size : isRo gtab fid_head_Size = true := rfl
theorem mk_head_Size : makes gtab fid_head_Size = true := rfl
theorem iq_slices_Equal_byte_byte : isRo gtab fid_slices_Equal_byte_byte = true := rfl
theorem mk_slices_Equal_byte_byte : makes gtab fid_slices_Equal_byte_byte = true := rfl
theorem iq_crc_Open : isRo gtab fid_crc_Open = true := rfl
theorem mk_crc_Open : makes gtab fid_crc_Open = true := rfl
theorem iq_head_take : isRo gtab fid_head_take = true := rfl
theorem mk_head_take : makes gtab fid_head_take = true := rfl
theorem iq_head_Read : isRo gtab fid_head_Read = true := rfl
theorem mk_head_Read : makes gtab fid_head_Read = true := rfl
theorem iq_archipelagolaw18_known : isRo gtab fid_archipelagolaw18_known = true := rfl
theorem mk_archipelagolaw18_known : makes gtab fid_archipelagolaw18_known = true := rfl
theorem iq_archipelagoref18_Right : isRo gtab fid_archipelagoref18_Right = true := rfl
theorem mk_archipelagoref18_Right : makes gtab fid_archipelagoref18_Right = true := rfl
theorem iq_archipelagoref1_Fixed : isRo gtab fid_archipelagoref1_Fixed = true := rfl
theorem mk_archipelagoref1_Fixed : makes gtab fid_archipelagoref1_Fixed = true := rfl
theorem iq_archipelagoref1_Next : isRo gtab fid_archipelagoref1_Next = true := rfl
theorem mk_archipelagoref1_Next : makes gtab fid_archipelagoref1_Next = true := rfl
theorem iq_archipelagoref1_Sum : isRo gtab fid_archipelagoref1_Sum = true := rfl
theorem mk_archipelagoref1_Sum : makes gtab fid_archipelagoref1_Sum = true := rfl
theorem iq_archipelagoref1_Seal : isRo gtab fid_archipelagoref1_Seal = true := rfl
theorem mk_archipelagoref1_Seal : makes gtab fid_archipelagoref1_Seal = true := rfl
theorem iq_archipelagoref18_Put : isRo gtab fid_archipelagoref18_Put = true := rfl
theorem mk_archipelagoref18_Put : makes gtab fid_archipelagoref18_Put = true := rfl
theorem iq_archipelagoref18_Blocks : isRo gtab fid_archipelagoref18_Blocks = true := rfl
theorem mk_archipelagoref18_Blocks : makes gtab fid_archipelagoref18_Blocks = true := rfl
theorem iq_archipelagoref18_Size : isRo gtab fid_archipelagoref18_Size = true := rfl
theorem mk_archipelagoref18_Size : makes gtab fid_archipelagoref18_Size = true := rfl
theorem iq_archipelagoref1_Number : isRo gtab fid_archipelagoref1_Number = true := rfl
theorem mk_archipelagoref1_Number : makes gtab fid_archipelagoref1_Number = true := rfl
theorem iq_archipelagoref1_Open : isRo gtab fid_archipelagoref1_Open = true := rfl
theorem mk_archipelagoref1_Open : makes gtab fid_archipelagoref1_Open = true := rfl
theorem iq_archipelagoref18_Read : isRo gtab fid_archipelagoref18_Read = true := rfl
theorem mk_archipelagoref18_Read : makes gtab fid_archipelagoref18_Read = true := rfl
theorem iq_archipelagolaw18_HeadTells : isRo gtab fid_archipelagolaw18_HeadTells = true := rfl
theorem mk_archipelagolaw18_HeadTells : makes gtab fid_archipelagolaw18_HeadTells = true := rfl
theorem iq_archipelagolaw18_HeadShares : isRo gtab fid_archipelagolaw18_HeadShares = true := rfl
theorem mk_archipelagolaw18_HeadShares : makes gtab fid_archipelagolaw18_HeadShares = true := rfl
theorem iq_archipelagoref1_Flip : isRo gtab fid_archipelagoref1_Flip = true := rfl
theorem mk_archipelagoref1_Flip : makes gtab fid_archipelagoref1_Flip = true := rfl
theorem iq_archipelagolaw18_HeadBursts : isRo gtab fid_archipelagolaw18_HeadBursts = true := rfl
theorem mk_archipelagolaw18_HeadBursts : makes gtab fid_archipelagolaw18_HeadBursts = true := rfl
theorem iq_archipelagolaw18_HeadErrors : isRo gtab fid_archipelagolaw18_HeadErrors = true := rfl
theorem mk_archipelagolaw18_HeadErrors : makes gtab fid_archipelagolaw18_HeadErrors = true := rfl
theorem iq_archipelagolaw18_HeadMost : isRo gtab fid_archipelagolaw18_HeadMost = true := rfl
theorem mk_archipelagolaw18_HeadMost : makes gtab fid_archipelagolaw18_HeadMost = true := rfl
theorem gtab_sim : TabSim gtab tab := by
  intro f g h
  unfold gtab at h
  split at h
  · cases h; rfl
  · cases h; rfl
  · cases h
  · cases h; rfl
  · cases h; rfl
  · cases h; rfl
  · cases h; rfl
  · cases h; rfl
  · cases h; rfl
  · cases h; rfl
  · cases h; rfl
  · cases h; rfl
  · cases h; rfl
  · cases h; rfl
  · cases h; rfl
  · cases h; rfl
  · cases h; rfl
  · cases h; rfl
  · cases h; rfl
  · cases h; rfl
  · cases h; rfl
  · cases h; rfl
  · cases h; rfl
  · cases h; rfl
  · cases h; rfl
  · cases h; rfl
  · cases h; rfl
  · cases h; rfl
  · cases h; rfl
  · cases h; rfl
  · cases h; rfl
  · cases h
theorem gtab_clone : CloneOk gtab tab := by
  intro f e b h
  unfold gtab at h
  split at h
  · cases h
  · cases h
  · cases h; intro st x es low hs hr; exact cloneOk tab_slices_Clone_byte_byte 1 1 (by decide) rfl low hs hr
  · cases h
  · cases h
  · cases h
  · cases h
  · cases h
  · cases h
  · cases h
  · cases h
  · cases h
  · cases h
  · cases h
  · cases h
  · cases h
  · cases h
  · cases h
  · cases h
  · cases h
  · cases h
  · cases h
  · cases h
  · cases h
  · cases h
  · cases h
  · cases h
  · cases h
  · cases h
  · cases h
  · cases h
  · cases h
end Go.Ab
