/- The functions as the machine of values has them (printed by wip/irgen.py). -/
import Derived.Test.YtcifidpaacfopaaTab
import Derived.Test.YtcifidpaacfopaaValM
namespace Go.Ab
open Go
def g_crc_step : GFn := ⟨.own, ⟨[], []⟩, ir_crc_step⟩
def g_crc_Sum : GFn := ⟨.own, ⟨[], []⟩, ir_crc_Sum⟩
def g_crc_Seal : GFn := ⟨.own, ⟨[], []⟩, ir_crc_Seal⟩
def g_slices_Equal_byte_byte : GFn := ⟨.own, ⟨[], []⟩, ir_slices_Equal_byte_byte⟩
def g_crc_Open : GFn := ⟨.own, ⟨[], []⟩, ir_crc_Open⟩
def g_crc_Next : GFn := ⟨.own, ⟨[], []⟩, ir_crc_Next⟩
def g_archipelagolaw4_known : GFn := ⟨.own, ⟨[], []⟩, ir_archipelagolaw4_known⟩
def g_archipelagoref1_Next : GFn := ⟨.own, ⟨[], []⟩, ir_archipelagoref1_Next⟩
def g_archipelagoref1_Sum : GFn := ⟨.own, ⟨[], []⟩, ir_archipelagoref1_Sum⟩
def g_archipelagoref1_Number : GFn := ⟨.own, ⟨[], []⟩, ir_archipelagoref1_Number⟩
def g_archipelagoref1_Open : GFn := ⟨.own, ⟨[], []⟩, ir_archipelagoref1_Open⟩
def g_archipelagoref1_Fixed : GFn := ⟨.own, ⟨[], []⟩, ir_archipelagoref1_Fixed⟩
def g_archipelagoref1_Seal : GFn := ⟨.own, ⟨[], []⟩, ir_archipelagoref1_Seal⟩
def g_archipelagolaw4_CrcTells : GFn := ⟨.own, ⟨[], []⟩, ir_archipelagolaw4_CrcTells⟩
def g_archipelagoref1_Flip : GFn := ⟨.own, ⟨[], [10]⟩, ir_archipelagoref1_Flip⟩
def g_archipelagolaw4_CrcBursts : GFn := ⟨.own, ⟨[], []⟩, ir_archipelagolaw4_CrcBursts⟩
def g_archipelagolaw4_CrcTurns : GFn := ⟨.own, ⟨[], [18]⟩, ir_archipelagolaw4_CrcTurns⟩
def g_archipelagolaw4_CrcSteps : GFn := ⟨.own, ⟨[], []⟩, ir_archipelagolaw4_CrcSteps⟩
def g_archipelagolaw4_CrcSeals : GFn := ⟨.own, ⟨[], []⟩, ir_archipelagolaw4_CrcSeals⟩
def gtab : GTab := fun n => match n with
  | 21 => some (.code g_crc_step)
  | 12 => some (.code g_crc_Sum)
  | 19 => some (.clone 1 1)
  | 11 => some (.code g_crc_Seal)
  | 18 => some (.code g_slices_Equal_byte_byte)
  | 9 => some (.code g_crc_Open)
  | 14 => some (.code g_crc_Next)
  | 8 => some (.code g_archipelagolaw4_known)
  | 15 => some (.code g_archipelagoref1_Next)
  | 13 => some (.code g_archipelagoref1_Sum)
  | 20 => some (.code g_archipelagoref1_Number)
  | 10 => some (.code g_archipelagoref1_Open)
  | 22 => some (.code g_archipelagoref1_Fixed)
  | 16 => some (.code g_archipelagoref1_Seal)
  | 3 => some (.code g_archipelagolaw4_CrcTells)
  | 17 => some (.code g_archipelagoref1_Flip)
  | 4 => some (.code g_archipelagolaw4_CrcBursts)
  | 5 => some (.code g_archipelagolaw4_CrcTurns)
  | 6 => some (.code g_archipelagolaw4_CrcSteps)
  | 7 => some (.code g_archipelagolaw4_CrcSeals)
  | _ => none
theorem gt_crc_step : gtab fid_crc_step = some (.code g_crc_step) := rfl
theorem gt_crc_Sum : gtab fid_crc_Sum = some (.code g_crc_Sum) := rfl
theorem gt_slices_Clone_byte_byte : gtab fid_slices_Clone_byte_byte = some (.clone 1 1) := rfl
theorem gt_crc_Seal : gtab fid_crc_Seal = some (.code g_crc_Seal) := rfl
theorem gt_slices_Equal_byte_byte : gtab fid_slices_Equal_byte_byte = some (.code g_slices_Equal_byte_byte) := rfl
theorem gt_crc_Open : gtab fid_crc_Open = some (.code g_crc_Open) := rfl
theorem gt_crc_Next : gtab fid_crc_Next = some (.code g_crc_Next) := rfl
theorem gt_archipelagolaw4_known : gtab fid_archipelagolaw4_known = some (.code g_archipelagolaw4_known) := rfl
theorem gt_archipelagoref1_Next : gtab fid_archipelagoref1_Next = some (.code g_archipelagoref1_Next) := rfl
theorem gt_archipelagoref1_Sum : gtab fid_archipelagoref1_Sum = some (.code g_archipelagoref1_Sum) := rfl
theorem gt_archipelagoref1_Number : gtab fid_archipelagoref1_Number = some (.code g_archipelagoref1_Number) := rfl
theorem gt_archipelagoref1_Open : gtab fid_archipelagoref1_Open = some (.code g_archipelagoref1_Open) := rfl
theorem gt_archipelagoref1_Fixed : gtab fid_archipelagoref1_Fixed = some (.code g_archipelagoref1_Fixed) := rfl
theorem gt_archipelagoref1_Seal : gtab fid_archipelagoref1_Seal = some (.code g_archipelagoref1_Seal) := rfl
theorem gt_archipelagolaw4_CrcTells : gtab fid_archipelagolaw4_CrcTells = some (.code g_archipelagolaw4_CrcTells) := rfl
theorem gt_archipelagoref1_Flip : gtab fid_archipelagoref1_Flip = some (.code g_archipelagoref1_Flip) := rfl
theorem gt_archipelagolaw4_CrcBursts : gtab fid_archipelagolaw4_CrcBursts = some (.code g_archipelagolaw4_CrcBursts) := rfl
theorem gt_archipelagolaw4_CrcTurns : gtab fid_archipelagolaw4_CrcTurns = some (.code g_archipelagolaw4_CrcTurns) := rfl
theorem gt_archipelagolaw4_CrcSteps : gtab fid_archipelagolaw4_CrcSteps = some (.code g_archipelagolaw4_CrcSteps) := rfl
theorem gt_archipelagolaw4_CrcSeals : gtab fid_archipelagolaw4_CrcSeals = some (.code g_archipelagolaw4_CrcSeals) := rfl
theorem gc_crc_step {call : GCallF} {lo : Nat} {us : List U} {h : GH} : gcall gtab call lo fid_crc_step us h = ownCall call lo fid_crc_step us h := rfl
theorem gc_crc_Sum {call : GCallF} {lo : Nat} {us : List U} {h : GH} : gcall gtab call lo fid_crc_Sum us h = ownCall call lo fid_crc_Sum us h := rfl
theorem gc_slices_Clone_byte_byte {call : GCallF} {lo : Nat} {us : List U} {h : GH} : gcall gtab call lo fid_slices_Clone_byte_byte us h = cloneCall 1 1 us h := rfl
theorem gc_crc_Seal {call : GCallF} {lo : Nat} {us : List U} {h : GH} : gcall gtab call lo fid_crc_Seal us h = ownCall call lo fid_crc_Seal us h := rfl
theorem gc_slices_Equal_byte_byte {call : GCallF} {lo : Nat} {us : List U} {h : GH} : gcall gtab call lo fid_slices_Equal_byte_byte us h = ownCall call lo fid_slices_Equal_byte_byte us h := rfl
theorem gc_crc_Open {call : GCallF} {lo : Nat} {us : List U} {h : GH} : gcall gtab call lo fid_crc_Open us h = ownCall call lo fid_crc_Open us h := rfl
theorem gc_crc_Next {call : GCallF} {lo : Nat} {us : List U} {h : GH} : gcall gtab call lo fid_crc_Next us h = ownCall call lo fid_crc_Next us h := rfl
theorem gc_archipelagolaw4_known {call : GCallF} {lo : Nat} {us : List U} {h : GH} : gcall gtab call lo fid_archipelagolaw4_known us h = ownCall call lo fid_archipelagolaw4_known us h := rfl
theorem gc_archipelagoref1_Next {call : GCallF} {lo : Nat} {us : List U} {h : GH} : gcall gtab call lo fid_archipelagoref1_Next us h = ownCall call lo fid_archipelagoref1_Next us h := rfl
theorem gc_archipelagoref1_Sum {call : GCallF} {lo : Nat} {us : List U} {h : GH} : gcall gtab call lo fid_archipelagoref1_Sum us h = ownCall call lo fid_archipelagoref1_Sum us h := rfl
theorem gc_archipelagoref1_Number {call : GCallF} {lo : Nat} {us : List U} {h : GH} : gcall gtab call lo fid_archipelagoref1_Number us h = ownCall call lo fid_archipelagoref1_Number us h := rfl
theorem gc_archipelagoref1_Open {call : GCallF} {lo : Nat} {us : List U} {h : GH} : gcall gtab call lo fid_archipelagoref1_Open us h = ownCall call lo fid_archipelagoref1_Open us h := rfl
theorem gc_archipelagoref1_Fixed {call : GCallF} {lo : Nat} {us : List U} {h : GH} : gcall gtab call lo fid_archipelagoref1_Fixed us h = ownCall call lo fid_archipelagoref1_Fixed us h := rfl
theorem gc_archipelagoref1_Seal {call : GCallF} {lo : Nat} {us : List U} {h : GH} : gcall gtab call lo fid_archipelagoref1_Seal us h = ownCall call lo fid_archipelagoref1_Seal us h := rfl
theorem gc_archipelagolaw4_CrcTells {call : GCallF} {lo : Nat} {us : List U} {h : GH} : gcall gtab call lo fid_archipelagolaw4_CrcTells us h = ownCall call lo fid_archipelagolaw4_CrcTells us h := rfl
theorem gc_archipelagoref1_Flip {call : GCallF} {lo : Nat} {us : List U} {h : GH} : gcall gtab call lo fid_archipelagoref1_Flip us h = ownCall call lo fid_archipelagoref1_Flip us h := rfl
theorem gc_archipelagolaw4_CrcBursts {call : GCallF} {lo : Nat} {us : List U} {h : GH} : gcall gtab call lo fid_archipelagolaw4_CrcBursts us h = ownCall call lo fid_archipelagolaw4_CrcBursts us h := rfl
theorem gc_archipelagolaw4_CrcTurns {call : GCallF} {lo : Nat} {us : List U} {h : GH} : gcall gtab call lo fid_archipelagolaw4_CrcTurns us h = ownCall call lo fid_archipelagolaw4_CrcTurns us h := rfl
theorem gc_archipelagolaw4_CrcSteps {call : GCallF} {lo : Nat} {us : List U} {h : GH} : gcall gtab call lo fid_archipelagolaw4_CrcSteps us h = ownCall call lo fid_archipelagolaw4_CrcSteps us h := rfl
theorem gc_archipelagolaw4_CrcSeals {call : GCallF} {lo : Nat} {us : List U} {h : GH} : gcall gtab call lo fid_archipelagolaw4_CrcSeals us h = ownCall call lo fid_archipelagolaw4_CrcSeals us h := rfl
theorem fn_crc_step {us : List U} {h h' : GH} {lo : Nat} {w : U} (hl : us.length = 2) (k : Z gtab ⟨[], []⟩ lo [.c ir_crc_step.body] (genvOf 0 us) h fun env h1 => ∃ vs, gres env h1 [.tmp 4] = some vs ∧ gfin .own vs h1 = some (w, h')) : GF gtab fid_crc_step us h lo = some (w, h') := GF_fn gt_crc_step hl k
theorem fnR_crc_step {us : List U} {h : GH} {lo : Nat} {R : U → GH → Prop} (hl : us.length = 2) (k : Z gtab ⟨[], []⟩ lo [.c ir_crc_step.body] (genvOf 0 us) h fun env h1 => ∃ vs, gres env h1 [.tmp 4] = some vs ∧ ∃ w h', gfin .own vs h1 = some (w, h') ∧ R w h') : ∃ w h', GF gtab fid_crc_step us h lo = some (w, h') ∧ R w h' := GF_fnR gt_crc_step hl k
theorem fn_crc_Sum {us : List U} {h h' : GH} {lo : Nat} {w : U} (hl : us.length = 1) (k : Z gtab ⟨[], []⟩ lo [.c ir_crc_Sum.body] (genvOf 0 us) h fun env h1 => ∃ vs, gres env h1 [.tmp 2] = some vs ∧ gfin .own vs h1 = some (w, h')) : GF gtab fid_crc_Sum us h lo = some (w, h') := GF_fn gt_crc_Sum hl k
theorem fnR_crc_Sum {us : List U} {h : GH} {lo : Nat} {R : U → GH → Prop} (hl : us.length = 1) (k : Z gtab ⟨[], []⟩ lo [.c ir_crc_Sum.body] (genvOf 0 us) h fun env h1 => ∃ vs, gres env h1 [.tmp 2] = some vs ∧ ∃ w h', gfin .own vs h1 = some (w, h') ∧ R w h') : ∃ w h', GF gtab fid_crc_Sum us h lo = some (w, h') ∧ R w h' := GF_fnR gt_crc_Sum hl k
theorem fn_crc_Seal {us : List U} {h h' : GH} {lo : Nat} {w : U} (hl : us.length = 1) (k : Z gtab ⟨[], []⟩ lo [.c ir_crc_Seal.body] (genvOf 0 us) h fun env h1 => ∃ vs, gres env h1 [.tmp 2] = some vs ∧ gfin .own vs h1 = some (w, h')) : GF gtab fid_crc_Seal us h lo = some (w, h') := GF_fn gt_crc_Seal hl k
theorem fnR_crc_Seal {us : List U} {h : GH} {lo : Nat} {R : U → GH → Prop} (hl : us.length = 1) (k : Z gtab ⟨[], []⟩ lo [.c ir_crc_Seal.body] (genvOf 0 us) h fun env h1 => ∃ vs, gres env h1 [.tmp 2] = some vs ∧ ∃ w h', gfin .own vs h1 = some (w, h') ∧ R w h') : ∃ w h', GF gtab fid_crc_Seal us h lo = some (w, h') ∧ R w h' := GF_fnR gt_crc_Seal hl k
theorem fn_slices_Equal_byte_byte {us : List U} {h h' : GH} {lo : Nat} {w : U} (hl : us.length = 2) (k : Z gtab ⟨[], []⟩ lo [.c ir_slices_Equal_byte_byte.body] (genvOf 0 us) h fun env h1 => ∃ vs, gres env h1 [.tmp 4] = some vs ∧ gfin .own vs h1 = some (w, h')) : GF gtab fid_slices_Equal_byte_byte us h lo = some (w, h') := GF_fn gt_slices_Equal_byte_byte hl k
theorem fnR_slices_Equal_byte_byte {us : List U} {h : GH} {lo : Nat} {R : U → GH → Prop} (hl : us.length = 2) (k : Z gtab ⟨[], []⟩ lo [.c ir_slices_Equal_byte_byte.body] (genvOf 0 us) h fun env h1 => ∃ vs, gres env h1 [.tmp 4] = some vs ∧ ∃ w h', gfin .own vs h1 = some (w, h') ∧ R w h') : ∃ w h', GF gtab fid_slices_Equal_byte_byte us h lo = some (w, h') ∧ R w h' := GF_fnR gt_slices_Equal_byte_byte hl k
theorem fn_crc_Open {us : List U} {h h' : GH} {lo : Nat} {w : U} (hl : us.length = 1) (k : Z gtab ⟨[], []⟩ lo [.c ir_crc_Open.body] (genvOf 0 us) h fun env h1 => ∃ vs, gres env h1 [.tmp 2, .tmp 3] = some vs ∧ gfin .own vs h1 = some (w, h')) : GF gtab fid_crc_Open us h lo = some (w, h') := GF_fn gt_crc_Open hl k
theorem fnR_crc_Open {us : List U} {h : GH} {lo : Nat} {R : U → GH → Prop} (hl : us.length = 1) (k : Z gtab ⟨[], []⟩ lo [.c ir_crc_Open.body] (genvOf 0 us) h fun env h1 => ∃ vs, gres env h1 [.tmp 2, .tmp 3] = some vs ∧ ∃ w h', gfin .own vs h1 = some (w, h') ∧ R w h') : ∃ w h', GF gtab fid_crc_Open us h lo = some (w, h') ∧ R w h' := GF_fnR gt_crc_Open hl k
theorem fn_crc_Next {us : List U} {h h' : GH} {lo : Nat} {w : U} (hl : us.length = 2) (k : Z gtab ⟨[], []⟩ lo [.c ir_crc_Next.body] (genvOf 0 us) h fun env h1 => ∃ vs, gres env h1 [.tmp 4] = some vs ∧ gfin .own vs h1 = some (w, h')) : GF gtab fid_crc_Next us h lo = some (w, h') := GF_fn gt_crc_Next hl k
theorem fnR_crc_Next {us : List U} {h : GH} {lo : Nat} {R : U → GH → Prop} (hl : us.length = 2) (k : Z gtab ⟨[], []⟩ lo [.c ir_crc_Next.body] (genvOf 0 us) h fun env h1 => ∃ vs, gres env h1 [.tmp 4] = some vs ∧ ∃ w h', gfin .own vs h1 = some (w, h') ∧ R w h') : ∃ w h', GF gtab fid_crc_Next us h lo = some (w, h') ∧ R w h' := GF_fnR gt_crc_Next hl k
theorem fn_archipelagolaw4_known {us : List U} {h h' : GH} {lo : Nat} {w : U} (hl : us.length = 0) (k : Z gtab ⟨[], []⟩ lo [.c ir_archipelagolaw4_known.body] (genvOf 0 us) h fun env h1 => ∃ vs, gres env h1 [.tmp 0] = some vs ∧ gfin .own vs h1 = some (w, h')) : GF gtab fid_archipelagolaw4_known us h lo = some (w, h') := GF_fn gt_archipelagolaw4_known hl k
theorem fnR_archipelagolaw4_known {us : List U} {h : GH} {lo : Nat} {R : U → GH → Prop} (hl : us.length = 0) (k : Z gtab ⟨[], []⟩ lo [.c ir_archipelagolaw4_known.body] (genvOf 0 us) h fun env h1 => ∃ vs, gres env h1 [.tmp 0] = some vs ∧ ∃ w h', gfin .own vs h1 = some (w, h') ∧ R w h') : ∃ w h', GF gtab fid_archipelagolaw4_known us h lo = some (w, h') ∧ R w h' := GF_fnR gt_archipelagolaw4_known hl k
theorem fn_archipelagoref1_Next {us : List U} {h h' : GH} {lo : Nat} {w : U} (hl : us.length = 2) (k : Z gtab ⟨[], []⟩ lo [.c ir_archipelagoref1_Next.body] (genvOf 0 us) h fun env h1 => ∃ vs, gres env h1 [.tmp 4] = some vs ∧ gfin .own vs h1 = some (w, h')) : GF gtab fid_archipelagoref1_Next us h lo = some (w, h') := GF_fn gt_archipelagoref1_Next hl k
theorem fnR_archipelagoref1_Next {us : List U} {h : GH} {lo : Nat} {R : U → GH → Prop} (hl : us.length = 2) (k : Z gtab ⟨[], []⟩ lo [.c ir_archipelagoref1_Next.body] (genvOf 0 us) h fun env h1 => ∃ vs, gres env h1 [.tmp 4] = some vs ∧ ∃ w h', gfin .own vs h1 = some (w, h') ∧ R w h') : ∃ w h', GF gtab fid_archipelagoref1_Next us h lo = some (w, h') ∧ R w h' := GF_fnR gt_archipelagoref1_Next hl k
theorem fn_archipelagoref1_Sum {us : List U} {h h' : GH} {lo : Nat} {w : U} (hl : us.length = 1) (k : Z gtab ⟨[], []⟩ lo [.c ir_archipelagoref1_Sum.body] (genvOf 0 us) h fun env h1 => ∃ vs, gres env h1 [.tmp 2] = some vs ∧ gfin .own vs h1 = some (w, h')) : GF gtab fid_archipelagoref1_Sum us h lo = some (w, h') := GF_fn gt_archipelagoref1_Sum hl k
theorem fnR_archipelagoref1_Sum {us : List U} {h : GH} {lo : Nat} {R : U → GH → Prop} (hl : us.length = 1) (k : Z gtab ⟨[], []⟩ lo [.c ir_archipelagoref1_Sum.body] (genvOf 0 us) h fun env h1 => ∃ vs, gres env h1 [.tmp 2] = some vs ∧ ∃ w h', gfin .own vs h1 = some (w, h') ∧ R w h') : ∃ w h', GF gtab fid_archipelagoref1_Sum us h lo = some (w, h') ∧ R w h' := GF_fnR gt_archipelagoref1_Sum hl k
theorem fn_archipelagoref1_Number {us : List U} {h h' : GH} {lo : Nat} {w : U} (hl : us.length = 1) (k : Z gtab ⟨[], []⟩ lo [.c ir_archipelagoref1_Number.body] (genvOf 0 us) h fun env h1 => ∃ vs, gres env h1 [.tmp 2] = some vs ∧ gfin .own vs h1 = some (w, h')) : GF gtab fid_archipelagoref1_Number us h lo = some (w, h') := GF_fn gt_archipelagoref1_Number hl k
theorem fnR_archipelagoref1_Number {us : List U} {h : GH} {lo : Nat} {R : U → GH → Prop} (hl : us.length = 1) (k : Z gtab ⟨[], []⟩ lo [.c ir_archipelagoref1_Number.body] (genvOf 0 us) h fun env h1 => ∃ vs, gres env h1 [.tmp 2] = some vs ∧ ∃ w h', gfin .own vs h1 = some (w, h') ∧ R w h') : ∃ w h', GF gtab fid_archipelagoref1_Number us h lo = some (w, h') ∧ R w h' := GF_fnR gt_archipelagoref1_Number hl k
theorem fn_archipelagoref1_Open {us : List U} {h h' : GH} {lo : Nat} {w : U} (hl : us.length = 1) (k : Z gtab ⟨[], []⟩ lo [.c ir_archipelagoref1_Open.body] (genvOf 0 us) h fun env h1 => ∃ vs, gres env h1 [.tmp 2, .tmp 3] = some vs ∧ gfin .own vs h1 = some (w, h')) : GF gtab fid_archipelagoref1_Open us h lo = some (w, h') := GF_fn gt_archipelagoref1_Open hl k
theorem fnR_archipelagoref1_Open {us : List U} {h : GH} {lo : Nat} {R : U → GH → Prop} (hl : us.length = 1) (k : Z gtab ⟨[], []⟩ lo [.c ir_archipelagoref1_Open.body] (genvOf 0 us) h fun env h1 => ∃ vs, gres env h1 [.tmp 2, .tmp 3] = some vs ∧ ∃ w h', gfin .own vs h1 = some (w, h') ∧ R w h') : ∃ w h', GF gtab fid_archipelagoref1_Open us h lo = some (w, h') ∧ R w h' := GF_fnR gt_archipelagoref1_Open hl k
theorem fn_archipelagoref1_Fixed {us : List U} {h h' : GH} {lo : Nat} {w : U} (hl : us.length = 2) (k : Z gtab ⟨[], []⟩ lo [.c ir_archipelagoref1_Fixed.body] (genvOf 0 us) h fun env h1 => ∃ vs, gres env h1 [.tmp 4] = some vs ∧ gfin .own vs h1 = some (w, h')) : GF gtab fid_archipelagoref1_Fixed us h lo = some (w, h') := GF_fn gt_archipelagoref1_Fixed hl k
theorem fnR_archipelagoref1_Fixed {us : List U} {h : GH} {lo : Nat} {R : U → GH → Prop} (hl : us.length = 2) (k : Z gtab ⟨[], []⟩ lo [.c ir_archipelagoref1_Fixed.body] (genvOf 0 us) h fun env h1 => ∃ vs, gres env h1 [.tmp 4] = some vs ∧ ∃ w h', gfin .own vs h1 = some (w, h') ∧ R w h') : ∃ w h', GF gtab fid_archipelagoref1_Fixed us h lo = some (w, h') ∧ R w h' := GF_fnR gt_archipelagoref1_Fixed hl k
theorem fn_archipelagoref1_Seal {us : List U} {h h' : GH} {lo : Nat} {w : U} (hl : us.length = 1) (k : Z gtab ⟨[], []⟩ lo [.c ir_archipelagoref1_Seal.body] (genvOf 0 us) h fun env h1 => ∃ vs, gres env h1 [.tmp 2] = some vs ∧ gfin .own vs h1 = some (w, h')) : GF gtab fid_archipelagoref1_Seal us h lo = some (w, h') := GF_fn gt_archipelagoref1_Seal hl k
theorem fnR_archipelagoref1_Seal {us : List U} {h : GH} {lo : Nat} {R : U → GH → Prop} (hl : us.length = 1) (k : Z gtab ⟨[], []⟩ lo [.c ir_archipelagoref1_Seal.body] (genvOf 0 us) h fun env h1 => ∃ vs, gres env h1 [.tmp 2] = some vs ∧ ∃ w h', gfin .own vs h1 = some (w, h') ∧ R w h') : ∃ w h', GF gtab fid_archipelagoref1_Seal us h lo = some (w, h') ∧ R w h' := GF_fnR gt_archipelagoref1_Seal hl k
theorem fn_archipelagolaw4_CrcTells {us : List U} {h h' : GH} {lo : Nat} {w : U} (hl : us.length = 4) (k : Z gtab ⟨[], []⟩ lo [.c ir_archipelagolaw4_CrcTells.body] (genvOf 0 us) h fun env h1 => ∃ vs, gres env h1 [.tmp 8] = some vs ∧ gfin .own vs h1 = some (w, h')) : GF gtab fid_archipelagolaw4_CrcTells us h lo = some (w, h') := GF_fn gt_archipelagolaw4_CrcTells hl k
theorem fnR_archipelagolaw4_CrcTells {us : List U} {h : GH} {lo : Nat} {R : U → GH → Prop} (hl : us.length = 4) (k : Z gtab ⟨[], []⟩ lo [.c ir_archipelagolaw4_CrcTells.body] (genvOf 0 us) h fun env h1 => ∃ vs, gres env h1 [.tmp 8] = some vs ∧ ∃ w h', gfin .own vs h1 = some (w, h') ∧ R w h') : ∃ w h', GF gtab fid_archipelagolaw4_CrcTells us h lo = some (w, h') ∧ R w h' := GF_fnR gt_archipelagolaw4_CrcTells hl k
theorem fn_archipelagoref1_Flip {us : List U} {h h' : GH} {lo : Nat} {w : U} (hl : us.length = 3) (k : Z gtab ⟨[], [10]⟩ lo [.c ir_archipelagoref1_Flip.body] (genvOf 0 us) h fun env h1 => ∃ vs, gres env h1 [.tmp 6] = some vs ∧ gfin .own vs h1 = some (w, h')) : GF gtab fid_archipelagoref1_Flip us h lo = some (w, h') := GF_fn gt_archipelagoref1_Flip hl k
theorem fnR_archipelagoref1_Flip {us : List U} {h : GH} {lo : Nat} {R : U → GH → Prop} (hl : us.length = 3) (k : Z gtab ⟨[], [10]⟩ lo [.c ir_archipelagoref1_Flip.body] (genvOf 0 us) h fun env h1 => ∃ vs, gres env h1 [.tmp 6] = some vs ∧ ∃ w h', gfin .own vs h1 = some (w, h') ∧ R w h') : ∃ w h', GF gtab fid_archipelagoref1_Flip us h lo = some (w, h') ∧ R w h' := GF_fnR gt_archipelagoref1_Flip hl k
theorem fn_archipelagolaw4_CrcBursts {us : List U} {h h' : GH} {lo : Nat} {w : U} (hl : us.length = 3) (k : Z gtab ⟨[], []⟩ lo [.c ir_archipelagolaw4_CrcBursts.body] (genvOf 0 us) h fun env h1 => ∃ vs, gres env h1 [.tmp 6] = some vs ∧ gfin .own vs h1 = some (w, h')) : GF gtab fid_archipelagolaw4_CrcBursts us h lo = some (w, h') := GF_fn gt_archipelagolaw4_CrcBursts hl k
theorem fnR_archipelagolaw4_CrcBursts {us : List U} {h : GH} {lo : Nat} {R : U → GH → Prop} (hl : us.length = 3) (k : Z gtab ⟨[], []⟩ lo [.c ir_archipelagolaw4_CrcBursts.body] (genvOf 0 us) h fun env h1 => ∃ vs, gres env h1 [.tmp 6] = some vs ∧ ∃ w h', gfin .own vs h1 = some (w, h') ∧ R w h') : ∃ w h', GF gtab fid_archipelagolaw4_CrcBursts us h lo = some (w, h') ∧ R w h' := GF_fnR gt_archipelagolaw4_CrcBursts hl k
theorem fn_archipelagolaw4_CrcTurns {us : List U} {h h' : GH} {lo : Nat} {w : U} (hl : us.length = 3) (k : Z gtab ⟨[], [18]⟩ lo [.c ir_archipelagolaw4_CrcTurns.body] (genvOf 0 us) h fun env h1 => ∃ vs, gres env h1 [.tmp 6] = some vs ∧ gfin .own vs h1 = some (w, h')) : GF gtab fid_archipelagolaw4_CrcTurns us h lo = some (w, h') := GF_fn gt_archipelagolaw4_CrcTurns hl k
theorem fnR_archipelagolaw4_CrcTurns {us : List U} {h : GH} {lo : Nat} {R : U → GH → Prop} (hl : us.length = 3) (k : Z gtab ⟨[], [18]⟩ lo [.c ir_archipelagolaw4_CrcTurns.body] (genvOf 0 us) h fun env h1 => ∃ vs, gres env h1 [.tmp 6] = some vs ∧ ∃ w h', gfin .own vs h1 = some (w, h') ∧ R w h') : ∃ w h', GF gtab fid_archipelagolaw4_CrcTurns us h lo = some (w, h') ∧ R w h' := GF_fnR gt_archipelagolaw4_CrcTurns hl k
theorem fn_archipelagolaw4_CrcSteps {us : List U} {h h' : GH} {lo : Nat} {w : U} (hl : us.length = 2) (k : Z gtab ⟨[], []⟩ lo [.c ir_archipelagolaw4_CrcSteps.body] (genvOf 0 us) h fun env h1 => ∃ vs, gres env h1 [.tmp 4] = some vs ∧ gfin .own vs h1 = some (w, h')) : GF gtab fid_archipelagolaw4_CrcSteps us h lo = some (w, h') := GF_fn gt_archipelagolaw4_CrcSteps hl k
theorem fnR_archipelagolaw4_CrcSteps {us : List U} {h : GH} {lo : Nat} {R : U → GH → Prop} (hl : us.length = 2) (k : Z gtab ⟨[], []⟩ lo [.c ir_archipelagolaw4_CrcSteps.body] (genvOf 0 us) h fun env h1 => ∃ vs, gres env h1 [.tmp 4] = some vs ∧ ∃ w h', gfin .own vs h1 = some (w, h') ∧ R w h') : ∃ w h', GF gtab fid_archipelagolaw4_CrcSteps us h lo = some (w, h') ∧ R w h' := GF_fnR gt_archipelagolaw4_CrcSteps hl k
theorem fn_archipelagolaw4_CrcSeals {us : List U} {h h' : GH} {lo : Nat} {w : U} (hl : us.length = 3) (k : Z gtab ⟨[], []⟩ lo [.c ir_archipelagolaw4_CrcSeals.body] (genvOf 0 us) h fun env h1 => ∃ vs, gres env h1 [.tmp 6] = some vs ∧ gfin .own vs h1 = some (w, h')) : GF gtab fid_archipelagolaw4_CrcSeals us h lo = some (w, h') := GF_fn gt_archipelagolaw4_CrcSeals hl k
theorem fnR_archipelagolaw4_CrcSeals {us : List U} {h : GH} {lo : Nat} {R : U → GH → Prop} (hl : us.length = 3) (k : Z gtab ⟨[], []⟩ lo [.c ir_archipelagolaw4_CrcSeals.body] (genvOf 0 us) h fun env h1 => ∃ vs, gres env h1 [.tmp 6] = some vs ∧ ∃ w h', gfin .own vs h1 = some (w, h') ∧ R w h') : ∃ w h', GF gtab fid_archipelagolaw4_CrcSeals us h lo = some (w, h') ∧ R w h' := GF_fnR gt_archipelagolaw4_CrcSeals hl k
theorem iq_crc_step : isRo gtab fid_crc_step = true := rfl
theorem mk_crc_step : makes gtab fid_crc_step = true := rfl
theorem iq_crc_Sum : isRo gtab fid_crc_Sum = true := rfl
theorem mk_crc_Sum : makes gtab fid_crc_Sum = true := rfl
theorem iq_slices_Clone_byte_byte : isRo gtab fid_slices_Clone_byte_byte = true := rfl
theorem mk_slices_Clone_byte_byte : makes gtab fid_slices_Clone_byte_byte = true := rfl
theorem iq_crc_Seal : isRo gtab fid_crc_Seal = true := rfl
theorem mk_crc_Seal : makes gtab fid_crc_Seal = true := rfl
theorem iq_slices_Equal_byte_byte : isRo gtab fid_slices_Equal_byte_byte = true := rfl
theorem mk_slices_Equal_byte_byte : makes gtab fid_slices_Equal_byte_byte = true := rfl
theorem iq_crc_Open : isRo gtab fid_crc_Open = true := rfl
theorem mk_crc_Open : makes gtab fid_crc_Open = true := rfl
theorem iq_crc_Next : isRo gtab fid_crc_Next = true := rfl
theorem mk_crc_Next : makes gtab fid_crc_Next = true := rfl
theorem iq_archipelagolaw4_known : isRo gtab fid_archipelagolaw4_known = true := rfl
theorem mk_archipelagolaw4_known : makes gtab fid_archipelagolaw4_known = true := rfl
theorem iq_archipelagoref1_Next : isRo gtab fid_archipelagoref1_Next = true := rfl
theorem mk_archipelagoref1_Next : makes gtab fid_archipelagoref1_Next = true := rfl
theorem iq_archipelagoref1_Sum : isRo gtab fid_archipelagoref1_Sum = true := rfl
theorem mk_archipelagoref1_Sum : makes gtab fid_archipelagoref1_Sum = true := rfl
theorem iq_archipelagoref1_Number : isRo gtab fid_archipelagoref1_Number = true := rfl
theorem mk_archipelagoref1_Number : makes gtab fid_archipelagoref1_Number = true := rfl
theorem iq_archipelagoref1_Open : isRo gtab fid_archipelagoref1_Open = true := rfl
theorem mk_archipelagoref1_Open : makes gtab fid_archipelagoref1_Open = true := rfl
theorem iq_archipelagoref1_Fixed : isRo gtab fid_archipelagoref1_Fixed = true := rfl
theorem mk_archipelagoref1_Fixed : makes gtab fid_archipelagoref1_Fixed = true := rfl
theorem iq_archipelagoref1_Seal : isRo gtab fid_archipelagoref1_Seal = true := rfl
theorem mk_archipelagoref1_Seal : makes gtab fid_archipelagoref1_Seal = true := rfl
theorem iq_archipelagolaw4_CrcTells : isRo gtab fid_archipelagolaw4_CrcTells = true := rfl
theorem mk_archipelagolaw4_CrcTells : makes gtab fid_archipelagolaw4_CrcTells = true := rfl
theorem iq_archipelagoref1_Flip : isRo gtab fid_archipelagoref1_Flip = true := rfl
theorem mk_archipelagoref1_Flip : makes gtab fid_archipelagoref1_Flip = true := rfl
theorem iq_archipelagolaw4_CrcBursts : isRo gtab fid_archipelagolaw4_CrcBursts = true := rfl
theorem mk_archipelagolaw4_CrcBursts : makes gtab fid_archipelagolaw4_CrcBursts = true := rfl
theorem iq_archipelagolaw4_CrcTurns : isRo gtab fid_archipelagolaw4_CrcTurns = true := rfl
theorem mk_archipelagolaw4_CrcTurns : makes gtab fid_archipelagolaw4_CrcTurns = true := rfl
theorem iq_archipelagolaw4_CrcSteps : isRo gtab fid_archipelagolaw4_CrcSteps = true := rfl
theorem mk_archipelagolaw4_CrcSteps : makes gtab fid_archipelagolaw4_CrcSteps = true := rfl
theorem iq_archipelagolaw4_CrcSeals : isRo gtab fid_archipelagolaw4_CrcSeals = true := rfl
theorem mk_archipelagolaw4_CrcSeals : makes gtab fid_archipelagolaw4_CrcSeals = true := rfl
theorem gtab_sim : TabSim gtab tab := by
  intro f g h
  unfold gtab at h
  split at h
  · cases h; rfl
  · cases h; rfl
  · cases h
  · cases h; rfl
  · cases h; rfl
  · cases h; rfl
  · cases h; rfl
  · cases h; rfl
  · cases h; rfl
  · cases h; rfl
  · cases h; rfl
  · cases h; rfl
  · cases h; rfl
  · cases h; rfl
  · cases h; rfl
  · cases h; rfl
  · cases h; rfl
  · cases h; rfl
  · cases h; rfl
  · cases h; rfl
  · cases h
theorem gtab_clone : CloneOk gtab tab := by
  intro f e b h
  unfold gtab at h
  split at h
  · cases h
  · cases h
  · cases h; intro st x es low hs hr; exact cloneOk tab_slices_Clone_byte_byte 1 1 (by decide) rfl low hs hr
  · cases h
  · cases h
  · cases h
  · cases h
  · cases h
  · cases h
  · cases h
  · cases h
  · cases h
  · cases h
  · cases h
  · cases h
  · cases h
  · cases h
  · cases h
  · cases h
  · cases h
  · cases h
end Go.Ab
