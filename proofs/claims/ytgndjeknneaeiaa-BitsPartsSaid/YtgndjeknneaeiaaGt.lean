/- The functions as the machine of values has them (printed by wip/irgen.py). -/
import Derived.Test.YtgndjeknneaeiaaTab
import Derived.Test.YtgndjeknneaeiaaValM
namespace Go.Ab
open Go
def g_bits_NewWriter : GFn := ⟨.ro, ⟨[], []⟩, ir_bits_NewWriter⟩
def g_bits_bound : GFn := ⟨.own, ⟨[], []⟩, ir_bits_bound⟩
def g_bits_Writer_Put : GFn := ⟨.rw, ⟨[24], [26]⟩, ir_bits_Writer_Put⟩
def g_bits_Writer_Len : GFn := ⟨.ro, ⟨[], []⟩, ir_bits_Writer_Len⟩
def g_bits_Writer_Bytes : GFn := ⟨.ro, ⟨[], []⟩, ir_bits_Writer_Bytes⟩
def g_bits_NewReader : GFn := ⟨.ro, ⟨[], []⟩, ir_bits_NewReader⟩
def g_bits_Reader_Left : GFn := ⟨.ro, ⟨[], []⟩, ir_bits_Reader_Left⟩
def g_bits_Reader_Take : GFn := ⟨.rw, ⟨[], []⟩, ir_bits_Reader_Take⟩
def g_bits_Flip : GFn := ⟨.own, ⟨[], [11]⟩, ir_bits_Flip⟩
def g_archipelagolaw1_known : GFn := ⟨.own, ⟨[], []⟩, ir_archipelagolaw1_known⟩
def g_archipelagoref1_Writer_Put : GFn := ⟨.rw, ⟨[19], []⟩, ir_archipelagoref1_Writer_Put⟩
def g_archipelagoref1_Writer_Bytes : GFn := ⟨.ro, ⟨[], [12]⟩, ir_archipelagoref1_Writer_Bytes⟩
def g_archipelagolaw1_BitsWrite : GFn := ⟨.own, ⟨[], []⟩, ir_archipelagolaw1_BitsWrite⟩
def g_archipelagoref1_Reader_Left : GFn := ⟨.ro, ⟨[], []⟩, ir_archipelagoref1_Reader_Left⟩
def g_archipelagoref1_Reader_Take : GFn := ⟨.rw, ⟨[], []⟩, ir_archipelagoref1_Reader_Take⟩
def g_archipelagolaw1_BitsRead : GFn := ⟨.own, ⟨[], []⟩, ir_archipelagolaw1_BitsRead⟩
def g_archipelagolaw1_BitsBack : GFn := ⟨.own, ⟨[], []⟩, ir_archipelagolaw1_BitsBack⟩
def g_archipelagoref1_Flip : GFn := ⟨.own, ⟨[], [10]⟩, ir_archipelagoref1_Flip⟩
def g_archipelagolaw1_BitsFlip : GFn := ⟨.own, ⟨[], []⟩, ir_archipelagolaw1_BitsFlip⟩
def g_archipelagolaw1_BitsParts : GFn := ⟨.own, ⟨[], []⟩, ir_archipelagolaw1_BitsParts⟩
def g_archipelagolaw1_BitsEnds : GFn := ⟨.own, ⟨[], []⟩, ir_archipelagolaw1_BitsEnds⟩
def gtab : GTab := fun n => match n with
  | 10 => some (.code g_bits_NewWriter)
  | 23 => some (.code g_bits_bound)
  | 11 => some (.code g_bits_Writer_Put)
  | 13 => some (.code g_bits_Writer_Len)
  | 24 => some (.clone 1 1)
  | 14 => some (.code g_bits_Writer_Bytes)
  | 16 => some (.code g_bits_NewReader)
  | 19 => some (.code g_bits_Reader_Left)
  | 17 => some (.code g_bits_Reader_Take)
  | 21 => some (.code g_bits_Flip)
  | 9 => some (.code g_archipelagolaw1_known)
  | 12 => some (.code g_archipelagoref1_Writer_Put)
  | 15 => some (.code g_archipelagoref1_Writer_Bytes)
  | 3 => some (.code g_archipelagolaw1_BitsWrite)
  | 20 => some (.code g_archipelagoref1_Reader_Left)
  | 18 => some (.code g_archipelagoref1_Reader_Take)
  | 4 => some (.code g_archipelagolaw1_BitsRead)
  | 5 => some (.code g_archipelagolaw1_BitsBack)
  | 22 => some (.code g_archipelagoref1_Flip)
  | 6 => some (.code g_archipelagolaw1_BitsFlip)
  | 7 => some (.code g_archipelagolaw1_BitsParts)
  | 8 => some (.code g_archipelagolaw1_BitsEnds)
  | _ => none
theorem gt_bits_NewWriter : gtab fid_bits_NewWriter = some (.code g_bits_NewWriter) := rfl
theorem gt_bits_bound : gtab fid_bits_bound = some (.code g_bits_bound) := rfl
theorem gt_bits_Writer_Put : gtab fid_bits_Writer_Put = some (.code g_bits_Writer_Put) := rfl
theorem gt_bits_Writer_Len : gtab fid_bits_Writer_Len = some (.code g_bits_Writer_Len) := rfl
theorem gt_slices_Clone_byte_byte : gtab fid_slices_Clone_byte_byte = some (.clone 1 1) := rfl
theorem gt_bits_Writer_Bytes : gtab fid_bits_Writer_Bytes = some (.code g_bits_Writer_Bytes) := rfl
theorem gt_bits_NewReader : gtab fid_bits_NewReader = some (.code g_bits_NewReader) := rfl
theorem gt_bits_Reader_Left : gtab fid_bits_Reader_Left = some (.code g_bits_Reader_Left) := rfl
theorem gt_bits_Reader_Take : gtab fid_bits_Reader_Take = some (.code g_bits_Reader_Take) := rfl
theorem gt_bits_Flip : gtab fid_bits_Flip = some (.code g_bits_Flip) := rfl
theorem gt_archipelagolaw1_known : gtab fid_archipelagolaw1_known = some (.code g_archipelagolaw1_known) := rfl
theorem gt_archipelagoref1_Writer_Put : gtab fid_archipelagoref1_Writer_Put = some (.code g_archipelagoref1_Writer_Put) := rfl
theorem gt_archipelagoref1_Writer_Bytes : gtab fid_archipelagoref1_Writer_Bytes = some (.code g_archipelagoref1_Writer_Bytes) := rfl
theorem gt_archipelagolaw1_BitsWrite : gtab fid_archipelagolaw1_BitsWrite = some (.code g_archipelagolaw1_BitsWrite) := rfl
theorem gt_archipelagoref1_Reader_Left : gtab fid_archipelagoref1_Reader_Left = some (.code g_archipelagoref1_Reader_Left) := rfl
theorem gt_archipelagoref1_Reader_Take : gtab fid_archipelagoref1_Reader_Take = some (.code g_archipelagoref1_Reader_Take) := rfl
theorem gt_archipelagolaw1_BitsRead : gtab fid_archipelagolaw1_BitsRead = some (.code g_archipelagolaw1_BitsRead) := rfl
theorem gt_archipelagolaw1_BitsBack : gtab fid_archipelagolaw1_BitsBack = some (.code g_archipelagolaw1_BitsBack) := rfl
theorem gt_archipelagoref1_Flip : gtab fid_archipelagoref1_Flip = some (.code g_archipelagoref1_Flip) := rfl
theorem gt_archipelagolaw1_BitsFlip : gtab fid_archipelagolaw1_BitsFlip = some (.code g_archipelagolaw1_BitsFlip) := rfl
theorem gt_archipelagolaw1_BitsParts : gtab fid_archipelagolaw1_BitsParts = some (.code g_archipelagolaw1_BitsParts) := rfl
theorem gt_archipelagolaw1_BitsEnds : gtab fid_archipelagolaw1_BitsEnds = some (.code g_archipelagolaw1_BitsEnds) := rfl
theorem gc_bits_NewWriter {call : GCallF} {lo : Nat} {us : List U} {h : GH} : gcall gtab call lo fid_bits_NewWriter us h = roCall call lo fid_bits_NewWriter us h := rfl
theorem gc_bits_bound {call : GCallF} {lo : Nat} {us : List U} {h : GH} : gcall gtab call lo fid_bits_bound us h = ownCall call lo fid_bits_bound us h := rfl
theorem gc_bits_Writer_Put {call : GCallF} {lo : Nat} {us : List U} {h : GH} : gcall gtab call lo fid_bits_Writer_Put us h = rwCall call lo fid_bits_Writer_Put us h := rfl
theorem gc_bits_Writer_Len {call : GCallF} {lo : Nat} {us : List U} {h : GH} : gcall gtab call lo fid_bits_Writer_Len us h = roCall call lo fid_bits_Writer_Len us h := rfl
theorem gc_slices_Clone_byte_byte {call : GCallF} {lo : Nat} {us : List U} {h : GH} : gcall gtab call lo fid_slices_Clone_byte_byte us h = cloneCall 1 1 us h := rfl
theorem gc_bits_Writer_Bytes {call : GCallF} {lo : Nat} {us : List U} {h : GH} : gcall gtab call lo fid_bits_Writer_Bytes us h = roCall call lo fid_bits_Writer_Bytes us h := rfl
theorem gc_bits_NewReader {call : GCallF} {lo : Nat} {us : List U} {h : GH} : gcall gtab call lo fid_bits_NewReader us h = roCall call lo fid_bits_NewReader us h := rfl
theorem gc_bits_Reader_Left {call : GCallF} {lo : Nat} {us : List U} {h : GH} : gcall gtab call lo fid_bits_Reader_Left us h = roCall call lo fid_bits_Reader_Left us h := rfl
theorem gc_bits_Reader_Take {call : GCallF} {lo : Nat} {us : List U} {h : GH} : gcall gtab call lo fid_bits_Reader_Take us h = rwCall call lo fid_bits_Reader_Take us h := rfl
theorem gc_bits_Flip {call : GCallF} {lo : Nat} {us : List U} {h : GH} : gcall gtab call lo fid_bits_Flip us h = ownCall call lo fid_bits_Flip us h := rfl
theorem gc_archipelagolaw1_known {call : GCallF} {lo : Nat} {us : List U} {h : GH} : gcall gtab call lo fid_archipelagolaw1_known us h = ownCall call lo fid_archipelagolaw1_known us h := rfl
theorem gc_archipelagoref1_Writer_Put {call : GCallF} {lo : Nat} {us : List U} {h : GH} : gcall gtab call lo fid_archipelagoref1_Writer_Put us h = rwCall call lo fid_archipelagoref1_Writer_Put us h := rfl
theorem gc_archipelagoref1_Writer_Bytes {call : GCallF} {lo : Nat} {us : List U} {h : GH} : gcall gtab call lo fid_archipelagoref1_Writer_Bytes us h = roCall call lo fid_archipelagoref1_Writer_Bytes us h := rfl
theorem gc_archipelagolaw1_BitsWrite {call : GCallF} {lo : Nat} {us : List U} {h : GH} : gcall gtab call lo fid_archipelagolaw1_BitsWrite us h = ownCall call lo fid_archipelagolaw1_BitsWrite us h := rfl
theorem gc_archipelagoref1_Reader_Left {call : GCallF} {lo : Nat} {us : List U} {h : GH} : gcall gtab call lo fid_archipelagoref1_Reader_Left us h = roCall call lo fid_archipelagoref1_Reader_Left us h := rfl
theorem gc_archipelagoref1_Reader_Take {call : GCallF} {lo : Nat} {us : List U} {h : GH} : gcall gtab call lo fid_archipelagoref1_Reader_Take us h = rwCall call lo fid_archipelagoref1_Reader_Take us h := rfl
theorem gc_archipelagolaw1_BitsRead {call : GCallF} {lo : Nat} {us : List U} {h : GH} : gcall gtab call lo fid_archipelagolaw1_BitsRead us h = ownCall call lo fid_archipelagolaw1_BitsRead us h := rfl
theorem gc_archipelagolaw1_BitsBack {call : GCallF} {lo : Nat} {us : List U} {h : GH} : gcall gtab call lo fid_archipelagolaw1_BitsBack us h = ownCall call lo fid_archipelagolaw1_BitsBack us h := rfl
theorem gc_archipelagoref1_Flip {call : GCallF} {lo : Nat} {us : List U} {h : GH} : gcall gtab call lo fid_archipelagoref1_Flip us h = ownCall call lo fid_archipelagoref1_Flip us h := rfl
theorem gc_archipelagolaw1_BitsFlip {call : GCallF} {lo : Nat} {us : List U} {h : GH} : gcall gtab call lo fid_archipelagolaw1_BitsFlip us h = ownCall call lo fid_archipelagolaw1_BitsFlip us h := rfl
theorem gc_archipelagolaw1_BitsParts {call : GCallF} {lo : Nat} {us : List U} {h : GH} : gcall gtab call lo fid_archipelagolaw1_BitsParts us h = ownCall call lo fid_archipelagolaw1_BitsParts us h := rfl
theorem gc_archipelagolaw1_BitsEnds {call : GCallF} {lo : Nat} {us : List U} {h : GH} : gcall gtab call lo fid_archipelagolaw1_BitsEnds us h = ownCall call lo fid_archipelagolaw1_BitsEnds us h := rfl
theorem fn_bits_NewWriter {us : List U} {h h' : GH} {lo : Nat} {w : U} (hl : us.length = 0) (k : Z gtab ⟨[], []⟩ lo [.c ir_bits_NewWriter.body] (genvOf 0 us) h fun env h1 => ∃ vs, gres env h1 [.tmp 0] = some vs ∧ gfin .ro vs h1 = some (w, h')) : GF gtab fid_bits_NewWriter us h lo = some (w, h') := GF_fn gt_bits_NewWriter hl k
theorem fnR_bits_NewWriter {us : List U} {h : GH} {lo : Nat} {R : U → GH → Prop} (hl : us.length = 0) (k : Z gtab ⟨[], []⟩ lo [.c ir_bits_NewWriter.body] (genvOf 0 us) h fun env h1 => ∃ vs, gres env h1 [.tmp 0] = some vs ∧ ∃ w h', gfin .ro vs h1 = some (w, h') ∧ R w h') : ∃ w h', GF gtab fid_bits_NewWriter us h lo = some (w, h') ∧ R w h' := GF_fnR gt_bits_NewWriter hl k
theorem fn_bits_bound {us : List U} {h h' : GH} {lo : Nat} {w : U} (hl : us.length = 1) (k : Z gtab ⟨[], []⟩ lo [.c ir_bits_bound.body] (genvOf 0 us) h fun env h1 => ∃ vs, gres env h1 [.tmp 2] = some vs ∧ gfin .own vs h1 = some (w, h')) : GF gtab fid_bits_bound us h lo = some (w, h') := GF_fn gt_bits_bound hl k
theorem fnR_bits_bound {us : List U} {h : GH} {lo : Nat} {R : U → GH → Prop} (hl : us.length = 1) (k : Z gtab ⟨[], []⟩ lo [.c ir_bits_bound.body] (genvOf 0 us) h fun env h1 => ∃ vs, gres env h1 [.tmp 2] = some vs ∧ ∃ w h', gfin .own vs h1 = some (w, h') ∧ R w h') : ∃ w h', GF gtab fid_bits_bound us h lo = some (w, h') ∧ R w h' := GF_fnR gt_bits_bound hl k
theorem fn_bits_Writer_Put {us : List U} {h h' : GH} {lo : Nat} {w : U} (hl : us.length = 3) (k : Z gtab ⟨[24], [26]⟩ lo [.c ir_bits_Writer_Put.body] (genvOf 0 us) h fun env h1 => ∃ vs, gres env h1 [] = some vs ∧ gfin .rw vs h1 = some (w, h')) : GF gtab fid_bits_Writer_Put us h lo = some (w, h') := GF_fn gt_bits_Writer_Put hl k
theorem fnR_bits_Writer_Put {us : List U} {h : GH} {lo : Nat} {R : U → GH → Prop} (hl : us.length = 3) (k : Z gtab ⟨[24], [26]⟩ lo [.c ir_bits_Writer_Put.body] (genvOf 0 us) h fun env h1 => ∃ vs, gres env h1 [] = some vs ∧ ∃ w h', gfin .rw vs h1 = some (w, h') ∧ R w h') : ∃ w h', GF gtab fid_bits_Writer_Put us h lo = some (w, h') ∧ R w h' := GF_fnR gt_bits_Writer_Put hl k
theorem fn_bits_Writer_Len {us : List U} {h h' : GH} {lo : Nat} {w : U} (hl : us.length = 1) (k : Z gtab ⟨[], []⟩ lo [.c ir_bits_Writer_Len.body] (genvOf 0 us) h fun env h1 => ∃ vs, gres env h1 [.tmp 2] = some vs ∧ gfin .ro vs h1 = some (w, h')) : GF gtab fid_bits_Writer_Len us h lo = some (w, h') := GF_fn gt_bits_Writer_Len hl k
theorem fnR_bits_Writer_Len {us : List U} {h : GH} {lo : Nat} {R : U → GH → Prop} (hl : us.length = 1) (k : Z gtab ⟨[], []⟩ lo [.c ir_bits_Writer_Len.body] (genvOf 0 us) h fun env h1 => ∃ vs, gres env h1 [.tmp 2] = some vs ∧ ∃ w h', gfin .ro vs h1 = some (w, h') ∧ R w h') : ∃ w h', GF gtab fid_bits_Writer_Len us h lo = some (w, h') ∧ R w h' := GF_fnR gt_bits_Writer_Len hl k
theorem fn_bits_Writer_Bytes {us : List U} {h h' : GH} {lo : Nat} {w : U} (hl : us.length = 1) (k : Z gtab ⟨[], []⟩ lo [.c ir_bits_Writer_Bytes.body] (genvOf 0 us) h fun env h1 => ∃ vs, gres env h1 [.tmp 2] = some vs ∧ gfin .ro vs h1 = some (w, h')) : GF gtab fid_bits_Writer_Bytes us h lo = some (w, h') := GF_fn gt_bits_Writer_Bytes hl k
theorem fnR_bits_Writer_Bytes {us : List U} {h : GH} {lo : Nat} {R : U → GH → Prop} (hl : us.length = 1) (k : Z gtab ⟨[], []⟩ lo [.c ir_bits_Writer_Bytes.body] (genvOf 0 us) h fun env h1 => ∃ vs, gres env h1 [.tmp 2] = some vs ∧ ∃ w h', gfin .ro vs h1 = some (w, h') ∧ R w h') : ∃ w h', GF gtab fid_bits_Writer_Bytes us h lo = some (w, h') ∧ R w h' := GF_fnR gt_bits_Writer_Bytes hl k
theorem fn_bits_NewReader {us : List U} {h h' : GH} {lo : Nat} {w : U} (hl : us.length = 1) (k : Z gtab ⟨[], []⟩ lo [.c ir_bits_NewReader.body] (genvOf 0 us) h fun env h1 => ∃ vs, gres env h1 [.tmp 2] = some vs ∧ gfin .ro vs h1 = some (w, h')) : GF gtab fid_bits_NewReader us h lo = some (w, h') := GF_fn gt_bits_NewReader hl k
theorem fnR_bits_NewReader {us : List U} {h : GH} {lo : Nat} {R : U → GH → Prop} (hl : us.length = 1) (k : Z gtab ⟨[], []⟩ lo [.c ir_bits_NewReader.body] (genvOf 0 us) h fun env h1 => ∃ vs, gres env h1 [.tmp 2] = some vs ∧ ∃ w h', gfin .ro vs h1 = some (w, h') ∧ R w h') : ∃ w h', GF gtab fid_bits_NewReader us h lo = some (w, h') ∧ R w h' := GF_fnR gt_bits_NewReader hl k
theorem fn_bits_Reader_Left {us : List U} {h h' : GH} {lo : Nat} {w : U} (hl : us.length = 1) (k : Z gtab ⟨[], []⟩ lo [.c ir_bits_Reader_Left.body] (genvOf 0 us) h fun env h1 => ∃ vs, gres env h1 [.tmp 2] = some vs ∧ gfin .ro vs h1 = some (w, h')) : GF gtab fid_bits_Reader_Left us h lo = some (w, h') := GF_fn gt_bits_Reader_Left hl k
theorem fnR_bits_Reader_Left {us : List U} {h : GH} {lo : Nat} {R : U → GH → Prop} (hl : us.length = 1) (k : Z gtab ⟨[], []⟩ lo [.c ir_bits_Reader_Left.body] (genvOf 0 us) h fun env h1 => ∃ vs, gres env h1 [.tmp 2] = some vs ∧ ∃ w h', gfin .ro vs h1 = some (w, h') ∧ R w h') : ∃ w h', GF gtab fid_bits_Reader_Left us h lo = some (w, h') ∧ R w h' := GF_fnR gt_bits_Reader_Left hl k
theorem fn_bits_Reader_Take {us : List U} {h h' : GH} {lo : Nat} {w : U} (hl : us.length = 2) (k : Z gtab ⟨[], []⟩ lo [.c ir_bits_Reader_Take.body] (genvOf 0 us) h fun env h1 => ∃ vs, gres env h1 [.tmp 4, .tmp 5] = some vs ∧ gfin .rw vs h1 = some (w, h')) : GF gtab fid_bits_Reader_Take us h lo = some (w, h') := GF_fn gt_bits_Reader_Take hl k
theorem fnR_bits_Reader_Take {us : List U} {h : GH} {lo : Nat} {R : U → GH → Prop} (hl : us.length = 2) (k : Z gtab ⟨[], []⟩ lo [.c ir_bits_Reader_Take.body] (genvOf 0 us) h fun env h1 => ∃ vs, gres env h1 [.tmp 4, .tmp 5] = some vs ∧ ∃ w h', gfin .rw vs h1 = some (w, h') ∧ R w h') : ∃ w h', GF gtab fid_bits_Reader_Take us h lo = some (w, h') ∧ R w h' := GF_fnR gt_bits_Reader_Take hl k
theorem fn_bits_Flip {us : List U} {h h' : GH} {lo : Nat} {w : U} (hl : us.length = 3) (k : Z gtab ⟨[], [11]⟩ lo [.c ir_bits_Flip.body] (genvOf 0 us) h fun env h1 => ∃ vs, gres env h1 [.tmp 6] = some vs ∧ gfin .own vs h1 = some (w, h')) : GF gtab fid_bits_Flip us h lo = some (w, h') := GF_fn gt_bits_Flip hl k
theorem fnR_bits_Flip {us : List U} {h : GH} {lo : Nat} {R : U → GH → Prop} (hl : us.length = 3) (k : Z gtab ⟨[], [11]⟩ lo [.c ir_bits_Flip.body] (genvOf 0 us) h fun env h1 => ∃ vs, gres env h1 [.tmp 6] = some vs ∧ ∃ w h', gfin .own vs h1 = some (w, h') ∧ R w h') : ∃ w h', GF gtab fid_bits_Flip us h lo = some (w, h') ∧ R w h' := GF_fnR gt_bits_Flip hl k
theorem fn_archipelagolaw1_known {us : List U} {h h' : GH} {lo : Nat} {w : U} (hl : us.length = 0) (k : Z gtab ⟨[], []⟩ lo [.c ir_archipelagolaw1_known.body] (genvOf 0 us) h fun env h1 => ∃ vs, gres env h1 [.tmp 0] = some vs ∧ gfin .own vs h1 = some (w, h')) : GF gtab fid_archipelagolaw1_known us h lo = some (w, h') := GF_fn gt_archipelagolaw1_known hl k
theorem fnR_archipelagolaw1_known {us : List U} {h : GH} {lo : Nat} {R : U → GH → Prop} (hl : us.length = 0) (k : Z gtab ⟨[], []⟩ lo [.c ir_archipelagolaw1_known.body] (genvOf 0 us) h fun env h1 => ∃ vs, gres env h1 [.tmp 0] = some vs ∧ ∃ w h', gfin .own vs h1 = some (w, h') ∧ R w h') : ∃ w h', GF gtab fid_archipelagolaw1_known us h lo = some (w, h') ∧ R w h' := GF_fnR gt_archipelagolaw1_known hl k
theorem fn_archipelagoref1_Writer_Put {us : List U} {h h' : GH} {lo : Nat} {w : U} (hl : us.length = 3) (k : Z gtab ⟨[19], []⟩ lo [.c ir_archipelagoref1_Writer_Put.body] (genvOf 0 us) h fun env h1 => ∃ vs, gres env h1 [] = some vs ∧ gfin .rw vs h1 = some (w, h')) : GF gtab fid_archipelagoref1_Writer_Put us h lo = some (w, h') := GF_fn gt_archipelagoref1_Writer_Put hl k
theorem fnR_archipelagoref1_Writer_Put {us : List U} {h : GH} {lo : Nat} {R : U → GH → Prop} (hl : us.length = 3) (k : Z gtab ⟨[19], []⟩ lo [.c ir_archipelagoref1_Writer_Put.body] (genvOf 0 us) h fun env h1 => ∃ vs, gres env h1 [] = some vs ∧ ∃ w h', gfin .rw vs h1 = some (w, h') ∧ R w h') : ∃ w h', GF gtab fid_archipelagoref1_Writer_Put us h lo = some (w, h') ∧ R w h' := GF_fnR gt_archipelagoref1_Writer_Put hl k
theorem fn_archipelagoref1_Writer_Bytes {us : List U} {h h' : GH} {lo : Nat} {w : U} (hl : us.length = 1) (k : Z gtab ⟨[], [12]⟩ lo [.c ir_archipelagoref1_Writer_Bytes.body] (genvOf 0 us) h fun env h1 => ∃ vs, gres env h1 [.tmp 2] = some vs ∧ gfin .ro vs h1 = some (w, h')) : GF gtab fid_archipelagoref1_Writer_Bytes us h lo = some (w, h') := GF_fn gt_archipelagoref1_Writer_Bytes hl k
theorem fnR_archipelagoref1_Writer_Bytes {us : List U} {h : GH} {lo : Nat} {R : U → GH → Prop} (hl : us.length = 1) (k : Z gtab ⟨[], [12]⟩ lo [.c ir_archipelagoref1_Writer_Bytes.body] (genvOf 0 us) h fun env h1 => ∃ vs, gres env h1 [.tmp 2] = some vs ∧ ∃ w h', gfin .ro vs h1 = some (w, h') ∧ R w h') : ∃ w h', GF gtab fid_archipelagoref1_Writer_Bytes us h lo = some (w, h') ∧ R w h' := GF_fnR gt_archipelagoref1_Writer_Bytes hl k
theorem fn_archipelagolaw1_BitsWrite {us : List U} {h h' : GH} {lo : Nat} {w : U} (hl : us.length = 1) (k : Z gtab ⟨[], []⟩ lo [.c ir_archipelagolaw1_BitsWrite.body] (genvOf 0 us) h fun env h1 => ∃ vs, gres env h1 [.tmp 2] = some vs ∧ gfin .own vs h1 = some (w, h')) : GF gtab fid_archipelagolaw1_BitsWrite us h lo = some (w, h') := GF_fn gt_archipelagolaw1_BitsWrite hl k
theorem fnR_archipelagolaw1_BitsWrite {us : List U} {h : GH} {lo : Nat} {R : U → GH → Prop} (hl : us.length = 1) (k : Z gtab ⟨[], []⟩ lo [.c ir_archipelagolaw1_BitsWrite.body] (genvOf 0 us) h fun env h1 => ∃ vs, gres env h1 [.tmp 2] = some vs ∧ ∃ w h', gfin .own vs h1 = some (w, h') ∧ R w h') : ∃ w h', GF gtab fid_archipelagolaw1_BitsWrite us h lo = some (w, h') ∧ R w h' := GF_fnR gt_archipelagolaw1_BitsWrite hl k
theorem fn_archipelagoref1_Reader_Left {us : List U} {h h' : GH} {lo : Nat} {w : U} (hl : us.length = 1) (k : Z gtab ⟨[], []⟩ lo [.c ir_archipelagoref1_Reader_Left.body] (genvOf 0 us) h fun env h1 => ∃ vs, gres env h1 [.tmp 2] = some vs ∧ gfin .ro vs h1 = some (w, h')) : GF gtab fid_archipelagoref1_Reader_Left us h lo = some (w, h') := GF_fn gt_archipelagoref1_Reader_Left hl k
theorem fnR_archipelagoref1_Reader_Left {us : List U} {h : GH} {lo : Nat} {R : U → GH → Prop} (hl : us.length = 1) (k : Z gtab ⟨[], []⟩ lo [.c ir_archipelagoref1_Reader_Left.body] (genvOf 0 us) h fun env h1 => ∃ vs, gres env h1 [.tmp 2] = some vs ∧ ∃ w h', gfin .ro vs h1 = some (w, h') ∧ R w h') : ∃ w h', GF gtab fid_archipelagoref1_Reader_Left us h lo = some (w, h') ∧ R w h' := GF_fnR gt_archipelagoref1_Reader_Left hl k
theorem fn_archipelagoref1_Reader_Take {us : List U} {h h' : GH} {lo : Nat} {w : U} (hl : us.length = 2) (k : Z gtab ⟨[], []⟩ lo [.c ir_archipelagoref1_Reader_Take.body] (genvOf 0 us) h fun env h1 => ∃ vs, gres env h1 [.tmp 4, .tmp 5] = some vs ∧ gfin .rw vs h1 = some (w, h')) : GF gtab fid_archipelagoref1_Reader_Take us h lo = some (w, h') := GF_fn gt_archipelagoref1_Reader_Take hl k
theorem fnR_archipelagoref1_Reader_Take {us : List U} {h : GH} {lo : Nat} {R : U → GH → Prop} (hl : us.length = 2) (k : Z gtab ⟨[], []⟩ lo [.c ir_archipelagoref1_Reader_Take.body] (genvOf 0 us) h fun env h1 => ∃ vs, gres env h1 [.tmp 4, .tmp 5] = some vs ∧ ∃ w h', gfin .rw vs h1 = some (w, h') ∧ R w h') : ∃ w h', GF gtab fid_archipelagoref1_Reader_Take us h lo = some (w, h') ∧ R w h' := GF_fnR gt_archipelagoref1_Reader_Take hl k
theorem fn_archipelagolaw1_BitsRead {us : List U} {h h' : GH} {lo : Nat} {w : U} (hl : us.length = 2) (k : Z gtab ⟨[], []⟩ lo [.c ir_archipelagolaw1_BitsRead.body] (genvOf 0 us) h fun env h1 => ∃ vs, gres env h1 [.tmp 4] = some vs ∧ gfin .own vs h1 = some (w, h')) : GF gtab fid_archipelagolaw1_BitsRead us h lo = some (w, h') := GF_fn gt_archipelagolaw1_BitsRead hl k
theorem fnR_archipelagolaw1_BitsRead {us : List U} {h : GH} {lo : Nat} {R : U → GH → Prop} (hl : us.length = 2) (k : Z gtab ⟨[], []⟩ lo [.c ir_archipelagolaw1_BitsRead.body] (genvOf 0 us) h fun env h1 => ∃ vs, gres env h1 [.tmp 4] = some vs ∧ ∃ w h', gfin .own vs h1 = some (w, h') ∧ R w h') : ∃ w h', GF gtab fid_archipelagolaw1_BitsRead us h lo = some (w, h') ∧ R w h' := GF_fnR gt_archipelagolaw1_BitsRead hl k
theorem fn_archipelagolaw1_BitsBack {us : List U} {h h' : GH} {lo : Nat} {w : U} (hl : us.length = 1) (k : Z gtab ⟨[], []⟩ lo [.c ir_archipelagolaw1_BitsBack.body] (genvOf 0 us) h fun env h1 => ∃ vs, gres env h1 [.tmp 2] = some vs ∧ gfin .own vs h1 = some (w, h')) : GF gtab fid_archipelagolaw1_BitsBack us h lo = some (w, h') := GF_fn gt_archipelagolaw1_BitsBack hl k
theorem fnR_archipelagolaw1_BitsBack {us : List U} {h : GH} {lo : Nat} {R : U → GH → Prop} (hl : us.length = 1) (k : Z gtab ⟨[], []⟩ lo [.c ir_archipelagolaw1_BitsBack.body] (genvOf 0 us) h fun env h1 => ∃ vs, gres env h1 [.tmp 2] = some vs ∧ ∃ w h', gfin .own vs h1 = some (w, h') ∧ R w h') : ∃ w h', GF gtab fid_archipelagolaw1_BitsBack us h lo = some (w, h') ∧ R w h' := GF_fnR gt_archipelagolaw1_BitsBack hl k
theorem fn_archipelagoref1_Flip {us : List U} {h h' : GH} {lo : Nat} {w : U} (hl : us.length = 3) (k : Z gtab ⟨[], [10]⟩ lo [.c ir_archipelagoref1_Flip.body] (genvOf 0 us) h fun env h1 => ∃ vs, gres env h1 [.tmp 6] = some vs ∧ gfin .own vs h1 = some (w, h')) : GF gtab fid_archipelagoref1_Flip us h lo = some (w, h') := GF_fn gt_archipelagoref1_Flip hl k
theorem fnR_archipelagoref1_Flip {us : List U} {h : GH} {lo : Nat} {R : U → GH → Prop} (hl : us.length = 3) (k : Z gtab ⟨[], [10]⟩ lo [.c ir_archipelagoref1_Flip.body] (genvOf 0 us) h fun env h1 => ∃ vs, gres env h1 [.tmp 6] = some vs ∧ ∃ w h', gfin .own vs h1 = some (w, h') ∧ R w h') : ∃ w h', GF gtab fid_archipelagoref1_Flip us h lo = some (w, h') ∧ R w h' := GF_fnR gt_archipelagoref1_Flip hl k
theorem fn_archipelagolaw1_BitsFlip {us : List U} {h h' : GH} {lo : Nat} {w : U} (hl : us.length = 4) (k : Z gtab ⟨[], []⟩ lo [.c ir_archipelagolaw1_BitsFlip.body] (genvOf 0 us) h fun env h1 => ∃ vs, gres env h1 [.tmp 8] = some vs ∧ gfin .own vs h1 = some (w, h')) : GF gtab fid_archipelagolaw1_BitsFlip us h lo = some (w, h') := GF_fn gt_archipelagolaw1_BitsFlip hl k
theorem fnR_archipelagolaw1_BitsFlip {us : List U} {h : GH} {lo : Nat} {R : U → GH → Prop} (hl : us.length = 4) (k : Z gtab ⟨[], []⟩ lo [.c ir_archipelagolaw1_BitsFlip.body] (genvOf 0 us) h fun env h1 => ∃ vs, gres env h1 [.tmp 8] = some vs ∧ ∃ w h', gfin .own vs h1 = some (w, h') ∧ R w h') : ∃ w h', GF gtab fid_archipelagolaw1_BitsFlip us h lo = some (w, h') ∧ R w h' := GF_fnR gt_archipelagolaw1_BitsFlip hl k
theorem fn_archipelagolaw1_BitsParts {us : List U} {h h' : GH} {lo : Nat} {w : U} (hl : us.length = 2) (k : Z gtab ⟨[], []⟩ lo [.c ir_archipelagolaw1_BitsParts.body] (genvOf 0 us) h fun env h1 => ∃ vs, gres env h1 [.tmp 4] = some vs ∧ gfin .own vs h1 = some (w, h')) : GF gtab fid_archipelagolaw1_BitsParts us h lo = some (w, h') := GF_fn gt_archipelagolaw1_BitsParts hl k
theorem fnR_archipelagolaw1_BitsParts {us : List U} {h : GH} {lo : Nat} {R : U → GH → Prop} (hl : us.length = 2) (k : Z gtab ⟨[], []⟩ lo [.c ir_archipelagolaw1_BitsParts.body] (genvOf 0 us) h fun env h1 => ∃ vs, gres env h1 [.tmp 4] = some vs ∧ ∃ w h', gfin .own vs h1 = some (w, h') ∧ R w h') : ∃ w h', GF gtab fid_archipelagolaw1_BitsParts us h lo = some (w, h') ∧ R w h' := GF_fnR gt_archipelagolaw1_BitsParts hl k
theorem fn_archipelagolaw1_BitsEnds {us : List U} {h h' : GH} {lo : Nat} {w : U} (hl : us.length = 3) (k : Z gtab ⟨[], []⟩ lo [.c ir_archipelagolaw1_BitsEnds.body] (genvOf 0 us) h fun env h1 => ∃ vs, gres env h1 [.tmp 6] = some vs ∧ gfin .own vs h1 = some (w, h')) : GF gtab fid_archipelagolaw1_BitsEnds us h lo = some (w, h') := GF_fn gt_archipelagolaw1_BitsEnds hl k
theorem fnR_archipelagolaw1_BitsEnds {us : List U} {h : GH} {lo : Nat} {R : U → GH → Prop} (hl : us.length = 3) (k : Z gtab ⟨[], []⟩ lo [.c ir_archipelagolaw1_BitsEnds.body] (genvOf 0 us) h fun env h1 => ∃ vs, gres env h1 [.tmp 6] = some vs ∧ ∃ w h', gfin .own vs h1 = some (w, h') ∧ R w h') : ∃ w h', GF gtab fid_archipelagolaw1_BitsEnds us h lo = some (w, h') ∧ R w h' := GF_fnR gt_archipelagolaw1_BitsEnds hl k
theorem iq_bits_NewWriter : isRo gtab fid_bits_NewWriter = true := rfl
theorem mk_bits_NewWriter : makes gtab fid_bits_NewWriter = false := rfl
theorem iq_bits_bound : isRo gtab fid_bits_bound = true := rfl
theorem mk_bits_bound : makes gtab fid_bits_bound = true := rfl
theorem iq_bits_Writer_Put : isRo gtab fid_bits_Writer_Put = false := rfl
theorem mk_bits_Writer_Put : makes gtab fid_bits_Writer_Put = false := rfl
theorem iq_bits_Writer_Len : isRo gtab fid_bits_Writer_Len = true := rfl
theorem mk_bits_Writer_Len : makes gtab fid_bits_Writer_Len = false := rfl
theorem iq_slices_Clone_byte_byte : isRo gtab fid_slices_Clone_byte_byte = true := rfl
theorem mk_slices_Clone_byte_byte : makes gtab fid_slices_Clone_byte_byte = true := rfl
theorem iq_bits_Writer_Bytes : isRo gtab fid_bits_Writer_Bytes = true := rfl
theorem mk_bits_Writer_Bytes : makes gtab fid_bits_Writer_Bytes = false := rfl
theorem iq_bits_NewReader : isRo gtab fid_bits_NewReader = true := rfl
theorem mk_bits_NewReader : makes gtab fid_bits_NewReader = false := rfl
theorem iq_bits_Reader_Left : isRo gtab fid_bits_Reader_Left = true := rfl
theorem mk_bits_Reader_Left : makes gtab fid_bits_Reader_Left = false := rfl
theorem iq_bits_Reader_Take : isRo gtab fid_bits_Reader_Take = false := rfl
theorem mk_bits_Reader_Take : makes gtab fid_bits_Reader_Take = false := rfl
theorem iq_bits_Flip : isRo gtab fid_bits_Flip = true := rfl
theorem mk_bits_Flip : makes gtab fid_bits_Flip = true := rfl
theorem iq_archipelagolaw1_known : isRo gtab fid_archipelagolaw1_known = true := rfl
theorem mk_archipelagolaw1_known : makes gtab fid_archipelagolaw1_known = true := rfl
theorem iq_archipelagoref1_Writer_Put : isRo gtab fid_archipelagoref1_Writer_Put = false := rfl
theorem mk_archipelagoref1_Writer_Put : makes gtab fid_archipelagoref1_Writer_Put = false := rfl
theorem iq_archipelagoref1_Writer_Bytes : isRo gtab fid_archipelagoref1_Writer_Bytes = true := rfl
theorem mk_archipelagoref1_Writer_Bytes : makes gtab fid_archipelagoref1_Writer_Bytes = false := rfl
theorem iq_archipelagolaw1_BitsWrite : isRo gtab fid_archipelagolaw1_BitsWrite = true := rfl
theorem mk_archipelagolaw1_BitsWrite : makes gtab fid_archipelagolaw1_BitsWrite = true := rfl
theorem iq_archipelagoref1_Reader_Left : isRo gtab fid_archipelagoref1_Reader_Left = true := rfl
theorem mk_archipelagoref1_Reader_Left : makes gtab fid_archipelagoref1_Reader_Left = false := rfl
theorem iq_archipelagoref1_Reader_Take : isRo gtab fid_archipelagoref1_Reader_Take = false := rfl
theorem mk_archipelagoref1_Reader_Take : makes gtab fid_archipelagoref1_Reader_Take = false := rfl
theorem iq_archipelagolaw1_BitsRead : isRo gtab fid_archipelagolaw1_BitsRead = true := rfl
theorem mk_archipelagolaw1_BitsRead : makes gtab fid_archipelagolaw1_BitsRead = true := rfl
theorem iq_archipelagolaw1_BitsBack : isRo gtab fid_archipelagolaw1_BitsBack = true := rfl
theorem mk_archipelagolaw1_BitsBack : makes gtab fid_archipelagolaw1_BitsBack = true := rfl
theorem iq_archipelagoref1_Flip : isRo gtab fid_archipelagoref1_Flip = true := rfl
theorem mk_archipelagoref1_Flip : makes gtab fid_archipelagoref1_Flip = true := rfl
theorem iq_archipelagolaw1_BitsFlip : isRo gtab fid_archipelagolaw1_BitsFlip = true := rfl
theorem mk_archipelagolaw1_BitsFlip : makes gtab fid_archipelagolaw1_BitsFlip = true := rfl
theorem iq_archipelagolaw1_BitsParts : isRo gtab fid_archipelagolaw1_BitsParts = true := rfl
theorem mk_archipelagolaw1_BitsParts : makes gtab fid_archipelagolaw1_BitsParts = true := rfl
theorem iq_archipelagolaw1_BitsEnds : isRo gtab fid_archipelagolaw1_BitsEnds = true := rfl
theorem mk_archipelagolaw1_BitsEnds : makes gtab fid_archipelagolaw1_BitsEnds = true := rfl
theorem gtab_sim : TabSim gtab tab := by
  intro f g h
  unfold gtab at h
  split at h
  · cases h; rfl
  · cases h; rfl
  · cases h; rfl
  · cases h; rfl
  · cases h
  · cases h; rfl
  · cases h; rfl
  · cases h; rfl
  · cases h; rfl
  · cases h; rfl
  · cases h; rfl
  · cases h; rfl
  · cases h; rfl
  · cases h; rfl
  · cases h; rfl
  · cases h; rfl
  · cases h; rfl
  · cases h; rfl
  · cases h; rfl
  · cases h; rfl
  · cases h; rfl
  · cases h; rfl
  · cases h
theorem gtab_clone : CloneOk gtab tab := by
  intro f e b h
  unfold gtab at h
  split at h
  · cases h
  · cases h
  · cases h
  · cases h
  · cases h; intro st x es low hs hr; exact cloneOk tab_slices_Clone_byte_byte 1 1 (by decide) rfl low hs hr
  · cases h
  · cases h
  · cases h
  · cases h
  · cases h
  · cases h
  · cases h
  · cases h
  · cases h
  · cases h
  · cases h
  · cases h
  · cases h
  · cases h
  · cases h
  · cases h
  · cases h
  · cases h
end Go.Ab
