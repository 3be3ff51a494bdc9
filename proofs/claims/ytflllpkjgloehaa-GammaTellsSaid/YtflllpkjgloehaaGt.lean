/- The functions as the machine of values has them (printed by wip/irgen.py). -/
import Derived.Test.YtflllpkjgloehaaTab
import Derived.Test.YtflllpkjgloehaaValM
namespace Go.Ab
open Go
def g_bits_NewWriter : GFn := ⟨.ro, ⟨[], []⟩, ir_bits_NewWriter⟩
def g_bits_bound : GFn := ⟨.own, ⟨[], []⟩, ir_bits_bound⟩
def g_bits_Writer_Put : GFn := ⟨.rw, ⟨[24], [26]⟩, ir_bits_Writer_Put⟩
def g_math_bits_Len64 : GFn := ⟨.own, ⟨[], []⟩, ir_math_bits_Len64⟩
def g_gamma_Put : GFn := ⟨.rw, ⟨[], []⟩, ir_gamma_Put⟩
def g_bits_Writer_Len : GFn := ⟨.ro, ⟨[], []⟩, ir_bits_Writer_Len⟩
def g_gamma_Size : GFn := ⟨.own, ⟨[], []⟩, ir_gamma_Size⟩
def g_bits_Writer_Bytes : GFn := ⟨.ro, ⟨[], []⟩, ir_bits_Writer_Bytes⟩
def g_bits_NewReader : GFn := ⟨.ro, ⟨[], []⟩, ir_bits_NewReader⟩
def g_bits_Reader_Left : GFn := ⟨.ro, ⟨[], []⟩, ir_bits_Reader_Left⟩
def g_bits_Reader_Take : GFn := ⟨.rw, ⟨[], []⟩, ir_bits_Reader_Take⟩
def g_gamma_Take : GFn := ⟨.rw, ⟨[], []⟩, ir_gamma_Take⟩
def g_archipelagolaw3_known : GFn := ⟨.own, ⟨[], []⟩, ir_archipelagolaw3_known⟩
def g_archipelagoref1_length : GFn := ⟨.own, ⟨[], []⟩, ir_archipelagoref1_length⟩
def g_archipelagoref1_Writer_Put : GFn := ⟨.rw, ⟨[19], []⟩, ir_archipelagoref1_Writer_Put⟩
def g_archipelagoref1_GammaPut : GFn := ⟨.rw, ⟨[], []⟩, ir_archipelagoref1_GammaPut⟩
def g_archipelagoref1_GammaSize : GFn := ⟨.own, ⟨[], []⟩, ir_archipelagoref1_GammaSize⟩
def g_archipelagoref1_Writer_Bytes : GFn := ⟨.rw, ⟨[], [12]⟩, ir_archipelagoref1_Writer_Bytes⟩
def g_archipelagoref1_Reader_Left : GFn := ⟨.ro, ⟨[], []⟩, ir_archipelagoref1_Reader_Left⟩
def g_archipelagoref1_Reader_Take : GFn := ⟨.rw, ⟨[], []⟩, ir_archipelagoref1_Reader_Take⟩
def g_archipelagoref1_GammaTake : GFn := ⟨.rw, ⟨[], []⟩, ir_archipelagoref1_GammaTake⟩
def g_archipelagolaw3_GammaTells : GFn := ⟨.own, ⟨[], []⟩, ir_archipelagolaw3_GammaTells⟩
def g_archipelagolaw3_GammaBack : GFn := ⟨.own, ⟨[], []⟩, ir_archipelagolaw3_GammaBack⟩
def g_archipelagolaw3_GammaSizes : GFn := ⟨.own, ⟨[], []⟩, ir_archipelagolaw3_GammaSizes⟩
def g_archipelagolaw3_GammaCuts : GFn := ⟨.own, ⟨[], []⟩, ir_archipelagolaw3_GammaCuts⟩
def gtab : GTab := fun n => match n with
  | 8 => some (.code g_bits_NewWriter)
  | 28 => some (.code g_bits_bound)
  | 21 => some (.code g_bits_Writer_Put)
  | 23 => some (.code g_math_bits_Len64)
  | 9 => some (.code g_gamma_Put)
  | 11 => some (.code g_bits_Writer_Len)
  | 12 => some (.code g_gamma_Size)
  | 26 => some (.clone 1 1)
  | 15 => some (.code g_bits_Writer_Bytes)
  | 16 => some (.code g_bits_NewReader)
  | 19 => some (.code g_bits_Reader_Left)
  | 22 => some (.code g_bits_Reader_Take)
  | 17 => some (.code g_gamma_Take)
  | 7 => some (.code g_archipelagolaw3_known)
  | 24 => some (.code g_archipelagoref1_length)
  | 25 => some (.code g_archipelagoref1_Writer_Put)
  | 10 => some (.code g_archipelagoref1_GammaPut)
  | 13 => some (.code g_archipelagoref1_GammaSize)
  | 14 => some (.code g_archipelagoref1_Writer_Bytes)
  | 20 => some (.code g_archipelagoref1_Reader_Left)
  | 27 => some (.code g_archipelagoref1_Reader_Take)
  | 18 => some (.code g_archipelagoref1_GammaTake)
  | 3 => some (.code g_archipelagolaw3_GammaTells)
  | 4 => some (.code g_archipelagolaw3_GammaBack)
  | 5 => some (.code g_archipelagolaw3_GammaSizes)
  | 6 => some (.code g_archipelagolaw3_GammaCuts)
  | _ => none
theorem gt_bits_NewWriter : gtab fid_bits_NewWriter = some (.code g_bits_NewWriter) := rfl
theorem gt_bits_bound : gtab fid_bits_bound = some (.code g_bits_bound) := rfl
theorem gt_bits_Writer_Put : gtab fid_bits_Writer_Put = some (.code g_bits_Writer_Put) := rfl
theorem gt_math_bits_Len64 : gtab fid_math_bits_Len64 = some (.code g_math_bits_Len64) := rfl
theorem gt_gamma_Put : gtab fid_gamma_Put = some (.code g_gamma_Put) := rfl
theorem gt_bits_Writer_Len : gtab fid_bits_Writer_Len = some (.code g_bits_Writer_Len) := rfl
theorem gt_gamma_Size : gtab fid_gamma_Size = some (.code g_gamma_Size) := rfl
theorem gt_slices_Clone_byte_byte : gtab fid_slices_Clone_byte_byte = some (.clone 1 1) := rfl
theorem gt_bits_Writer_Bytes : gtab fid_bits_Writer_Bytes = some (.code g_bits_Writer_Bytes) := rfl
theorem gt_bits_NewReader : gtab fid_bits_NewReader = some (.code g_bits_NewReader) := rfl
theorem gt_bits_Reader_Left : gtab fid_bits_Reader_Left = some (.code g_bits_Reader_Left) := rfl
theorem gt_bits_Reader_Take : gtab fid_bits_Reader_Take = some (.code g_bits_Reader_Take) := rfl
theorem gt_gamma_Take : gtab fid_gamma_Take = some (.code g_gamma_Take) := rfl
theorem gt_archipelagolaw3_known : gtab fid_archipelagolaw3_known = some (.code g_archipelagolaw3_known) := rfl
theorem gt_archipelagoref1_length : gtab fid_archipelagoref1_length = some (.code g_archipelagoref1_length) := rfl
theorem gt_archipelagoref1_Writer_Put : gtab fid_archipelagoref1_Writer_Put = some (.code g_archipelagoref1_Writer_Put) := rfl
theorem gt_archipelagoref1_GammaPut : gtab fid_archipelagoref1_GammaPut = some (.code g_archipelagoref1_GammaPut) := rfl
theorem gt_archipelagoref1_GammaSize : gtab fid_archipelagoref1_GammaSize = some (.code g_archipelagoref1_GammaSize) := rfl
theorem gt_archipelagoref1_Writer_Bytes : gtab fid_archipelagoref1_Writer_Bytes = some (.code g_archipelagoref1_Writer_Bytes) := rfl
theorem gt_archipelagoref1_Reader_Left : gtab fid_archipelagoref1_Reader_Left = some (.code g_archipelagoref1_Reader_Left) := rfl
theorem gt_archipelagoref1_Reader_Take : gtab fid_archipelagoref1_Reader_Take = some (.code g_archipelagoref1_Reader_Take) := rfl
theorem gt_archipelagoref1_GammaTake : gtab fid_archipelagoref1_GammaTake = some (.code g_archipelagoref1_GammaTake) := rfl
theorem gt_archipelagolaw3_GammaTells : gtab fid_archipelagolaw3_GammaTells = some (.code g_archipelagolaw3_GammaTells) := rfl
theorem gt_archipelagolaw3_GammaBack : gtab fid_archipelagolaw3_GammaBack = some (.code g_archipelagolaw3_GammaBack) := rfl
theorem gt_archipelagolaw3_GammaSizes : gtab fid_archipelagolaw3_GammaSizes = some (.code g_archipelagolaw3_GammaSizes) := rfl
theorem gt_archipelagolaw3_GammaCuts : gtab fid_archipelagolaw3_GammaCuts = some (.code g_archipelagolaw3_GammaCuts) := rfl
theorem gc_bits_NewWriter {call : GCallF} {lo : Nat} {us : List U} {h : GH} : gcall gtab call lo fid_bits_NewWriter us h = roCall call lo fid_bits_NewWriter us h := rfl
theorem gc_bits_bound {call : GCallF} {lo : Nat} {us : List U} {h : GH} : gcall gtab call lo fid_bits_bound us h = ownCall call lo fid_bits_bound us h := rfl
theorem gc_bits_Writer_Put {call : GCallF} {lo : Nat} {us : List U} {h : GH} : gcall gtab call lo fid_bits_Writer_Put us h = rwCall call lo fid_bits_Writer_Put us h := rfl
theorem gc_math_bits_Len64 {call : GCallF} {lo : Nat} {us : List U} {h : GH} : gcall gtab call lo fid_math_bits_Len64 us h = ownCall call lo fid_math_bits_Len64 us h := rfl
theorem gc_gamma_Put {call : GCallF} {lo : Nat} {us : List U} {h : GH} : gcall gtab call lo fid_gamma_Put us h = rwCall call lo fid_gamma_Put us h := rfl
theorem gc_bits_Writer_Len {call : GCallF} {lo : Nat} {us : List U} {h : GH} : gcall gtab call lo fid_bits_Writer_Len us h = roCall call lo fid_bits_Writer_Len us h := rfl
theorem gc_gamma_Size {call : GCallF} {lo : Nat} {us : List U} {h : GH} : gcall gtab call lo fid_gamma_Size us h = ownCall call lo fid_gamma_Size us h := rfl
theorem gc_slices_Clone_byte_byte {call : GCallF} {lo : Nat} {us : List U} {h : GH} : gcall gtab call lo fid_slices_Clone_byte_byte us h = cloneCall 1 1 us h := rfl
theorem gc_bits_Writer_Bytes {call : GCallF} {lo : Nat} {us : List U} {h : GH} : gcall gtab call lo fid_bits_Writer_Bytes us h = roCall call lo fid_bits_Writer_Bytes us h := rfl
theorem gc_bits_NewReader {call : GCallF} {lo : Nat} {us : List U} {h : GH} : gcall gtab call lo fid_bits_NewReader us h = roCall call lo fid_bits_NewReader us h := rfl
theorem gc_bits_Reader_Left {call : GCallF} {lo : Nat} {us : List U} {h : GH} : gcall gtab call lo fid_bits_Reader_Left us h = roCall call lo fid_bits_Reader_Left us h := rfl
theorem gc_bits_Reader_Take {call : GCallF} {lo : Nat} {us : List U} {h : GH} : gcall gtab call lo fid_bits_Reader_Take us h = rwCall call lo fid_bits_Reader_Take us h := rfl
theorem gc_gamma_Take {call : GCallF} {lo : Nat} {us : List U} {h : GH} : gcall gtab call lo fid_gamma_Take us h = rwCall call lo fid_gamma_Take us h := rfl
theorem gc_archipelagolaw3_known {call : GCallF} {lo : Nat} {us : List U} {h : GH} : gcall gtab call lo fid_archipelagolaw3_known us h = ownCall call lo fid_archipelagolaw3_known us h := rfl
theorem gc_archipelagoref1_length {call : GCallF} {lo : Nat} {us : List U} {h : GH} : gcall gtab call lo fid_archipelagoref1_length us h = ownCall call lo fid_archipelagoref1_length us h := rfl
theorem gc_archipelagoref1_Writer_Put {call : GCallF} {lo : Nat} {us : List U} {h : GH} : gcall gtab call lo fid_archipelagoref1_Writer_Put us h = rwCall call lo fid_archipelagoref1_Writer_Put us h := rfl
theorem gc_archipelagoref1_GammaPut {call : GCallF} {lo : Nat} {us : List U} {h : GH} : gcall gtab call lo fid_archipelagoref1_GammaPut us h = rwCall call lo fid_archipelagoref1_GammaPut us h := rfl
theorem gc_archipelagoref1_GammaSize {call : GCallF} {lo : Nat} {us : List U} {h : GH} : gcall gtab call lo fid_archipelagoref1_GammaSize us h = ownCall call lo fid_archipelagoref1_GammaSize us h := rfl
theorem gc_archipelagoref1_Writer_Bytes {call : GCallF} {lo : Nat} {us : List U} {h : GH} : gcall gtab call lo fid_archipelagoref1_Writer_Bytes us h = rwCall call lo fid_archipelagoref1_Writer_Bytes us h := rfl
theorem gc_archipelagoref1_Reader_Left {call : GCallF} {lo : Nat} {us : List U} {h : GH} : gcall gtab call lo fid_archipelagoref1_Reader_Left us h = roCall call lo fid_archipelagoref1_Reader_Left us h := rfl
theorem gc_archipelagoref1_Reader_Take {call : GCallF} {lo : Nat} {us : List U} {h : GH} : gcall gtab call lo fid_archipelagoref1_Reader_Take us h = rwCall call lo fid_archipelagoref1_Reader_Take us h := rfl
theorem gc_archipelagoref1_GammaTake {call : GCallF} {lo : Nat} {us : List U} {h : GH} : gcall gtab call lo fid_archipelagoref1_GammaTake us h = rwCall call lo fid_archipelagoref1_GammaTake us h := rfl
theorem gc_archipelagolaw3_GammaTells {call : GCallF} {lo : Nat} {us : List U} {h : GH} : gcall gtab call lo fid_archipelagolaw3_GammaTells us h = ownCall call lo fid_archipelagolaw3_GammaTells us h := rfl
theorem gc_archipelagolaw3_GammaBack {call : GCallF} {lo : Nat} {us : List U} {h : GH} : gcall gtab call lo fid_archipelagolaw3_GammaBack us h = ownCall call lo fid_archipelagolaw3_GammaBack us h := rfl
theorem gc_archipelagolaw3_GammaSizes {call : GCallF} {lo : Nat} {us : List U} {h : GH} : gcall gtab call lo fid_archipelagolaw3_GammaSizes us h = ownCall call lo fid_archipelagolaw3_GammaSizes us h := rfl
theorem gc_archipelagolaw3_GammaCuts {call : GCallF} {lo : Nat} {us : List U} {h : GH} : gcall gtab call lo fid_archipelagolaw3_GammaCuts us h = ownCall call lo fid_archipelagolaw3_GammaCuts us h := rfl
theorem fn_bits_NewWriter {us : List U} {h h' : GH} {lo : Nat} {w : U} (hl : us.length = 0) (k : Z gtab ⟨[], []⟩ lo [.c ir_bits_NewWriter.body] (genvOf 0 us) h fun env h1 => ∃ vs, gres env h1 [.tmp 0] = some vs ∧ gfin .ro vs h1 = some (w, h')) : GF gtab fid_bits_NewWriter us h lo = some (w, h') := GF_fn gt_bits_NewWriter hl k
theorem fnR_bits_NewWriter {us : List U} {h : GH} {lo : Nat} {R : U → GH → Prop} (hl : us.length = 0) (k : Z gtab ⟨[], []⟩ lo [.c ir_bits_NewWriter.body] (genvOf 0 us) h fun env h1 => ∃ vs, gres env h1 [.tmp 0] = some vs ∧ ∃ w h', gfin .ro vs h1 = some (w, h') ∧ R w h') : ∃ w h', GF gtab fid_bits_NewWriter us h lo = some (w, h') ∧ R w h' := GF_fnR gt_bits_NewWriter hl k
theorem fn_bits_bound {us : List U} {h h' : GH} {lo : Nat} {w : U} (hl : us.length = 1) (k : Z gtab ⟨[], []⟩ lo [.c ir_bits_bound.body] (genvOf 0 us) h fun env h1 => ∃ vs, gres env h1 [.tmp 2] = some vs ∧ gfin .own vs h1 = some (w, h')) : GF gtab fid_bits_bound us h lo = some (w, h') := GF_fn gt_bits_bound hl k
theorem fnR_bits_bound {us : List U} {h : GH} {lo : Nat} {R : U → GH → Prop} (hl : us.length = 1) (k : Z gtab ⟨[], []⟩ lo [.c ir_bits_bound.body] (genvOf 0 us) h fun env h1 => ∃ vs, gres env h1 [.tmp 2] = some vs ∧ ∃ w h', gfin .own vs h1 = some (w, h') ∧ R w h') : ∃ w h', GF gtab fid_bits_bound us h lo = some (w, h') ∧ R w h' := GF_fnR gt_bits_bound hl k
theorem fn_bits_Writer_Put {us : List U} {h h' : GH} {lo : Nat} {w : U} (hl : us.length = 3) (k : Z gtab ⟨[24], [26]⟩ lo [.c ir_bits_Writer_Put.body] (genvOf 0 us) h fun env h1 => ∃ vs, gres env h1 [] = some vs ∧ gfin .rw vs h1 = some (w, h')) : GF gtab fid_bits_Writer_Put us h lo = some (w, h') := GF_fn gt_bits_Writer_Put hl k
theorem fnR_bits_Writer_Put {us : List U} {h : GH} {lo : Nat} {R : U → GH → Prop} (hl : us.length = 3) (k : Z gtab ⟨[24], [26]⟩ lo [.c ir_bits_Writer_Put.body] (genvOf 0 us) h fun env h1 => ∃ vs, gres env h1 [] = some vs ∧ ∃ w h', gfin .rw vs h1 = some (w, h') ∧ R w h') : ∃ w h', GF gtab fid_bits_Writer_Put us h lo = some (w, h') ∧ R w h' := GF_fnR gt_bits_Writer_Put hl k
theorem fn_math_bits_Len64 {us : List U} {h h' : GH} {lo : Nat} {w : U} (hl : us.length = 1) (k : Z gtab ⟨[], []⟩ lo [.c ir_math_bits_Len64.body] (genvOf 0 us) h fun env h1 => ∃ vs, gres env h1 [.tmp 2] = some vs ∧ gfin .own vs h1 = some (w, h')) : GF gtab fid_math_bits_Len64 us h lo = some (w, h') := GF_fn gt_math_bits_Len64 hl k
theorem fnR_math_bits_Len64 {us : List U} {h : GH} {lo : Nat} {R : U → GH → Prop} (hl : us.length = 1) (k : Z gtab ⟨[], []⟩ lo [.c ir_math_bits_Len64.body] (genvOf 0 us) h fun env h1 => ∃ vs, gres env h1 [.tmp 2] = some vs ∧ ∃ w h', gfin .own vs h1 = some (w, h') ∧ R w h') : ∃ w h', GF gtab fid_math_bits_Len64 us h lo = some (w, h') ∧ R w h' := GF_fnR gt_math_bits_Len64 hl k
theorem fn_gamma_Put {us : List U} {h h' : GH} {lo : Nat} {w : U} (hl : us.length = 2) (k : Z gtab ⟨[], []⟩ lo [.c ir_gamma_Put.body] (genvOf 0 us) h fun env h1 => ∃ vs, gres env h1 [] = some vs ∧ gfin .rw vs h1 = some (w, h')) : GF gtab fid_gamma_Put us h lo = some (w, h') := GF_fn gt_gamma_Put hl k
theorem fnR_gamma_Put {us : List U} {h : GH} {lo : Nat} {R : U → GH → Prop} (hl : us.length = 2) (k : Z gtab ⟨[], []⟩ lo [.c ir_gamma_Put.body] (genvOf 0 us) h fun env h1 => ∃ vs, gres env h1 [] = some vs ∧ ∃ w h', gfin .rw vs h1 = some (w, h') ∧ R w h') : ∃ w h', GF gtab fid_gamma_Put us h lo = some (w, h') ∧ R w h' := GF_fnR gt_gamma_Put hl k
theorem fn_bits_Writer_Len {us : List U} {h h' : GH} {lo : Nat} {w : U} (hl : us.length = 1) (k : Z gtab ⟨[], []⟩ lo [.c ir_bits_Writer_Len.body] (genvOf 0 us) h fun env h1 => ∃ vs, gres env h1 [.tmp 2] = some vs ∧ gfin .ro vs h1 = some (w, h')) : GF gtab fid_bits_Writer_Len us h lo = some (w, h') := GF_fn gt_bits_Writer_Len hl k
theorem fnR_bits_Writer_Len {us : List U} {h : GH} {lo : Nat} {R : U → GH → Prop} (hl : us.length = 1) (k : Z gtab ⟨[], []⟩ lo [.c ir_bits_Writer_Len.body] (genvOf 0 us) h fun env h1 => ∃ vs, gres env h1 [.tmp 2] = some vs ∧ ∃ w h', gfin .ro vs h1 = some (w, h') ∧ R w h') : ∃ w h', GF gtab fid_bits_Writer_Len us h lo = some (w, h') ∧ R w h' := GF_fnR gt_bits_Writer_Len hl k
theorem fn_gamma_Size {us : List U} {h h' : GH} {lo : Nat} {w : U} (hl : us.length = 1) (k : Z gtab ⟨[], []⟩ lo [.c ir_gamma_Size.body] (genvOf 0 us) h fun env h1 => ∃ vs, gres env h1 [.tmp 2] = some vs ∧ gfin .own vs h1 = some (w, h')) : GF gtab fid_gamma_Size us h lo = some (w, h') := GF_fn gt_gamma_Size hl k
theorem fnR_gamma_Size {us : List U} {h : GH} {lo : Nat} {R : U → GH → Prop} (hl : us.length = 1) (k : Z gtab ⟨[], []⟩ lo [.c ir_gamma_Size.body] (genvOf 0 us) h fun env h1 => ∃ vs, gres env h1 [.tmp 2] = some vs ∧ ∃ w h', gfin .own vs h1 = some (w, h') ∧ R w h') : ∃ w h', GF gtab fid_gamma_Size us h lo = some (w, h') ∧ R w h' := GF_fnR gt_gamma_Size hl k
theorem fn_bits_Writer_Bytes {us : List U} {h h' : GH} {lo : Nat} {w : U} (hl : us.length = 1) (k : Z gtab ⟨[], []⟩ lo [.c ir_bits_Writer_Bytes.body] (genvOf 0 us) h fun env h1 => ∃ vs, gres env h1 [.tmp 2] = some vs ∧ gfin .ro vs h1 = some (w, h')) : GF gtab fid_bits_Writer_Bytes us h lo = some (w, h') := GF_fn gt_bits_Writer_Bytes hl k
theorem fnR_bits_Writer_Bytes {us : List U} {h : GH} {lo : Nat} {R : U → GH → Prop} (hl : us.length = 1) (k : Z gtab ⟨[], []⟩ lo [.c ir_bits_Writer_Bytes.body] (genvOf 0 us) h fun env h1 => ∃ vs, gres env h1 [.tmp 2] = some vs ∧ ∃ w h', gfin .ro vs h1 = some (w, h') ∧ R w h') : ∃ w h', GF gtab fid_bits_Writer_Bytes us h lo = some (w, h') ∧ R w h' := GF_fnR gt_bits_Writer_Bytes hl k
theorem fn_bits_NewReader {us : List U} {h h' : GH} {lo : Nat} {w : U} (hl : us.length = 1) (k : Z gtab ⟨[], []⟩ lo [.c ir_bits_NewReader.body] (genvOf 0 us) h fun env h1 => ∃ vs, gres env h1 [.tmp 2] = some vs ∧ gfin .ro vs h1 = some (w, h')) : GF gtab fid_bits_NewReader us h lo = some (w, h') := GF_fn gt_bits_NewReader hl k
theorem fnR_bits_NewReader {us : List U} {h : GH} {lo : Nat} {R : U → GH → Prop} (hl : us.length = 1) (k : Z gtab ⟨[], []⟩ lo [.c ir_bits_NewReader.body] (genvOf 0 us) h fun env h1 => ∃ vs, gres env h1 [.tmp 2] = some vs ∧ ∃ w h', gfin .ro vs h1 = some (w, h') ∧ R w h') : ∃ w h', GF gtab fid_bits_NewReader us h lo = some (w, h') ∧ R w h' := GF_fnR gt_bits_NewReader hl k
theorem fn_bits_Reader_Left {us : List U} {h h' : GH} {lo : Nat} {w : U} (hl : us.length = 1) (k : Z gtab ⟨[], []⟩ lo [.c ir_bits_Reader_Left.body] (genvOf 0 us) h fun env h1 => ∃ vs, gres env h1 [.tmp 2] = some vs ∧ gfin .ro vs h1 = some (w, h')) : GF gtab fid_bits_Reader_Left us h lo = some (w, h') := GF_fn gt_bits_Reader_Left hl k
theorem fnR_bits_Reader_Left {us : List U} {h : GH} {lo : Nat} {R : U → GH → Prop} (hl : us.length = 1) (k : Z gtab ⟨[], []⟩ lo [.c ir_bits_Reader_Left.body] (genvOf 0 us) h fun env h1 => ∃ vs, gres env h1 [.tmp 2] = some vs ∧ ∃ w h', gfin .ro vs h1 = some (w, h') ∧ R w h') : ∃ w h', GF gtab fid_bits_Reader_Left us h lo = some (w, h') ∧ R w h' := GF_fnR gt_bits_Reader_Left hl k
theorem fn_bits_Reader_Take {us : List U} {h h' : GH} {lo : Nat} {w : U} (hl : us.length = 2) (k : Z gtab ⟨[], []⟩ lo [.c ir_bits_Reader_Take.body] (genvOf 0 us) h fun env h1 => ∃ vs, gres env h1 [.tmp 4, .tmp 5] = some vs ∧ gfin .rw vs h1 = some (w, h')) : GF gtab fid_bits_Reader_Take us h lo = some (w, h') := GF_fn gt_bits_Reader_Take hl k
theorem fnR_bits_Reader_Take {us : List U} {h : GH} {lo : Nat} {R : U → GH → Prop} (hl : us.length = 2) (k : Z gtab ⟨[], []⟩ lo [.c ir_bits_Reader_Take.body] (genvOf 0 us) h fun env h1 => ∃ vs, gres env h1 [.tmp 4, .tmp 5] = some vs ∧ ∃ w h', gfin .rw vs h1 = some (w, h') ∧ R w h') : ∃ w h', GF gtab fid_bits_Reader_Take us h lo = some (w, h') ∧ R w h' := GF_fnR gt_bits_Reader_Take hl k
theorem fn_gamma_Take {us : List U} {h h' : GH} {lo : Nat} {w : U} (hl : us.length = 1) (k : Z gtab ⟨[], []⟩ lo [.c ir_gamma_Take.body] (genvOf 0 us) h fun env h1 => ∃ vs, gres env h1 [.tmp 2, .tmp 3] = some vs ∧ gfin .rw vs h1 = some (w, h')) : GF gtab fid_gamma_Take us h lo = some (w, h') := GF_fn gt_gamma_Take hl k
theorem fnR_gamma_Take {us : List U} {h : GH} {lo : Nat} {R : U → GH → Prop} (hl : us.length = 1) (k : Z gtab ⟨[], []⟩ lo [.c ir_gamma_Take.body] (genvOf 0 us) h fun env h1 => ∃ vs, gres env h1 [.tmp 2, .tmp 3] = some vs ∧ ∃ w h', gfin .rw vs h1 = some (w, h') ∧ R w h') : ∃ w h', GF gtab fid_gamma_Take us h lo = some (w, h') ∧ R w h' := GF_fnR gt_gamma_Take hl k
theorem fn_archipelagolaw3_known {us : List U} {h h' : GH} {lo : Nat} {w : U} (hl : us.length = 0) (k : Z gtab ⟨[], []⟩ lo [.c ir_archipelagolaw3_known.body] (genvOf 0 us) h fun env h1 => ∃ vs, gres env h1 [.tmp 0] = some vs ∧ gfin .own vs h1 = some (w, h')) : GF gtab fid_archipelagolaw3_known us h lo = some (w, h') := GF_fn gt_archipelagolaw3_known hl k
theorem fnR_archipelagolaw3_known {us : List U} {h : GH} {lo : Nat} {R : U → GH → Prop} (hl : us.length = 0) (k : Z gtab ⟨[], []⟩ lo [.c ir_archipelagolaw3_known.body] (genvOf 0 us) h fun env h1 => ∃ vs, gres env h1 [.tmp 0] = some vs ∧ ∃ w h', gfin .own vs h1 = some (w, h') ∧ R w h') : ∃ w h', GF gtab fid_archipelagolaw3_known us h lo = some (w, h') ∧ R w h' := GF_fnR gt_archipelagolaw3_known hl k
theorem fn_archipelagoref1_length {us : List U} {h h' : GH} {lo : Nat} {w : U} (hl : us.length = 1) (k : Z gtab ⟨[], []⟩ lo [.c ir_archipelagoref1_length.body] (genvOf 0 us) h fun env h1 => ∃ vs, gres env h1 [.tmp 2] = some vs ∧ gfin .own vs h1 = some (w, h')) : GF gtab fid_archipelagoref1_length us h lo = some (w, h') := GF_fn gt_archipelagoref1_length hl k
theorem fnR_archipelagoref1_length {us : List U} {h : GH} {lo : Nat} {R : U → GH → Prop} (hl : us.length = 1) (k : Z gtab ⟨[], []⟩ lo [.c ir_archipelagoref1_length.body] (genvOf 0 us) h fun env h1 => ∃ vs, gres env h1 [.tmp 2] = some vs ∧ ∃ w h', gfin .own vs h1 = some (w, h') ∧ R w h') : ∃ w h', GF gtab fid_archipelagoref1_length us h lo = some (w, h') ∧ R w h' := GF_fnR gt_archipelagoref1_length hl k
theorem fn_archipelagoref1_Writer_Put {us : List U} {h h' : GH} {lo : Nat} {w : U} (hl : us.length = 3) (k : Z gtab ⟨[19], []⟩ lo [.c ir_archipelagoref1_Writer_Put.body] (genvOf 0 us) h fun env h1 => ∃ vs, gres env h1 [] = some vs ∧ gfin .rw vs h1 = some (w, h')) : GF gtab fid_archipelagoref1_Writer_Put us h lo = some (w, h') := GF_fn gt_archipelagoref1_Writer_Put hl k
theorem fnR_archipelagoref1_Writer_Put {us : List U} {h : GH} {lo : Nat} {R : U → GH → Prop} (hl : us.length = 3) (k : Z gtab ⟨[19], []⟩ lo [.c ir_archipelagoref1_Writer_Put.body] (genvOf 0 us) h fun env h1 => ∃ vs, gres env h1 [] = some vs ∧ ∃ w h', gfin .rw vs h1 = some (w, h') ∧ R w h') : ∃ w h', GF gtab fid_archipelagoref1_Writer_Put us h lo = some (w, h') ∧ R w h' := GF_fnR gt_archipelagoref1_Writer_Put hl k
theorem fn_archipelagoref1_GammaPut {us : List U} {h h' : GH} {lo : Nat} {w : U} (hl : us.length = 2) (k : Z gtab ⟨[], []⟩ lo [.c ir_archipelagoref1_GammaPut.body] (genvOf 0 us) h fun env h1 => ∃ vs, gres env h1 [] = some vs ∧ gfin .rw vs h1 = some (w, h')) : GF gtab fid_archipelagoref1_GammaPut us h lo = some (w, h') := GF_fn gt_archipelagoref1_GammaPut hl k
theorem fnR_archipelagoref1_GammaPut {us : List U} {h : GH} {lo : Nat} {R : U → GH → Prop} (hl : us.length = 2) (k : Z gtab ⟨[], []⟩ lo [.c ir_archipelagoref1_GammaPut.body] (genvOf 0 us) h fun env h1 => ∃ vs, gres env h1 [] = some vs ∧ ∃ w h', gfin .rw vs h1 = some (w, h') ∧ R w h') : ∃ w h', GF gtab fid_archipelagoref1_GammaPut us h lo = some (w, h') ∧ R w h' := GF_fnR gt_archipelagoref1_GammaPut hl k
theorem fn_archipelagoref1_GammaSize {us : List U} {h h' : GH} {lo : Nat} {w : U} (hl : us.length = 1) (k : Z gtab ⟨[], []⟩ lo [.c ir_archipelagoref1_GammaSize.body] (genvOf 0 us) h fun env h1 => ∃ vs, gres env h1 [.tmp 2] = some vs ∧ gfin .own vs h1 = some (w, h')) : GF gtab fid_archipelagoref1_GammaSize us h lo = some (w, h') := GF_fn gt_archipelagoref1_GammaSize hl k
theorem fnR_archipelagoref1_GammaSize {us : List U} {h : GH} {lo : Nat} {R : U → GH → Prop} (hl : us.length = 1) (k : Z gtab ⟨[], []⟩ lo [.c ir_archipelagoref1_GammaSize.body] (genvOf 0 us) h fun env h1 => ∃ vs, gres env h1 [.tmp 2] = some vs ∧ ∃ w h', gfin .own vs h1 = some (w, h') ∧ R w h') : ∃ w h', GF gtab fid_archipelagoref1_GammaSize us h lo = some (w, h') ∧ R w h' := GF_fnR gt_archipelagoref1_GammaSize hl k
theorem fn_archipelagoref1_Writer_Bytes {us : List U} {h h' : GH} {lo : Nat} {w : U} (hl : us.length = 1) (k : Z gtab ⟨[], [12]⟩ lo [.c ir_archipelagoref1_Writer_Bytes.body] (genvOf 0 us) h fun env h1 => ∃ vs, gres env h1 [.tmp 2] = some vs ∧ gfin .rw vs h1 = some (w, h')) : GF gtab fid_archipelagoref1_Writer_Bytes us h lo = some (w, h') := GF_fn gt_archipelagoref1_Writer_Bytes hl k
theorem fnR_archipelagoref1_Writer_Bytes {us : List U} {h : GH} {lo : Nat} {R : U → GH → Prop} (hl : us.length = 1) (k : Z gtab ⟨[], [12]⟩ lo [.c ir_archipelagoref1_Writer_Bytes.body] (genvOf 0 us) h fun env h1 => ∃ vs, gres env h1 [.tmp 2] = some vs ∧ ∃ w h', gfin .rw vs h1 = some (w, h') ∧ R w h') : ∃ w h', GF gtab fid_archipelagoref1_Writer_Bytes us h lo = some (w, h') ∧ R w h' := GF_fnR gt_archipelagoref1_Writer_Bytes hl k
theorem fn_archipelagoref1_Reader_Left {us : List U} {h h' : GH} {lo : Nat} {w : U} (hl : us.length = 1) (k : Z gtab ⟨[], []⟩ lo [.c ir_archipelagoref1_Reader_Left.body] (genvOf 0 us) h fun env h1 => ∃ vs, gres env h1 [.tmp 2] = some vs ∧ gfin .ro vs h1 = some (w, h')) : GF gtab fid_archipelagoref1_Reader_Left us h lo = some (w, h') := GF_fn gt_archipelagoref1_Reader_Left hl k
theorem fnR_archipelagoref1_Reader_Left {us : List U} {h : GH} {lo : Nat} {R : U → GH → Prop} (hl : us.length = 1) (k : Z gtab ⟨[], []⟩ lo [.c ir_archipelagoref1_Reader_Left.body] (genvOf 0 us) h fun env h1 => ∃ vs, gres env h1 [.tmp 2] = some vs ∧ ∃ w h', gfin .ro vs h1 = some (w, h') ∧ R w h') : ∃ w h', GF gtab fid_archipelagoref1_Reader_Left us h lo = some (w, h') ∧ R w h' := GF_fnR gt_archipelagoref1_Reader_Left hl k
theorem fn_archipelagoref1_Reader_Take {us : List U} {h h' : GH} {lo : Nat} {w : U} (hl : us.length = 2) (k : Z gtab ⟨[], []⟩ lo [.c ir_archipelagoref1_Reader_Take.body] (genvOf 0 us) h fun env h1 => ∃ vs, gres env h1 [.tmp 4, .tmp 5] = some vs ∧ gfin .rw vs h1 = some (w, h')) : GF gtab fid_archipelagoref1_Reader_Take us h lo = some (w, h') := GF_fn gt_archipelagoref1_Reader_Take hl k
theorem fnR_archipelagoref1_Reader_Take {us : List U} {h : GH} {lo : Nat} {R : U → GH → Prop} (hl : us.length = 2) (k : Z gtab ⟨[], []⟩ lo [.c ir_archipelagoref1_Reader_Take.body] (genvOf 0 us) h fun env h1 => ∃ vs, gres env h1 [.tmp 4, .tmp 5] = some vs ∧ ∃ w h', gfin .rw vs h1 = some (w, h') ∧ R w h') : ∃ w h', GF gtab fid_archipelagoref1_Reader_Take us h lo = some (w, h') ∧ R w h' := GF_fnR gt_archipelagoref1_Reader_Take hl k
theorem fn_archipelagoref1_GammaTake {us : List U} {h h' : GH} {lo : Nat} {w : U} (hl : us.length = 1) (k : Z gtab ⟨[], []⟩ lo [.c ir_archipelagoref1_GammaTake.body] (genvOf 0 us) h fun env h1 => ∃ vs, gres env h1 [.tmp 2, .tmp 3] = some vs ∧ gfin .rw vs h1 = some (w, h')) : GF gtab fid_archipelagoref1_GammaTake us h lo = some (w, h') := GF_fn gt_archipelagoref1_GammaTake hl k
theorem fnR_archipelagoref1_GammaTake {us : List U} {h : GH} {lo : Nat} {R : U → GH → Prop} (hl : us.length = 1) (k : Z gtab ⟨[], []⟩ lo [.c ir_archipelagoref1_GammaTake.body] (genvOf 0 us) h fun env h1 => ∃ vs, gres env h1 [.tmp 2, .tmp 3] = some vs ∧ ∃ w h', gfin .rw vs h1 = some (w, h') ∧ R w h') : ∃ w h', GF gtab fid_archipelagoref1_GammaTake us h lo = some (w, h') ∧ R w h' := GF_fnR gt_archipelagoref1_GammaTake hl k
theorem fn_archipelagolaw3_GammaTells {us : List U} {h h' : GH} {lo : Nat} {w : U} (hl : us.length = 3) (k : Z gtab ⟨[], []⟩ lo [.c ir_archipelagolaw3_GammaTells.body] (genvOf 0 us) h fun env h1 => ∃ vs, gres env h1 [.tmp 6] = some vs ∧ gfin .own vs h1 = some (w, h')) : GF gtab fid_archipelagolaw3_GammaTells us h lo = some (w, h') := GF_fn gt_archipelagolaw3_GammaTells hl k
theorem fnR_archipelagolaw3_GammaTells {us : List U} {h : GH} {lo : Nat} {R : U → GH → Prop} (hl : us.length = 3) (k : Z gtab ⟨[], []⟩ lo [.c ir_archipelagolaw3_GammaTells.body] (genvOf 0 us) h fun env h1 => ∃ vs, gres env h1 [.tmp 6] = some vs ∧ ∃ w h', gfin .own vs h1 = some (w, h') ∧ R w h') : ∃ w h', GF gtab fid_archipelagolaw3_GammaTells us h lo = some (w, h') ∧ R w h' := GF_fnR gt_archipelagolaw3_GammaTells hl k
theorem fn_archipelagolaw3_GammaBack {us : List U} {h h' : GH} {lo : Nat} {w : U} (hl : us.length = 2) (k : Z gtab ⟨[], []⟩ lo [.c ir_archipelagolaw3_GammaBack.body] (genvOf 0 us) h fun env h1 => ∃ vs, gres env h1 [.tmp 4] = some vs ∧ gfin .own vs h1 = some (w, h')) : GF gtab fid_archipelagolaw3_GammaBack us h lo = some (w, h') := GF_fn gt_archipelagolaw3_GammaBack hl k
theorem fnR_archipelagolaw3_GammaBack {us : List U} {h : GH} {lo : Nat} {R : U → GH → Prop} (hl : us.length = 2) (k : Z gtab ⟨[], []⟩ lo [.c ir_archipelagolaw3_GammaBack.body] (genvOf 0 us) h fun env h1 => ∃ vs, gres env h1 [.tmp 4] = some vs ∧ ∃ w h', gfin .own vs h1 = some (w, h') ∧ R w h') : ∃ w h', GF gtab fid_archipelagolaw3_GammaBack us h lo = some (w, h') ∧ R w h' := GF_fnR gt_archipelagolaw3_GammaBack hl k
theorem fn_archipelagolaw3_GammaSizes {us : List U} {h h' : GH} {lo : Nat} {w : U} (hl : us.length = 4) (k : Z gtab ⟨[], []⟩ lo [.c ir_archipelagolaw3_GammaSizes.body] (genvOf 0 us) h fun env h1 => ∃ vs, gres env h1 [.tmp 8] = some vs ∧ gfin .own vs h1 = some (w, h')) : GF gtab fid_archipelagolaw3_GammaSizes us h lo = some (w, h') := GF_fn gt_archipelagolaw3_GammaSizes hl k
theorem fnR_archipelagolaw3_GammaSizes {us : List U} {h : GH} {lo : Nat} {R : U → GH → Prop} (hl : us.length = 4) (k : Z gtab ⟨[], []⟩ lo [.c ir_archipelagolaw3_GammaSizes.body] (genvOf 0 us) h fun env h1 => ∃ vs, gres env h1 [.tmp 8] = some vs ∧ ∃ w h', gfin .own vs h1 = some (w, h') ∧ R w h') : ∃ w h', GF gtab fid_archipelagolaw3_GammaSizes us h lo = some (w, h') ∧ R w h' := GF_fnR gt_archipelagolaw3_GammaSizes hl k
theorem fn_archipelagolaw3_GammaCuts {us : List U} {h h' : GH} {lo : Nat} {w : U} (hl : us.length = 4) (k : Z gtab ⟨[], []⟩ lo [.c ir_archipelagolaw3_GammaCuts.body] (genvOf 0 us) h fun env h1 => ∃ vs, gres env h1 [.tmp 8] = some vs ∧ gfin .own vs h1 = some (w, h')) : GF gtab fid_archipelagolaw3_GammaCuts us h lo = some (w, h') := GF_fn gt_archipelagolaw3_GammaCuts hl k
theorem fnR_archipelagolaw3_GammaCuts {us : List U} {h : GH} {lo : Nat} {R : U → GH → Prop} (hl : us.length = 4) (k : Z gtab ⟨[], []⟩ lo [.c ir_archipelagolaw3_GammaCuts.body] (genvOf 0 us) h fun env h1 => ∃ vs, gres env h1 [.tmp 8] = some vs ∧ ∃ w h', gfin .own vs h1 = some (w, h') ∧ R w h') : ∃ w h', GF gtab fid_archipelagolaw3_GammaCuts us h lo = some (w, h') ∧ R w h' := GF_fnR gt_archipelagolaw3_GammaCuts hl k
theorem iq_bits_NewWriter : isRo gtab fid_bits_NewWriter = true := rfl
theorem mk_bits_NewWriter : makes gtab fid_bits_NewWriter = false := rfl
theorem iq_bits_bound : isRo gtab fid_bits_bound = true := rfl
theorem mk_bits_bound : makes gtab fid_bits_bound = true := rfl
theorem iq_bits_Writer_Put : isRo gtab fid_bits_Writer_Put = false := rfl
theorem mk_bits_Writer_Put : makes gtab fid_bits_Writer_Put = false := rfl
theorem iq_math_bits_Len64 : isRo gtab fid_math_bits_Len64 = true := rfl
theorem mk_math_bits_Len64 : makes gtab fid_math_bits_Len64 = true := rfl
theorem iq_gamma_Put : isRo gtab fid_gamma_Put = false := rfl
theorem mk_gamma_Put : makes gtab fid_gamma_Put = false := rfl
theorem iq_bits_Writer_Len : isRo gtab fid_bits_Writer_Len = true := rfl
theorem mk_bits_Writer_Len : makes gtab fid_bits_Writer_Len = false := rfl
theorem iq_gamma_Size : isRo gtab fid_gamma_Size = true := rfl
theorem mk_gamma_Size : makes gtab fid_gamma_Size = true := rfl
theorem iq_slices_Clone_byte_byte : isRo gtab fid_slices_Clone_byte_byte = true := rfl
theorem mk_slices_Clone_byte_byte : makes gtab fid_slices_Clone_byte_byte = true := rfl
theorem iq_bits_Writer_Bytes : isRo gtab fid_bits_Writer_Bytes = true := rfl
theorem mk_bits_Writer_Bytes : makes gtab fid_bits_Writer_Bytes = false := rfl
theorem iq_bits_NewReader : isRo gtab fid_bits_NewReader = true := rfl
theorem mk_bits_NewReader : makes gtab fid_bits_NewReader = false := rfl
theorem iq_bits_Reader_Left : isRo gtab fid_bits_Reader_Left = true := rfl
theorem mk_bits_Reader_Left : makes gtab fid_bits_Reader_Left = false := rfl
theorem iq_bits_Reader_Take : isRo gtab fid_bits_Reader_Take = false := rfl
theorem mk_bits_Reader_Take : makes gtab fid_bits_Reader_Take = false := rfl
theorem iq_gamma_Take : isRo gtab fid_gamma_Take = false := rfl
theorem mk_gamma_Take : makes gtab fid_gamma_Take = false := rfl
theorem iq_archipelagolaw3_known : isRo gtab fid_archipelagolaw3_known = true := rfl
theorem mk_archipelagolaw3_known : makes gtab fid_archipelagolaw3_known = true := rfl
theorem iq_archipelagoref1_length : isRo gtab fid_archipelagoref1_length = true := rfl
theorem mk_archipelagoref1_length : makes gtab fid_archipelagoref1_length = true := rfl
theorem iq_archipelagoref1_Writer_Put : isRo gtab fid_archipelagoref1_Writer_Put = false := rfl
theorem mk_archipelagoref1_Writer_Put : makes gtab fid_archipelagoref1_Writer_Put = false := rfl
theorem iq_archipelagoref1_GammaPut : isRo gtab fid_archipelagoref1_GammaPut = false := rfl
theorem mk_archipelagoref1_GammaPut : makes gtab fid_archipelagoref1_GammaPut = false := rfl
theorem iq_archipelagoref1_GammaSize : isRo gtab fid_archipelagoref1_GammaSize = true := rfl
theorem mk_archipelagoref1_GammaSize : makes gtab fid_archipelagoref1_GammaSize = true := rfl
theorem iq_archipelagoref1_Writer_Bytes : isRo gtab fid_archipelagoref1_Writer_Bytes = false := rfl
theorem mk_archipelagoref1_Writer_Bytes : makes gtab fid_archipelagoref1_Writer_Bytes = false := rfl
theorem iq_archipelagoref1_Reader_Left : isRo gtab fid_archipelagoref1_Reader_Left = true := rfl
theorem mk_archipelagoref1_Reader_Left : makes gtab fid_archipelagoref1_Reader_Left = false := rfl
theorem iq_archipelagoref1_Reader_Take : isRo gtab fid_archipelagoref1_Reader_Take = false := rfl
theorem mk_archipelagoref1_Reader_Take : makes gtab fid_archipelagoref1_Reader_Take = false := rfl
theorem iq_archipelagoref1_GammaTake : isRo gtab fid_archipelagoref1_GammaTake = false := rfl
theorem mk_archipelagoref1_GammaTake : makes gtab fid_archipelagoref1_GammaTake = false := rfl
theorem iq_archipelagolaw3_GammaTells : isRo gtab fid_archipelagolaw3_GammaTells = true := rfl
theorem mk_archipelagolaw3_GammaTells : makes gtab fid_archipelagolaw3_GammaTells = true := rfl
theorem iq_archipelagolaw3_GammaBack : isRo gtab fid_archipelagolaw3_GammaBack = true := rfl
theorem mk_archipelagolaw3_GammaBack : makes gtab fid_archipelagolaw3_GammaBack = true := rfl
theorem iq_archipelagolaw3_GammaSizes : isRo gtab fid_archipelagolaw3_GammaSizes = true := rfl
theorem mk_archipelagolaw3_GammaSizes : makes gtab fid_archipelagolaw3_GammaSizes = true := rfl
theorem iq_archipelagolaw3_GammaCuts : isRo gtab fid_archipelagolaw3_GammaCuts = true := rfl
theorem mk_archipelagolaw3_GammaCuts : makes gtab fid_archipelagolaw3_GammaCuts = true := rfl
theorem gtab_sim : TabSim gtab tab := by
  intro f g h
  unfold gtab at h
  split at h
  · cases h; rfl
  · cases h; rfl
  · cases h; rfl
  · cases h; rfl
  · cases h; rfl
  · cases h; rfl
  · cases h; rfl
  · cases h
  · cases h; rfl
  · cases h; rfl
  · cases h; rfl
  · cases h; rfl
  · cases h; rfl
  · cases h; rfl
  · cases h; rfl
  · cases h; rfl
  · cases h; rfl
  · cases h; rfl
  · cases h; rfl
  · cases h; rfl
  · cases h; rfl
  · cases h; rfl
  · cases h; rfl
  · cases h; rfl
  · cases h; rfl
  · cases h; rfl
  · cases h
theorem gtab_clone : CloneOk gtab tab := by
  intro f e b h
  unfold gtab at h
  split at h
  · cases h
  · cases h
  · cases h
  · cases h
  · cases h
  · cases h
  · cases h
  · cases h; intro st x es low hs hr; exact cloneOk tab_slices_Clone_byte_byte 1 1 (by decide) rfl low hs hr
  · cases h
  · cases h
  · cases h
  · cases h
  · cases h
  · cases h
  · cases h
  · cases h
  · cases h
  · cases h
  · cases h
  · cases h
  · cases h
  · cases h
  · cases h
  · cases h
  · cases h
  · cases h
  · cases h
end Go.Ab
