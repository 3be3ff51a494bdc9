/- The functions as the machine of values has them (printed by wip/irgen.py). -/
import Derived.Test.YtbkbelaogegpgaaTab
import Derived.Test.YtbkbelaogegpgaaValM
namespace Go.Ab
open Go
def g_cmp_Or_int : GFn := ⟨.own, ⟨[], []⟩, ir_cmp_Or_int⟩
def g_cmp_isNaN_int64 : GFn := ⟨.own, ⟨[], []⟩, ir_cmp_isNaN_int64⟩
def g_cmp_Compare_int64 : GFn := ⟨.own, ⟨[], []⟩, ir_cmp_Compare_int64⟩
def g_cmp_isNaN_uint32 : GFn := ⟨.own, ⟨[], []⟩, ir_cmp_isNaN_uint32⟩
def g_cmp_Compare_uint32 : GFn := ⟨.own, ⟨[], []⟩, ir_cmp_Compare_uint32⟩
def g_edge_compare : GFn := ⟨.own, ⟨[], []⟩, ir_edge_compare⟩
def g_edge_Before : GFn := ⟨.own, ⟨[], []⟩, ir_edge_Before⟩
def g_delta_right : GFn := ⟨.own, ⟨[], []⟩, ir_delta_right⟩
def g_bits_NewWriter : GFn := ⟨.ro, ⟨[], []⟩, ir_bits_NewWriter⟩
def g_bits_bound : GFn := ⟨.own, ⟨[], []⟩, ir_bits_bound⟩
def g_bits_Writer_Put : GFn := ⟨.rw, ⟨[24], [26]⟩, ir_bits_Writer_Put⟩
def g_math_bits_Len64 : GFn := ⟨.own, ⟨[], []⟩, ir_math_bits_Len64⟩
def g_gamma_Put : GFn := ⟨.rw, ⟨[], []⟩, ir_gamma_Put⟩
def g_delta_writer_put : GFn := ⟨.rw, ⟨[], []⟩, ir_delta_writer_put⟩
def g_bits_Writer_Bytes : GFn := ⟨.ro, ⟨[], []⟩, ir_bits_Writer_Bytes⟩
def g_delta_Put : GFn := ⟨.own, ⟨[], []⟩, ir_delta_Put⟩
def g_bits_NewReader : GFn := ⟨.ro, ⟨[], []⟩, ir_bits_NewReader⟩
def g_bits_Reader_Left : GFn := ⟨.ro, ⟨[], []⟩, ir_bits_Reader_Left⟩
def g_bits_Reader_Take : GFn := ⟨.rw, ⟨[], []⟩, ir_bits_Reader_Take⟩
def g_gamma_Take : GFn := ⟨.rw, ⟨[], []⟩, ir_gamma_Take⟩
def g_delta_reader_num : GFn := ⟨.rw, ⟨[], []⟩, ir_delta_reader_num⟩
def g_delta_reader_event : GFn := ⟨.rw, ⟨[], []⟩, ir_delta_reader_event⟩
def g_edge_Right : GFn := ⟨.own, ⟨[], []⟩, ir_edge_Right⟩
def g_bytes_Equal : GFn := ⟨.own, ⟨[], []⟩, ir_bytes_Equal⟩
def g_delta_Read : GFn := ⟨.own, ⟨[], []⟩, ir_delta_Read⟩
def g_archipelagoref8_SameEvents : GFn := ⟨.own, ⟨[], []⟩, ir_archipelagoref8_SameEvents⟩
def g_archipelagolaw16_known : GFn := ⟨.own, ⟨[], []⟩, ir_archipelagolaw16_known⟩
def g_archipelagoseat_Vertices : GFn := ⟨.own, ⟨[], []⟩, ir_archipelagoseat_Vertices⟩
def g_archipelagoseat_Edge : GFn := ⟨.own, ⟨[], []⟩, ir_archipelagoseat_Edge⟩
def g_archipelagoref8_Less : GFn := ⟨.own, ⟨[], []⟩, ir_archipelagoref8_Less⟩
def g_archipelagoref8_Before : GFn := ⟨.own, ⟨[], []⟩, ir_archipelagoref8_Before⟩
def g_archipelagoseat_insert : GFn := ⟨.own, ⟨[], []⟩, ir_archipelagoseat_insert⟩
def g_archipelagoref8_Find : GFn := ⟨.own, ⟨[], []⟩, ir_archipelagoref8_Find⟩
def g_archipelagoref8_Has : GFn := ⟨.own, ⟨[], []⟩, ir_archipelagoref8_Has⟩
def g_archipelagoref8_Rising : GFn := ⟨.own, ⟨[], []⟩, ir_archipelagoref8_Rising⟩
def g_archipelagoref8_Turn : GFn := ⟨.own, ⟨[], []⟩, ir_archipelagoref8_Turn⟩
def g_archipelagoseat_History : GFn := ⟨.own, ⟨[98], []⟩, ir_archipelagoseat_History⟩
def g_archipelagoseat_Late : GFn := ⟨.own, ⟨[41], []⟩, ir_archipelagoseat_Late⟩
def g_archipelagoref1_Writer_Put : GFn := ⟨.rw, ⟨[19], []⟩, ir_archipelagoref1_Writer_Put⟩
def g_archipelagoref1_length : GFn := ⟨.own, ⟨[], []⟩, ir_archipelagoref1_length⟩
def g_archipelagoref1_GammaPut : GFn := ⟨.rw, ⟨[], []⟩, ir_archipelagoref1_GammaPut⟩
def g_archipelagoref1_Writer_Bytes : GFn := ⟨.ro, ⟨[], [12]⟩, ir_archipelagoref1_Writer_Bytes⟩
def g_archipelagoref15_DeltaPut : GFn := ⟨.own, ⟨[], []⟩, ir_archipelagoref15_DeltaPut⟩
def g_archipelagoseat_Change : GFn := ⟨.own, ⟨[], [14, 30, 35]⟩, ir_archipelagoseat_Change⟩
def g_archipelagoref1_Reader_Left : GFn := ⟨.ro, ⟨[], []⟩, ir_archipelagoref1_Reader_Left⟩
def g_archipelagoref1_Reader_Take : GFn := ⟨.rw, ⟨[], []⟩, ir_archipelagoref1_Reader_Take⟩
def g_archipelagoref1_GammaTake : GFn := ⟨.rw, ⟨[], []⟩, ir_archipelagoref1_GammaTake⟩
def g_archipelagoref15_event : GFn := ⟨.rw, ⟨[], []⟩, ir_archipelagoref15_event⟩
def g_archipelagoref8_Right : GFn := ⟨.own, ⟨[], []⟩, ir_archipelagoref8_Right⟩
def g_archipelagoref15_DeltaRead : GFn := ⟨.own, ⟨[], []⟩, ir_archipelagoref15_DeltaRead⟩
def g_archipelagolaw16_DeltaTells : GFn := ⟨.own, ⟨[], []⟩, ir_archipelagolaw16_DeltaTells⟩
def gtab : GTab := fun n => match n with
  | 48 => some (.code g_cmp_Or_int)
  | 56 => some (.code g_cmp_isNaN_int64)
  | 49 => some (.code g_cmp_Compare_int64)
  | 58 => some (.code g_cmp_isNaN_uint32)
  | 57 => some (.code g_cmp_Compare_uint32)
  | 50 => some (.code g_edge_compare)
  | 40 => some (.code g_edge_Before)
  | 27 => some (.code g_delta_right)
  | 28 => some (.code g_bits_NewWriter)
  | 52 => some (.code g_bits_bound)
  | 42 => some (.code g_bits_Writer_Put)
  | 51 => some (.code g_math_bits_Len64)
  | 41 => some (.code g_gamma_Put)
  | 29 => some (.code g_delta_writer_put)
  | 43 => some (.clone 1 1)
  | 30 => some (.code g_bits_Writer_Bytes)
  | 11 => some (.code g_delta_Put)
  | 31 => some (.code g_bits_NewReader)
  | 54 => some (.code g_bits_Reader_Left)
  | 45 => some (.code g_bits_Reader_Take)
  | 53 => some (.code g_gamma_Take)
  | 44 => some (.code g_delta_reader_num)
  | 32 => some (.code g_delta_reader_event)
  | 33 => some (.code g_edge_Right)
  | 34 => some (.code g_bytes_Equal)
  | 13 => some (.code g_delta_Read)
  | 15 => some (.code g_archipelagoref8_SameEvents)
  | 7 => some (.code g_archipelagolaw16_known)
  | 18 => some (.code g_archipelagoseat_Vertices)
  | 19 => some (.code g_archipelagoseat_Edge)
  | 16 => some (.code g_archipelagoref8_Less)
  | 23 => some (.code g_archipelagoref8_Before)
  | 20 => some (.code g_archipelagoseat_insert)
  | 38 => some (.code g_archipelagoref8_Find)
  | 21 => some (.code g_archipelagoref8_Has)
  | 39 => some (.code g_archipelagoref8_Rising)
  | 22 => some (.code g_archipelagoref8_Turn)
  | 8 => some (.code g_archipelagoseat_History)
  | 9 => some (.code g_archipelagoseat_Late)
  | 25 => some (.code g_archipelagoref1_Writer_Put)
  | 37 => some (.code g_archipelagoref1_length)
  | 24 => some (.code g_archipelagoref1_GammaPut)
  | 26 => some (.code g_archipelagoref1_Writer_Bytes)
  | 10 => some (.code g_archipelagoref15_DeltaPut)
  | 12 => some (.code g_archipelagoseat_Change)
  | 55 => some (.code g_archipelagoref1_Reader_Left)
  | 47 => some (.code g_archipelagoref1_Reader_Take)
  | 46 => some (.code g_archipelagoref1_GammaTake)
  | 35 => some (.code g_archipelagoref15_event)
  | 36 => some (.code g_archipelagoref8_Right)
  | 14 => some (.code g_archipelagoref15_DeltaRead)
  | 3 => some (.code g_archipelagolaw16_DeltaTells)
  | _ => none
theorem gt_cmp_Or_int : gtab fid_cmp_Or_int = some (.code g_cmp_Or_int) := rfl
theorem gt_cmp_isNaN_int64 : gtab fid_cmp_isNaN_int64 = some (.code g_cmp_isNaN_int64) := rfl
theorem gt_cmp_Compare_int64 : gtab fid_cmp_Compare_int64 = some (.code g_cmp_Compare_int64) := rfl
theorem gt_cmp_isNaN_uint32 : gtab fid_cmp_isNaN_uint32 = some (.code g_cmp_isNaN_uint32) := rfl
theorem gt_cmp_Compare_uint32 : gtab fid_cmp_Compare_uint32 = some (.code g_cmp_Compare_uint32) := rfl
theorem gt_edge_compare : gtab fid_edge_compare = some (.code g_edge_compare) := rfl
theorem gt_edge_Before : gtab fid_edge_Before = some (.code g_edge_Before) := rfl
theorem gt_delta_right : gtab fid_delta_right = some (.code g_delta_right) := rfl
theorem gt_bits_NewWriter : gtab fid_bits_NewWriter = some (.code g_bits_NewWriter) := rfl
theorem gt_bits_bound : gtab fid_bits_bound = some (.code g_bits_bound) := rfl
theorem gt_bits_Writer_Put : gtab fid_bits_Writer_Put = some (.code g_bits_Writer_Put) := rfl
theorem gt_math_bits_Len64 : gtab fid_math_bits_Len64 = some (.code g_math_bits_Len64) := rfl
theorem gt_gamma_Put : gtab fid_gamma_Put = some (.code g_gamma_Put) := rfl
theorem gt_delta_writer_put : gtab fid_delta_writer_put = some (.code g_delta_writer_put) := rfl
theorem gt_bits_Writer_Bytes : gtab fid_bits_Writer_Bytes = some (.code g_bits_Writer_Bytes) := rfl
theorem gt_delta_Put : gtab fid_delta_Put = some (.code g_delta_Put) := rfl
theorem gt_bits_NewReader : gtab fid_bits_NewReader = some (.code g_bits_NewReader) := rfl
theorem gt_bits_Reader_Left : gtab fid_bits_Reader_Left = some (.code g_bits_Reader_Left) := rfl
theorem gt_bits_Reader_Take : gtab fid_bits_Reader_Take = some (.code g_bits_Reader_Take) := rfl
theorem gt_gamma_Take : gtab fid_gamma_Take = some (.code g_gamma_Take) := rfl
theorem gt_delta_reader_num : gtab fid_delta_reader_num = some (.code g_delta_reader_num) := rfl
theorem gt_delta_reader_event : gtab fid_delta_reader_event = some (.code g_delta_reader_event) := rfl
theorem gt_edge_Right : gtab fid_edge_Right = some (.code g_edge_Right) := rfl
theorem gt_bytes_Equal : gtab fid_bytes_Equal = some (.code g_bytes_Equal) := rfl
theorem gt_delta_Read : gtab fid_delta_Read = some (.code g_delta_Read) := rfl
theorem gt_archipelagoref8_SameEvents : gtab fid_archipelagoref8_SameEvents = some (.code g_archipelagoref8_SameEvents) := rfl
theorem gt_archipelagoseat_Vertices : gtab fid_archipelagoseat_Vertices = some (.code g_archipelagoseat_Vertices) := rfl
theorem gt_archipelagoseat_Edge : gtab fid_archipelagoseat_Edge = some (.code g_archipelagoseat_Edge) := rfl
theorem gt_archipelagoref8_Less : gtab fid_archipelagoref8_Less = some (.code g_archipelagoref8_Less) := rfl
theorem gt_archipelagoref8_Before : gtab fid_archipelagoref8_Before = some (.code g_archipelagoref8_Before) := rfl
theorem gt_archipelagoseat_insert : gtab fid_archipelagoseat_insert = some (.code g_archipelagoseat_insert) := rfl
theorem gt_archipelagoref8_Find : gtab fid_archipelagoref8_Find = some (.code g_archipelagoref8_Find) := rfl
theorem gt_archipelagoref8_Has : gtab fid_archipelagoref8_Has = some (.code g_archipelagoref8_Has) := rfl
theorem gt_archipelagoref8_Rising : gtab fid_archipelagoref8_Rising = some (.code g_archipelagoref8_Rising) := rfl
theorem gt_archipelagoref8_Turn : gtab fid_archipelagoref8_Turn = some (.code g_archipelagoref8_Turn) := rfl
theorem gt_archipelagoseat_History : gtab fid_archipelagoseat_History = some (.code g_archipelagoseat_History) := rfl
theorem gt_archipelagoseat_Late : gtab fid_archipelagoseat_Late = some (.code g_archipelagoseat_Late) := rfl
theorem gt_archipelagoref1_Writer_Put : gtab fid_archipelagoref1_Writer_Put = some (.code g_archipelagoref1_Writer_Put) := rfl
theorem gt_archipelagoref1_length : gtab fid_archipelagoref1_length = some (.code g_archipelagoref1_length) := rfl
theorem gt_archipelagoref1_GammaPut : gtab fid_archipelagoref1_GammaPut = some (.code g_archipelagoref1_GammaPut) := rfl
theorem gt_archipelagoref1_Writer_Bytes : gtab fid_archipelagoref1_Writer_Bytes = some (.code g_archipelagoref1_Writer_Bytes) := rfl
theorem gt_archipelagoref15_DeltaPut : gtab fid_archipelagoref15_DeltaPut = some (.code g_archipelagoref15_DeltaPut) := rfl
theorem gt_archipelagoseat_Change : gtab fid_archipelagoseat_Change = some (.code g_archipelagoseat_Change) := rfl
theorem gt_archipelagoref1_Reader_Left : gtab fid_archipelagoref1_Reader_Left = some (.code g_archipelagoref1_Reader_Left) := rfl
theorem gt_archipelagoref1_Reader_Take : gtab fid_archipelagoref1_Reader_Take = some (.code g_archipelagoref1_Reader_Take) := rfl
theorem gt_archipelagoref1_GammaTake : gtab fid_archipelagoref1_GammaTake = some (.code g_archipelagoref1_GammaTake) := rfl
theorem gt_archipelagoref15_event : gtab fid_archipelagoref15_event = some (.code g_archipelagoref15_event) := rfl
theorem gt_archipelagoref8_Right : gtab fid_archipelagoref8_Right = some (.code g_archipelagoref8_Right) := rfl
theorem gt_archipelagoref15_DeltaRead : gtab fid_archipelagoref15_DeltaRead = some (.code g_archipelagoref15_DeltaRead) := rfl
theorem gt_archipelagolaw16_DeltaTells : gtab fid_archipelagolaw16_DeltaTells = some (.code g_archipelagolaw16_DeltaTells) := rfl
theorem gc_cmp_Or_int {call : GCallF} {lo : Nat} {us : List U} {h : GH} : gcall gtab call lo fid_cmp_Or_int us h = ownCall call lo fid_cmp_Or_int us h := rfl
theorem gc_cmp_isNaN_int64 {call : GCallF} {lo : Nat} {us : List U} {h : GH} : gcall gtab call lo fid_cmp_isNaN_int64 us h = ownCall call lo fid_cmp_isNaN_int64 us h := rfl
theorem gc_cmp_Compare_int64 {call : GCallF} {lo : Nat} {us : List U} {h : GH} : gcall gtab call lo fid_cmp_Compare_int64 us h = ownCall call lo fid_cmp_Compare_int64 us h := rfl
theorem gc_cmp_isNaN_uint32 {call : GCallF} {lo : Nat} {us : List U} {h : GH} : gcall gtab call lo fid_cmp_isNaN_uint32 us h = ownCall call lo fid_cmp_isNaN_uint32 us h := rfl
theorem gc_cmp_Compare_uint32 {call : GCallF} {lo : Nat} {us : List U} {h : GH} : gcall gtab call lo fid_cmp_Compare_uint32 us h = ownCall call lo fid_cmp_Compare_uint32 us h := rfl
theorem gc_edge_compare {call : GCallF} {lo : Nat} {us : List U} {h : GH} : gcall gtab call lo fid_edge_compare us h = ownCall call lo fid_edge_compare us h := rfl
theorem gc_edge_Before {call : GCallF} {lo : Nat} {us : List U} {h : GH} : gcall gtab call lo fid_edge_Before us h = ownCall call lo fid_edge_Before us h := rfl
theorem gc_delta_right {call : GCallF} {lo : Nat} {us : List U} {h : GH} : gcall gtab call lo fid_delta_right us h = ownCall call lo fid_delta_right us h := rfl
theorem gc_bits_NewWriter {call : GCallF} {lo : Nat} {us : List U} {h : GH} : gcall gtab call lo fid_bits_NewWriter us h = roCall call lo fid_bits_NewWriter us h := rfl
theorem gc_bits_bound {call : GCallF} {lo : Nat} {us : List U} {h : GH} : gcall gtab call lo fid_bits_bound us h = ownCall call lo fid_bits_bound us h := rfl
theorem gc_bits_Writer_Put {call : GCallF} {lo : Nat} {us : List U} {h : GH} : gcall gtab call lo fid_bits_Writer_Put us h = rwCall call lo fid_bits_Writer_Put us h := rfl
theorem gc_math_bits_Len64 {call : GCallF} {lo : Nat} {us : List U} {h : GH} : gcall gtab call lo fid_math_bits_Len64 us h = ownCall call lo fid_math_bits_Len64 us h := rfl
theorem gc_gamma_Put {call : GCallF} {lo : Nat} {us : List U} {h : GH} : gcall gtab call lo fid_gamma_Put us h = rwCall call lo fid_gamma_Put us h := rfl
theorem gc_delta_writer_put {call : GCallF} {lo : Nat} {us : List U} {h : GH} : gcall gtab call lo fid_delta_writer_put us h = rwCall call lo fid_delta_writer_put us h := rfl
theorem gc_slices_Clone_byte_byte {call : GCallF} {lo : Nat} {us : List U} {h : GH} : gcall gtab call lo fid_slices_Clone_byte_byte us h = cloneCall 1 1 us h := rfl
theorem gc_bits_Writer_Bytes {call : GCallF} {lo : Nat} {us : List U} {h : GH} : gcall gtab call lo fid_bits_Writer_Bytes us h = roCall call lo fid_bits_Writer_Bytes us h := rfl
theorem gc_delta_Put {call : GCallF} {lo : Nat} {us : List U} {h : GH} : gcall gtab call lo fid_delta_Put us h = ownCall call lo fid_delta_Put us h := rfl
theorem gc_bits_NewReader {call : GCallF} {lo : Nat} {us : List U} {h : GH} : gcall gtab call lo fid_bits_NewReader us h = roCall call lo fid_bits_NewReader us h := rfl
theorem gc_bits_Reader_Left {call : GCallF} {lo : Nat} {us : List U} {h : GH} : gcall gtab call lo fid_bits_Reader_Left us h = roCall call lo fid_bits_Reader_Left us h := rfl
theorem gc_bits_Reader_Take {call : GCallF} {lo : Nat} {us : List U} {h : GH} : gcall gtab call lo fid_bits_Reader_Take us h = rwCall call lo fid_bits_Reader_Take us h := rfl
theorem gc_gamma_Take {call : GCallF} {lo : Nat} {us : List U} {h : GH} : gcall gtab call lo fid_gamma_Take us h = rwCall call lo fid_gamma_Take us h := rfl
theorem gc_delta_reader_num {call : GCallF} {lo : Nat} {us : List U} {h : GH} : gcall gtab call lo fid_delta_reader_num us h = rwCall call lo fid_delta_reader_num us h := rfl
theorem gc_delta_reader_event {call : GCallF} {lo : Nat} {us : List U} {h : GH} : gcall gtab call lo fid_delta_reader_event us h = rwCall call lo fid_delta_reader_event us h := rfl
theorem gc_edge_Right {call : GCallF} {lo : Nat} {us : List U} {h : GH} : gcall gtab call lo fid_edge_Right us h = ownCall call lo fid_edge_Right us h := rfl
theorem gc_bytes_Equal {call : GCallF} {lo : Nat} {us : List U} {h : GH} : gcall gtab call lo fid_bytes_Equal us h = ownCall call lo fid_bytes_Equal us h := rfl
theorem gc_delta_Read {call : GCallF} {lo : Nat} {us : List U} {h : GH} : gcall gtab call lo fid_delta_Read us h = ownCall call lo fid_delta_Read us h := rfl
theorem gc_archipelagoref8_SameEvents {call : GCallF} {lo : Nat} {us : List U} {h : GH} : gcall gtab call lo fid_archipelagoref8_SameEvents us h = ownCall call lo fid_archipelagoref8_SameEvents us h := rfl
theorem gc_archipelagolaw16_known {call : GCallF} {lo : Nat} {us : List U} {h : GH} : gcall gtab call lo fid_archipelagolaw16_known us h = ownCall call lo fid_archipelagolaw16_known us h := rfl
theorem gc_archipelagoseat_Vertices {call : GCallF} {lo : Nat} {us : List U} {h : GH} : gcall gtab call lo fid_archipelagoseat_Vertices us h = ownCall call lo fid_archipelagoseat_Vertices us h := rfl
theorem gc_archipelagoseat_Edge {call : GCallF} {lo : Nat} {us : List U} {h : GH} : gcall gtab call lo fid_archipelagoseat_Edge us h = ownCall call lo fid_archipelagoseat_Edge us h := rfl
theorem gc_archipelagoref8_Less {call : GCallF} {lo : Nat} {us : List U} {h : GH} : gcall gtab call lo fid_archipelagoref8_Less us h = ownCall call lo fid_archipelagoref8_Less us h := rfl
theorem gc_archipelagoref8_Before {call : GCallF} {lo : Nat} {us : List U} {h : GH} : gcall gtab call lo fid_archipelagoref8_Before us h = ownCall call lo fid_archipelagoref8_Before us h := rfl
theorem gc_archipelagoseat_insert {call : GCallF} {lo : Nat} {us : List U} {h : GH} : gcall gtab call lo fid_archipelagoseat_insert us h = ownCall call lo fid_archipelagoseat_insert us h := rfl
theorem gc_archipelagoref8_Find {call : GCallF} {lo : Nat} {us : List U} {h : GH} : gcall gtab call lo fid_archipelagoref8_Find us h = ownCall call lo fid_archipelagoref8_Find us h := rfl
theorem gc_archipelagoref8_Has {call : GCallF} {lo : Nat} {us : List U} {h : GH} : gcall gtab call lo fid_archipelagoref8_Has us h = ownCall call lo fid_archipelagoref8_Has us h := rfl
theorem gc_archipelagoref8_Rising {call : GCallF} {lo : Nat} {us : List U} {h : GH} : gcall gtab call lo fid_archipelagoref8_Rising us h = ownCall call lo fid_archipelagoref8_Rising us h := rfl
theorem gc_archipelagoref8_Turn {call : GCallF} {lo : Nat} {us : List U} {h : GH} : gcall gtab call lo fid_archipelagoref8_Turn us h = ownCall call lo fid_archipelagoref8_Turn us h := rfl
theorem gc_archipelagoseat_History {call : GCallF} {lo : Nat} {us : List U} {h : GH} : gcall gtab call lo fid_archipelagoseat_History us h = ownCall call lo fid_archipelagoseat_History us h := rfl
theorem gc_archipelagoseat_Late {call : GCallF} {lo : Nat} {us : List U} {h : GH} : gcall gtab call lo fid_archipelagoseat_Late us h = ownCall call lo fid_archipelagoseat_Late us h := rfl
theorem gc_archipelagoref1_Writer_Put {call : GCallF} {lo : Nat} {us : List U} {h : GH} : gcall gtab call lo fid_archipelagoref1_Writer_Put us h = rwCall call lo fid_archipelagoref1_Writer_Put us h := rfl
theorem gc_archipelagoref1_length {call : GCallF} {lo : Nat} {us : List U} {h : GH} : gcall gtab call lo fid_archipelagoref1_length us h = ownCall call lo fid_archipelagoref1_length us h := rfl
theorem gc_archipelagoref1_GammaPut {call : GCallF} {lo : Nat} {us : List U} {h : GH} : gcall gtab call lo fid_archipelagoref1_GammaPut us h = rwCall call lo fid_archipelagoref1_GammaPut us h := rfl
theorem gc_archipelagoref1_Writer_Bytes {call : GCallF} {lo : Nat} {us : List U} {h : GH} : gcall gtab call lo fid_archipelagoref1_Writer_Bytes us h = roCall call lo fid_archipelagoref1_Writer_Bytes us h := rfl
theorem gc_archipelagoref15_DeltaPut {call : GCallF} {lo : Nat} {us : List U} {h : GH} : gcall gtab call lo fid_archipelagoref15_DeltaPut us h = ownCall call lo fid_archipelagoref15_DeltaPut us h := rfl
theorem gc_archipelagoseat_Change {call : GCallF} {lo : Nat} {us : List U} {h : GH} : gcall gtab call lo fid_archipelagoseat_Change us h = ownCall call lo fid_archipelagoseat_Change us h := rfl
theorem gc_archipelagoref1_Reader_Left {call : GCallF} {lo : Nat} {us : List U} {h : GH} : gcall gtab call lo fid_archipelagoref1_Reader_Left us h = roCall call lo fid_archipelagoref1_Reader_Left us h := rfl
theorem gc_archipelagoref1_Reader_Take {call : GCallF} {lo : Nat} {us : List U} {h : GH} : gcall gtab call lo fid_archipelagoref1_Reader_Take us h = rwCall call lo fid_archipelagoref1_Reader_Take us h := rfl
theorem gc_archipelagoref1_GammaTake {call : GCallF} {lo : Nat} {us : List U} {h : GH} : gcall gtab call lo fid_archipelagoref1_GammaTake us h = rwCall call lo fid_archipelagoref1_GammaTake us h := rfl
theorem gc_archipelagoref15_event {call : GCallF} {lo : Nat} {us : List U} {h : GH} : gcall gtab call lo fid_archipelagoref15_event us h = rwCall call lo fid_archipelagoref15_event us h := rfl
theorem gc_archipelagoref8_Right {call : GCallF} {lo : Nat} {us : List U} {h : GH} : gcall gtab call lo fid_archipelagoref8_Right us h = ownCall call lo fid_archipelagoref8_Right us h := rfl
theorem gc_archipelagoref15_DeltaRead {call : GCallF} {lo : Nat} {us : List U} {h : GH} : gcall gtab call lo fid_archipelagoref15_DeltaRead us h = ownCall call lo fid_archipelagoref15_DeltaRead us h := rfl
theorem fn_cmp_Or_int {us : List U} {h h' : GH} {lo : Nat} {w : U} (hl : us.length = 1) (k : Z gtab ⟨[], []⟩ lo [.c ir_cmp_Or_int.body] (genvOf 0 us) h fun env h1 => ∃ vs, gres env h1 [.tmp 2] = some vs ∧ gfin .own vs h1 = some (w, h')) : GF gtab fid_cmp_Or_int us h lo = some (w, h') := GF_fn gt_cmp_Or_int hl k
theorem fn_cmp_isNaN_int64 {us : List U} {h h' : GH} {lo : Nat} {w : U} (hl : us.length = 1) (k : Z gtab ⟨[], []⟩ lo [.c ir_cmp_isNaN_int64.body] (genvOf 0 us) h fun env h1 => ∃ vs, gres env h1 [.tmp 2] = some vs ∧ gfin .own vs h1 = some (w, h')) : GF gtab fid_cmp_isNaN_int64 us h lo = some (w, h') := GF_fn gt_cmp_isNaN_int64 hl k
theorem fn_cmp_Compare_int64 {us : List U} {h h' : GH} {lo : Nat} {w : U} (hl : us.length = 2) (k : Z gtab ⟨[], []⟩ lo [.c ir_cmp_Compare_int64.body] (genvOf 0 us) h fun env h1 => ∃ vs, gres env h1 [.tmp 4] = some vs ∧ gfin .own vs h1 = some (w, h')) : GF gtab fid_cmp_Compare_int64 us h lo = some (w, h') := GF_fn gt_cmp_Compare_int64 hl k
theorem fn_cmp_isNaN_uint32 {us : List U} {h h' : GH} {lo : Nat} {w : U} (hl : us.length = 1) (k : Z gtab ⟨[], []⟩ lo [.c ir_cmp_isNaN_uint32.body] (genvOf 0 us) h fun env h1 => ∃ vs, gres env h1 [.tmp 2] = some vs ∧ gfin .own vs h1 = some (w, h')) : GF gtab fid_cmp_isNaN_uint32 us h lo = some (w, h') := GF_fn gt_cmp_isNaN_uint32 hl k
theorem fn_cmp_Compare_uint32 {us : List U} {h h' : GH} {lo : Nat} {w : U} (hl : us.length = 2) (k : Z gtab ⟨[], []⟩ lo [.c ir_cmp_Compare_uint32.body] (genvOf 0 us) h fun env h1 => ∃ vs, gres env h1 [.tmp 4] = some vs ∧ gfin .own vs h1 = some (w, h')) : GF gtab fid_cmp_Compare_uint32 us h lo = some (w, h') := GF_fn gt_cmp_Compare_uint32 hl k
theorem fn_edge_compare {us : List U} {h h' : GH} {lo : Nat} {w : U} (hl : us.length = 2) (k : Z gtab ⟨[], []⟩ lo [.c ir_edge_compare.body] (genvOf 0 us) h fun env h1 => ∃ vs, gres env h1 [.tmp 4] = some vs ∧ gfin .own vs h1 = some (w, h')) : GF gtab fid_edge_compare us h lo = some (w, h') := GF_fn gt_edge_compare hl k
theorem fn_edge_Before {us : List U} {h h' : GH} {lo : Nat} {w : U} (hl : us.length = 2) (k : Z gtab ⟨[], []⟩ lo [.c ir_edge_Before.body] (genvOf 0 us) h fun env h1 => ∃ vs, gres env h1 [.tmp 4] = some vs ∧ gfin .own vs h1 = some (w, h')) : GF gtab fid_edge_Before us h lo = some (w, h') := GF_fn gt_edge_Before hl k
theorem fnR_delta_right {us : List U} {h : GH} {lo : Nat} {R : U → GH → Prop} (hl : us.length = 2) (k : Z gtab ⟨[], []⟩ lo [.c ir_delta_right.body] (genvOf 0 us) h fun env h1 => ∃ vs, gres env h1 [.tmp 4] = some vs ∧ ∃ w h', gfin .own vs h1 = some (w, h') ∧ R w h') : ∃ w h', GF gtab fid_delta_right us h lo = some (w, h') ∧ R w h' := GF_fnR gt_delta_right hl k
theorem fn_bits_NewWriter {us : List U} {h h' : GH} {lo : Nat} {w : U} (hl : us.length = 0) (k : Z gtab ⟨[], []⟩ lo [.c ir_bits_NewWriter.body] (genvOf 0 us) h fun env h1 => ∃ vs, gres env h1 [.tmp 0] = some vs ∧ gfin .ro vs h1 = some (w, h')) : GF gtab fid_bits_NewWriter us h lo = some (w, h') := GF_fn gt_bits_NewWriter hl k
theorem fn_bits_bound {us : List U} {h h' : GH} {lo : Nat} {w : U} (hl : us.length = 1) (k : Z gtab ⟨[], []⟩ lo [.c ir_bits_bound.body] (genvOf 0 us) h fun env h1 => ∃ vs, gres env h1 [.tmp 2] = some vs ∧ gfin .own vs h1 = some (w, h')) : GF gtab fid_bits_bound us h lo = some (w, h') := GF_fn gt_bits_bound hl k
theorem fnR_bits_Writer_Put {us : List U} {h : GH} {lo : Nat} {R : U → GH → Prop} (hl : us.length = 3) (k : Z gtab ⟨[24], [26]⟩ lo [.c ir_bits_Writer_Put.body] (genvOf 0 us) h fun env h1 => ∃ vs, gres env h1 [] = some vs ∧ ∃ w h', gfin .rw vs h1 = some (w, h') ∧ R w h') : ∃ w h', GF gtab fid_bits_Writer_Put us h lo = some (w, h') ∧ R w h' := GF_fnR gt_bits_Writer_Put hl k
theorem fn_math_bits_Len64 {us : List U} {h h' : GH} {lo : Nat} {w : U} (hl : us.length = 1) (k : Z gtab ⟨[], []⟩ lo [.c ir_math_bits_Len64.body] (genvOf 0 us) h fun env h1 => ∃ vs, gres env h1 [.tmp 2] = some vs ∧ gfin .own vs h1 = some (w, h')) : GF gtab fid_math_bits_Len64 us h lo = some (w, h') := GF_fn gt_math_bits_Len64 hl k
theorem fn_gamma_Put {us : List U} {h h' : GH} {lo : Nat} {w : U} (hl : us.length = 2) (k : Z gtab ⟨[], []⟩ lo [.c ir_gamma_Put.body] (genvOf 0 us) h fun env h1 => ∃ vs, gres env h1 [] = some vs ∧ gfin .rw vs h1 = some (w, h')) : GF gtab fid_gamma_Put us h lo = some (w, h') := GF_fn gt_gamma_Put hl k
theorem fnR_delta_writer_put {us : List U} {h : GH} {lo : Nat} {R : U → GH → Prop} (hl : us.length = 2) (k : Z gtab ⟨[], []⟩ lo [.c ir_delta_writer_put.body] (genvOf 0 us) h fun env h1 => ∃ vs, gres env h1 [] = some vs ∧ ∃ w h', gfin .rw vs h1 = some (w, h') ∧ R w h') : ∃ w h', GF gtab fid_delta_writer_put us h lo = some (w, h') ∧ R w h' := GF_fnR gt_delta_writer_put hl k
theorem fn_bits_Writer_Bytes {us : List U} {h h' : GH} {lo : Nat} {w : U} (hl : us.length = 1) (k : Z gtab ⟨[], []⟩ lo [.c ir_bits_Writer_Bytes.body] (genvOf 0 us) h fun env h1 => ∃ vs, gres env h1 [.tmp 2] = some vs ∧ gfin .ro vs h1 = some (w, h')) : GF gtab fid_bits_Writer_Bytes us h lo = some (w, h') := GF_fn gt_bits_Writer_Bytes hl k
theorem fnR_delta_Put {us : List U} {h : GH} {lo : Nat} {R : U → GH → Prop} (hl : us.length = 2) (k : Z gtab ⟨[], []⟩ lo [.c ir_delta_Put.body] (genvOf 0 us) h fun env h1 => ∃ vs, gres env h1 [.tmp 4, .tmp 5] = some vs ∧ ∃ w h', gfin .own vs h1 = some (w, h') ∧ R w h') : ∃ w h', GF gtab fid_delta_Put us h lo = some (w, h') ∧ R w h' := GF_fnR gt_delta_Put hl k
theorem fn_bits_NewReader {us : List U} {h h' : GH} {lo : Nat} {w : U} (hl : us.length = 1) (k : Z gtab ⟨[], []⟩ lo [.c ir_bits_NewReader.body] (genvOf 0 us) h fun env h1 => ∃ vs, gres env h1 [.tmp 2] = some vs ∧ gfin .ro vs h1 = some (w, h')) : GF gtab fid_bits_NewReader us h lo = some (w, h') := GF_fn gt_bits_NewReader hl k
theorem fn_bits_Reader_Left {us : List U} {h h' : GH} {lo : Nat} {w : U} (hl : us.length = 1) (k : Z gtab ⟨[], []⟩ lo [.c ir_bits_Reader_Left.body] (genvOf 0 us) h fun env h1 => ∃ vs, gres env h1 [.tmp 2] = some vs ∧ gfin .ro vs h1 = some (w, h')) : GF gtab fid_bits_Reader_Left us h lo = some (w, h') := GF_fn gt_bits_Reader_Left hl k
theorem fn_bits_Reader_Take {us : List U} {h h' : GH} {lo : Nat} {w : U} (hl : us.length = 2) (k : Z gtab ⟨[], []⟩ lo [.c ir_bits_Reader_Take.body] (genvOf 0 us) h fun env h1 => ∃ vs, gres env h1 [.tmp 4, .tmp 5] = some vs ∧ gfin .rw vs h1 = some (w, h')) : GF gtab fid_bits_Reader_Take us h lo = some (w, h') := GF_fn gt_bits_Reader_Take hl k
theorem fn_gamma_Take {us : List U} {h h' : GH} {lo : Nat} {w : U} (hl : us.length = 1) (k : Z gtab ⟨[], []⟩ lo [.c ir_gamma_Take.body] (genvOf 0 us) h fun env h1 => ∃ vs, gres env h1 [.tmp 2, .tmp 3] = some vs ∧ gfin .rw vs h1 = some (w, h')) : GF gtab fid_gamma_Take us h lo = some (w, h') := GF_fn gt_gamma_Take hl k
theorem fn_delta_reader_num {us : List U} {h h' : GH} {lo : Nat} {w : U} (hl : us.length = 2) (k : Z gtab ⟨[], []⟩ lo [.c ir_delta_reader_num.body] (genvOf 0 us) h fun env h1 => ∃ vs, gres env h1 [.tmp 4] = some vs ∧ gfin .rw vs h1 = some (w, h')) : GF gtab fid_delta_reader_num us h lo = some (w, h') := GF_fn gt_delta_reader_num hl k
theorem fnR_delta_reader_event {us : List U} {h : GH} {lo : Nat} {R : U → GH → Prop} (hl : us.length = 1) (k : Z gtab ⟨[], []⟩ lo [.c ir_delta_reader_event.body] (genvOf 0 us) h fun env h1 => ∃ vs, gres env h1 [.cell 2 4 true] = some vs ∧ ∃ w h', gfin .rw vs h1 = some (w, h') ∧ R w h') : ∃ w h', GF gtab fid_delta_reader_event us h lo = some (w, h') ∧ R w h' := GF_fnR gt_delta_reader_event hl k
theorem fn_edge_Right {us : List U} {h h' : GH} {lo : Nat} {w : U} (hl : us.length = 2) (k : Z gtab ⟨[], []⟩ lo [.c ir_edge_Right.body] (genvOf 0 us) h fun env h1 => ∃ vs, gres env h1 [.tmp 4] = some vs ∧ gfin .own vs h1 = some (w, h')) : GF gtab fid_edge_Right us h lo = some (w, h') := GF_fn gt_edge_Right hl k
theorem fn_bytes_Equal {us : List U} {h h' : GH} {lo : Nat} {w : U} (hl : us.length = 2) (k : Z gtab ⟨[], []⟩ lo [.c ir_bytes_Equal.body] (genvOf 0 us) h fun env h1 => ∃ vs, gres env h1 [.tmp 4] = some vs ∧ gfin .own vs h1 = some (w, h')) : GF gtab fid_bytes_Equal us h lo = some (w, h') := GF_fn gt_bytes_Equal hl k
theorem fnR_delta_Read {us : List U} {h : GH} {lo : Nat} {R : U → GH → Prop} (hl : us.length = 4) (k : Z gtab ⟨[], []⟩ lo [.c ir_delta_Read.body] (genvOf 0 us) h fun env h1 => ∃ vs, gres env h1 [.tmp 8, .tmp 9] = some vs ∧ ∃ w h', gfin .own vs h1 = some (w, h') ∧ R w h') : ∃ w h', GF gtab fid_delta_Read us h lo = some (w, h') ∧ R w h' := GF_fnR gt_delta_Read hl k
theorem fn_archipelagoref8_SameEvents {us : List U} {h h' : GH} {lo : Nat} {w : U} (hl : us.length = 2) (k : Z gtab ⟨[], []⟩ lo [.c ir_archipelagoref8_SameEvents.body] (genvOf 0 us) h fun env h1 => ∃ vs, gres env h1 [.tmp 4] = some vs ∧ gfin .own vs h1 = some (w, h')) : GF gtab fid_archipelagoref8_SameEvents us h lo = some (w, h') := GF_fn gt_archipelagoref8_SameEvents hl k
theorem fn_archipelagoseat_Vertices {us : List U} {h h' : GH} {lo : Nat} {w : U} (hl : us.length = 1) (k : Z gtab ⟨[], []⟩ lo [.c ir_archipelagoseat_Vertices.body] (genvOf 0 us) h fun env h1 => ∃ vs, gres env h1 [.tmp 2] = some vs ∧ gfin .own vs h1 = some (w, h')) : GF gtab fid_archipelagoseat_Vertices us h lo = some (w, h') := GF_fn gt_archipelagoseat_Vertices hl k
theorem fnR_archipelagoseat_Edge {us : List U} {h : GH} {lo : Nat} {R : U → GH → Prop} (hl : us.length = 3) (k : Z gtab ⟨[], []⟩ lo [.c ir_archipelagoseat_Edge.body] (genvOf 0 us) h fun env h1 => ∃ vs, gres env h1 [.cell 6 2 true, .tmp 7] = some vs ∧ ∃ w h', gfin .own vs h1 = some (w, h') ∧ R w h') : ∃ w h', GF gtab fid_archipelagoseat_Edge us h lo = some (w, h') ∧ R w h' := GF_fnR gt_archipelagoseat_Edge hl k
theorem fn_archipelagoref8_Less {us : List U} {h h' : GH} {lo : Nat} {w : U} (hl : us.length = 2) (k : Z gtab ⟨[], []⟩ lo [.c ir_archipelagoref8_Less.body] (genvOf 0 us) h fun env h1 => ∃ vs, gres env h1 [.tmp 4] = some vs ∧ gfin .own vs h1 = some (w, h')) : GF gtab fid_archipelagoref8_Less us h lo = some (w, h') := GF_fn gt_archipelagoref8_Less hl k
theorem fn_archipelagoref8_Before {us : List U} {h h' : GH} {lo : Nat} {w : U} (hl : us.length = 2) (k : Z gtab ⟨[], []⟩ lo [.c ir_archipelagoref8_Before.body] (genvOf 0 us) h fun env h1 => ∃ vs, gres env h1 [.tmp 4] = some vs ∧ gfin .own vs h1 = some (w, h')) : GF gtab fid_archipelagoref8_Before us h lo = some (w, h') := GF_fn gt_archipelagoref8_Before hl k
theorem fnR_archipelagoseat_insert {us : List U} {h : GH} {lo : Nat} {R : U → GH → Prop} (hl : us.length = 2) (k : Z gtab ⟨[], []⟩ lo [.c ir_archipelagoseat_insert.body] (genvOf 0 us) h fun env h1 => ∃ vs, gres env h1 [.tmp 4] = some vs ∧ ∃ w h', gfin .own vs h1 = some (w, h') ∧ R w h') : ∃ w h', GF gtab fid_archipelagoseat_insert us h lo = some (w, h') ∧ R w h' := GF_fnR gt_archipelagoseat_insert hl k
theorem fnR_archipelagoref8_Find {us : List U} {h : GH} {lo : Nat} {R : U → GH → Prop} (hl : us.length = 2) (k : Z gtab ⟨[], []⟩ lo [.c ir_archipelagoref8_Find.body] (genvOf 0 us) h fun env h1 => ∃ vs, gres env h1 [.tmp 4] = some vs ∧ ∃ w h', gfin .own vs h1 = some (w, h') ∧ R w h') : ∃ w h', GF gtab fid_archipelagoref8_Find us h lo = some (w, h') ∧ R w h' := GF_fnR gt_archipelagoref8_Find hl k
theorem fn_archipelagoref8_Has {us : List U} {h h' : GH} {lo : Nat} {w : U} (hl : us.length = 2) (k : Z gtab ⟨[], []⟩ lo [.c ir_archipelagoref8_Has.body] (genvOf 0 us) h fun env h1 => ∃ vs, gres env h1 [.tmp 4] = some vs ∧ gfin .own vs h1 = some (w, h')) : GF gtab fid_archipelagoref8_Has us h lo = some (w, h') := GF_fn gt_archipelagoref8_Has hl k
theorem fnR_archipelagoref8_Rising {us : List U} {h : GH} {lo : Nat} {R : U → GH → Prop} (hl : us.length = 1) (k : Z gtab ⟨[], []⟩ lo [.c ir_archipelagoref8_Rising.body] (genvOf 0 us) h fun env h1 => ∃ vs, gres env h1 [.tmp 2] = some vs ∧ ∃ w h', gfin .own vs h1 = some (w, h') ∧ R w h') : ∃ w h', GF gtab fid_archipelagoref8_Rising us h lo = some (w, h') ∧ R w h' := GF_fnR gt_archipelagoref8_Rising hl k
theorem fnR_archipelagoref8_Turn {us : List U} {h : GH} {lo : Nat} {R : U → GH → Prop} (hl : us.length = 2) (k : Z gtab ⟨[], []⟩ lo [.c ir_archipelagoref8_Turn.body] (genvOf 0 us) h fun env h1 => ∃ vs, gres env h1 [.tmp 4, .tmp 5] = some vs ∧ ∃ w h', gfin .own vs h1 = some (w, h') ∧ R w h') : ∃ w h', GF gtab fid_archipelagoref8_Turn us h lo = some (w, h') ∧ R w h' := GF_fnR gt_archipelagoref8_Turn hl k
theorem fnR_archipelagoseat_History {us : List U} {h : GH} {lo : Nat} {R : U → GH → Prop} (hl : us.length = 2) (k : Z gtab ⟨[98], []⟩ lo [.c ir_archipelagoseat_History.body] (genvOf 0 us) h fun env h1 => ∃ vs, gres env h1 [.cell 4 2 true] = some vs ∧ ∃ w h', gfin .own vs h1 = some (w, h') ∧ R w h') : ∃ w h', GF gtab fid_archipelagoseat_History us h lo = some (w, h') ∧ R w h' := GF_fnR gt_archipelagoseat_History hl k
theorem fnR_archipelagoseat_Late {us : List U} {h : GH} {lo : Nat} {R : U → GH → Prop} (hl : us.length = 1) (k : Z gtab ⟨[41], []⟩ lo [.c ir_archipelagoseat_Late.body] (genvOf 0 us) h fun env h1 => ∃ vs, gres env h1 [.cell 2 2 true] = some vs ∧ ∃ w h', gfin .own vs h1 = some (w, h') ∧ R w h') : ∃ w h', GF gtab fid_archipelagoseat_Late us h lo = some (w, h') ∧ R w h' := GF_fnR gt_archipelagoseat_Late hl k
theorem fnR_archipelagoref1_Writer_Put {us : List U} {h : GH} {lo : Nat} {R : U → GH → Prop} (hl : us.length = 3) (k : Z gtab ⟨[19], []⟩ lo [.c ir_archipelagoref1_Writer_Put.body] (genvOf 0 us) h fun env h1 => ∃ vs, gres env h1 [] = some vs ∧ ∃ w h', gfin .rw vs h1 = some (w, h') ∧ R w h') : ∃ w h', GF gtab fid_archipelagoref1_Writer_Put us h lo = some (w, h') ∧ R w h' := GF_fnR gt_archipelagoref1_Writer_Put hl k
theorem fn_archipelagoref1_length {us : List U} {h h' : GH} {lo : Nat} {w : U} (hl : us.length = 1) (k : Z gtab ⟨[], []⟩ lo [.c ir_archipelagoref1_length.body] (genvOf 0 us) h fun env h1 => ∃ vs, gres env h1 [.tmp 2] = some vs ∧ gfin .own vs h1 = some (w, h')) : GF gtab fid_archipelagoref1_length us h lo = some (w, h') := GF_fn gt_archipelagoref1_length hl k
theorem fn_archipelagoref1_GammaPut {us : List U} {h h' : GH} {lo : Nat} {w : U} (hl : us.length = 2) (k : Z gtab ⟨[], []⟩ lo [.c ir_archipelagoref1_GammaPut.body] (genvOf 0 us) h fun env h1 => ∃ vs, gres env h1 [] = some vs ∧ gfin .rw vs h1 = some (w, h')) : GF gtab fid_archipelagoref1_GammaPut us h lo = some (w, h') := GF_fn gt_archipelagoref1_GammaPut hl k
theorem fnR_archipelagoref1_Writer_Bytes {us : List U} {h : GH} {lo : Nat} {R : U → GH → Prop} (hl : us.length = 1) (k : Z gtab ⟨[], [12]⟩ lo [.c ir_archipelagoref1_Writer_Bytes.body] (genvOf 0 us) h fun env h1 => ∃ vs, gres env h1 [.tmp 2] = some vs ∧ ∃ w h', gfin .ro vs h1 = some (w, h') ∧ R w h') : ∃ w h', GF gtab fid_archipelagoref1_Writer_Bytes us h lo = some (w, h') ∧ R w h' := GF_fnR gt_archipelagoref1_Writer_Bytes hl k
theorem fnR_archipelagoref15_DeltaPut {us : List U} {h : GH} {lo : Nat} {R : U → GH → Prop} (hl : us.length = 2) (k : Z gtab ⟨[], []⟩ lo [.c ir_archipelagoref15_DeltaPut.body] (genvOf 0 us) h fun env h1 => ∃ vs, gres env h1 [.tmp 4, .tmp 5] = some vs ∧ ∃ w h', gfin .own vs h1 = some (w, h') ∧ R w h') : ∃ w h', GF gtab fid_archipelagoref15_DeltaPut us h lo = some (w, h') ∧ R w h' := GF_fnR gt_archipelagoref15_DeltaPut hl k
theorem fnR_archipelagoseat_Change {us : List U} {h : GH} {lo : Nat} {R : U → GH → Prop} (hl : us.length = 5) (k : Z gtab ⟨[], [14, 30, 35]⟩ lo [.c ir_archipelagoseat_Change.body] (genvOf 0 us) h fun env h1 => ∃ vs, gres env h1 [.tmp 10] = some vs ∧ ∃ w h', gfin .own vs h1 = some (w, h') ∧ R w h') : ∃ w h', GF gtab fid_archipelagoseat_Change us h lo = some (w, h') ∧ R w h' := GF_fnR gt_archipelagoseat_Change hl k
theorem fn_archipelagoref1_Reader_Left {us : List U} {h h' : GH} {lo : Nat} {w : U} (hl : us.length = 1) (k : Z gtab ⟨[], []⟩ lo [.c ir_archipelagoref1_Reader_Left.body] (genvOf 0 us) h fun env h1 => ∃ vs, gres env h1 [.tmp 2] = some vs ∧ gfin .ro vs h1 = some (w, h')) : GF gtab fid_archipelagoref1_Reader_Left us h lo = some (w, h') := GF_fn gt_archipelagoref1_Reader_Left hl k
theorem fn_archipelagoref1_Reader_Take {us : List U} {h h' : GH} {lo : Nat} {w : U} (hl : us.length = 2) (k : Z gtab ⟨[], []⟩ lo [.c ir_archipelagoref1_Reader_Take.body] (genvOf 0 us) h fun env h1 => ∃ vs, gres env h1 [.tmp 4, .tmp 5] = some vs ∧ gfin .rw vs h1 = some (w, h')) : GF gtab fid_archipelagoref1_Reader_Take us h lo = some (w, h') := GF_fn gt_archipelagoref1_Reader_Take hl k
theorem fn_archipelagoref1_GammaTake {us : List U} {h h' : GH} {lo : Nat} {w : U} (hl : us.length = 1) (k : Z gtab ⟨[], []⟩ lo [.c ir_archipelagoref1_GammaTake.body] (genvOf 0 us) h fun env h1 => ∃ vs, gres env h1 [.tmp 2, .tmp 3] = some vs ∧ gfin .rw vs h1 = some (w, h')) : GF gtab fid_archipelagoref1_GammaTake us h lo = some (w, h') := GF_fn gt_archipelagoref1_GammaTake hl k
theorem fnR_archipelagoref15_event {us : List U} {h : GH} {lo : Nat} {R : U → GH → Prop} (hl : us.length = 3) (k : Z gtab ⟨[], []⟩ lo [.c ir_archipelagoref15_event.body] (genvOf 0 us) h fun env h1 => ∃ vs, gres env h1 [.cell 6 4 true, .tmp 7] = some vs ∧ ∃ w h', gfin .rw vs h1 = some (w, h') ∧ R w h') : ∃ w h', GF gtab fid_archipelagoref15_event us h lo = some (w, h') ∧ R w h' := GF_fnR gt_archipelagoref15_event hl k
theorem fn_archipelagoref8_Right {us : List U} {h h' : GH} {lo : Nat} {w : U} (hl : us.length = 2) (k : Z gtab ⟨[], []⟩ lo [.c ir_archipelagoref8_Right.body] (genvOf 0 us) h fun env h1 => ∃ vs, gres env h1 [.tmp 4] = some vs ∧ gfin .own vs h1 = some (w, h')) : GF gtab fid_archipelagoref8_Right us h lo = some (w, h') := GF_fn gt_archipelagoref8_Right hl k
theorem fnR_archipelagoref15_DeltaRead {us : List U} {h : GH} {lo : Nat} {R : U → GH → Prop} (hl : us.length = 4) (k : Z gtab ⟨[], []⟩ lo [.c ir_archipelagoref15_DeltaRead.body] (genvOf 0 us) h fun env h1 => ∃ vs, gres env h1 [.tmp 8, .tmp 9] = some vs ∧ ∃ w h', gfin .own vs h1 = some (w, h') ∧ R w h') : ∃ w h', GF gtab fid_archipelagoref15_DeltaRead us h lo = some (w, h') ∧ R w h' := GF_fnR gt_archipelagoref15_DeltaRead hl k
theorem fn_archipelagolaw16_DeltaTells {us : List U} {h h' : GH} {lo : Nat} {w : U} (hl : us.length = 12) (k : Z gtab ⟨[], []⟩ lo [.c ir_archipelagolaw16_DeltaTells.body] (genvOf 0 us) h fun env h1 => ∃ vs, gres env h1 [.tmp 24] = some vs ∧ gfin .own vs h1 = some (w, h')) : GF gtab fid_archipelagolaw16_DeltaTells us h lo = some (w, h') := GF_fn gt_archipelagolaw16_DeltaTells hl k
theorem iq_cmp_Or_int : isRo gtab fid_cmp_Or_int = true := rfl
theorem iq_cmp_Compare_int64 : isRo gtab fid_cmp_Compare_int64 = true := rfl
theorem iq_cmp_Compare_uint32 : isRo gtab fid_cmp_Compare_uint32 = true := rfl
theorem iq_edge_compare : isRo gtab fid_edge_compare = true := rfl
theorem iq_edge_Before : isRo gtab fid_edge_Before = true := rfl
theorem iq_gamma_Put : isRo gtab fid_gamma_Put = false := rfl
theorem iq_archipelagoseat_Edge : isRo gtab fid_archipelagoseat_Edge = true := rfl
theorem iq_archipelagoref8_Less : isRo gtab fid_archipelagoref8_Less = true := rfl
theorem iq_archipelagoref8_Before : isRo gtab fid_archipelagoref8_Before = true := rfl
theorem gtab_sim : TabSim gtab tab := by
  intro f g h
  unfold gtab at h
  split at h
  · cases h; rfl
  · cases h; rfl
  · cases h; rfl
  · cases h; rfl
  · cases h; rfl
  · cases h; rfl
  · cases h; rfl
  · cases h; rfl
  · cases h; rfl
  · cases h; rfl
  · cases h; rfl
  · cases h; rfl
  · cases h; rfl
  · cases h; rfl
  · cases h
  · cases h; rfl
  · cases h; rfl
  · cases h; rfl
  · cases h; rfl
  · cases h; rfl
  · cases h; rfl
  · cases h; rfl
  · cases h; rfl
  · cases h; rfl
  · cases h; rfl
  · cases h; rfl
  · cases h; rfl
  · cases h; rfl
  · cases h; rfl
  · cases h; rfl
  · cases h; rfl
  · cases h; rfl
  · cases h; rfl
  · cases h; rfl
  · cases h; rfl
  · cases h; rfl
  · cases h; rfl
  · cases h; rfl
  · cases h; rfl
  · cases h; rfl
  · cases h; rfl
  · cases h; rfl
  · cases h; rfl
  · cases h; rfl
  · cases h; rfl
  · cases h; rfl
  · cases h; rfl
  · cases h; rfl
  · cases h; rfl
  · cases h; rfl
  · cases h; rfl
  · cases h; rfl
  · cases h
theorem gtab_clone : CloneOk gtab tab := by
  intro f e b h
  unfold gtab at h
  split at h
  · cases h
  · cases h
  · cases h
  · cases h
  · cases h
  · cases h
  · cases h
  · cases h
  · cases h
  · cases h
  · cases h
  · cases h
  · cases h
  · cases h
  · cases h; intro st x es low hs hr; exact cloneOk tab_slices_Clone_byte_byte 1 1 (by decide) rfl low hs hr
  · cases h
  · cases h
  · cases h
  · cases h
  · cases h
  · cases h
  · cases h
  · cases h
  · cases h
  · cases h
  · cases h
  · cases h
  · cases h
  · cases h
  · cases h
  · cases h
  · cases h
  · cases h
  · cases h
  · cases h
  · cases h
  · cases h
  · cases h
  · cases h
  · cases h
  · cases h
  · cases h
  · cases h
  · cases h
  · cases h
  · cases h
  · cases h
  · cases h
  · cases h
  · cases h
  · cases h
  · cases h
  · cases h
end Go.Ab
