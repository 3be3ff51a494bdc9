/- The functions as the abstract machine has them (printed by wip/irgen.py). -/
import Derived.Test.YtbkbelaogegpgaaAbs1
namespace Go.Ab
open Go
def fid_archipelagolaw16_DeltaTells : Nat := 3
def fid_archipelagolaw16_known : Nat := 7
def fid_archipelagoseat_History : Nat := 8
def fid_archipelagoseat_Late : Nat := 9
def fid_archipelagoref15_DeltaPut : Nat := 10
def fid_delta_Put : Nat := 11
def fid_archipelagoseat_Change : Nat := 12
def fid_delta_Read : Nat := 13
def fid_archipelagoref15_DeltaRead : Nat := 14
def fid_archipelagoref8_SameEvents : Nat := 15
def fid_archipelagoref8_Less : Nat := 16
def fid_archipelagoseat_Vertices : Nat := 18
def fid_archipelagoseat_Edge : Nat := 19
def fid_archipelagoseat_insert : Nat := 20
def fid_archipelagoref8_Has : Nat := 21
def fid_archipelagoref8_Turn : Nat := 22
def fid_archipelagoref8_Before : Nat := 23
def fid_archipelagoref1_GammaPut : Nat := 24
def fid_archipelagoref1_Writer_Put : Nat := 25
def fid_archipelagoref1_Writer_Bytes : Nat := 26
def fid_delta_right : Nat := 27
def fid_bits_NewWriter : Nat := 28
def fid_delta_writer_put : Nat := 29
def fid_bits_Writer_Bytes : Nat := 30
def fid_bits_NewReader : Nat := 31
def fid_delta_reader_event : Nat := 32
def fid_edge_Right : Nat := 33
def fid_bytes_Equal : Nat := 34
def fid_archipelagoref15_event : Nat := 35
def fid_archipelagoref8_Right : Nat := 36
def fid_archipelagoref1_length : Nat := 37
def fid_archipelagoref8_Find : Nat := 38
def fid_archipelagoref8_Rising : Nat := 39
def fid_edge_Before : Nat := 40
def fid_gamma_Put : Nat := 41
def fid_bits_Writer_Put : Nat := 42
def fid_slices_Clone_byte_byte : Nat := 43
def fid_delta_reader_num : Nat := 44
def fid_bits_Reader_Take : Nat := 45
def fid_archipelagoref1_GammaTake : Nat := 46
def fid_archipelagoref1_Reader_Take : Nat := 47
def fid_cmp_Or_int : Nat := 48
def fid_cmp_Compare_int64 : Nat := 49
def fid_edge_compare : Nat := 50
def fid_math_bits_Len64 : Nat := 51
def fid_bits_bound : Nat := 52
def fid_gamma_Take : Nat := 53
def fid_bits_Reader_Left : Nat := 54
def fid_archipelagoref1_Reader_Left : Nat := 55
def fid_cmp_isNaN_int64 : Nat := 56
def fid_cmp_Compare_uint32 : Nat := 57
def fid_cmp_isNaN_uint32 : Nat := 58
def cmp_Or_int_b0 : IC :=
  (.seq (.reg [zi 9 (.bin .lss (.t 8) (.t 7))])
 (.seq (.cond (.t 9)
 (.skip)
 (.exit 0))
 (.seq (.block 1
 (.seq (.reg [zi 10 (.iaddr 1 (.t 6) (.t 8)),
 zi 11 (.load 1 false (.t 10)),
 zi 5 (.mov (.t 11))])
 (.seq (.reg [zi 12 (.mov (.t 5)),
 zi 13 (.mov (.t 3)),
 zi 14 (.bin .neq (.t 12) (.t 13))])
 (.cond (.t 14)
 (.seq (.reg [zi 15 (.mov (.t 5)),
 zi 2 (.mov (.t 15))])
 (.ret))
 (.skip)))))
 (.reg [zi 16 (.bin .add (.t 8) (.c (.int .i64 1))),
 zi 8 (.mov (.t 16))]))))
def ir_cmp_Or_int : IFn :=
  { params := 1, results := [.tmp 2], body :=
  (.seq (.reg [zi 2 (.mov (.c (.int .i64 0)))])
 (.seq (.reg [zi 3 (.mov (.c (.int .i64 0)))])
 (.seq (.seq (.reg [zi 6 (.mov (.t 0)),
 zi 7 (.len .sl (.t 6)),
 zi 8 (.mov (.c (.int .i64 0)))])
 (.block 0
 (.loop [3, 6, 7, 8] cmp_Or_int_b0)))
 (.seq (.reg [zi 17 (.mov (.t 3)),
 zi 2 (.mov (.t 17))])
 (.ret))))) }
def ir_cmp_isNaN_int64 : IFn :=
  { params := 1, results := [.tmp 2], body :=
  (.seq (.reg [zi 2 (.mov (.c (.bool false)))])
 (.seq (.reg [zi 3 (.mov (.t 0)),
 zi 4 (.mov (.t 0)),
 zi 5 (.bin .neq (.t 3) (.t 4)),
 zi 2 (.mov (.t 5))])
 (.ret))) }
def ir_cmp_Compare_int64 : IFn :=
  { params := 2, results := [.tmp 4], body :=
  (.seq (.reg [zi 4 (.mov (.c (.int .i64 0)))])
 (.seq (.reg [zi 7 (.mov (.t 0)),
 zi 8 (.call fid_cmp_isNaN_int64 [(.t 7)]),
 zi 5 (.mov (.t 8))])
 (.seq (.reg [zi 9 (.mov (.t 1)),
 zi 10 (.call fid_cmp_isNaN_int64 [(.t 9)]),
 zi 6 (.mov (.t 10))])
 (.seq (.seq (.reg [zi 11 (.mov (.t 5))])
 (.cond (.t 11)
 (.seq (.seq (.reg [zi 12 (.mov (.t 6))])
 (.cond (.t 12)
 (.seq (.reg [zi 4 (.mov (.c (.int .i64 0)))])
 (.ret))
 (.skip)))
 (.seq (.reg [zi 4 (.mov (.c (.int .i64 (-1))))])
 (.ret)))
 (.skip)))
 (.seq (.seq (.reg [zi 13 (.mov (.t 6))])
 (.cond (.t 13)
 (.seq (.reg [zi 4 (.mov (.c (.int .i64 1)))])
 (.ret))
 (.skip)))
 (.seq (.seq (.reg [zi 14 (.mov (.t 0)),
 zi 15 (.mov (.t 1)),
 zi 16 (.bin .lss (.t 14) (.t 15))])
 (.cond (.t 16)
 (.seq (.reg [zi 4 (.mov (.c (.int .i64 (-1))))])
 (.ret))
 (.skip)))
 (.seq (.seq (.reg [zi 17 (.mov (.t 0)),
 zi 18 (.mov (.t 1)),
 zi 19 (.bin .gtr (.t 17) (.t 18))])
 (.cond (.t 19)
 (.seq (.reg [zi 4 (.mov (.c (.int .i64 1)))])
 (.ret))
 (.skip)))
 (.seq (.reg [zi 4 (.mov (.c (.int .i64 0)))])
 (.ret))))))))) }
def ir_cmp_isNaN_uint32 : IFn :=
  { params := 1, results := [.tmp 2], body :=
  (.seq (.reg [zi 2 (.mov (.c (.bool false)))])
 (.seq (.reg [zi 3 (.mov (.t 0)),
 zi 4 (.mov (.t 0)),
 zi 5 (.bin .neq (.t 3) (.t 4)),
 zi 2 (.mov (.t 5))])
 (.ret))) }
def ir_cmp_Compare_uint32 : IFn :=
  { params := 2, results := [.tmp 4], body :=
  (.seq (.reg [zi 4 (.mov (.c (.int .i64 0)))])
 (.seq (.reg [zi 7 (.mov (.t 0)),
 zi 8 (.call fid_cmp_isNaN_uint32 [(.t 7)]),
 zi 5 (.mov (.t 8))])
 (.seq (.reg [zi 9 (.mov (.t 1)),
 zi 10 (.call fid_cmp_isNaN_uint32 [(.t 9)]),
 zi 6 (.mov (.t 10))])
 (.seq (.seq (.reg [zi 11 (.mov (.t 5))])
 (.cond (.t 11)
 (.seq (.seq (.reg [zi 12 (.mov (.t 6))])
 (.cond (.t 12)
 (.seq (.reg [zi 4 (.mov (.c (.int .i64 0)))])
 (.ret))
 (.skip)))
 (.seq (.reg [zi 4 (.mov (.c (.int .i64 (-1))))])
 (.ret)))
 (.skip)))
 (.seq (.seq (.reg [zi 13 (.mov (.t 6))])
 (.cond (.t 13)
 (.seq (.reg [zi 4 (.mov (.c (.int .i64 1)))])
 (.ret))
 (.skip)))
 (.seq (.seq (.reg [zi 14 (.mov (.t 0)),
 zi 15 (.mov (.t 1)),
 zi 16 (.bin .lss (.t 14) (.t 15))])
 (.cond (.t 16)
 (.seq (.reg [zi 4 (.mov (.c (.int .i64 (-1))))])
 (.ret))
 (.skip)))
 (.seq (.seq (.reg [zi 17 (.mov (.t 0)),
 zi 18 (.mov (.t 1)),
 zi 19 (.bin .gtr (.t 17) (.t 18))])
 (.cond (.t 19)
 (.seq (.reg [zi 4 (.mov (.c (.int .i64 1)))])
 (.ret))
 (.skip)))
 (.seq (.reg [zi 4 (.mov (.c (.int .i64 0)))])
 (.ret))))))))) }
def ir_edge_compare : IFn :=
  { params := 2, results := [.tmp 4], body :=
  (.seq (.reg [zi 2 (.box (.t 0)),
 zi 3 (.box (.t 1)),
 zi 4 (.mov (.c (.int .i64 0)))])
 (.seq (.regD [0, 1, 2, 3, 4, 5, 6, 7, 8, 9, 10, 11, 12] [zi 5 (.faddr 0 (.t 2)),
 zi 6 (.load 1 false (.t 5)),
 zi 7 (.faddr 0 (.t 3)),
 zi 8 (.load 1 false (.t 7)),
 zi 9 (.call fid_cmp_Compare_uint32 [(.t 6), (.t 8)]),
 zi 10 (.faddr 1 (.t 2)),
 ⟨some 11, .load 1 false (.t 10), none, some (0, 1)⟩,
 zi 12 (.faddr 1 (.t 3)),
 ⟨some 13, .load 1 false (.t 12), none, some (0, 1)⟩,
 zi 14 (.call fid_cmp_Compare_uint32 [(.t 11), (.t 13)]),
 zi 15 (.mkrow 1 2 [(.int .i64 0)] [(0, (.t 9)), (1, (.t 14))]),
 zi 16 (.call fid_cmp_Or_int [(.t 15)]),
 zi 4 (.mov (.t 16))])
 (.ret))) }
def ir_edge_Before : IFn :=
  { params := 2, results := [.tmp 4], body :=
  (.seq (.reg [zi 2 (.box (.t 0)),
 zi 3 (.box (.t 1)),
 zi 4 (.mov (.c (.bool false)))])
 (.seq (.regD [0, 1, 2, 3, 4, 5, 6, 7, 8, 9, 10, 11, 12, 13] [zi 5 (.faddr 0 (.t 2)),
 zi 6 (.load 1 false (.t 5)),
 zi 7 (.faddr 0 (.t 3)),
 zi 8 (.load 1 false (.t 7)),
 zi 9 (.call fid_cmp_Compare_int64 [(.t 6), (.t 8)]),
 zi 10 (.faddr 1 (.t 2)),
 ⟨some 11, .load 2 true (.t 10), none, some (0, 1)⟩,
 zi 12 (.faddr 1 (.t 3)),
 ⟨some 13, .load 2 true (.t 12), none, some (0, 1)⟩,
 zi 14 (.call fid_edge_compare [(.t 11), (.t 13)]),
 zi 15 (.mkrow 1 2 [(.int .i64 0)] [(0, (.t 9)), (1, (.t 14))]),
 zi 16 (.call fid_cmp_Or_int [(.t 15)]),
 zi 17 (.bin .lss (.t 16) (.c (.int .i64 0))),
 zi 4 (.mov (.t 17))])
 (.ret))) }
def delta_right_b0 : IC :=
  (.seq (.reg [zi 10 (.bin .lss (.t 9) (.t 8))])
 (.seq (.cond (.t 10)
 (.skip)
 (.exit 0))
 (.seq (.block 1
 (.seq (.reg [zi 11 (.mov (.t 9)),
 zi 12 (.iaddr 4 (.t 7) (.t 9)),
 zi 13 (.load 4 true (.t 12)),
 zi 6 (.box (.c (.agg [(.int .i64 0), (.int .u32 0), (.int .u32 0), (.bool false)]))),
 zi 5 (.mov (.t 11)),
 zn (.store 4 (.t 6) (.t 13))])
 (.seq (.regD [0, 1, 2, 3, 4, 5, 6, 7, 8, 9, 10, 11, 12, 13, 14, 15, 16, 17, 18, 19, 20, 21, 22, 23, 24, 25, 26, 27, 28, 29, 30] [zi 14 (.faddr 0 (.t 6)),
 zi 15 (.load 1 false (.t 14)),
 zi 16 (.bin .lss (.t 15) (.c (.int .i64 0))),
 zi 17 (.mov (.t 16)),
 zg 18 17 false (.faddr 0 (.t 6)),
 zg 19 17 false (.load 1 false (.t 18)),
 zg 20 17 false (.bin .gtr (.t 19) (.c (.int .i64 4611686018427387903))),
 zi 21 (.pick (.t 17) (.c (.bool true)) (.t 20)),
 zi 22 (.mov (.t 21)),
 zg 23 22 false (.faddr 1 (.t 6)),
 zg 24 22 false (.faddr 0 (.t 23)),
 zg 25 22 false (.load 1 false (.t 24)),
 zg 26 22 false (.faddr 1 (.t 6)),
 zg 27 22 false (.faddr 1 (.t 26)),
 zg 28 22 false (.load 1 false (.t 27)),
 zg 29 22 false (.bin .geq (.t 25) (.t 28)),
 zi 30 (.pick (.t 22) (.c (.bool true)) (.t 29)),
 zi 31 (.mov (.t 30)),
 zg 32 31 false (.mov (.t 5)),
 zg 33 31 false (.bin .gtr (.t 32) (.c (.int .i64 0))),
 zg 34 31 false (.mov (.t 33)),
 zg 35 34 true (.mov (.t 1)),
 zg 36 34 true (.mov (.t 5)),
 zg 37 34 true (.bin .sub (.t 36) (.c (.int .i64 1))),
 zg 38 34 true (.iaddr 4 (.t 35) (.t 37)),
 zg 39 34 true (.load 4 true (.t 38)),
 zg 40 34 true (.load 4 true (.t 6)),
 zg 41 34 true (.call fid_edge_Before [(.t 39), (.t 40)]),
 zg 42 34 true (.un .not (.t 41)),
 zg 43 31 false (.pick (.t 34) (.t 42) (.c (.bool false))),
 zi 44 (.pick (.t 31) (.c (.bool true)) (.t 43))])
 (.cond (.t 44)
 (.seq (.reg [zi 4 (.mov (.c (.bool false)))])
 (.ret))
 (.skip)))))
 (.reg [zi 45 (.bin .add (.t 9) (.c (.int .i64 1))),
 zi 9 (.mov (.t 45))]))))
def ir_delta_right : IFn :=
  { params := 2, results := [.tmp 4], body :=
  (.seq (.reg [zi 4 (.mov (.c (.bool false)))])
 (.seq (.seq (.reg [zi 7 (.mov (.t 1)),
 zi 8 (.len .sl (.t 7)),
 zi 9 (.mov (.c (.int .i64 0)))])
 (.block 0
 (.loop [0, 1, 7, 8, 9] delta_right_b0)))
 (.seq (.reg [zi 46 (.mov (.t 1)),
 zi 47 (.len .sl (.t 46)),
 zi 48 (.bin .eql (.t 47) (.c (.int .i64 0))),
 zi 49 (.mov (.t 48)),
 zg 50 49 false (.mov (.t 1)),
 zg 51 49 false (.iaddr 4 (.t 50) (.c (.int .i64 0))),
 zg 52 49 false (.faddr 0 (.t 51)),
 zg 53 49 false (.load 1 false (.t 52)),
 zg 54 49 false (.mov (.t 0)),
 zg 55 49 false (.bin .eql (.t 53) (.t 54)),
 zi 56 (.pick (.t 49) (.c (.bool true)) (.t 55)),
 zi 4 (.mov (.t 56))])
 (.ret)))) }
def ir_bits_NewWriter : IFn :=
  { params := 0, results := [.tmp 0], body :=
  (.seq (.reg [zi 0 (.mov (.c .nilp))])
 (.seq (.reg [zi 1 (.build [.nils, (.int .i64 0)] []),
 zi 2 (.box (.t 1)),
 zi 0 (.mov (.t 2))])
 (.ret))) }
def ir_bits_bound : IFn :=
  { params := 1, results := [.tmp 2], body :=
  (.seq (.reg [zi 2 (.mov (.c (.int .i64 0)))])
 (.seq (.reg [zi 3 (.mov (.t 0)),
 zi 4 (.minmax false [(.t 3), (.c (.int .i64 0))]),
 zi 5 (.minmax true [(.t 4), (.c (.int .i64 64))]),
 zi 2 (.mov (.t 5))])
 (.ret))) }
def bits_Writer_Put_b0 : IC :=
  (.seq (.seq (.reg [zi 10 (.mov (.t 6)),
 zi 11 (.bin .geq (.t 10) (.c (.int .i64 0)))])
 (.cond (.t 11)
 (.skip)
 (.exit 0)))
 (.seq (.block 1
 (.seq (.seq (.reg [zi 14 (.mov (.t 0)),
 zi 15 (.nilck (.t 14)),
 zi 16 (.faddr 1 (.t 15)),
 zi 17 (.load 1 false (.t 16)),
 zi 18 (.bin .rem (.t 17) (.c (.int .i64 8))),
 zi 19 (.bin .eql (.t 18) (.c (.int .i64 0)))])
 (.cond (.t 19)
 (.reg [zi 20 (.mov (.t 0)),
 zi 21 (.mov (.t 0)),
 zi 22 (.nilck (.t 21)),
 zi 23 (.faddr 0 (.t 22)),
 zi 24 (.load 1 false (.t 23)),
 zi 25 (.mkrow 1 1 [(.int .u8 0)] [(0, (.c (.int .u8 0)))]),
 zi 26 (.append 1 1 (.t 24) (.t 25)),
 zi 27 (.nilck (.t 20)),
 zi 28 (.faddr 0 (.t 27)),
 zn (.store 1 (.t 28) (.t 26))])
 (.skip)))
 (.seq (.regD [0, 1, 2, 3, 4, 5, 6, 7, 8, 9, 10, 11, 12, 13, 14, 15, 16, 17, 18, 19, 20, 21, 22, 23, 24] [zi 29 (.mov (.t 0)),
 zi 30 (.nilck (.t 29)),
 zi 31 (.faddr 0 (.t 30)),
 zi 32 (.load 1 false (.t 31)),
 zi 33 (.mov (.t 0)),
 zi 34 (.nilck (.t 33)),
 zi 35 (.faddr 1 (.t 34)),
 zi 36 (.load 1 false (.t 35)),
 zi 37 (.bin .quo (.t 36) (.c (.int .i64 8))),
 zi 38 (.iaddr 1 (.t 32) (.t 37)),
 zi 39 (.load 1 false (.t 38)),
 zi 40 (.mov (.t 1)),
 zi 41 (.mov (.t 6)),
 zi 42 (.bin .shr (.t 40) (.t 41)),
 zi 43 (.bin .and (.t 42) (.c (.int .u64 1))),
 zi 44 (.conv .u8 (.t 43)),
 zi 45 (.mov (.t 0)),
 zi 46 (.nilck (.t 45)),
 zi 47 (.faddr 1 (.t 46)),
 zi 48 (.load 1 false (.t 47)),
 zi 49 (.bin .rem (.t 48) (.c (.int .i64 8))),
 zi 50 (.bin .shl (.t 44) (.t 49)),
 zi 51 (.bin .or (.t 39) (.t 50)),
 zi 52 (.iaddr 1 (.t 32) (.t 37)),
 zn (.store 1 (.t 52) (.t 51))])
 (.reg [zi 53 (.mov (.t 0)),
 zi 54 (.nilck (.t 53)),
 zi 55 (.faddr 1 (.t 54)),
 zi 56 (.load 1 false (.t 55)),
 zi 57 (.bin .add (.t 56) (.c (.int .i64 1))),
 zi 58 (.nilck (.t 53)),
 zi 59 (.faddr 1 (.t 58)),
 zn (.store 1 (.t 59) (.t 57))]))))
 (.reg [zi 12 (.mov (.t 6)),
 zi 13 (.bin .sub (.t 12) (.c (.int .i64 1))),
 zi 6 (.mov (.t 13))])))
def ir_bits_Writer_Put : IFn :=
  { params := 3, results := [], body :=
  (.seq (.reg [zi 7 (.mov (.t 2)),
 zi 8 (.call fid_bits_bound [(.t 7)]),
 zi 9 (.bin .sub (.t 8) (.c (.int .i64 1))),
 zi 6 (.mov (.t 9))])
 (.block 0
 (.loop [0, 1, 6] bits_Writer_Put_b0))) }
def ir_math_bits_Len64 : IFn :=
  { params := 1, results := [.tmp 2], body :=
  (.seq (.reg [zi 2 (.mov (.c (.int .i64 0)))])
 (.seq (.seq (.reg [zi 3 (.mov (.t 0)),
 zi 4 (.bin .geq (.t 3) (.c (.int .u64 4294967296)))])
 (.cond (.t 4)
 (.seq (.reg [zi 5 (.mov (.t 0)),
 zi 6 (.bin .shr (.t 5) (.c (.int .u64 32))),
 zi 0 (.mov (.t 6))])
 (.reg [zi 2 (.mov (.c (.int .i64 32)))]))
 (.skip)))
 (.seq (.seq (.reg [zi 7 (.mov (.t 0)),
 zi 8 (.bin .geq (.t 7) (.c (.int .u64 65536)))])
 (.cond (.t 8)
 (.seq (.reg [zi 9 (.mov (.t 0)),
 zi 10 (.bin .shr (.t 9) (.c (.int .u64 16))),
 zi 0 (.mov (.t 10))])
 (.reg [zi 11 (.mov (.t 2)),
 zi 12 (.bin .add (.t 11) (.c (.int .i64 16))),
 zi 2 (.mov (.t 12))]))
 (.skip)))
 (.seq (.seq (.reg [zi 13 (.mov (.t 0)),
 zi 14 (.bin .geq (.t 13) (.c (.int .u64 256)))])
 (.cond (.t 14)
 (.seq (.reg [zi 15 (.mov (.t 0)),
 zi 16 (.bin .shr (.t 15) (.c (.int .u64 8))),
 zi 0 (.mov (.t 16))])
 (.reg [zi 17 (.mov (.t 2)),
 zi 18 (.bin .add (.t 17) (.c (.int .i64 8))),
 zi 2 (.mov (.t 18))]))
 (.skip)))
 (.seq (.reg [zi 19 (.mov (.t 2)),
 zi 20 (.mov (.t 0)),
 zi 21 (.conv .u8 (.t 20)),
 zi 22 (.index (.c (.str [0, 1, 2, 2, 3, 3, 3, 3, 4, 4, 4, 4, 4, 4, 4, 4, 5, 5, 5, 5, 5, 5, 5, 5, 5, 5, 5, 5, 5, 5, 5, 5, 6, 6, 6, 6, 6, 6, 6, 6, 6, 6, 6, 6, 6, 6, 6, 6, 6, 6, 6, 6, 6, 6, 6, 6, 6, 6, 6, 6, 6, 6, 6, 6, 7, 7, 7, 7, 7, 7, 7, 7, 7, 7, 7, 7, 7, 7, 7, 7, 7, 7, 7, 7, 7, 7, 7, 7, 7, 7, 7, 7, 7, 7, 7, 7, 7, 7, 7, 7, 7, 7, 7, 7, 7, 7, 7, 7, 7, 7, 7, 7, 7, 7, 7, 7, 7, 7, 7, 7, 7, 7, 7, 7, 7, 7, 7, 7, 8, 8, 8, 8, 8, 8, 8, 8, 8, 8, 8, 8, 8, 8, 8, 8, 8, 8, 8, 8, 8, 8, 8, 8, 8, 8, 8, 8, 8, 8, 8, 8, 8, 8, 8, 8, 8, 8, 8, 8, 8, 8, 8, 8, 8, 8, 8, 8, 8, 8, 8, 8, 8, 8, 8, 8, 8, 8, 8, 8, 8, 8, 8, 8, 8, 8, 8, 8, 8, 8, 8, 8, 8, 8, 8, 8, 8, 8, 8, 8, 8, 8, 8, 8, 8, 8, 8, 8, 8, 8, 8, 8, 8, 8, 8, 8, 8, 8, 8, 8, 8, 8, 8, 8, 8, 8, 8, 8, 8, 8, 8, 8, 8, 8, 8, 8, 8, 8, 8, 8, 8, 8, 8, 8, 8, 8, 8, 8])) (.t 21)),
 zi 23 (.conv .i64 (.t 22)),
 zi 24 (.bin .add (.t 19) (.t 23)),
 zi 2 (.mov (.t 24))])
 (.ret)))))) }
def ir_gamma_Put : IFn :=
  { params := 2, results := [], body :=
  (.seq (.seq (.reg [zi 5 (.mov (.t 0)),
 zi 6 (.eq .ptr false (.t 5) (.c .nilp)),
 zi 7 (.mov (.t 6)),
 zg 8 7 false (.mov (.t 1)),
 zg 9 7 false (.bin .eql (.t 8) (.c (.int .u64 0))),
 zi 10 (.pick (.t 7) (.c (.bool true)) (.t 9))])
 (.cond (.t 10)
 (.ret)
 (.skip)))
 (.seq (.reg [zi 11 (.mov (.t 1)),
 zi 12 (.call fid_math_bits_Len64 [(.t 11)]),
 zi 4 (.mov (.t 12))])
 (.seq (.reg [zi 13 (.mov (.t 0)),
 zi 14 (.mov (.t 4)),
 zi 15 (.bin .sub (.t 14) (.c (.int .i64 1))),
 zi 16 (.call fid_bits_Writer_Put [(.t 13), (.c (.int .u64 0)), (.t 15)])])
 (.reg [zi 17 (.mov (.t 0)),
 zi 18 (.mov (.t 1)),
 zi 19 (.mov (.t 4)),
 zi 20 (.call fid_bits_Writer_Put [(.t 17), (.t 18), (.t 19)])])))) }
def ir_delta_writer_put : IFn :=
  { params := 2, results := [], body :=
  (.seq (.reg [zi 3 (.box (.t 1))])
 (.seq (.regD [0, 1, 2, 3, 4, 5, 6, 7, 8, 9, 10, 11, 12, 13, 14] [zi 8 (.mov (.t 0)),
 zi 9 (.nilck (.t 8)),
 zi 10 (.faddr 0 (.t 9)),
 zi 11 (.load 1 false (.t 10)),
 zi 12 (.faddr 0 (.t 3)),
 zi 13 (.load 1 false (.t 12)),
 zi 14 (.mov (.t 0)),
 zi 15 (.nilck (.t 14)),
 zi 16 (.faddr 1 (.t 15)),
 zi 17 (.faddr 0 (.t 16)),
 zi 18 (.load 1 false (.t 17)),
 zi 19 (.bin .sub (.t 13) (.t 18)),
 zi 20 (.conv .u64 (.t 19)),
 zi 21 (.bin .add (.t 20) (.c (.int .u64 1))),
 zi 22 (.call fid_gamma_Put [(.t 11), (.t 21)])])
 (.seq (.reg [zi 4 (.mov (.c (.int .u64 0)))])
 (.seq (.seq (.reg [zi 23 (.faddr 3 (.t 3)),
 zi 24 (.load 1 false (.t 23))])
 (.cond (.t 24)
 (.reg [zi 4 (.mov (.c (.int .u64 1)))])
 (.skip)))
 (.seq (.reg [zi 25 (.mov (.t 0)),
 zi 26 (.nilck (.t 25)),
 zi 27 (.faddr 0 (.t 26)),
 zi 28 (.load 1 false (.t 27)),
 zi 29 (.mov (.t 4)),
 zi 30 (.call fid_bits_Writer_Put [(.t 28), (.t 29), (.c (.int .i64 1))])])
 (.seq (.regD [0, 1, 2, 3, 4, 5, 6, 7, 8, 9, 10, 11, 12, 13, 14, 15, 16, 17, 18, 19, 20, 21] [zi 31 (.faddr 1 (.t 3)),
 zi 32 (.faddr 0 (.t 31)),
 zi 33 (.load 1 false (.t 32)),
 zi 34 (.conv .u64 (.t 33)),
 zi 35 (.bin .add (.t 34) (.c (.int .u64 1))),
 zi 36 (.faddr 1 (.t 3)),
 zi 37 (.faddr 1 (.t 36)),
 zi 38 (.load 1 false (.t 37)),
 zi 39 (.faddr 1 (.t 3)),
 zi 40 (.faddr 0 (.t 39)),
 zi 41 (.load 1 false (.t 40)),
 zi 42 (.bin .sub (.t 38) (.t 41)),
 zi 43 (.conv .u64 (.t 42)),
 zi 44 (.mov (.t 0)),
 zi 45 (.nilck (.t 44)),
 zi 46 (.faddr 1 (.t 45)),
 zi 47 (.faddr 1 (.t 46)),
 zi 48 (.load 2 true (.t 47)),
 zi 7 (.box (.c (.agg [(.int .u32 0), (.int .u32 0)]))),
 zi 5 (.mov (.t 35)),
 zi 6 (.mov (.t 43)),
 zn (.store 2 (.t 7) (.t 48))])
 (.seq (.seq (.regD [0, 1, 2, 3, 4, 5, 6, 7, 8, 9, 10, 11, 12, 13] [zi 49 (.mov (.t 0)),
 zi 50 (.nilck (.t 49)),
 zi 51 (.faddr 5 (.t 50)),
 zi 52 (.load 1 false (.t 51)),
 zi 53 (.mov (.t 52)),
 zg 54 53 true (.faddr 0 (.t 3)),
 zg 55 53 true (.load 1 false (.t 54)),
 zg 56 53 true (.mov (.t 0)),
 zg 57 53 true (.nilck (.t 56)),
 zg 58 53 true (.faddr 1 (.t 57)),
 zg 59 53 true (.faddr 0 (.t 58)),
 zg 60 53 true (.load 1 false (.t 59)),
 zg 61 53 true (.bin .eql (.t 55) (.t 60)),
 zi 62 (.pick (.t 53) (.t 61) (.c (.bool false)))])
 (.cond (.t 62)
 (.seq (.reg [zi 63 (.mov (.t 5)),
 zi 64 (.faddr 0 (.t 7)),
 zi 65 (.load 1 false (.t 64)),
 zi 66 (.conv .u64 (.t 65)),
 zi 67 (.bin .sub (.t 63) (.t 66)),
 zi 5 (.mov (.t 67))])
 (.seq (.reg [zi 68 (.faddr 1 (.t 3)),
 zi 69 (.faddr 0 (.t 68)),
 zi 70 (.load 1 false (.t 69)),
 zi 71 (.faddr 0 (.t 7)),
 zi 72 (.load 1 false (.t 71)),
 zi 73 (.bin .eql (.t 70) (.t 72))])
 (.cond (.t 73)
 (.reg [zi 74 (.faddr 1 (.t 3)),
 zi 75 (.faddr 1 (.t 74)),
 zi 76 (.load 1 false (.t 75)),
 zi 77 (.faddr 1 (.t 7)),
 zi 78 (.load 1 false (.t 77)),
 zi 79 (.bin .sub (.t 76) (.t 78)),
 zi 80 (.conv .u64 (.t 79)),
 zi 6 (.mov (.t 80))])
 (.skip))))
 (.skip)))
 (.seq (.reg [zi 81 (.mov (.t 0)),
 zi 82 (.nilck (.t 81)),
 zi 83 (.faddr 0 (.t 82)),
 zi 84 (.load 1 false (.t 83)),
 zi 85 (.mov (.t 5)),
 zi 86 (.call fid_gamma_Put [(.t 84), (.t 85)])])
 (.seq (.reg [zi 87 (.mov (.t 0)),
 zi 88 (.nilck (.t 87)),
 zi 89 (.faddr 0 (.t 88)),
 zi 90 (.load 1 false (.t 89)),
 zi 91 (.mov (.t 6)),
 zi 92 (.call fid_gamma_Put [(.t 90), (.t 91)])])
 (.reg [zi 93 (.mov (.t 0)),
 zi 94 (.mov (.t 0)),
 zi 95 (.load 4 true (.t 3)),
 zi 96 (.nilck (.t 93)),
 zi 97 (.faddr 1 (.t 96)),
 zn (.store 4 (.t 97) (.t 95)),
 zi 98 (.nilck (.t 94)),
 zi 99 (.faddr 5 (.t 98)),
 zn (.store 1 (.t 99) (.c (.bool true)))])))))))))) }
def ir_slices_Clone_byte_byte : IFn :=
  { params := 1, results := [.tmp 2], body :=
  (.seq (.reg [zi 2 (.mov (.c .nils))])
 (.seq (.seq (.reg [zi 3 (.mov (.t 0)),
 zi 4 (.eq .slice false (.t 3) (.c .nils))])
 (.cond (.t 4)
 (.seq (.reg [zi 2 (.mov (.c .nils))])
 (.ret))
 (.skip)))
 (.seq (.reg [zi 5 (.mkrow 1 0 [(.int .u8 0)] []),
 zi 6 (.mov (.t 0)),
 zi 7 (.append 1 1 (.t 5) (.t 6)),
 zi 2 (.mov (.t 7))])
 (.ret)))) }
def ir_bits_Writer_Bytes : IFn :=
  { params := 1, results := [.tmp 2], body :=
  (.seq (.reg [zi 2 (.mov (.c .nils))])
 (.seq (.reg [zi 3 (.mov (.t 0)),
 zi 4 (.nilck (.t 3)),
 zi 5 (.faddr 0 (.t 4)),
 zi 6 (.load 1 false (.t 5)),
 zi 7 (.call fid_slices_Clone_byte_byte [(.t 6)]),
 zi 2 (.mov (.t 7))])
 (.ret))) }
def delta_Put_b0 : IC :=
  (.seq (.reg [zi 21 (.bin .lss (.t 20) (.t 19))])
 (.seq (.cond (.t 21)
 (.skip)
 (.exit 0))
 (.seq (.block 1
 (.seq (.reg [zi 22 (.iaddr 4 (.t 18) (.t 20)),
 zi 23 (.load 4 true (.t 22)),
 zi 8 (.box (.c (.agg [(.int .i64 0), (.int .u32 0), (.int .u32 0), (.bool false)]))),
 zn (.store 4 (.t 8) (.t 23))])
 (.reg [zi 24 (.mov (.t 6)),
 zi 25 (.load 4 true (.t 8)),
 zi 26 (.call fid_delta_writer_put [(.t 24), (.t 25)])])))
 (.reg [zi 27 (.bin .add (.t 20) (.c (.int .i64 1))),
 zi 20 (.mov (.t 27))]))))
def ir_delta_Put : IFn :=
  { params := 2, results := [.tmp 4, .tmp 5], body :=
  (.seq (.reg [zi 4 (.mov (.c .nils)),
 zi 5 (.mov (.c (.int .i64 0)))])
 (.seq (.seq (.reg [zi 9 (.mov (.t 0)),
 zi 10 (.mov (.t 1)),
 zi 11 (.call fid_delta_right [(.t 9), (.t 10)]),
 zi 12 (.un .not (.t 11))])
 (.cond (.t 12)
 (.seq (.reg [zi 4 (.mov (.c .nils)),
 zi 5 (.mov (.c (.int .i64 23)))])
 (.ret))
 (.skip)))
 (.seq (.reg [zi 13 (.call fid_bits_NewWriter []),
 zi 14 (.mov (.t 0)),
 zi 15 (.build [(.int .i64 0), (.int .u32 0), (.int .u32 0), (.bool false)] [(0, 1, (.t 14))]),
 zi 16 (.build [.nilp, (.int .i64 0), (.int .u32 0), (.int .u32 0), (.bool false), (.bool false)] [(0, 1, (.t 13)), (1, 4, (.t 15))]),
 zi 17 (.box (.t 16)),
 zi 6 (.mov (.t 17))])
 (.seq (.seq (.reg [zi 18 (.mov (.t 1)),
 zi 19 (.len .sl (.t 18)),
 zi 20 (.mov (.c (.int .i64 0)))])
 (.block 0
 (.loop [6, 18, 19, 20] delta_Put_b0)))
 (.seq (.reg [zi 28 (.mov (.t 6)),
 zi 29 (.nilck (.t 28)),
 zi 30 (.faddr 0 (.t 29)),
 zi 31 (.load 1 false (.t 30)),
 zi 32 (.call fid_bits_Writer_Bytes [(.t 31)]),
 zi 4 (.mov (.t 32)),
 zi 5 (.mov (.c (.int .i64 0)))])
 (.ret)))))) }
def ir_bits_NewReader : IFn :=
  { params := 1, results := [.tmp 2], body :=
  (.seq (.reg [zi 2 (.mov (.c .nilp))])
 (.seq (.reg [zi 3 (.mov (.t 0)),
 zi 4 (.build [.nils, (.int .i64 0)] [(0, 1, (.t 3))]),
 zi 5 (.box (.t 4)),
 zi 2 (.mov (.t 5))])
 (.ret))) }
def ir_bits_Reader_Left : IFn :=
  { params := 1, results := [.tmp 2], body :=
  (.seq (.reg [zi 2 (.mov (.c (.int .i64 0)))])
 (.seq (.regD [0, 1, 2, 3, 4, 5, 6, 7, 8, 9, 10, 11] [zi 3 (.mov (.t 0)),
 zi 4 (.nilck (.t 3)),
 zi 5 (.faddr 0 (.t 4)),
 zi 6 (.load 1 false (.t 5)),
 zi 7 (.len .sl (.t 6)),
 zi 8 (.bin .mul (.t 7) (.c (.int .i64 8))),
 zi 9 (.mov (.t 0)),
 zi 10 (.nilck (.t 9)),
 zi 11 (.faddr 1 (.t 10)),
 zi 12 (.load 1 false (.t 11)),
 zi 13 (.bin .sub (.t 8) (.t 12)),
 zi 2 (.mov (.t 13))])
 (.ret))) }
def bits_Reader_Take_b0 : IC :=
  (.seq (.reg [zi 15 (.bin .lss (.t 14) (.t 13))])
 (.seq (.cond (.t 15)
 (.skip)
 (.exit 0))
 (.seq (.block 1
 (.seq (.regD [0, 1, 2, 3, 4, 5, 6, 7, 8, 9, 10, 11, 12, 13, 14, 15, 16, 17, 18, 19, 20, 21, 22] [zi 16 (.mov (.t 6)),
 zi 17 (.bin .shl (.t 16) (.c (.int .u64 1))),
 zi 18 (.mov (.t 0)),
 zi 19 (.nilck (.t 18)),
 zi 20 (.faddr 0 (.t 19)),
 zi 21 (.load 1 false (.t 20)),
 zi 22 (.mov (.t 0)),
 zi 23 (.nilck (.t 22)),
 zi 24 (.faddr 1 (.t 23)),
 zi 25 (.load 1 false (.t 24)),
 zi 26 (.bin .quo (.t 25) (.c (.int .i64 8))),
 zi 27 (.iaddr 1 (.t 21) (.t 26)),
 zi 28 (.load 1 false (.t 27)),
 zi 29 (.mov (.t 0)),
 zi 30 (.nilck (.t 29)),
 zi 31 (.faddr 1 (.t 30)),
 zi 32 (.load 1 false (.t 31)),
 zi 33 (.bin .rem (.t 32) (.c (.int .i64 8))),
 zi 34 (.bin .shr (.t 28) (.t 33)),
 zi 35 (.bin .and (.t 34) (.c (.int .u8 1))),
 zi 36 (.conv .u64 (.t 35)),
 zi 37 (.bin .or (.t 17) (.t 36)),
 zi 6 (.mov (.t 37))])
 (.reg [zi 38 (.mov (.t 0)),
 zi 39 (.nilck (.t 38)),
 zi 40 (.faddr 1 (.t 39)),
 zi 41 (.load 1 false (.t 40)),
 zi 42 (.bin .add (.t 41) (.c (.int .i64 1))),
 zi 43 (.nilck (.t 38)),
 zi 44 (.faddr 1 (.t 43)),
 zn (.store 1 (.t 44) (.t 42))])))
 (.reg [zi 45 (.bin .add (.t 14) (.c (.int .i64 1))),
 zi 14 (.mov (.t 45))]))))
def ir_bits_Reader_Take : IFn :=
  { params := 2, results := [.tmp 4, .tmp 5], body :=
  (.seq (.reg [zi 4 (.mov (.c (.int .u64 0))),
 zi 5 (.mov (.c (.bool false)))])
 (.seq (.reg [zi 7 (.mov (.t 1)),
 zi 8 (.call fid_bits_bound [(.t 7)]),
 zi 1 (.mov (.t 8))])
 (.seq (.seq (.reg [zi 9 (.mov (.t 1)),
 zi 10 (.mov (.t 0)),
 zi 11 (.call fid_bits_Reader_Left [(.t 10)]),
 zi 12 (.bin .gtr (.t 9) (.t 11))])
 (.cond (.t 12)
 (.seq (.reg [zi 4 (.mov (.c (.int .u64 0))),
 zi 5 (.mov (.c (.bool false)))])
 (.ret))
 (.skip)))
 (.seq (.reg [zi 6 (.mov (.c (.int .u64 0)))])
 (.seq (.seq (.reg [zi 13 (.mov (.t 1)),
 zi 14 (.mov (.c (.int .i64 0)))])
 (.block 0
 (.loop [0, 6, 13, 14] bits_Reader_Take_b0)))
 (.seq (.reg [zi 46 (.mov (.t 6)),
 zi 4 (.mov (.t 46)),
 zi 5 (.mov (.c (.bool true)))])
 (.ret))))))) }
def gamma_Take_b0 : IC :=
  (.seq (.reg [zi 15 (.bin .lss (.t 14) (.c (.int .i64 64)))])
 (.seq (.cond (.t 15)
 (.skip)
 (.exit 0))
 (.seq (.block 1
 (.seq (.reg [zi 16 (.mov (.t 14)),
 zi 5 (.mov (.t 16))])
 (.seq (.reg [zi 18 (.mov (.t 0)),
 zi 19 (.call fid_bits_Reader_Take [(.t 18), (.c (.int .i64 1))]),
 zi 17 (.mov (.t 19)),
 zi 20 (.extract (.t 17) 0),
 zi 21 (.extract (.t 17) 1),
 zi 6 (.mov (.t 20)),
 zi 7 (.mov (.t 21))])
 (.seq (.seq (.reg [zi 22 (.mov (.t 7)),
 zi 23 (.un .not (.t 22))])
 (.cond (.t 23)
 (.exit 0)
 (.skip)))
 (.seq (.seq (.reg [zi 24 (.mov (.t 6)),
 zi 25 (.bin .eql (.t 24) (.c (.int .u64 0)))])
 (.cond (.t 25)
 (.exit 1)
 (.skip)))
 (.seq (.reg [zi 27 (.mov (.t 0)),
 zi 28 (.mov (.t 5)),
 zi 29 (.call fid_bits_Reader_Take [(.t 27), (.t 28)]),
 zi 26 (.mov (.t 29)),
 zi 30 (.extract (.t 26) 0),
 zi 31 (.extract (.t 26) 1),
 zi 8 (.mov (.t 30)),
 zi 7 (.mov (.t 31))])
 (.seq (.seq (.reg [zi 32 (.mov (.t 7)),
 zi 33 (.un .not (.t 32))])
 (.cond (.t 33)
 (.exit 0)
 (.skip)))
 (.seq (.reg [zi 34 (.mov (.t 5)),
 zi 35 (.bin .shl (.c (.int .u64 1)) (.t 34)),
 zi 36 (.mov (.t 8)),
 zi 37 (.bin .or (.t 35) (.t 36)),
 zi 2 (.mov (.t 37)),
 zi 3 (.mov (.c (.bool true)))])
 (.ret)))))))))
 (.reg [zi 38 (.bin .add (.t 14) (.c (.int .i64 1))),
 zi 14 (.mov (.t 38))]))))
def ir_gamma_Take : IFn :=
  { params := 1, results := [.tmp 2, .tmp 3], body :=
  (.seq (.reg [zi 2 (.mov (.c (.int .u64 0))),
 zi 3 (.mov (.c (.bool false)))])
 (.seq (.seq (.reg [zi 9 (.mov (.t 0)),
 zi 10 (.eq .ptr false (.t 9) (.c .nilp))])
 (.cond (.t 10)
 (.seq (.reg [zi 2 (.mov (.c (.int .u64 0))),
 zi 3 (.mov (.c (.bool false)))])
 (.ret))
 (.skip)))
 (.seq (.reg [zi 11 (.mov (.t 0)),
 zi 12 (.nilck (.t 11)),
 zi 13 (.load 2 true (.t 12)),
 zi 4 (.box (.c (.agg [.nils, (.int .i64 0)]))),
 zn (.store 2 (.t 4) (.t 13))])
 (.seq (.seq (.reg [zi 14 (.mov (.c (.int .i64 0)))])
 (.block 0
 (.loop [0, 4, 14] gamma_Take_b0)))
 (.seq (.reg [zi 39 (.mov (.t 0)),
 zi 40 (.load 2 true (.t 4)),
 zi 41 (.nilck (.t 39)),
 zn (.store 2 (.t 41) (.t 40))])
 (.seq (.reg [zi 2 (.mov (.c (.int .u64 0))),
 zi 3 (.mov (.c (.bool false)))])
 (.ret))))))) }
def ir_delta_reader_num : IFn :=
  { params := 2, results := [.tmp 4], body :=
  (.seq (.reg [zi 4 (.mov (.c (.int .u64 0)))])
 (.seq (.reg [zi 8 (.mov (.t 0)),
 zi 9 (.nilck (.t 8)),
 zi 10 (.faddr 0 (.t 9)),
 zi 11 (.load 1 false (.t 10)),
 zi 12 (.call fid_gamma_Take [(.t 11)]),
 zi 7 (.mov (.t 12)),
 zi 13 (.extract (.t 7) 0),
 zi 14 (.extract (.t 7) 1),
 zi 5 (.mov (.t 13)),
 zi 6 (.mov (.t 14))])
 (.seq (.reg [zi 15 (.mov (.t 0)),
 zi 16 (.mov (.t 0)),
 zi 17 (.nilck (.t 16)),
 zi 18 (.faddr 6 (.t 17)),
 zi 19 (.load 1 false (.t 18)),
 zi 20 (.mov (.t 19)),
 zg 21 20 true (.mov (.t 6)),
 zi 22 (.pick (.t 20) (.t 21) (.c (.bool false))),
 zi 23 (.mov (.t 22)),
 zg 24 23 true (.mov (.t 5)),
 zg 25 23 true (.mov (.t 1)),
 zg 26 23 true (.bin .leq (.t 24) (.t 25)),
 zi 27 (.pick (.t 23) (.t 26) (.c (.bool false))),
 zi 28 (.nilck (.t 15)),
 zi 29 (.faddr 6 (.t 28)),
 zn (.store 1 (.t 29) (.t 27))])
 (.seq (.reg [zi 30 (.mov (.t 5)),
 zi 4 (.mov (.t 30))])
 (.ret))))) }
def ir_delta_reader_event : IFn :=
  { params := 1, results := [.cell 2 4 true], body :=
  (.seq (.reg [zi 2 (.box (.c (.agg [(.int .i64 0), (.int .u32 0), (.int .u32 0), (.bool false)])))])
 (.seq (.reg [zi 10 (.mov (.t 0)),
 zi 11 (.call fid_delta_reader_num [(.t 10), (.c (.int .u64 4611686018427387904))]),
 zi 3 (.mov (.t 11))])
 (.seq (.reg [zi 13 (.mov (.t 0)),
 zi 14 (.nilck (.t 13)),
 zi 15 (.faddr 0 (.t 14)),
 zi 16 (.load 1 false (.t 15)),
 zi 17 (.call fid_bits_Reader_Take [(.t 16), (.c (.int .i64 1))]),
 zi 12 (.mov (.t 17)),
 zi 18 (.extract (.t 12) 0),
 zi 19 (.extract (.t 12) 1),
 zi 4 (.mov (.t 18)),
 zi 5 (.mov (.t 19))])
 (.seq (.reg [zi 20 (.mov (.t 0)),
 zi 21 (.call fid_delta_reader_num [(.t 20), (.c (.int .u64 4294967296))]),
 zi 22 (.mov (.t 0)),
 zi 23 (.call fid_delta_reader_num [(.t 22), (.c (.int .u64 4294967296))]),
 zi 6 (.mov (.t 21)),
 zi 7 (.mov (.t 23))])
 (.seq (.seq (.reg [zi 24 (.mov (.t 0)),
 zi 25 (.mov (.t 0)),
 zi 26 (.nilck (.t 25)),
 zi 27 (.faddr 6 (.t 26)),
 zi 28 (.load 1 false (.t 27)),
 zi 29 (.mov (.t 28)),
 zg 30 29 true (.mov (.t 5)),
 zi 31 (.pick (.t 29) (.t 30) (.c (.bool false))),
 zi 32 (.nilck (.t 24)),
 zi 33 (.faddr 6 (.t 32)),
 zn (.store 1 (.t 33) (.t 31))])
 (.seq (.reg [zi 34 (.mov (.t 0)),
 zi 35 (.nilck (.t 34)),
 zi 36 (.faddr 6 (.t 35)),
 zi 37 (.load 1 false (.t 36)),
 zi 38 (.un .not (.t 37))])
 (.cond (.t 38)
 (.seq (.reg [zi 39 (.build [(.int .i64 0), (.int .u32 0), (.int .u32 0), (.bool false)] []),
 zn (.store 4 (.t 2) (.t 39))])
 (.ret))
 (.skip))))
 (.seq (.reg [zi 40 (.mov (.t 0)),
 zi 41 (.nilck (.t 40)),
 zi 42 (.faddr 1 (.t 41)),
 zi 43 (.faddr 0 (.t 42)),
 zi 44 (.load 1 false (.t 43)),
 zi 45 (.mov (.t 3)),
 zi 46 (.bin .sub (.t 45) (.c (.int .u64 1))),
 zi 47 (.conv .i64 (.t 46)),
 zi 48 (.bin .add (.t 44) (.t 47)),
 zi 49 (.mov (.t 4)),
 zi 50 (.bin .eql (.t 49) (.c (.int .u64 1))),
 zi 51 (.build [(.int .i64 0), (.int .u32 0), (.int .u32 0), (.bool false)] [(0, 1, (.t 48)), (3, 1, (.t 50))]),
 zi 8 (.box (.c (.agg [(.int .i64 0), (.int .u32 0), (.int .u32 0), (.bool false)]))),
 zn (.store 4 (.t 8) (.t 51))])
 (.seq (.reg [zi 52 (.mov (.t 6)),
 zi 53 (.bin .sub (.t 52) (.c (.int .u64 1))),
 zi 6 (.mov (.t 53))])
 (.seq (.reg [zi 9 (.mov (.c (.int .u64 0)))])
 (.seq (.seq (.reg [zi 54 (.mov (.t 0)),
 zi 55 (.nilck (.t 54)),
 zi 56 (.faddr 5 (.t 55)),
 zi 57 (.load 1 false (.t 56)),
 zi 58 (.mov (.t 57)),
 zg 59 58 true (.mov (.t 3)),
 zg 60 58 true (.bin .eql (.t 59) (.c (.int .u64 1))),
 zi 61 (.pick (.t 58) (.t 60) (.c (.bool false)))])
 (.cond (.t 61)
 (.seq (.reg [zi 62 (.mov (.t 6)),
 zi 63 (.mov (.t 0)),
 zi 64 (.nilck (.t 63)),
 zi 65 (.faddr 1 (.t 64)),
 zi 66 (.faddr 1 (.t 65)),
 zi 67 (.faddr 0 (.t 66)),
 zi 68 (.load 1 false (.t 67)),
 zi 69 (.conv .u64 (.t 68)),
 zi 70 (.bin .add (.t 62) (.t 69)),
 zi 6 (.mov (.t 70))])
 (.seq (.reg [zi 71 (.mov (.t 6)),
 zi 72 (.mov (.t 0)),
 zi 73 (.nilck (.t 72)),
 zi 74 (.faddr 1 (.t 73)),
 zi 75 (.faddr 1 (.t 74)),
 zi 76 (.faddr 0 (.t 75)),
 zi 77 (.load 1 false (.t 76)),
 zi 78 (.conv .u64 (.t 77)),
 zi 79 (.bin .eql (.t 71) (.t 78))])
 (.cond (.t 79)
 (.reg [zi 80 (.mov (.t 0)),
 zi 81 (.nilck (.t 80)),
 zi 82 (.faddr 1 (.t 81)),
 zi 83 (.faddr 1 (.t 82)),
 zi 84 (.faddr 1 (.t 83)),
 zi 85 (.load 1 false (.t 84)),
 zi 86 (.conv .u64 (.t 85)),
 zi 87 (.mov (.t 6)),
 zi 88 (.bin .sub (.t 86) (.t 87)),
 zi 9 (.mov (.t 88))])
 (.skip))))
 (.skip)))
 (.seq (.reg [zi 89 (.mov (.t 7)),
 zi 90 (.mov (.t 6)),
 zi 91 (.mov (.t 9)),
 zi 92 (.bin .add (.t 90) (.t 91)),
 zi 93 (.bin .add (.t 89) (.t 92)),
 zi 7 (.mov (.t 93))])
 (.seq (.reg [zi 94 (.mov (.t 0)),
 zi 95 (.faddr 0 (.t 8)),
 zi 96 (.load 1 false (.t 95)),
 zi 97 (.bin .leq (.t 96) (.c (.int .i64 4611686018427387903))),
 zi 98 (.mov (.t 97)),
 zg 99 98 true (.mov (.t 6)),
 zg 100 98 true (.bin .leq (.t 99) (.c (.int .u64 4294967295))),
 zi 101 (.pick (.t 98) (.t 100) (.c (.bool false))),
 zi 102 (.mov (.t 101)),
 zg 103 102 true (.mov (.t 7)),
 zg 104 102 true (.bin .leq (.t 103) (.c (.int .u64 4294967295))),
 zi 105 (.pick (.t 102) (.t 104) (.c (.bool false))),
 zi 106 (.nilck (.t 94)),
 zi 107 (.faddr 6 (.t 106)),
 zn (.store 1 (.t 107) (.t 105))])
 (.seq (.reg [zi 108 (.mov (.t 6)),
 zi 109 (.conv .u32 (.t 108)),
 zi 110 (.mov (.t 7)),
 zi 111 (.conv .u32 (.t 110)),
 zi 112 (.build [(.int .u32 0), (.int .u32 0)] [(0, 1, (.t 109)), (1, 1, (.t 111))]),
 zi 113 (.faddr 1 (.t 8)),
 zn (.store 2 (.t 113) (.t 112))])
 (.seq (.reg [zi 114 (.mov (.t 0)),
 zi 115 (.mov (.t 0)),
 zi 116 (.load 4 true (.t 8)),
 zi 117 (.nilck (.t 114)),
 zi 118 (.faddr 1 (.t 117)),
 zn (.store 4 (.t 118) (.t 116)),
 zi 119 (.nilck (.t 115)),
 zi 120 (.faddr 5 (.t 119)),
 zn (.store 1 (.t 120) (.c (.bool true)))])
 (.seq (.reg [zi 121 (.load 4 true (.t 8)),
 zn (.store 4 (.t 2) (.t 121))])
 (.ret))))))))))))))) }
def ir_edge_Right : IFn :=
  { params := 2, results := [.tmp 4], body :=
  (.seq (.reg [zi 2 (.box (.t 0)),
 zi 4 (.mov (.c (.bool false)))])
 (.seq (.reg [zi 5 (.faddr 0 (.t 2)),
 zi 6 (.load 1 false (.t 5)),
 zi 7 (.faddr 1 (.t 2)),
 zi 8 (.load 1 false (.t 7)),
 zi 9 (.bin .lss (.t 6) (.t 8)),
 zi 10 (.mov (.t 9)),
 zg 11 10 true (.faddr 1 (.t 2)),
 zg 12 10 true (.load 1 false (.t 11)),
 zg 13 10 true (.conv .u64 (.t 12)),
 zg 14 10 true (.mov (.t 1)),
 zg 15 10 true (.bin .lss (.t 13) (.t 14)),
 zi 16 (.pick (.t 10) (.t 15) (.c (.bool false))),
 zi 4 (.mov (.t 16))])
 (.ret))) }
def ir_bytes_Equal : IFn :=
  { params := 2, results := [.tmp 4], body :=
  (.seq (.reg [zi 4 (.mov (.c (.bool false)))])
 (.seq (.reg [zi 5 (.mov (.t 0)),
 zi 6 (.toStr (.t 5)),
 zi 7 (.mov (.t 1)),
 zi 8 (.toStr (.t 7)),
 zi 9 (.bin .eql (.t 6) (.t 8)),
 zi 4 (.mov (.t 9))])
 (.ret))) }
def delta_Read_b0 : IC :=
  (.seq (.seq (.reg [zi 35 (.mov (.t 2)),
 zi 36 (.bin .gtr (.t 35) (.c (.int .i64 0))),
 zi 37 (.mov (.t 36)),
 zg 38 37 true (.mov (.t 10)),
 zg 39 37 true (.nilck (.t 38)),
 zg 40 37 true (.faddr 6 (.t 39)),
 zg 41 37 true (.load 1 false (.t 40)),
 zi 42 (.pick (.t 37) (.t 41) (.c (.bool false)))])
 (.cond (.t 42)
 (.skip)
 (.exit 0)))
 (.seq (.block 1
 (.seq (.reg [zi 45 (.mov (.t 10)),
 zi 46 (.call fid_delta_reader_event [(.t 45)]),
 zi 12 (.box (.c (.agg [(.int .i64 0), (.int .u32 0), (.int .u32 0), (.bool false)]))),
 zn (.store 4 (.t 12) (.t 46))])
 (.seq (.reg [zi 47 (.mov (.t 10)),
 zi 48 (.mov (.t 10)),
 zi 49 (.nilck (.t 48)),
 zi 50 (.faddr 6 (.t 49)),
 zi 51 (.load 1 false (.t 50)),
 zi 52 (.mov (.t 51)),
 zg 53 52 true (.faddr 1 (.t 12)),
 zg 54 52 true (.load 2 true (.t 53)),
 zg 55 52 true (.mov (.t 3)),
 zg 56 52 true (.call fid_edge_Right [(.t 54), (.t 55)]),
 zi 57 (.pick (.t 52) (.t 56) (.c (.bool false))),
 zi 58 (.nilck (.t 47)),
 zi 59 (.faddr 6 (.t 58)),
 zn (.store 1 (.t 59) (.t 57))])
 (.reg [zi 60 (.mov (.t 11)),
 zi 61 (.load 4 true (.t 12)),
 zi 62 (.mkrow 4 1 [(.int .i64 0), (.int .u32 0), (.int .u32 0), (.bool false)] [(0, (.t 61))]),
 zi 63 (.append 4 24 (.t 60) (.t 62)),
 zi 11 (.mov (.t 63))]))))
 (.reg [zi 43 (.mov (.t 2)),
 zi 44 (.bin .sub (.t 43) (.c (.int .i64 1))),
 zi 2 (.mov (.t 44))])))
def ir_delta_Read : IFn :=
  { params := 4, results := [.tmp 8, .tmp 9], body :=
  (.seq (.reg [zi 8 (.mov (.c .nils)),
 zi 9 (.mov (.c (.int .i64 0)))])
 (.seq (.seq (.reg [zi 15 (.mov (.t 2)),
 zi 16 (.bin .gtr (.t 15) (.c (.int .i64 0))),
 zi 17 (.mov (.t 16)),
 zg 18 17 true (.mov (.t 1)),
 zg 19 17 true (.bin .lss (.t 18) (.c (.int .i64 0))),
 zg 20 17 true (.mov (.t 19)),
 zg 21 20 false (.mov (.t 1)),
 zg 22 20 false (.bin .gtr (.t 21) (.c (.int .i64 4611686018427387903))),
 zg 23 17 true (.pick (.t 20) (.c (.bool true)) (.t 22)),
 zi 24 (.pick (.t 17) (.t 23) (.c (.bool false))),
 zi 25 (.mov (.t 24)),
 zg 26 25 false (.mov (.t 2)),
 zg 27 25 false (.bin .lss (.t 26) (.c (.int .i64 0))),
 zi 28 (.pick (.t 25) (.c (.bool true)) (.t 27))])
 (.cond (.t 28)
 (.seq (.reg [zi 8 (.mov (.c .nils)),
 zi 9 (.mov (.c (.int .i64 21)))])
 (.ret))
 (.skip)))
 (.seq (.reg [zi 29 (.mov (.t 0)),
 zi 30 (.call fid_bits_NewReader [(.t 29)]),
 zi 31 (.mov (.t 1)),
 zi 32 (.build [(.int .i64 0), (.int .u32 0), (.int .u32 0), (.bool false)] [(0, 1, (.t 31))]),
 zi 33 (.build [.nilp, (.int .i64 0), (.int .u32 0), (.int .u32 0), (.bool false), (.bool false), (.bool false)] [(0, 1, (.t 30)), (1, 4, (.t 32)), (6, 1, (.c (.bool true)))]),
 zi 34 (.box (.t 33)),
 zi 10 (.mov (.t 34))])
 (.seq (.reg [zi 11 (.mov (.c .nils))])
 (.seq (.block 0
 (.loop [0, 1, 2, 3, 10, 11] delta_Read_b0))
 (.seq (.seq (.reg [zi 65 (.mov (.t 1)),
 zi 66 (.mov (.t 11)),
 zi 67 (.call fid_delta_Put [(.t 65), (.t 66)]),
 zi 64 (.mov (.t 67)),
 zi 68 (.extract (.t 64) 0),
 zi 69 (.extract (.t 64) 1),
 zi 13 (.mov (.t 68)),
 zi 14 (.mov (.t 69))])
 (.seq (.reg [zi 70 (.mov (.t 10)),
 zi 71 (.nilck (.t 70)),
 zi 72 (.faddr 6 (.t 71)),
 zi 73 (.load 1 false (.t 72)),
 zi 74 (.un .not (.t 73)),
 zi 75 (.mov (.t 74)),
 zg 76 75 false (.mov (.t 14)),
 zg 77 75 false (.bin .neq (.t 76) (.c (.int .i64 0))),
 zi 78 (.pick (.t 75) (.c (.bool true)) (.t 77)),
 zi 79 (.mov (.t 78)),
 zg 80 79 false (.mov (.t 13)),
 zg 81 79 false (.mov (.t 0)),
 zg 82 79 false (.call fid_bytes_Equal [(.t 80), (.t 81)]),
 zg 83 79 false (.un .not (.t 82)),
 zi 84 (.pick (.t 79) (.c (.bool true)) (.t 83))])
 (.cond (.t 84)
 (.seq (.reg [zi 8 (.mov (.c .nils)),
 zi 9 (.mov (.c (.int .i64 21)))])
 (.ret))
 (.skip))))
 (.seq (.reg [zi 85 (.mov (.t 11)),
 zi 8 (.mov (.t 85)),
 zi 9 (.mov (.c (.int .i64 0)))])
 (.ret)))))))) }
def archipelagoref8_SameEvents_b0 : IC :=
  (.seq (.seq (.reg [zi 11 (.mov (.t 5)),
 zi 12 (.mov (.t 0)),
 zi 13 (.len .sl (.t 12)),
 zi 14 (.bin .lss (.t 11) (.t 13))])
 (.cond (.t 14)
 (.skip)
 (.exit 0)))
 (.seq (.block 1
 (.seq (.regD [0, 1, 2, 3, 4, 5, 6, 7, 8] [zi 17 (.mov (.t 0)),
 zi 18 (.mov (.t 5)),
 zi 19 (.iaddr 4 (.t 17) (.t 18)),
 zi 20 (.load 4 true (.t 19)),
 zi 21 (.mov (.t 1)),
 zi 22 (.mov (.t 5)),
 zi 23 (.iaddr 4 (.t 21) (.t 22)),
 zi 24 (.load 4 true (.t 23)),
 zi 25 (.eq (.struct [.int, .int, .int, .bool]) true (.t 20) (.t 24))])
 (.cond (.t 25)
 (.seq (.reg [zi 4 (.mov (.c (.bool false)))])
 (.ret))
 (.skip))))
 (.reg [zi 15 (.mov (.t 5)),
 zi 16 (.bin .add (.t 15) (.c (.int .i64 1))),
 zi 5 (.mov (.t 16))])))
def ir_archipelagoref8_SameEvents : IFn :=
  { params := 2, results := [.tmp 4], body :=
  (.seq (.reg [zi 4 (.mov (.c (.bool false)))])
 (.seq (.seq (.reg [zi 6 (.mov (.t 0)),
 zi 7 (.len .sl (.t 6)),
 zi 8 (.mov (.t 1)),
 zi 9 (.len .sl (.t 8)),
 zi 10 (.bin .neq (.t 7) (.t 9))])
 (.cond (.t 10)
 (.seq (.reg [zi 4 (.mov (.c (.bool false)))])
 (.ret))
 (.skip)))
 (.seq (.seq (.reg [zi 5 (.mov (.c (.int .i64 0)))])
 (.block 0
 (.loop [0, 1, 5] archipelagoref8_SameEvents_b0)))
 (.seq (.reg [zi 4 (.mov (.c (.bool true)))])
 (.ret))))) }
def ir_archipelagolaw16_known : IFn :=
  { params := 0, results := [.tmp 0], body :=
  (.seq (.reg [zi 0 (.mov (.c (.bool false)))])
 (.seq (.reg [zi 10 (.build [(.int .u32 0), (.int .u32 0)] [(0, 1, (.c (.int .u32 0))), (1, 1, (.c (.int .u32 1)))]),
 zi 11 (.build [(.int .i64 0), (.int .u32 0), (.int .u32 0), (.bool false)] [(0, 1, (.c (.int .i64 5))), (1, 2, (.t 10)), (3, 1, (.c (.bool true)))]),
 zi 12 (.build [(.int .u32 0), (.int .u32 0)] [(0, 1, (.c (.int .u32 0))), (1, 1, (.c (.int .u32 2)))]),
 zi 13 (.build [(.int .i64 0), (.int .u32 0), (.int .u32 0), (.bool false)] [(0, 1, (.c (.int .i64 5))), (1, 2, (.t 12)), (3, 1, (.c (.bool true)))]),
 zi 14 (.mkrow 4 2 [(.int .i64 0), (.int .u32 0), (.int .u32 0), (.bool false)] [(0, (.t 11)), (1, (.t 13))]),
 zi 1 (.mov (.t 14))])
 (.seq (.reg [zi 16 (.mov (.t 1)),
 zi 17 (.call fid_delta_Put [(.c (.int .i64 5)), (.t 16)]),
 zi 15 (.mov (.t 17)),
 zi 18 (.extract (.t 15) 0),
 zi 19 (.extract (.t 15) 1),
 zi 2 (.mov (.t 18)),
 zi 3 (.mov (.t 19))])
 (.seq (.reg [zi 21 (.mov (.t 2)),
 zi 22 (.call fid_delta_Read [(.t 21), (.c (.int .i64 5)), (.c (.int .i64 2)), (.c (.int .u64 3))]),
 zi 20 (.mov (.t 22)),
 zi 23 (.extract (.t 20) 0),
 zi 24 (.extract (.t 20) 1),
 zi 4 (.mov (.t 23)),
 zi 5 (.mov (.t 24))])
 (.seq (.reg [zi 26 (.mov (.t 2)),
 zi 27 (.call fid_delta_Read [(.t 26), (.c (.int .i64 5)), (.c (.int .i64 2)), (.c (.int .u64 2))]),
 zi 25 (.mov (.t 27)),
 zi 28 (.extract (.t 25) 0),
 zi 29 (.extract (.t 25) 1),
 zi 6 (.mov (.t 28)),
 zi 7 (.mov (.t 29))])
 (.seq (.reg [zi 31 (.mov (.t 1)),
 zi 32 (.call fid_delta_Put [(.c (.int .i64 4)), (.t 31)]),
 zi 30 (.mov (.t 32)),
 zi 33 (.extract (.t 30) 0),
 zi 34 (.extract (.t 30) 1),
 zi 8 (.mov (.t 33)),
 zi 9 (.mov (.t 34))])
 (.seq (.reg [zi 35 (.mov (.t 3)),
 zi 36 (.bin .eql (.t 35) (.c (.int .i64 0))),
 zi 37 (.mov (.t 36)),
 zg 38 37 true (.mov (.t 2)),
 zg 39 37 true (.len .sl (.t 38)),
 zg 40 37 true (.bin .eql (.t 39) (.c (.int .i64 1))),
 zi 41 (.pick (.t 37) (.t 40) (.c (.bool false))),
 zi 42 (.mov (.t 41)),
 zg 43 42 true (.mov (.t 5)),
 zg 44 42 true (.bin .eql (.t 43) (.c (.int .i64 0))),
 zi 45 (.pick (.t 42) (.t 44) (.c (.bool false))),
 zi 46 (.mov (.t 45)),
 zg 47 46 true (.mov (.t 4)),
 zg 48 46 true (.mov (.t 1)),
 zg 49 46 true (.call fid_archipelagoref8_SameEvents [(.t 47), (.t 48)]),
 zi 50 (.pick (.t 46) (.t 49) (.c (.bool false))),
 zi 51 (.mov (.t 50)),
 zg 52 51 true (.mov (.t 7)),
 zg 53 51 true (.bin .eql (.t 52) (.c (.int .i64 21))),
 zi 54 (.pick (.t 51) (.t 53) (.c (.bool false))),
 zi 55 (.mov (.t 54)),
 zg 56 55 true (.mov (.t 9)),
 zg 57 55 true (.bin .eql (.t 56) (.c (.int .i64 23))),
 zi 58 (.pick (.t 55) (.t 57) (.c (.bool false))),
 zi 0 (.mov (.t 58))])
 (.ret)))))))) }
def ir_archipelagoseat_Vertices : IFn :=
  { params := 1, results := [.tmp 2], body :=
  (.seq (.reg [zi 2 (.mov (.c (.int .u64 0)))])
 (.seq (.reg [zi 3 (.mkrow 1 8 [(.int .u64 0)] [(0, (.c (.int .u64 8))), (1, (.c (.int .u64 5))), (2, (.c (.int .u64 2))), (3, (.c (.int .u64 4294967296))), (4, (.c (.int .u64 300))), (5, (.c (.int .u64 12))), (6, (.c (.int .u64 1048576))), (7, (.c (.int .u64 3)))]),
 zi 4 (.mov (.t 0)),
 zi 5 (.bin .rem (.t 4) (.c (.int .u8 8))),
 zi 6 (.iaddr 1 (.t 3) (.t 5)),
 zi 7 (.load 1 false (.t 6)),
 zi 2 (.mov (.t 7))])
 (.ret))) }
def ir_archipelagoseat_Edge : IFn :=
  { params := 3, results := [.cell 6 2 true, .tmp 7], body :=
  (.seq (.reg [zi 6 (.box (.c (.agg [(.int .u32 0), (.int .u32 0)]))),
 zi 7 (.mov (.c (.bool false)))])
 (.seq (.reg [zi 11 (.mov (.t 2)),
 zi 12 (.minmax true [(.t 11), (.c (.int .u64 9))]),
 zi 8 (.mov (.t 12))])
 (.seq (.regD [0, 1, 2, 3, 4, 5, 6, 7, 8, 9] [zi 13 (.mov (.t 0)),
 zi 14 (.conv .u64 (.t 13)),
 zi 15 (.mov (.t 8)),
 zi 16 (.bin .rem (.t 14) (.t 15)),
 zi 17 (.mov (.t 1)),
 zi 18 (.conv .u64 (.t 17)),
 zi 19 (.mov (.t 8)),
 zi 20 (.bin .rem (.t 18) (.t 19)),
 zi 9 (.mov (.t 16)),
 zi 10 (.mov (.t 20))])
 (.seq (.seq (.reg [zi 21 (.mov (.t 0)),
 zi 22 (.bin .gtr (.t 21) (.c (.int .u8 230)))])
 (.cond (.t 22)
 (.reg [zi 23 (.mov (.t 2)),
 zi 24 (.bin .sub (.t 23) (.c (.int .u64 1))),
 zi 25 (.mov (.t 9)),
 zi 26 (.bin .sub (.t 24) (.t 25)),
 zi 9 (.mov (.t 26))])
 (.skip)))
 (.seq (.seq (.reg [zi 27 (.mov (.t 1)),
 zi 28 (.bin .gtr (.t 27) (.c (.int .u8 240)))])
 (.cond (.t 28)
 (.reg [zi 29 (.mov (.t 2)),
 zi 30 (.bin .sub (.t 29) (.c (.int .u64 1))),
 zi 31 (.mov (.t 10)),
 zi 32 (.bin .sub (.t 30) (.t 31)),
 zi 10 (.mov (.t 32))])
 (.skip)))
 (.seq (.seq (.reg [zi 33 (.mov (.t 9)),
 zi 34 (.mov (.t 10)),
 zi 35 (.bin .eql (.t 33) (.t 34))])
 (.cond (.t 35)
 (.seq (.reg [zi 36 (.build [(.int .u32 0), (.int .u32 0)] []),
 zn (.store 2 (.t 6) (.t 36)),
 zi 7 (.mov (.c (.bool false)))])
 (.ret))
 (.skip)))
 (.seq (.reg [zi 37 (.mov (.t 9)),
 zi 38 (.mov (.t 10)),
 zi 39 (.minmax true [(.t 37), (.t 38)]),
 zi 40 (.conv .u32 (.t 39)),
 zi 41 (.mov (.t 9)),
 zi 42 (.mov (.t 10)),
 zi 43 (.minmax false [(.t 41), (.t 42)]),
 zi 44 (.conv .u32 (.t 43)),
 zi 45 (.build [(.int .u32 0), (.int .u32 0)] [(0, 1, (.t 40)), (1, 1, (.t 44))]),
 zn (.store 2 (.t 6) (.t 45)),
 zi 7 (.mov (.c (.bool true)))])
 (.ret)))))))) }
def ir_archipelagoref8_Less : IFn :=
  { params := 2, results := [.tmp 4], body :=
  (.seq (.reg [zi 2 (.box (.t 0)),
 zi 3 (.box (.t 1)),
 zi 4 (.mov (.c (.bool false)))])
 (.seq (.reg [zi 5 (.faddr 0 (.t 2)),
 zi 6 (.load 1 false (.t 5)),
 zi 7 (.faddr 0 (.t 3)),
 zi 8 (.load 1 false (.t 7)),
 zi 9 (.bin .lss (.t 6) (.t 8)),
 zi 10 (.mov (.t 9)),
 zg 11 10 false (.faddr 0 (.t 2)),
 zg 12 10 false (.load 1 false (.t 11)),
 zg 13 10 false (.faddr 0 (.t 3)),
 zg 14 10 false (.load 1 false (.t 13)),
 zg 15 10 false (.bin .eql (.t 12) (.t 14)),
 zg 16 10 false (.mov (.t 15)),
 zg 17 16 true (.faddr 1 (.t 2)),
 zg 18 16 true (.load 1 false (.t 17)),
 zg 19 16 true (.faddr 1 (.t 3)),
 zg 20 16 true (.load 1 false (.t 19)),
 zg 21 16 true (.bin .lss (.t 18) (.t 20)),
 zg 22 10 false (.pick (.t 16) (.t 21) (.c (.bool false))),
 zi 23 (.pick (.t 10) (.c (.bool true)) (.t 22)),
 zi 4 (.mov (.t 23))])
 (.ret))) }
def ir_archipelagoref8_Before : IFn :=
  { params := 2, results := [.tmp 4], body :=
  (.seq (.reg [zi 2 (.box (.t 0)),
 zi 3 (.box (.t 1)),
 zi 4 (.mov (.c (.bool false)))])
 (.seq (.reg [zi 5 (.faddr 0 (.t 2)),
 zi 6 (.load 1 false (.t 5)),
 zi 7 (.faddr 0 (.t 3)),
 zi 8 (.load 1 false (.t 7)),
 zi 9 (.bin .lss (.t 6) (.t 8)),
 zi 10 (.mov (.t 9)),
 zg 11 10 false (.faddr 0 (.t 2)),
 zg 12 10 false (.load 1 false (.t 11)),
 zg 13 10 false (.faddr 0 (.t 3)),
 zg 14 10 false (.load 1 false (.t 13)),
 zg 15 10 false (.bin .eql (.t 12) (.t 14)),
 zg 16 10 false (.mov (.t 15)),
 zg 17 16 true (.faddr 1 (.t 2)),
 zg 18 16 true (.load 2 true (.t 17)),
 zg 19 16 true (.faddr 1 (.t 3)),
 zg 20 16 true (.load 2 true (.t 19)),
 zg 21 16 true (.call fid_archipelagoref8_Less [(.t 18), (.t 20)]),
 zg 22 10 false (.pick (.t 16) (.t 21) (.c (.bool false))),
 zi 23 (.pick (.t 10) (.c (.bool true)) (.t 22)),
 zi 4 (.mov (.t 23))])
 (.ret))) }
def archipelagoseat_insert_b0 : IC :=
  (.seq (.seq (.regD [0, 1, 2, 3, 4, 5, 6, 7, 8, 9, 10] [zi 8 (.mov (.t 5)),
 zi 9 (.bin .gtr (.t 8) (.c (.int .i64 0))),
 zi 10 (.mov (.t 9)),
 zg 11 10 true (.load 4 true (.t 3)),
 zg 12 10 true (.mov (.t 0)),
 zg 13 10 true (.mov (.t 5)),
 zg 14 10 true (.bin .sub (.t 13) (.c (.int .i64 1))),
 zg 15 10 true (.iaddr 4 (.t 12) (.t 14)),
 zg 16 10 true (.load 4 true (.t 15)),
 zg 17 10 true (.call fid_archipelagoref8_Before [(.t 11), (.t 16)]),
 zi 18 (.pick (.t 10) (.t 17) (.c (.bool false)))])
 (.cond (.t 18)
 (.skip)
 (.exit 0)))
 (.block 1
 (.reg [zi 19 (.mov (.t 5)),
 zi 20 (.bin .sub (.t 19) (.c (.int .i64 1))),
 zi 5 (.mov (.t 20))])))
def ir_archipelagoseat_insert : IFn :=
  { params := 2, results := [.tmp 4], body :=
  (.seq (.reg [zi 3 (.box (.t 1)),
 zi 4 (.mov (.c .nils))])
 (.seq (.reg [zi 6 (.mov (.t 0)),
 zi 7 (.len .sl (.t 6)),
 zi 5 (.mov (.t 7))])
 (.seq (.block 0
 (.loop [0, 3, 5] archipelagoseat_insert_b0))
 (.seq (.seq (.regD [0, 1, 2, 3, 4, 5, 6, 7, 8, 9, 10, 11, 12, 13, 14, 15, 16, 17, 18, 19, 20, 21, 22, 23] [zi 21 (.mov (.t 5)),
 zi 22 (.bin .gtr (.t 21) (.c (.int .i64 0))),
 zi 23 (.mov (.t 22)),
 zg 24 23 true (.mov (.t 0)),
 zg 25 23 true (.mov (.t 5)),
 zg 26 23 true (.bin .sub (.t 25) (.c (.int .i64 1))),
 zg 27 23 true (.iaddr 4 (.t 24) (.t 26)),
 zg 28 23 true (.faddr 0 (.t 27)),
 zg 29 23 true (.load 1 false (.t 28)),
 zg 30 23 true (.faddr 0 (.t 3)),
 zg 31 23 true (.load 1 false (.t 30)),
 zg 32 23 true (.bin .eql (.t 29) (.t 31)),
 zi 33 (.pick (.t 23) (.t 32) (.c (.bool false))),
 zi 34 (.mov (.t 33)),
 zg 35 34 true (.mov (.t 0)),
 zg 36 34 true (.mov (.t 5)),
 zg 37 34 true (.bin .sub (.t 36) (.c (.int .i64 1))),
 zg 38 34 true (.iaddr 4 (.t 35) (.t 37)),
 zg 39 34 true (.faddr 1 (.t 38)),
 zg 40 34 true (.load 2 true (.t 39)),
 zg 41 34 true (.faddr 1 (.t 3)),
 zg 42 34 true (.load 2 true (.t 41)),
 zg 43 34 true (.eq (.struct [.int, .int]) false (.t 40) (.t 42)),
 zi 44 (.pick (.t 34) (.t 43) (.c (.bool false)))])
 (.cond (.t 44)
 (.seq (.reg [zi 45 (.mov (.t 0)),
 zi 4 (.mov (.t 45))])
 (.ret))
 (.skip)))
 (.seq (.regD [0, 1, 2, 3, 4, 5, 6, 7, 8, 9, 10, 11] [zi 46 (.mov (.t 0)),
 zi 47 (.mov (.t 5)),
 zi 48 (.slice false 4 (.t 46) none (some (.t 47)) none),
 zi 49 (.append 4 24 (.c .nils) (.t 48)),
 ⟨some 50, .load 4 true (.t 3), none, some (0, 1)⟩,
 zi 51 (.mkrow 4 1 [(.int .i64 0), (.int .u32 0), (.int .u32 0), (.bool false)] [(0, (.t 50))]),
 zi 52 (.append 4 24 (.t 49) (.t 51)),
 zi 53 (.mov (.t 0)),
 zi 54 (.mov (.t 5)),
 zi 55 (.slice false 4 (.t 53) (some (.t 54)) none none),
 zi 56 (.append 4 24 (.t 52) (.t 55)),
 zi 4 (.mov (.t 56))])
 (.ret)))))) }
def archipelagoref8_Find_b0 : IC :=
  (.seq (.seq (.reg [zi 6 (.mov (.t 5)),
 zi 7 (.mov (.t 0)),
 zi 8 (.len .sl (.t 7)),
 zi 9 (.bin .lss (.t 6) (.t 8))])
 (.cond (.t 9)
 (.skip)
 (.exit 0)))
 (.seq (.block 1
 (.seq (.regD [0, 1, 2, 3, 4, 5] [zi 12 (.mov (.t 0)),
 zi 13 (.mov (.t 5)),
 zi 14 (.iaddr 2 (.t 12) (.t 13)),
 zi 15 (.load 2 true (.t 14)),
 zi 16 (.load 2 true (.t 3)),
 zi 17 (.eq (.struct [.int, .int]) false (.t 15) (.t 16))])
 (.cond (.t 17)
 (.seq (.reg [zi 18 (.mov (.t 5)),
 zi 4 (.mov (.t 18))])
 (.ret))
 (.skip))))
 (.reg [zi 10 (.mov (.t 5)),
 zi 11 (.bin .add (.t 10) (.c (.int .i64 1))),
 zi 5 (.mov (.t 11))])))
def ir_archipelagoref8_Find : IFn :=
  { params := 2, results := [.tmp 4], body :=
  (.seq (.reg [zi 3 (.box (.t 1)),
 zi 4 (.mov (.c (.int .i64 0)))])
 (.seq (.seq (.reg [zi 5 (.mov (.c (.int .i64 0)))])
 (.block 0
 (.loop [0, 3, 5] archipelagoref8_Find_b0)))
 (.seq (.reg [zi 4 (.mov (.c (.int .i64 (-1))))])
 (.ret)))) }
def ir_archipelagoref8_Has : IFn :=
  { params := 2, results := [.tmp 4], body :=
  (.seq (.reg [zi 3 (.box (.t 1)),
 zi 4 (.mov (.c (.bool false)))])
 (.seq (.reg [zi 5 (.mov (.t 0)),
 zi 6 (.load 2 true (.t 3)),
 zi 7 (.call fid_archipelagoref8_Find [(.t 5), (.t 6)]),
 zi 8 (.bin .geq (.t 7) (.c (.int .i64 0))),
 zi 4 (.mov (.t 8))])
 (.ret))) }
def archipelagoref8_Rising_b0 : IC :=
  (.seq (.seq (.reg [zi 4 (.mov (.t 3)),
 zi 5 (.mov (.t 0)),
 zi 6 (.len .sl (.t 5)),
 zi 7 (.bin .lss (.t 4) (.t 6))])
 (.cond (.t 7)
 (.skip)
 (.exit 0)))
 (.seq (.block 1
 (.seq (.regD [0, 1, 2, 3, 4, 5, 6, 7, 8, 9, 10] [zi 10 (.mov (.t 0)),
 zi 11 (.mov (.t 3)),
 zi 12 (.bin .sub (.t 11) (.c (.int .i64 1))),
 zi 13 (.iaddr 2 (.t 10) (.t 12)),
 zi 14 (.load 2 true (.t 13)),
 zi 15 (.mov (.t 0)),
 zi 16 (.mov (.t 3)),
 zi 17 (.iaddr 2 (.t 15) (.t 16)),
 zi 18 (.load 2 true (.t 17)),
 zi 19 (.call fid_archipelagoref8_Less [(.t 14), (.t 18)]),
 zi 20 (.un .not (.t 19))])
 (.cond (.t 20)
 (.seq (.reg [zi 2 (.mov (.c (.bool false)))])
 (.ret))
 (.skip))))
 (.reg [zi 8 (.mov (.t 3)),
 zi 9 (.bin .add (.t 8) (.c (.int .i64 1))),
 zi 3 (.mov (.t 9))])))
def ir_archipelagoref8_Rising : IFn :=
  { params := 1, results := [.tmp 2], body :=
  (.seq (.reg [zi 2 (.mov (.c (.bool false)))])
 (.seq (.seq (.reg [zi 3 (.mov (.c (.int .i64 1)))])
 (.block 0
 (.loop [0, 3] archipelagoref8_Rising_b0)))
 (.seq (.reg [zi 2 (.mov (.c (.bool true)))])
 (.ret)))) }
def archipelagoref8_Turn_b0 : IC :=
  (.seq (.seq (.regD [0, 1, 2, 3, 4, 5, 6, 7, 8, 9, 10, 11, 12] [zi 33 (.mov (.t 6)),
 zi 34 (.mov (.t 0)),
 zi 35 (.len .sl (.t 34)),
 zi 36 (.bin .lss (.t 33) (.t 35)),
 zi 37 (.mov (.t 36)),
 zg 38 37 true (.mov (.t 0)),
 zg 39 37 true (.mov (.t 6)),
 zg 40 37 true (.iaddr 2 (.t 38) (.t 39)),
 zg 41 37 true (.load 2 true (.t 40)),
 zg 42 37 true (.faddr 1 (.t 3)),
 zg 43 37 true (.load 2 true (.t 42)),
 zg 44 37 true (.call fid_archipelagoref8_Less [(.t 41), (.t 43)]),
 zi 45 (.pick (.t 37) (.t 44) (.c (.bool false)))])
 (.cond (.t 45)
 (.skip)
 (.exit 0)))
 (.block 1
 (.reg [zi 46 (.mov (.t 6)),
 zi 47 (.bin .add (.t 46) (.c (.int .i64 1))),
 zi 6 (.mov (.t 47))])))
def ir_archipelagoref8_Turn : IFn :=
  { params := 2, results := [.tmp 4, .tmp 5], body :=
  (.seq (.reg [zi 3 (.box (.t 1)),
 zi 4 (.mov (.c .nils)),
 zi 5 (.mov (.c (.bool false)))])
 (.seq (.reg [zi 7 (.mov (.t 0)),
 zi 8 (.faddr 1 (.t 3)),
 zi 9 (.load 2 true (.t 8)),
 zi 10 (.call fid_archipelagoref8_Find [(.t 7), (.t 9)]),
 zi 6 (.mov (.t 10))])
 (.seq (.seq (.reg [zi 11 (.mov (.t 0)),
 zi 12 (.call fid_archipelagoref8_Rising [(.t 11)]),
 zi 13 (.un .not (.t 12)),
 zi 14 (.mov (.t 13)),
 zg 15 14 false (.faddr 3 (.t 3)),
 zg 16 14 false (.load 1 false (.t 15)),
 zg 17 14 false (.mov (.t 6)),
 zg 18 14 false (.bin .geq (.t 17) (.c (.int .i64 0))),
 zg 19 14 false (.eq .bool false (.t 16) (.t 18)),
 zi 20 (.pick (.t 14) (.c (.bool true)) (.t 19))])
 (.cond (.t 20)
 (.seq (.reg [zi 4 (.mov (.c .nils)),
 zi 5 (.mov (.c (.bool false)))])
 (.ret))
 (.skip)))
 (.seq (.seq (.reg [zi 21 (.faddr 3 (.t 3)),
 zi 22 (.load 1 false (.t 21)),
 zi 23 (.un .not (.t 22))])
 (.cond (.t 23)
 (.seq (.regD [0, 1, 2, 3, 4, 5, 6, 7, 8, 9, 10] [zi 24 (.mov (.t 0)),
 zi 25 (.mov (.t 6)),
 zi 26 (.slice false 2 (.t 24) none (some (.t 25)) none),
 zi 27 (.append 2 8 (.c .nils) (.t 26)),
 zi 28 (.mov (.t 0)),
 zi 29 (.mov (.t 6)),
 zi 30 (.bin .add (.t 29) (.c (.int .i64 1))),
 zi 31 (.slice false 2 (.t 28) (some (.t 30)) none none),
 zi 32 (.append 2 8 (.t 27) (.t 31)),
 zi 4 (.mov (.t 32)),
 zi 5 (.mov (.c (.bool true)))])
 (.ret))
 (.skip)))
 (.seq (.reg [zi 6 (.mov (.c (.int .i64 0)))])
 (.seq (.block 0
 (.loop [0, 3, 6] archipelagoref8_Turn_b0))
 (.seq (.regD [0, 1, 2, 3, 4, 5, 6, 7, 8, 9, 10, 11, 12, 13] [zi 48 (.mov (.t 0)),
 zi 49 (.mov (.t 6)),
 zi 50 (.slice false 2 (.t 48) none (some (.t 49)) none),
 zi 51 (.append 2 8 (.c .nils) (.t 50)),
 zi 52 (.faddr 1 (.t 3)),
 ⟨some 53, .load 2 true (.t 52), none, some (0, 1)⟩,
 zi 54 (.mkrow 2 1 [(.int .u32 0), (.int .u32 0)] [(0, (.t 53))]),
 zi 55 (.append 2 8 (.t 51) (.t 54)),
 zi 56 (.mov (.t 0)),
 zi 57 (.mov (.t 6)),
 zi 58 (.slice false 2 (.t 56) (some (.t 57)) none none),
 zi 59 (.append 2 8 (.t 55) (.t 58)),
 zi 4 (.mov (.t 59)),
 zi 5 (.mov (.c (.bool true)))])
 (.ret)))))))) }
def archipelagoseat_History_b0 : IC :=
  (.seq (.seq (.reg [zi 20 (.mov (.t 8)),
 zi 21 (.bin .add (.t 20) (.c (.int .i64 2))),
 zi 22 (.mov (.t 1)),
 zi 23 (.len .sl (.t 22)),
 zi 24 (.bin .lss (.t 21) (.t 23)),
 zi 25 (.mov (.t 24)),
 zg 26 25 true (.mov (.t 7)),
 zg 27 25 true (.len .sl (.t 26)),
 zg 28 25 true (.bin .lss (.t 27) (.c (.int .i64 40))),
 zi 29 (.pick (.t 25) (.t 28) (.c (.bool false)))])
 (.cond (.t 29)
 (.skip)
 (.exit 0)))
 (.seq (.block 1
 (.seq (.reg [zi 32 (.mov (.t 6)),
 zi 33 (.mov (.t 1)),
 zi 34 (.mov (.t 8)),
 zi 35 (.iaddr 1 (.t 33) (.t 34)),
 zi 36 (.load 1 false (.t 35)),
 zi 37 (.bin .rem (.t 36) (.c (.int .u8 4))),
 zi 38 (.conv .i64 (.t 37)),
 zi 39 (.bin .add (.t 32) (.t 38)),
 zi 6 (.mov (.t 39))])
 (.seq (.seq (.reg [zi 40 (.mov (.t 1)),
 zi 41 (.mov (.t 8)),
 zi 42 (.iaddr 1 (.t 40) (.t 41)),
 zi 43 (.load 1 false (.t 42)),
 zi 44 (.bin .gtr (.t 43) (.c (.int .u8 240)))])
 (.cond (.t 44)
 (.reg [zi 45 (.mov (.t 6)),
 zi 46 (.mov (.t 1)),
 zi 47 (.mov (.t 8)),
 zi 48 (.iaddr 1 (.t 46) (.t 47)),
 zi 49 (.load 1 false (.t 48)),
 zi 50 (.bin .rem (.t 49) (.c (.int .u8 40))),
 zi 51 (.bin .shl (.c (.int .i64 1)) (.t 50)),
 zi 52 (.bin .add (.t 45) (.t 51)),
 zi 6 (.mov (.t 52))])
 (.skip)))
 (.seq (.regD [0, 1, 2, 3, 4, 5, 6, 7, 8, 9, 10, 11, 12, 13, 14, 16, 17, 15, 18] [zi 54 (.mov (.t 1)),
 zi 55 (.mov (.t 8)),
 zi 56 (.bin .add (.t 55) (.c (.int .i64 1))),
 zi 57 (.iaddr 1 (.t 54) (.t 56)),
 zi 58 (.load 1 false (.t 57)),
 zi 59 (.mov (.t 1)),
 zi 60 (.mov (.t 8)),
 zi 61 (.bin .add (.t 60) (.c (.int .i64 2))),
 zi 62 (.iaddr 1 (.t 59) (.t 61)),
 zi 63 (.load 1 false (.t 62)),
 zi 64 (.faddr 0 (.t 5)),
 zi 65 (.load 1 false (.t 64)),
 zi 66 (.call fid_archipelagoseat_Edge [(.t 58), (.t 63), (.t 65)]),
 zi 53 (.mov (.t 66)),
 zi 67 (.extract (.t 53) 0),
 zi 9 (.box (.c (.agg [(.int .u32 0), (.int .u32 0)]))),
 zn (.store 2 (.t 9) (.t 67)),
 zi 68 (.extract (.t 53) 1),
 zi 10 (.mov (.t 68))])
 (.seq (.reg [zi 69 (.mov (.t 10))])
 (.cond (.t 69)
 (.reg [zi 70 (.mov (.t 7)),
 zi 71 (.mov (.t 6)),
 zi 72 (.load 2 true (.t 9)),
 zi 73 (.build [(.int .i64 0), (.int .u32 0), (.int .u32 0), (.bool false)] [(0, 1, (.t 71)), (1, 2, (.t 72))]),
 zi 74 (.call fid_archipelagoseat_insert [(.t 70), (.t 73)]),
 zi 7 (.mov (.t 74))])
 (.skip)))))))
 (.reg [zi 30 (.mov (.t 8)),
 zi 31 (.bin .add (.t 30) (.c (.int .i64 3))),
 zi 8 (.mov (.t 31))])))
def archipelagoseat_History_b1 : IC :=
  (.seq (.seq (.reg [zi 75 (.mov (.t 12)),
 zi 76 (.mov (.t 7)),
 zi 77 (.len .sl (.t 76)),
 zi 78 (.bin .lss (.t 75) (.t 77))])
 (.cond (.t 78)
 (.skip)
 (.exit 2)))
 (.seq (.block 3
 (.seq (.reg [zi 81 (.mov (.t 7)),
 zi 82 (.mov (.t 12)),
 zi 83 (.iaddr 4 (.t 81) (.t 82)),
 zi 84 (.load 4 true (.t 83)),
 zi 13 (.box (.c (.agg [(.int .i64 0), (.int .u32 0), (.int .u32 0), (.bool false)]))),
 zn (.store 4 (.t 13) (.t 84))])
 (.seq (.reg [zi 85 (.mov (.t 11)),
 zi 86 (.faddr 1 (.t 13)),
 zi 87 (.load 2 true (.t 86)),
 zi 88 (.call fid_archipelagoref8_Has [(.t 85), (.t 87)]),
 zi 89 (.un .not (.t 88)),
 zi 90 (.faddr 3 (.t 13)),
 zn (.store 1 (.t 90) (.t 89))])
 (.seq (.reg [zi 92 (.mov (.t 11)),
 zi 93 (.load 4 true (.t 13)),
 zi 94 (.call fid_archipelagoref8_Turn [(.t 92), (.t 93)]),
 zi 91 (.mov (.t 94)),
 zi 95 (.extract (.t 91) 0),
 zi 96 (.extract (.t 91) 1),
 zi 11 (.mov (.t 95))])
 (.reg [zi 97 (.faddr 1 (.t 5)),
 zi 98 (.load 1 false (.t 97)),
 zi 99 (.load 4 true (.t 13)),
 zi 100 (.mkrow 4 1 [(.int .i64 0), (.int .u32 0), (.int .u32 0), (.bool false)] [(0, (.t 99))]),
 zi 101 (.append 4 24 (.t 98) (.t 100)),
 zi 102 (.faddr 1 (.t 5)),
 zn (.store 1 (.t 102) (.t 101))])))))
 (.reg [zi 79 (.mov (.t 12)),
 zi 80 (.bin .add (.t 79) (.c (.int .i64 1))),
 zi 12 (.mov (.t 80))])))
def ir_archipelagoseat_History : IFn :=
  { params := 2, results := [.cell 4 2 true], body :=
  (.seq (.reg [zi 4 (.box (.c (.agg [(.int .u64 0), .nils])))])
 (.seq (.reg [zi 14 (.mov (.t 0)),
 zi 15 (.call fid_archipelagoseat_Vertices [(.t 14)]),
 zi 16 (.build [(.int .u64 0), .nils] [(0, 1, (.t 15))]),
 zi 5 (.box (.c (.agg [(.int .u64 0), .nils]))),
 zn (.store 2 (.t 5) (.t 16))])
 (.seq (.reg [zi 17 (.mov (.t 0)),
 zi 18 (.bin .rem (.t 17) (.c (.int .u8 3))),
 zi 19 (.conv .i64 (.t 18)),
 zi 6 (.mov (.t 19))])
 (.seq (.reg [zi 7 (.mov (.c .nils))])
 (.seq (.seq (.reg [zi 8 (.mov (.c (.int .i64 0)))])
 (.block 0
 (.loop [1, 4, 5, 6, 7, 8] archipelagoseat_History_b0)))
 (.seq (.reg [zi 11 (.mov (.c .nils))])
 (.seq (.seq (.reg [zi 12 (.mov (.c (.int .i64 0)))])
 (.block 2
 (.loop [4, 5, 7, 11, 12] archipelagoseat_History_b1)))
 (.seq (.reg [zi 103 (.load 2 true (.t 5)),
 zn (.store 2 (.t 4) (.t 103))])
 (.ret))))))))) }
def archipelagoseat_Late_b0 : IC :=
  (.seq (.seq (.reg [zi 25 (.mov (.t 6)),
 zi 26 (.mov (.t 3)),
 zi 27 (.bin .lss (.t 25) (.t 26))])
 (.cond (.t 27)
 (.skip)
 (.exit 0)))
 (.seq (.block 1
 (.seq (.reg [zi 30 (.faddr 1 (.t 1)),
 zi 31 (.load 1 false (.t 30)),
 zi 32 (.mov (.t 6)),
 zi 33 (.iaddr 4 (.t 31) (.t 32)),
 zi 34 (.load 4 true (.t 33)),
 zi 7 (.box (.c (.agg [(.int .i64 0), (.int .u32 0), (.int .u32 0), (.bool false)]))),
 zn (.store 4 (.t 7) (.t 34))])
 (.seq (.reg [zi 35 (.faddr 0 (.t 7)),
 zi 36 (.load 1 false (.t 35)),
 zi 37 (.mov (.t 4)),
 zi 38 (.bin .add (.t 36) (.t 37)),
 zi 39 (.faddr 0 (.t 7)),
 zn (.store 1 (.t 39) (.t 38))])
 (.reg [zi 40 (.faddr 1 (.t 5)),
 zi 41 (.load 1 false (.t 40)),
 zi 42 (.load 4 true (.t 7)),
 zi 43 (.mkrow 4 1 [(.int .i64 0), (.int .u32 0), (.int .u32 0), (.bool false)] [(0, (.t 42))]),
 zi 44 (.append 4 24 (.t 41) (.t 43)),
 zi 45 (.faddr 1 (.t 5)),
 zn (.store 1 (.t 45) (.t 44))]))))
 (.reg [zi 28 (.mov (.t 6)),
 zi 29 (.bin .add (.t 28) (.c (.int .i64 1))),
 zi 6 (.mov (.t 29))])))
def ir_archipelagoseat_Late : IFn :=
  { params := 1, results := [.cell 2 2 true], body :=
  (.seq (.reg [zi 1 (.box (.t 0)),
 zi 2 (.box (.c (.agg [(.int .u64 0), .nils])))])
 (.seq (.reg [zi 8 (.faddr 1 (.t 1)),
 zi 9 (.load 1 false (.t 8)),
 zi 10 (.len .sl (.t 9)),
 zi 3 (.mov (.t 10))])
 (.seq (.seq (.reg [zi 11 (.mov (.t 3)),
 zi 12 (.bin .eql (.t 11) (.c (.int .i64 0)))])
 (.cond (.t 12)
 (.seq (.reg [zi 13 (.load 2 true (.t 1)),
 zn (.store 2 (.t 2) (.t 13))])
 (.ret))
 (.skip)))
 (.seq (.reg [zi 14 (.faddr 1 (.t 1)),
 zi 15 (.load 1 false (.t 14)),
 zi 16 (.mov (.t 3)),
 zi 17 (.bin .sub (.t 16) (.c (.int .i64 1))),
 zi 18 (.iaddr 4 (.t 15) (.t 17)),
 zi 19 (.faddr 0 (.t 18)),
 zi 20 (.load 1 false (.t 19)),
 zi 21 (.bin .sub (.c (.int .i64 4611686018427387903)) (.t 20)),
 zi 4 (.mov (.t 21))])
 (.seq (.reg [zi 22 (.faddr 0 (.t 1)),
 zi 23 (.load 1 false (.t 22)),
 zi 24 (.build [(.int .u64 0), .nils] [(0, 1, (.t 23))]),
 zi 5 (.box (.c (.agg [(.int .u64 0), .nils]))),
 zn (.store 2 (.t 5) (.t 24))])
 (.seq (.seq (.reg [zi 6 (.mov (.c (.int .i64 0)))])
 (.block 0
 (.loop [1, 2, 3, 4, 5, 6] archipelagoseat_Late_b0)))
 (.seq (.reg [zi 46 (.load 2 true (.t 5)),
 zn (.store 2 (.t 2) (.t 46))])
 (.ret)))))))) }
def archipelagoref1_Writer_Put_b0 : IC :=
  (.seq (.seq (.reg [zi 11 (.mov (.t 6)),
 zi 12 (.bin .geq (.t 11) (.c (.int .i64 0)))])
 (.cond (.t 12)
 (.skip)
 (.exit 0)))
 (.seq (.block 1
 (.regD [1, 2, 3, 4, 5, 6, 7, 8, 9, 10, 11, 0, 12, 13, 14] [zi 16 (.mov (.t 0)),
 zi 17 (.nilck (.t 16)),
 zi 18 (.faddr 0 (.t 17)),
 zi 19 (.load 1 false (.t 18)),
 zi 20 (.mov (.t 1)),
 zi 21 (.mov (.t 6)),
 zi 22 (.bin .shr (.t 20) (.t 21)),
 zi 23 (.bin .and (.t 22) (.c (.int .u64 1))),
 zi 24 (.bin .eql (.t 23) (.c (.int .u64 1))),
 zi 25 (.mkrow 1 1 [(.bool false)] [(0, (.t 24))]),
 zi 26 (.append 1 1 (.t 19) (.t 25)),
 zi 15 (.mov (.t 0)),
 zi 27 (.nilck (.t 15)),
 zi 28 (.faddr 0 (.t 27)),
 zn (.store 1 (.t 28) (.t 26))]))
 (.reg [zi 13 (.mov (.t 6)),
 zi 14 (.bin .sub (.t 13) (.c (.int .i64 1))),
 zi 6 (.mov (.t 14))])))
def ir_archipelagoref1_Writer_Put : IFn :=
  { params := 3, results := [], body :=
  (.seq (.reg [zi 7 (.mov (.t 2)),
 zi 8 (.minmax false [(.t 7), (.c (.int .i64 0))]),
 zi 9 (.minmax true [(.t 8), (.c (.int .i64 64))]),
 zi 10 (.bin .sub (.t 9) (.c (.int .i64 1))),
 zi 6 (.mov (.t 10))])
 (.block 0
 (.loop [0, 1, 6] archipelagoref1_Writer_Put_b0))) }
def archipelagoref1_length_b0 : IC :=
  (.seq (.seq (.reg [zi 4 (.mov (.t 0)),
 zi 5 (.bin .gtr (.t 4) (.c (.int .u64 0)))])
 (.cond (.t 5)
 (.skip)
 (.exit 0)))
 (.block 1
 (.reg [zi 6 (.mov (.t 3)),
 zi 7 (.bin .add (.t 6) (.c (.int .i64 1))),
 zi 8 (.mov (.t 0)),
 zi 9 (.bin .shr (.t 8) (.c (.int .u64 1))),
 zi 3 (.mov (.t 7)),
 zi 0 (.mov (.t 9))])))
def ir_archipelagoref1_length : IFn :=
  { params := 1, results := [.tmp 2], body :=
  (.seq (.reg [zi 2 (.mov (.c (.int .i64 0)))])
 (.seq (.reg [zi 3 (.mov (.c (.int .i64 0)))])
 (.seq (.block 0
 (.loop [0, 3] archipelagoref1_length_b0))
 (.seq (.reg [zi 10 (.mov (.t 3)),
 zi 2 (.mov (.t 10))])
 (.ret))))) }
def ir_archipelagoref1_GammaPut : IFn :=
  { params := 2, results := [], body :=
  (.seq (.reg [zi 5 (.mov (.t 1)),
 zi 6 (.call fid_archipelagoref1_length [(.t 5)]),
 zi 4 (.mov (.t 6))])
 (.seq (.reg [zi 7 (.mov (.t 4)),
 zi 8 (.bin .gtr (.t 7) (.c (.int .i64 0)))])
 (.cond (.t 8)
 (.seq (.reg [zi 9 (.mov (.t 0)),
 zi 10 (.mov (.t 4)),
 zi 11 (.bin .sub (.t 10) (.c (.int .i64 1))),
 zi 12 (.call fid_archipelagoref1_Writer_Put [(.t 9), (.c (.int .u64 0)), (.t 11)])])
 (.reg [zi 13 (.mov (.t 0)),
 zi 14 (.mov (.t 1)),
 zi 15 (.mov (.t 4)),
 zi 16 (.call fid_archipelagoref1_Writer_Put [(.t 13), (.t 14), (.t 15)])]))
 (.skip)))) }
def archipelagoref1_Writer_Bytes_b0 : IC :=
  (.seq (.seq (.reg [zi 13 (.mov (.t 4)),
 zi 14 (.mov (.t 0)),
 zi 15 (.nilck (.t 14)),
 zi 16 (.faddr 0 (.t 15)),
 zi 17 (.load 1 false (.t 16)),
 zi 18 (.len .sl (.t 17)),
 zi 19 (.bin .lss (.t 13) (.t 18))])
 (.cond (.t 19)
 (.skip)
 (.exit 0)))
 (.seq (.block 1
 (.seq (.reg [zi 22 (.mov (.t 0)),
 zi 23 (.nilck (.t 22)),
 zi 24 (.faddr 0 (.t 23)),
 zi 25 (.load 1 false (.t 24)),
 zi 26 (.mov (.t 4)),
 zi 27 (.iaddr 1 (.t 25) (.t 26)),
 zi 28 (.load 1 false (.t 27))])
 (.cond (.t 28)
 (.regD [0, 1, 2, 3, 4, 5, 6, 7, 8, 9, 10] [zi 29 (.mov (.t 3)),
 zi 30 (.mov (.t 4)),
 zi 31 (.bin .quo (.t 30) (.c (.int .i64 8))),
 zi 32 (.iaddr 1 (.t 29) (.t 31)),
 zi 33 (.load 1 false (.t 32)),
 zi 34 (.mov (.t 4)),
 zi 35 (.bin .rem (.t 34) (.c (.int .i64 8))),
 zi 36 (.bin .shl (.c (.int .u8 1)) (.t 35)),
 zi 37 (.bin .or (.t 33) (.t 36)),
 zi 38 (.iaddr 1 (.t 29) (.t 31)),
 zn (.store 1 (.t 38) (.t 37))])
 (.skip))))
 (.reg [zi 20 (.mov (.t 4)),
 zi 21 (.bin .add (.t 20) (.c (.int .i64 1))),
 zi 4 (.mov (.t 21))])))
def ir_archipelagoref1_Writer_Bytes : IFn :=
  { params := 1, results := [.tmp 2], body :=
  (.seq (.reg [zi 2 (.mov (.c .nils))])
 (.seq (.reg [zi 5 (.mov (.t 0)),
 zi 6 (.nilck (.t 5)),
 zi 7 (.faddr 0 (.t 6)),
 zi 8 (.load 1 false (.t 7)),
 zi 9 (.len .sl (.t 8)),
 zi 10 (.bin .add (.t 9) (.c (.int .i64 7))),
 zi 11 (.bin .quo (.t 10) (.c (.int .i64 8))),
 zi 12 (.mkslice 1 1 [(.int .u8 0)] (.t 11) (.t 11)),
 zi 3 (.mov (.t 12))])
 (.seq (.seq (.reg [zi 4 (.mov (.c (.int .i64 0)))])
 (.block 0
 (.loop [0, 3, 4] archipelagoref1_Writer_Bytes_b0)))
 (.seq (.reg [zi 39 (.mov (.t 3)),
 zi 2 (.mov (.t 39))])
 (.ret))))) }
def archipelagoref15_DeltaPut_b0 : IC :=
  (.seq (.seq (.reg [zi 17 (.mov (.t 8)),
 zi 18 (.mov (.t 1)),
 zi 19 (.len .sl (.t 18)),
 zi 20 (.bin .lss (.t 17) (.t 19))])
 (.cond (.t 20)
 (.skip)
 (.exit 0)))
 (.seq (.block 1
 (.seq (.reg [zi 23 (.mov (.t 1)),
 zi 24 (.mov (.t 8)),
 zi 25 (.iaddr 4 (.t 23) (.t 24)),
 zi 26 (.load 4 true (.t 25)),
 zi 9 (.box (.c (.agg [(.int .i64 0), (.int .u32 0), (.int .u32 0), (.bool false)]))),
 zn (.store 4 (.t 9) (.t 26))])
 (.seq (.seq (.reg [zi 27 (.faddr 0 (.t 9)),
 zi 28 (.load 1 false (.t 27)),
 zi 29 (.bin .lss (.t 28) (.c (.int .i64 0))),
 zi 30 (.mov (.t 29)),
 zg 31 30 false (.faddr 0 (.t 9)),
 zg 32 30 false (.load 1 false (.t 31)),
 zg 33 30 false (.bin .gtr (.t 32) (.c (.int .i64 4611686018427387903))),
 zi 34 (.pick (.t 30) (.c (.bool true)) (.t 33)),
 zi 35 (.mov (.t 34)),
 zg 36 35 false (.faddr 1 (.t 9)),
 zg 37 35 false (.faddr 0 (.t 36)),
 zg 38 35 false (.load 1 false (.t 37)),
 zg 39 35 false (.faddr 1 (.t 9)),
 zg 40 35 false (.faddr 1 (.t 39)),
 zg 41 35 false (.load 1 false (.t 40)),
 zg 42 35 false (.bin .geq (.t 38) (.t 41)),
 zi 43 (.pick (.t 35) (.c (.bool true)) (.t 42)),
 zi 44 (.mov (.t 43)),
 zg 45 44 false (.mov (.t 8)),
 zg 46 44 false (.bin .eql (.t 45) (.c (.int .i64 0))),
 zg 47 44 false (.mov (.t 46)),
 zg 48 47 true (.faddr 0 (.t 9)),
 zg 49 47 true (.load 1 false (.t 48)),
 zg 50 47 true (.mov (.t 0)),
 zg 51 47 true (.bin .neq (.t 49) (.t 50)),
 zg 52 44 false (.pick (.t 47) (.t 51) (.c (.bool false))),
 zi 53 (.pick (.t 44) (.c (.bool true)) (.t 52)),
 zi 54 (.mov (.t 53)),
 zg 55 54 false (.mov (.t 8)),
 zg 56 54 false (.bin .gtr (.t 55) (.c (.int .i64 0))),
 zg 57 54 false (.mov (.t 56)),
 zg 58 57 true (.load 4 true (.t 7)),
 zg 59 57 true (.load 4 true (.t 9)),
 zg 60 57 true (.call fid_archipelagoref8_Before [(.t 58), (.t 59)]),
 zg 61 57 true (.un .not (.t 60)),
 zg 62 54 false (.pick (.t 57) (.t 61) (.c (.bool false))),
 zi 63 (.pick (.t 54) (.c (.bool true)) (.t 62))])
 (.cond (.t 63)
 (.seq (.reg [zi 4 (.mov (.c .nils)),
 zi 5 (.mov (.c (.int .i64 23)))])
 (.ret))
 (.skip)))
 (.seq (.reg [zi 64 (.mov (.t 6)),
 zi 65 (.faddr 0 (.t 9)),
 zi 66 (.load 1 false (.t 65)),
 zi 67 (.faddr 0 (.t 7)),
 zi 68 (.load 1 false (.t 67)),
 zi 69 (.bin .sub (.t 66) (.t 68)),
 zi 70 (.conv .u64 (.t 69)),
 zi 71 (.bin .add (.t 70) (.c (.int .u64 1))),
 zi 72 (.call fid_archipelagoref1_GammaPut [(.t 64), (.t 71)])])
 (.seq (.reg [zi 10 (.mov (.c (.int .u64 0)))])
 (.seq (.seq (.reg [zi 73 (.faddr 3 (.t 9)),
 zi 74 (.load 1 false (.t 73))])
 (.cond (.t 74)
 (.reg [zi 10 (.mov (.c (.int .u64 1)))])
 (.skip)))
 (.seq (.reg [zi 75 (.mov (.t 6)),
 zi 76 (.mov (.t 10)),
 zi 77 (.call fid_archipelagoref1_Writer_Put [(.t 75), (.t 76), (.c (.int .i64 1))])])
 (.seq (.regD [0, 1, 2, 3, 4, 5, 6, 7, 8, 9] [zi 78 (.faddr 1 (.t 9)),
 zi 79 (.faddr 0 (.t 78)),
 zi 80 (.load 1 false (.t 79)),
 zi 81 (.conv .u64 (.t 80)),
 zi 82 (.faddr 1 (.t 9)),
 zi 83 (.faddr 1 (.t 82)),
 zi 84 (.load 1 false (.t 83)),
 zi 85 (.conv .u64 (.t 84)),
 zi 11 (.mov (.t 81)),
 zi 12 (.mov (.t 85))])
 (.seq (.block 2
 (.seq (.reg [zi 101 (.mov (.t 8)),
 zi 102 (.bin .eql (.t 101) (.c (.int .i64 0))),
 zi 103 (.mov (.t 102)),
 zg 104 103 false (.faddr 0 (.t 9)),
 zg 105 103 false (.load 1 false (.t 104)),
 zg 106 103 false (.faddr 0 (.t 7)),
 zg 107 103 false (.load 1 false (.t 106)),
 zg 108 103 false (.bin .neq (.t 105) (.t 107)),
 zi 109 (.pick (.t 103) (.c (.bool true)) (.t 108)),
 zi 100 (.mov (.t 109))])
 (.cond (.t 100)
 (.seq (.reg [zi 110 (.mov (.t 6)),
 zi 111 (.mov (.t 11)),
 zi 112 (.bin .add (.t 111) (.c (.int .u64 1))),
 zi 113 (.call fid_archipelagoref1_GammaPut [(.t 110), (.t 112)])])
 (.reg [zi 114 (.mov (.t 6)),
 zi 115 (.mov (.t 12)),
 zi 116 (.mov (.t 11)),
 zi 117 (.bin .sub (.t 115) (.t 116)),
 zi 118 (.call fid_archipelagoref1_GammaPut [(.t 114), (.t 117)])]))
 (.seq (.reg [zi 120 (.faddr 1 (.t 9)),
 zi 121 (.faddr 0 (.t 120)),
 zi 122 (.load 1 false (.t 121)),
 zi 123 (.faddr 1 (.t 7)),
 zi 124 (.faddr 0 (.t 123)),
 zi 125 (.load 1 false (.t 124)),
 zi 126 (.bin .eql (.t 122) (.t 125)),
 zi 119 (.mov (.t 126))])
 (.cond (.t 119)
 (.seq (.reg [zi 127 (.mov (.t 6)),
 zi 128 (.call fid_archipelagoref1_GammaPut [(.t 127), (.c (.int .u64 1))])])
 (.reg [zi 129 (.mov (.t 6)),
 zi 130 (.mov (.t 12)),
 zi 131 (.faddr 1 (.t 7)),
 zi 132 (.faddr 1 (.t 131)),
 zi 133 (.load 1 false (.t 132)),
 zi 134 (.conv .u64 (.t 133)),
 zi 135 (.bin .sub (.t 130) (.t 134)),
 zi 136 (.call fid_archipelagoref1_GammaPut [(.t 129), (.t 135)])]))
 (.seq (.reg [zi 86 (.mov (.t 6)),
 zi 87 (.mov (.t 11)),
 zi 88 (.faddr 1 (.t 7)),
 zi 89 (.faddr 0 (.t 88)),
 zi 90 (.load 1 false (.t 89)),
 zi 91 (.conv .u64 (.t 90)),
 zi 92 (.bin .sub (.t 87) (.t 91)),
 zi 93 (.bin .add (.t 92) (.c (.int .u64 1))),
 zi 94 (.call fid_archipelagoref1_GammaPut [(.t 86), (.t 93)])])
 (.reg [zi 95 (.mov (.t 6)),
 zi 96 (.mov (.t 12)),
 zi 97 (.mov (.t 11)),
 zi 98 (.bin .sub (.t 96) (.t 97)),
 zi 99 (.call fid_archipelagoref1_GammaPut [(.t 95), (.t 98)])])))))))
 (.reg [zi 137 (.load 4 true (.t 9)),
 zn (.store 4 (.t 7) (.t 137))]))))))))))
 (.reg [zi 21 (.mov (.t 8)),
 zi 22 (.bin .add (.t 21) (.c (.int .i64 1))),
 zi 8 (.mov (.t 22))])))
def ir_archipelagoref15_DeltaPut : IFn :=
  { params := 2, results := [.tmp 4, .tmp 5], body :=
  (.seq (.reg [zi 4 (.mov (.c .nils)),
 zi 5 (.mov (.c (.int .i64 0)))])
 (.seq (.reg [zi 13 (.build [.nils] []),
 zi 14 (.box (.t 13)),
 zi 6 (.mov (.t 14))])
 (.seq (.reg [zi 15 (.mov (.t 0)),
 zi 16 (.build [(.int .i64 0), (.int .u32 0), (.int .u32 0), (.bool false)] [(0, 1, (.t 15))]),
 zi 7 (.box (.c (.agg [(.int .i64 0), (.int .u32 0), (.int .u32 0), (.bool false)]))),
 zn (.store 4 (.t 7) (.t 16))])
 (.seq (.seq (.reg [zi 8 (.mov (.c (.int .i64 0)))])
 (.block 0
 (.loop [0, 1, 6, 7, 8] archipelagoref15_DeltaPut_b0)))
 (.seq (.reg [zi 138 (.mov (.t 6)),
 zi 139 (.call fid_archipelagoref1_Writer_Bytes [(.t 138)]),
 zi 4 (.mov (.t 139)),
 zi 5 (.mov (.c (.int .i64 0)))])
 (.ret)))))) }
def ir_archipelagoseat_Change : IFn :=
  { params := 5, results := [.tmp 10], body :=
  (.seq (.reg [zi 10 (.mov (.c .nils))])
 (.seq (.reg [zi 13 (.mov (.t 0)),
 zi 14 (.append 1 1 (.c .nils) (.t 13)),
 zi 11 (.mov (.t 14))])
 (.seq (.seq (.reg [zi 15 (.mov (.t 11)),
 zi 16 (.len .sl (.t 15)),
 zi 17 (.bin .eql (.t 16) (.c (.int .i64 0)))])
 (.cond (.t 17)
 (.seq (.reg [zi 18 (.mov (.t 4)),
 zi 19 (.append 1 1 (.c .nils) (.t 18)),
 zi 10 (.mov (.t 19))])
 (.ret))
 (.skip)))
 (.seq (.reg [zi 20 (.mov (.t 2)),
 zi 21 (.conv .i64 (.t 20)),
 zi 22 (.mov (.t 11)),
 zi 23 (.len .sl (.t 22)),
 zi 24 (.bin .rem (.t 21) (.t 23)),
 zi 12 (.mov (.t 24))])
 (.seq (.seq (.reg [zi 25 (.mov (.t 1)),
 zi 26 (.bin .rem (.t 25) (.c (.int .u8 5)))])
 (.block 0
 (.seq (.seq (.reg [zi 37 (.bin .eql (.t 26) (.c (.int .u8 0))),
 zi 36 (.mov (.t 37))])
 (.cond (.t 36)
 (.skip)
 (.reg [zi 38 (.bin .eql (.t 26) (.c (.int .u8 1))),
 zi 36 (.mov (.t 38))])))
 (.cond (.t 36)
 (.reg [zi 39 (.mov (.t 11)),
 zi 40 (.mov (.t 12)),
 zi 41 (.mov (.t 3)),
 zi 42 (.iaddr 1 (.t 39) (.t 40)),
 zn (.store 1 (.t 42) (.t 41))])
 (.seq (.reg [zi 44 (.bin .eql (.t 26) (.c (.int .u8 2))),
 zi 43 (.mov (.t 44))])
 (.cond (.t 43)
 (.seq (.regD [0, 1, 2, 3, 4, 5, 6, 7, 8, 9, 10] [zi 45 (.mov (.t 0)),
 zi 46 (.mov (.t 12)),
 zi 47 (.slice false 1 (.t 45) none (some (.t 46)) none),
 zi 48 (.append 1 1 (.c .nils) (.t 47)),
 zi 49 (.mov (.t 4)),
 zi 50 (.append 1 1 (.t 48) (.t 49)),
 zi 51 (.mov (.t 0)),
 zi 52 (.mov (.t 12)),
 zi 53 (.slice false 1 (.t 51) (some (.t 52)) none none),
 zi 54 (.append 1 1 (.t 50) (.t 53)),
 zi 10 (.mov (.t 54))])
 (.ret))
 (.seq (.reg [zi 56 (.bin .eql (.t 26) (.c (.int .u8 3))),
 zi 55 (.mov (.t 56))])
 (.cond (.t 55)
 (.seq (.reg [zi 57 (.mov (.t 11)),
 zi 58 (.mov (.t 12)),
 zi 59 (.slice false 1 (.t 57) none (some (.t 58)) none),
 zi 10 (.mov (.t 59))])
 (.ret))
 (.regD [0, 1, 2, 3, 4, 5, 6, 7, 8, 9] [zi 27 (.mov (.t 0)),
 zi 28 (.mov (.t 12)),
 zi 29 (.slice false 1 (.t 27) none (some (.t 28)) none),
 zi 30 (.append 1 1 (.c .nils) (.t 29)),
 zi 31 (.mov (.t 0)),
 zi 32 (.mov (.t 12)),
 zi 33 (.bin .add (.t 32) (.c (.int .i64 1))),
 zi 34 (.slice false 1 (.t 31) (some (.t 33)) none none),
 zi 35 (.append 1 1 (.t 30) (.t 34)),
 zi 11 (.mov (.t 35))])))))))))
 (.seq (.reg [zi 60 (.mov (.t 11)),
 zi 10 (.mov (.t 60))])
 (.ret))))))) }
def ir_archipelagoref1_Reader_Left : IFn :=
  { params := 1, results := [.tmp 2], body :=
  (.seq (.reg [zi 2 (.mov (.c (.int .i64 0)))])
 (.seq (.regD [0, 1, 2, 3, 4, 5, 6, 7, 8, 9, 10, 11] [zi 3 (.mov (.t 0)),
 zi 4 (.nilck (.t 3)),
 zi 5 (.faddr 0 (.t 4)),
 zi 6 (.load 1 false (.t 5)),
 zi 7 (.len .sl (.t 6)),
 zi 8 (.bin .mul (.c (.int .i64 8)) (.t 7)),
 zi 9 (.mov (.t 0)),
 zi 10 (.nilck (.t 9)),
 zi 11 (.faddr 1 (.t 10)),
 zi 12 (.load 1 false (.t 11)),
 zi 13 (.bin .sub (.t 8) (.t 12)),
 zi 2 (.mov (.t 13))])
 (.ret))) }
def archipelagoref1_Reader_Take_b0 : IC :=
  (.seq (.seq (.reg [zi 15 (.mov (.t 7)),
 zi 16 (.mov (.t 1)),
 zi 17 (.bin .lss (.t 15) (.t 16))])
 (.cond (.t 17)
 (.skip)
 (.exit 0)))
 (.seq (.block 1
 (.seq (.regD [0, 1, 2, 3, 4, 5, 6, 7, 8, 9, 10, 11, 12, 13, 14, 15, 16, 17, 18, 19, 20, 21, 22] [zi 20 (.mov (.t 6)),
 zi 21 (.bin .shl (.t 20) (.c (.int .u64 1))),
 zi 22 (.mov (.t 0)),
 zi 23 (.nilck (.t 22)),
 zi 24 (.faddr 0 (.t 23)),
 zi 25 (.load 1 false (.t 24)),
 zi 26 (.mov (.t 0)),
 zi 27 (.nilck (.t 26)),
 zi 28 (.faddr 1 (.t 27)),
 zi 29 (.load 1 false (.t 28)),
 zi 30 (.bin .quo (.t 29) (.c (.int .i64 8))),
 zi 31 (.iaddr 1 (.t 25) (.t 30)),
 zi 32 (.load 1 false (.t 31)),
 zi 33 (.mov (.t 0)),
 zi 34 (.nilck (.t 33)),
 zi 35 (.faddr 1 (.t 34)),
 zi 36 (.load 1 false (.t 35)),
 zi 37 (.bin .rem (.t 36) (.c (.int .i64 8))),
 zi 38 (.bin .shr (.t 32) (.t 37)),
 zi 39 (.bin .and (.t 38) (.c (.int .u8 1))),
 zi 40 (.conv .u64 (.t 39)),
 zi 41 (.bin .or (.t 21) (.t 40)),
 zi 6 (.mov (.t 41))])
 (.reg [zi 42 (.mov (.t 0)),
 zi 43 (.nilck (.t 42)),
 zi 44 (.faddr 1 (.t 43)),
 zi 45 (.load 1 false (.t 44)),
 zi 46 (.bin .add (.t 45) (.c (.int .i64 1))),
 zi 47 (.nilck (.t 42)),
 zi 48 (.faddr 1 (.t 47)),
 zn (.store 1 (.t 48) (.t 46))])))
 (.reg [zi 18 (.mov (.t 7)),
 zi 19 (.bin .add (.t 18) (.c (.int .i64 1))),
 zi 7 (.mov (.t 19))])))
def ir_archipelagoref1_Reader_Take : IFn :=
  { params := 2, results := [.tmp 4, .tmp 5], body :=
  (.seq (.reg [zi 4 (.mov (.c (.int .u64 0))),
 zi 5 (.mov (.c (.bool false)))])
 (.seq (.reg [zi 8 (.mov (.t 1)),
 zi 9 (.minmax false [(.t 8), (.c (.int .i64 0))]),
 zi 10 (.minmax true [(.t 9), (.c (.int .i64 64))]),
 zi 1 (.mov (.t 10))])
 (.seq (.seq (.reg [zi 11 (.mov (.t 1)),
 zi 12 (.mov (.t 0)),
 zi 13 (.call fid_archipelagoref1_Reader_Left [(.t 12)]),
 zi 14 (.bin .gtr (.t 11) (.t 13))])
 (.cond (.t 14)
 (.seq (.reg [zi 4 (.mov (.c (.int .u64 0))),
 zi 5 (.mov (.c (.bool false)))])
 (.ret))
 (.skip)))
 (.seq (.reg [zi 6 (.mov (.c (.int .u64 0)))])
 (.seq (.seq (.reg [zi 7 (.mov (.c (.int .i64 0)))])
 (.block 0
 (.loop [0, 1, 6, 7] archipelagoref1_Reader_Take_b0)))
 (.seq (.reg [zi 49 (.mov (.t 6)),
 zi 4 (.mov (.t 49)),
 zi 5 (.mov (.c (.bool true)))])
 (.ret))))))) }
def archipelagoref1_GammaTake_b0 : IC :=
  (.seq (.seq (.reg [zi 14 (.mov (.t 5)),
 zi 15 (.bin .lss (.t 14) (.c (.int .i64 64)))])
 (.cond (.t 15)
 (.skip)
 (.exit 0)))
 (.seq (.block 1
 (.seq (.reg [zi 19 (.mov (.t 0)),
 zi 20 (.call fid_archipelagoref1_Reader_Take [(.t 19), (.c (.int .i64 1))]),
 zi 18 (.mov (.t 20)),
 zi 21 (.extract (.t 18) 0),
 zi 22 (.extract (.t 18) 1),
 zi 6 (.mov (.t 21)),
 zi 7 (.mov (.t 22))])
 (.seq (.seq (.reg [zi 23 (.mov (.t 7)),
 zi 24 (.un .not (.t 23))])
 (.cond (.t 24)
 (.exit 0)
 (.skip)))
 (.seq (.seq (.reg [zi 25 (.mov (.t 6)),
 zi 26 (.bin .eql (.t 25) (.c (.int .u64 0)))])
 (.cond (.t 26)
 (.exit 1)
 (.skip)))
 (.seq (.reg [zi 28 (.mov (.t 0)),
 zi 29 (.mov (.t 5)),
 zi 30 (.call fid_archipelagoref1_Reader_Take [(.t 28), (.t 29)]),
 zi 27 (.mov (.t 30)),
 zi 31 (.extract (.t 27) 0),
 zi 32 (.extract (.t 27) 1),
 zi 8 (.mov (.t 31)),
 zi 9 (.mov (.t 32))])
 (.seq (.seq (.reg [zi 33 (.mov (.t 9)),
 zi 34 (.un .not (.t 33))])
 (.cond (.t 34)
 (.exit 0)
 (.skip)))
 (.seq (.reg [zi 35 (.mov (.t 5)),
 zi 36 (.bin .shl (.c (.int .u64 1)) (.t 35)),
 zi 37 (.mov (.t 8)),
 zi 38 (.bin .or (.t 36) (.t 37)),
 zi 2 (.mov (.t 38)),
 zi 3 (.mov (.c (.bool true)))])
 (.ret))))))))
 (.reg [zi 16 (.mov (.t 5)),
 zi 17 (.bin .add (.t 16) (.c (.int .i64 1))),
 zi 5 (.mov (.t 17))])))
def ir_archipelagoref1_GammaTake : IFn :=
  { params := 1, results := [.tmp 2, .tmp 3], body :=
  (.seq (.reg [zi 2 (.mov (.c (.int .u64 0))),
 zi 3 (.mov (.c (.bool false)))])
 (.seq (.reg [zi 10 (.mov (.t 0)),
 zi 11 (.nilck (.t 10)),
 zi 12 (.faddr 1 (.t 11)),
 zi 13 (.load 1 false (.t 12)),
 zi 4 (.mov (.t 13))])
 (.seq (.seq (.reg [zi 5 (.mov (.c (.int .i64 0)))])
 (.block 0
 (.loop [0, 4, 5] archipelagoref1_GammaTake_b0)))
 (.seq (.reg [zi 39 (.mov (.t 0)),
 zi 40 (.mov (.t 4)),
 zi 41 (.nilck (.t 39)),
 zi 42 (.faddr 1 (.t 41)),
 zn (.store 1 (.t 42) (.t 40))])
 (.seq (.reg [zi 2 (.mov (.c (.int .u64 0))),
 zi 3 (.mov (.c (.bool false)))])
 (.ret)))))) }
def ir_archipelagoref15_event : IFn :=
  { params := 3, results := [.cell 6 4 true, .tmp 7], body :=
  (.seq (.reg [zi 4 (.box (.t 1)),
 zi 6 (.box (.c (.agg [(.int .i64 0), (.int .u32 0), (.int .u32 0), (.bool false)]))),
 zi 7 (.mov (.c (.bool false)))])
 (.seq (.reg [zi 20 (.mov (.t 0)),
 zi 21 (.call fid_archipelagoref1_GammaTake [(.t 20)]),
 zi 19 (.mov (.t 21)),
 zi 22 (.extract (.t 19) 0),
 zi 23 (.extract (.t 19) 1),
 zi 8 (.mov (.t 22)),
 zi 9 (.mov (.t 23))])
 (.seq (.reg [zi 25 (.mov (.t 0)),
 zi 26 (.call fid_archipelagoref1_Reader_Take [(.t 25), (.c (.int .i64 1))]),
 zi 24 (.mov (.t 26)),
 zi 27 (.extract (.t 24) 0),
 zi 28 (.extract (.t 24) 1),
 zi 10 (.mov (.t 27)),
 zi 11 (.mov (.t 28))])
 (.seq (.reg [zi 30 (.mov (.t 0)),
 zi 31 (.call fid_archipelagoref1_GammaTake [(.t 30)]),
 zi 29 (.mov (.t 31)),
 zi 32 (.extract (.t 29) 0),
 zi 33 (.extract (.t 29) 1),
 zi 12 (.mov (.t 32)),
 zi 13 (.mov (.t 33))])
 (.seq (.reg [zi 35 (.mov (.t 0)),
 zi 36 (.call fid_archipelagoref1_GammaTake [(.t 35)]),
 zi 34 (.mov (.t 36)),
 zi 37 (.extract (.t 34) 0),
 zi 38 (.extract (.t 34) 1),
 zi 14 (.mov (.t 37)),
 zi 15 (.mov (.t 38))])
 (.seq (.seq (.reg [zi 39 (.mov (.t 9)),
 zi 40 (.un .not (.t 39)),
 zi 41 (.mov (.t 40)),
 zg 42 41 false (.mov (.t 11)),
 zg 43 41 false (.un .not (.t 42)),
 zi 44 (.pick (.t 41) (.c (.bool true)) (.t 43)),
 zi 45 (.mov (.t 44)),
 zg 46 45 false (.mov (.t 13)),
 zg 47 45 false (.un .not (.t 46)),
 zi 48 (.pick (.t 45) (.c (.bool true)) (.t 47)),
 zi 49 (.mov (.t 48)),
 zg 50 49 false (.mov (.t 15)),
 zg 51 49 false (.un .not (.t 50)),
 zi 52 (.pick (.t 49) (.c (.bool true)) (.t 51)),
 zi 53 (.mov (.t 52)),
 zg 54 53 false (.mov (.t 8)),
 zg 55 53 false (.bin .sub (.t 54) (.c (.int .u64 1))),
 zg 56 53 false (.faddr 0 (.t 4)),
 zg 57 53 false (.load 1 false (.t 56)),
 zg 58 53 false (.bin .sub (.c (.int .i64 4611686018427387903)) (.t 57)),
 zg 59 53 false (.conv .u64 (.t 58)),
 zg 60 53 false (.bin .gtr (.t 55) (.t 59)),
 zi 61 (.pick (.t 53) (.c (.bool true)) (.t 60)),
 zi 62 (.mov (.t 61)),
 zg 63 62 false (.mov (.t 12)),
 zg 64 62 false (.bin .gtr (.t 63) (.c (.int .u64 4294967296))),
 zi 65 (.pick (.t 62) (.c (.bool true)) (.t 64)),
 zi 66 (.mov (.t 65)),
 zg 67 66 false (.mov (.t 14)),
 zg 68 66 false (.bin .gtr (.t 67) (.c (.int .u64 4294967296))),
 zi 69 (.pick (.t 66) (.c (.bool true)) (.t 68))])
 (.cond (.t 69)
 (.seq (.reg [zi 70 (.build [(.int .i64 0), (.int .u32 0), (.int .u32 0), (.bool false)] []),
 zn (.store 4 (.t 6) (.t 70)),
 zi 7 (.mov (.c (.bool false)))])
 (.ret))
 (.skip)))
 (.seq (.reg [zi 71 (.faddr 0 (.t 4)),
 zi 72 (.load 1 false (.t 71)),
 zi 73 (.mov (.t 8)),
 zi 74 (.bin .sub (.t 73) (.c (.int .u64 1))),
 zi 75 (.conv .i64 (.t 74)),
 zi 76 (.bin .add (.t 72) (.t 75)),
 zi 77 (.mov (.t 10)),
 zi 78 (.bin .eql (.t 77) (.c (.int .u64 1))),
 zi 79 (.build [(.int .i64 0), (.int .u32 0), (.int .u32 0), (.bool false)] [(0, 1, (.t 76)), (3, 1, (.t 78))]),
 zi 16 (.box (.c (.agg [(.int .i64 0), (.int .u32 0), (.int .u32 0), (.bool false)]))),
 zn (.store 4 (.t 16) (.t 79))])
 (.seq (.reg [zi 80 (.mov (.t 12)),
 zi 81 (.bin .sub (.t 80) (.c (.int .u64 1))),
 zi 82 (.mov (.t 12)),
 zi 83 (.bin .sub (.t 82) (.c (.int .u64 1))),
 zi 84 (.mov (.t 14)),
 zi 85 (.bin .add (.t 83) (.t 84)),
 zi 17 (.mov (.t 81)),
 zi 18 (.mov (.t 85))])
 (.seq (.seq (.reg [zi 86 (.mov (.t 2)),
 zi 87 (.un .not (.t 86)),
 zi 88 (.mov (.t 87)),
 zg 89 88 true (.mov (.t 8)),
 zg 90 88 true (.bin .eql (.t 89) (.c (.int .u64 1))),
 zi 91 (.pick (.t 88) (.t 90) (.c (.bool false)))])
 (.cond (.t 91)
 (.seq (.reg [zi 92 (.faddr 1 (.t 4)),
 zi 93 (.faddr 0 (.t 92)),
 zi 94 (.load 1 false (.t 93)),
 zi 95 (.conv .u64 (.t 94)),
 zi 96 (.mov (.t 12)),
 zi 97 (.bin .add (.t 95) (.t 96)),
 zi 98 (.bin .sub (.t 97) (.c (.int .u64 1))),
 zi 17 (.mov (.t 98))])
 (.seq (.reg [zi 99 (.mov (.t 17)),
 zi 100 (.mov (.t 14)),
 zi 101 (.bin .add (.t 99) (.t 100)),
 zi 18 (.mov (.t 101))])
 (.seq (.reg [zi 102 (.mov (.t 12)),
 zi 103 (.bin .eql (.t 102) (.c (.int .u64 1)))])
 (.cond (.t 103)
 (.reg [zi 104 (.faddr 1 (.t 4)),
 zi 105 (.faddr 1 (.t 104)),
 zi 106 (.load 1 false (.t 105)),
 zi 107 (.conv .u64 (.t 106)),
 zi 108 (.mov (.t 14)),
 zi 109 (.bin .add (.t 107) (.t 108)),
 zi 18 (.mov (.t 109))])
 (.skip)))))
 (.skip)))
 (.seq (.seq (.reg [zi 110 (.mov (.t 17)),
 zi 111 (.bin .geq (.t 110) (.c (.int .u64 4294967296))),
 zi 112 (.mov (.t 111)),
 zg 113 112 false (.mov (.t 18)),
 zg 114 112 false (.bin .geq (.t 113) (.c (.int .u64 4294967296))),
 zi 115 (.pick (.t 112) (.c (.bool true)) (.t 114))])
 (.cond (.t 115)
 (.seq (.reg [zi 116 (.build [(.int .i64 0), (.int .u32 0), (.int .u32 0), (.bool false)] []),
 zn (.store 4 (.t 6) (.t 116)),
 zi 7 (.mov (.c (.bool false)))])
 (.ret))
 (.skip)))
 (.seq (.reg [zi 117 (.mov (.t 17)),
 zi 118 (.conv .u32 (.t 117)),
 zi 119 (.mov (.t 18)),
 zi 120 (.conv .u32 (.t 119)),
 zi 121 (.build [(.int .u32 0), (.int .u32 0)] [(0, 1, (.t 118)), (1, 1, (.t 120))]),
 zi 122 (.faddr 1 (.t 16)),
 zn (.store 2 (.t 122) (.t 121))])
 (.seq (.reg [zi 123 (.load 4 true (.t 16)),
 zn (.store 4 (.t 6) (.t 123)),
 zi 7 (.mov (.c (.bool true)))])
 (.ret))))))))))))) }
def ir_archipelagoref8_Right : IFn :=
  { params := 2, results := [.tmp 4], body :=
  (.seq (.reg [zi 2 (.box (.t 0)),
 zi 4 (.mov (.c (.bool false)))])
 (.seq (.reg [zi 5 (.faddr 0 (.t 2)),
 zi 6 (.load 1 false (.t 5)),
 zi 7 (.faddr 1 (.t 2)),
 zi 8 (.load 1 false (.t 7)),
 zi 9 (.bin .lss (.t 6) (.t 8)),
 zi 10 (.mov (.t 9)),
 zg 11 10 true (.faddr 1 (.t 2)),
 zg 12 10 true (.load 1 false (.t 11)),
 zg 13 10 true (.conv .u64 (.t 12)),
 zg 14 10 true (.mov (.t 1)),
 zg 15 10 true (.bin .lss (.t 13) (.t 14)),
 zi 16 (.pick (.t 10) (.t 15) (.c (.bool false))),
 zi 4 (.mov (.t 16))])
 (.ret))) }
def archipelagoref15_DeltaRead_b0 : IC :=
  (.seq (.seq (.reg [zi 48 (.mov (.t 13)),
 zi 49 (.mov (.t 2)),
 zi 50 (.bin .lss (.t 48) (.t 49))])
 (.cond (.t 50)
 (.skip)
 (.exit 0)))
 (.seq (.block 1
 (.seq (.reg [zi 54 (.mov (.t 10)),
 zi 55 (.load 4 true (.t 11)),
 zi 56 (.mov (.t 13)),
 zi 57 (.bin .eql (.t 56) (.c (.int .i64 0))),
 zi 58 (.call fid_archipelagoref15_event [(.t 54), (.t 55), (.t 57)]),
 zi 53 (.mov (.t 58)),
 zi 59 (.extract (.t 53) 0),
 zi 60 (.extract (.t 53) 1),
 zi 14 (.box (.c (.agg [(.int .i64 0), (.int .u32 0), (.int .u32 0), (.bool false)]))),
 zn (.store 4 (.t 14) (.t 59)),
 zi 15 (.mov (.t 60))])
 (.seq (.seq (.reg [zi 61 (.mov (.t 15)),
 zi 62 (.un .not (.t 61)),
 zi 63 (.mov (.t 62)),
 zg 64 63 false (.faddr 1 (.t 14)),
 zg 65 63 false (.load 2 true (.t 64)),
 zg 66 63 false (.mov (.t 3)),
 zg 67 63 false (.call fid_archipelagoref8_Right [(.t 65), (.t 66)]),
 zg 68 63 false (.un .not (.t 67)),
 zi 69 (.pick (.t 63) (.c (.bool true)) (.t 68))])
 (.cond (.t 69)
 (.seq (.reg [zi 8 (.mov (.c .nils)),
 zi 9 (.mov (.c (.int .i64 21)))])
 (.ret))
 (.skip)))
 (.regD [0, 1, 2, 3, 4, 5, 6] [zi 70 (.mov (.t 12)),
 zi 71 (.load 4 true (.t 14)),
 zi 72 (.mkrow 4 1 [(.int .i64 0), (.int .u32 0), (.int .u32 0), (.bool false)] [(0, (.t 71))]),
 zi 73 (.append 4 24 (.t 70) (.t 72)),
 ⟨some 74, .load 4 true (.t 14), none, some (0, 1)⟩,
 zi 12 (.mov (.t 73)),
 zn (.store 4 (.t 11) (.t 74))]))))
 (.reg [zi 51 (.mov (.t 13)),
 zi 52 (.bin .add (.t 51) (.c (.int .i64 1))),
 zi 13 (.mov (.t 52))])))
def ir_archipelagoref15_DeltaRead : IFn :=
  { params := 4, results := [.tmp 8, .tmp 9], body :=
  (.seq (.reg [zi 8 (.mov (.c .nils)),
 zi 9 (.mov (.c (.int .i64 0)))])
 (.seq (.seq (.reg [zi 18 (.mov (.t 2)),
 zi 19 (.bin .lss (.t 18) (.c (.int .i64 0))),
 zi 20 (.mov (.t 19)),
 zg 21 20 false (.mov (.t 2)),
 zg 22 20 false (.mov (.t 0)),
 zg 23 20 false (.len .sl (.t 22)),
 zg 24 20 false (.bin .mul (.c (.int .i64 8)) (.t 23)),
 zg 25 20 false (.bin .gtr (.t 21) (.t 24)),
 zi 26 (.pick (.t 20) (.c (.bool true)) (.t 25)),
 zi 27 (.mov (.t 26)),
 zg 28 27 false (.mov (.t 1)),
 zg 29 27 false (.bin .lss (.t 28) (.c (.int .i64 0))),
 zg 30 27 false (.mov (.t 29)),
 zg 31 30 true (.mov (.t 2)),
 zg 32 30 true (.bin .gtr (.t 31) (.c (.int .i64 0))),
 zg 33 27 false (.pick (.t 30) (.t 32) (.c (.bool false))),
 zi 34 (.pick (.t 27) (.c (.bool true)) (.t 33)),
 zi 35 (.mov (.t 34)),
 zg 36 35 false (.mov (.t 1)),
 zg 37 35 false (.bin .gtr (.t 36) (.c (.int .i64 4611686018427387903))),
 zg 38 35 false (.mov (.t 37)),
 zg 39 38 true (.mov (.t 2)),
 zg 40 38 true (.bin .gtr (.t 39) (.c (.int .i64 0))),
 zg 41 35 false (.pick (.t 38) (.t 40) (.c (.bool false))),
 zi 42 (.pick (.t 35) (.c (.bool true)) (.t 41))])
 (.cond (.t 42)
 (.seq (.reg [zi 8 (.mov (.c .nils)),
 zi 9 (.mov (.c (.int .i64 21)))])
 (.ret))
 (.skip)))
 (.seq (.reg [zi 43 (.mov (.t 0)),
 zi 44 (.build [.nils, (.int .i64 0)] [(0, 1, (.t 43))]),
 zi 45 (.box (.t 44)),
 zi 10 (.mov (.t 45))])
 (.seq (.reg [zi 46 (.mov (.t 1)),
 zi 47 (.build [(.int .i64 0), (.int .u32 0), (.int .u32 0), (.bool false)] [(0, 1, (.t 46))]),
 zi 11 (.box (.c (.agg [(.int .i64 0), (.int .u32 0), (.int .u32 0), (.bool false)]))),
 zn (.store 4 (.t 11) (.t 47))])
 (.seq (.reg [zi 12 (.mov (.c .nils))])
 (.seq (.seq (.reg [zi 13 (.mov (.c (.int .i64 0)))])
 (.block 0
 (.loop [0, 1, 2, 3, 10, 11, 12, 13] archipelagoref15_DeltaRead_b0)))
 (.seq (.seq (.reg [zi 76 (.mov (.t 1)),
 zi 77 (.mov (.t 12)),
 zi 78 (.call fid_archipelagoref15_DeltaPut [(.t 76), (.t 77)]),
 zi 75 (.mov (.t 78)),
 zi 79 (.extract (.t 75) 0),
 zi 80 (.extract (.t 75) 1),
 zi 16 (.mov (.t 79)),
 zi 17 (.mov (.t 80))])
 (.seq (.reg [zi 81 (.mov (.t 17)),
 zi 82 (.bin .neq (.t 81) (.c (.int .i64 0))),
 zi 83 (.mov (.t 82)),
 zg 84 83 false (.mov (.t 16)),
 zg 85 83 false (.toStr (.t 84)),
 zg 86 83 false (.mov (.t 0)),
 zg 87 83 false (.toStr (.t 86)),
 zg 88 83 false (.bin .neq (.t 85) (.t 87)),
 zi 89 (.pick (.t 83) (.c (.bool true)) (.t 88))])
 (.cond (.t 89)
 (.seq (.reg [zi 8 (.mov (.c .nils)),
 zi 9 (.mov (.c (.int .i64 21)))])
 (.ret))
 (.skip))))
 (.seq (.reg [zi 90 (.mov (.t 12)),
 zi 8 (.mov (.t 90)),
 zi 9 (.mov (.c (.int .i64 0)))])
 (.ret))))))))) }
def archipelagolaw16_DeltaTells_b0 : IC :=
  (.seq (.reg [zi 119 (.bin .lss (.t 118) (.t 117))])
 (.seq (.cond (.t 119)
 (.skip)
 (.exit 2))
 (.seq (.block 3
 (.seq (.reg [zi 120 (.iaddr 1 (.t 116) (.t 118)),
 zi 121 (.load 1 false (.t 120)),
 zi 32 (.mov (.t 121))])
 (.seq (.reg [zi 123 (.mov (.t 32)),
 zi 124 (.mov (.t 30)),
 zi 125 (.call fid_delta_Put [(.t 123), (.t 124)]),
 zi 122 (.mov (.t 125)),
 zi 126 (.extract (.t 122) 0),
 zi 127 (.extract (.t 122) 1),
 zi 33 (.mov (.t 126)),
 zi 34 (.mov (.t 127))])
 (.seq (.reg [zi 129 (.mov (.t 32)),
 zi 130 (.mov (.t 30)),
 zi 131 (.call fid_archipelagoref15_DeltaPut [(.t 129), (.t 130)]),
 zi 128 (.mov (.t 131)),
 zi 132 (.extract (.t 128) 0),
 zi 133 (.extract (.t 128) 1),
 zi 35 (.mov (.t 132)),
 zi 36 (.mov (.t 133))])
 (.seq (.reg [zi 134 (.mov (.t 34)),
 zi 135 (.mov (.t 36)),
 zi 136 (.bin .neq (.t 134) (.t 135)),
 zi 137 (.mov (.t 136)),
 zg 138 137 false (.mov (.t 33)),
 zg 139 137 false (.toStr (.t 138)),
 zg 140 137 false (.mov (.t 35)),
 zg 141 137 false (.toStr (.t 140)),
 zg 142 137 false (.bin .neq (.t 139) (.t 141)),
 zi 143 (.pick (.t 137) (.c (.bool true)) (.t 142))])
 (.cond (.t 143)
 (.seq (.reg [zi 24 (.mov (.c (.bool false)))])
 (.ret))
 (.skip)))))))
 (.reg [zi 144 (.bin .add (.t 118) (.c (.int .i64 1))),
 zi 118 (.mov (.t 144))]))))
def archipelagolaw16_DeltaTells_b1 : IC :=
  (.seq (.reg [zi 109 (.bin .lss (.t 108) (.t 107))])
 (.seq (.cond (.t 109)
 (.skip)
 (.exit 0))
 (.seq (.block 1
 (.seq (.reg [zi 110 (.iaddr 1 (.t 106) (.t 108)),
 zi 111 (.load 1 false (.t 110)),
 zi 30 (.mov (.t 111))])
 (.seq (.reg [zi 112 (.mov (.t 26)),
 zi 113 (.mov (.t 8)),
 zi 114 (.mov (.t 26)),
 zi 115 (.bin .add (.t 114) (.c (.int .i64 1))),
 zi 116 (.mkrow 1 3 [(.int .i64 0)] [(0, (.t 112)), (1, (.t 113)), (2, (.t 115))]),
 zi 117 (.len .sl (.t 116)),
 zi 118 (.mov (.c (.int .i64 0)))])
 (.block 2
 (.loop [3, 4, 5, 6, 7, 8, 9, 10, 25, 26, 27, 30, 106, 107, 108, 116, 117, 118] archipelagolaw16_DeltaTells_b0)))))
 (.reg [zi 145 (.bin .add (.t 108) (.c (.int .i64 1))),
 zi 108 (.mov (.t 145))]))))
def archipelagolaw16_DeltaTells_b2 : IC :=
  (.seq (.reg [zi 182 (.bin .lss (.t 181) (.t 180))])
 (.seq (.cond (.t 182)
 (.skip)
 (.exit 8))
 (.seq (.block 9
 (.seq (.reg [zi 183 (.iaddr 1 (.t 179) (.t 181)),
 zi 184 (.load 1 false (.t 183)),
 zi 42 (.mov (.t 184))])
 (.seq (.reg [zi 186 (.mov (.t 38)),
 zi 187 (.mov (.t 42)),
 zi 188 (.mov (.t 40)),
 zi 189 (.faddr 0 (.t 25)),
 zi 190 (.load 1 false (.t 189)),
 zi 191 (.call fid_delta_Read [(.t 186), (.t 187), (.t 188), (.t 190)]),
 zi 185 (.mov (.t 191)),
 zi 192 (.extract (.t 185) 0),
 zi 193 (.extract (.t 185) 1),
 zi 43 (.mov (.t 192)),
 zi 44 (.mov (.t 193))])
 (.seq (.reg [zi 195 (.mov (.t 38)),
 zi 196 (.mov (.t 42)),
 zi 197 (.mov (.t 40)),
 zi 198 (.faddr 0 (.t 25)),
 zi 199 (.load 1 false (.t 198)),
 zi 200 (.call fid_archipelagoref15_DeltaRead [(.t 195), (.t 196), (.t 197), (.t 199)]),
 zi 194 (.mov (.t 200)),
 zi 201 (.extract (.t 194) 0),
 zi 202 (.extract (.t 194) 1),
 zi 45 (.mov (.t 201)),
 zi 46 (.mov (.t 202))])
 (.seq (.reg [zi 204 (.mov (.t 38)),
 zi 205 (.mov (.t 42)),
 zi 206 (.mov (.t 40)),
 zi 207 (.mov (.t 10)),
 zi 208 (.call fid_delta_Read [(.t 204), (.t 205), (.t 206), (.t 207)]),
 zi 203 (.mov (.t 208)),
 zi 209 (.extract (.t 203) 0),
 zi 210 (.extract (.t 203) 1),
 zi 47 (.mov (.t 209)),
 zi 48 (.mov (.t 210))])
 (.seq (.reg [zi 212 (.mov (.t 38)),
 zi 213 (.mov (.t 42)),
 zi 214 (.mov (.t 40)),
 zi 215 (.mov (.t 10)),
 zi 216 (.call fid_archipelagoref15_DeltaRead [(.t 212), (.t 213), (.t 214), (.t 215)]),
 zi 211 (.mov (.t 216)),
 zi 217 (.extract (.t 211) 0),
 zi 218 (.extract (.t 211) 1),
 zi 49 (.mov (.t 217)),
 zi 50 (.mov (.t 218))])
 (.seq (.reg [zi 219 (.mov (.t 44)),
 zi 220 (.mov (.t 46)),
 zi 221 (.bin .neq (.t 219) (.t 220)),
 zi 222 (.mov (.t 221)),
 zg 223 222 false (.mov (.t 43)),
 zg 224 222 false (.mov (.t 45)),
 zg 225 222 false (.call fid_archipelagoref8_SameEvents [(.t 223), (.t 224)]),
 zg 226 222 false (.un .not (.t 225)),
 zi 227 (.pick (.t 222) (.c (.bool true)) (.t 226)),
 zi 228 (.mov (.t 227)),
 zg 229 228 false (.mov (.t 48)),
 zg 230 228 false (.mov (.t 50)),
 zg 231 228 false (.bin .neq (.t 229) (.t 230)),
 zi 232 (.pick (.t 228) (.c (.bool true)) (.t 231)),
 zi 233 (.mov (.t 232)),
 zg 234 233 false (.mov (.t 47)),
 zg 235 233 false (.mov (.t 49)),
 zg 236 233 false (.call fid_archipelagoref8_SameEvents [(.t 234), (.t 235)]),
 zg 237 233 false (.un .not (.t 236)),
 zi 238 (.pick (.t 233) (.c (.bool true)) (.t 237))])
 (.cond (.t 238)
 (.seq (.reg [zi 24 (.mov (.c (.bool false)))])
 (.ret))
 (.skip)))))))))
 (.reg [zi 239 (.bin .add (.t 181) (.c (.int .i64 1))),
 zi 181 (.mov (.t 239))]))))
def archipelagolaw16_DeltaTells_b3 : IC :=
  (.seq (.reg [zi 174 (.bin .lss (.t 173) (.t 172))])
 (.seq (.cond (.t 174)
 (.skip)
 (.exit 6))
 (.seq (.block 7
 (.seq (.reg [zi 175 (.iaddr 1 (.t 171) (.t 173)),
 zi 176 (.load 1 false (.t 175)),
 zi 40 (.mov (.t 176))])
 (.seq (.reg [zi 177 (.mov (.t 26)),
 zi 178 (.mov (.t 8)),
 zi 179 (.mkrow 1 2 [(.int .i64 0)] [(0, (.t 177)), (1, (.t 178))]),
 zi 180 (.len .sl (.t 179)),
 zi 181 (.mov (.c (.int .i64 0)))])
 (.block 8
 (.loop [6, 8, 9, 10, 25, 26, 38, 40, 154, 155, 156, 171, 172, 173, 179, 180, 181] archipelagolaw16_DeltaTells_b2)))))
 (.reg [zi 240 (.bin .add (.t 173) (.c (.int .i64 1))),
 zi 173 (.mov (.t 240))]))))
def archipelagolaw16_DeltaTells_b4 : IC :=
  (.seq (.reg [zi 157 (.bin .lss (.t 156) (.t 155))])
 (.seq (.cond (.t 157)
 (.skip)
 (.exit 4))
 (.seq (.block 5
 (.seq (.reg [zi 158 (.iaddr 1 (.t 154) (.t 156)),
 zi 159 (.load 1 false (.t 158)),
 zi 38 (.mov (.t 159))])
 (.seq (.reg [zi 160 (.mov (.t 9)),
 zi 161 (.faddr 1 (.t 25)),
 zi 162 (.load 1 false (.t 161)),
 zi 163 (.len .sl (.t 162)),
 zi 164 (.faddr 1 (.t 25)),
 zi 165 (.load 1 false (.t 164)),
 zi 166 (.len .sl (.t 165)),
 zi 167 (.bin .add (.t 166) (.c (.int .i64 1))),
 zi 168 (.mov (.t 6)),
 zi 169 (.bin .rem (.t 168) (.c (.int .u8 5))),
 zi 170 (.conv .i64 (.t 169)),
 zi 171 (.mkrow 1 4 [(.int .i64 0)] [(0, (.t 160)), (1, (.t 163)), (2, (.t 167)), (3, (.t 170))]),
 zi 172 (.len .sl (.t 171)),
 zi 173 (.mov (.c (.int .i64 0)))])
 (.block 6
 (.loop [6, 8, 9, 10, 25, 26, 38, 154, 155, 156, 171, 172, 173] archipelagolaw16_DeltaTells_b3)))))
 (.reg [zi 241 (.bin .add (.t 156) (.c (.int .i64 1))),
 zi 156 (.mov (.t 241))]))))
def ir_archipelagolaw16_DeltaTells : IFn :=
  { params := 12, results := [.tmp 24], body :=
  (.seq (.reg [zi 24 (.mov (.c (.bool false)))])
 (.seq (.seq (.reg [zi 51 (.call fid_archipelagolaw16_known []),
 zi 52 (.un .not (.t 51))])
 (.cond (.t 52)
 (.seq (.reg [zi 24 (.mov (.c (.bool false)))])
 (.ret))
 (.skip)))
 (.seq (.seq (.reg [zi 53 (.mov (.t 0)),
 zi 54 (.len .sl (.t 53)),
 zi 55 (.bin .gtr (.t 54) (.c (.int .i64 20))),
 zi 56 (.mov (.t 55)),
 zg 57 56 false (.mov (.t 2)),
 zg 58 56 false (.len .sl (.t 57)),
 zg 59 56 false (.bin .gtr (.t 58) (.c (.int .i64 60))),
 zi 60 (.pick (.t 56) (.c (.bool true)) (.t 59)),
 zi 61 (.mov (.t 60)),
 zg 62 61 false (.mov (.t 3)),
 zg 63 61 false (.len .sl (.t 62)),
 zg 64 61 false (.bin .gtr (.t 63) (.c (.int .i64 60))),
 zi 65 (.pick (.t 61) (.c (.bool true)) (.t 64)),
 zi 66 (.mov (.t 65)),
 zg 67 66 false (.mov (.t 7)),
 zg 68 66 false (.len .sl (.t 67)),
 zg 69 66 false (.bin .gtr (.t 68) (.c (.int .i64 8))),
 zi 70 (.pick (.t 66) (.c (.bool true)) (.t 69)),
 zi 71 (.mov (.t 70)),
 zg 72 71 false (.mov (.t 9)),
 zg 73 71 false (.bin .gtr (.t 72) (.c (.int .i64 100))),
 zi 74 (.pick (.t 71) (.c (.bool true)) (.t 73))])
 (.cond (.t 74)
 (.seq (.reg [zi 24 (.mov (.c (.bool true)))])
 (.ret))
 (.skip)))
 (.seq (.reg [zi 75 (.mov (.t 1)),
 zi 76 (.mov (.t 2)),
 zi 77 (.call fid_archipelagoseat_History [(.t 75), (.t 76)]),
 zi 25 (.box (.c (.agg [(.int .u64 0), .nils]))),
 zn (.store 2 (.t 25) (.t 77))])
 (.seq (.seq (.reg [zi 78 (.mov (.t 11))])
 (.cond (.t 78)
 (.reg [zi 79 (.load 2 true (.t 25)),
 zi 80 (.call fid_archipelagoseat_Late [(.t 79)]),
 zn (.store 2 (.t 25) (.t 80))])
 (.skip)))
 (.seq (.reg [zi 81 (.mov (.t 8)),
 zi 26 (.mov (.t 81))])
 (.seq (.seq (.reg [zi 82 (.faddr 1 (.t 25)),
 zi 83 (.load 1 false (.t 82)),
 zi 84 (.len .sl (.t 83)),
 zi 85 (.bin .gtr (.t 84) (.c (.int .i64 0)))])
 (.cond (.t 85)
 (.reg [zi 86 (.faddr 1 (.t 25)),
 zi 87 (.load 1 false (.t 86)),
 zi 88 (.iaddr 4 (.t 87) (.c (.int .i64 0))),
 zi 89 (.faddr 0 (.t 88)),
 zi 90 (.load 1 false (.t 89)),
 zi 26 (.mov (.t 90))])
 (.skip)))
 (.seq (.reg [zi 92 (.mov (.t 26)),
 zi 93 (.faddr 1 (.t 25)),
 zi 94 (.load 1 false (.t 93)),
 zi 95 (.call fid_archipelagoref15_DeltaPut [(.t 92), (.t 94)]),
 zi 91 (.mov (.t 95)),
 zi 96 (.extract (.t 91) 0),
 zi 97 (.extract (.t 91) 1),
 zi 27 (.mov (.t 96)),
 zi 28 (.mov (.t 97))])
 (.seq (.seq (.regD [3, 4, 5, 6, 7, 0, 1, 2, 8, 9, 10] [zi 101 (.faddr 1 (.t 25)),
 zi 102 (.load 1 false (.t 101)),
 zi 103 (.append 4 24 (.c .nils) (.t 102)),
 zi 104 (.mov (.t 0)),
 zi 105 (.append 4 24 (.t 103) (.t 104)),
 zi 98 (.mov (.t 0)),
 zi 99 (.faddr 1 (.t 25)),
 ⟨some 100, .load 1 false (.t 99), none, some (0, 2)⟩,
 zi 106 (.mkrow 1 3 [.nils] [(0, (.t 98)), (1, (.t 100)), (2, (.t 105))]),
 zi 107 (.len .sl (.t 106)),
 zi 108 (.mov (.c (.int .i64 0)))])
 (.block 0
 (.loop [3, 4, 5, 6, 7, 8, 9, 10, 25, 26, 27, 106, 107, 108] archipelagolaw16_DeltaTells_b1)))
 (.seq (.seq (.reg [zi 146 (.mov (.t 3)),
 zi 147 (.mov (.t 27)),
 zi 148 (.mov (.t 27)),
 zi 149 (.mov (.t 4)),
 zi 150 (.mov (.t 5)),
 zi 151 (.mov (.t 6)),
 zi 152 (.mov (.t 7)),
 zi 153 (.call fid_archipelagoseat_Change [(.t 148), (.t 149), (.t 150), (.t 151), (.t 152)]),
 zi 154 (.mkrow 1 3 [.nils] [(0, (.t 146)), (1, (.t 147)), (2, (.t 153))]),
 zi 155 (.len .sl (.t 154)),
 zi 156 (.mov (.c (.int .i64 0)))])
 (.block 4
 (.loop [6, 8, 9, 10, 25, 26, 154, 155, 156] archipelagolaw16_DeltaTells_b4)))
 (.seq (.reg [zi 24 (.mov (.c (.bool true)))])
 (.ret)))))))))))) }
end Go.Ab
