/- The functions as the abstract machine has them (printed by wip/irgen.py). -/
import Derived.Test.YtbkbelaogegpgaaAbs1
namespace Go.Ab
open Go
def fid_archipelagolaw16_DeltaTells : Nat := 3
def fid_archipelagolaw16_DeltaBack : Nat := 4
def fid_archipelagolaw16_DeltaSizes : Nat := 5
def fid_archipelagolaw16_DeltaShifts : Nat := 6
def fid_archipelagolaw16_known : Nat := 7
def fid_archipelagoseat_History : Nat := 8
def fid_archipelagoseat_Late : Nat := 9
def fid_archipelagoref15_DeltaPut : Nat := 10
def fid_delta_Put : Nat := 11
def fid_archipelagoseat_Change : Nat := 12
def fid_delta_Read : Nat := 13
def fid_archipelagoref15_DeltaRead : Nat := 14
def fid_archipelagoref8_SameEvents : Nat := 15
def fid_archipelagoref8_Less : Nat := 16
def fid_archipelagoref1_GammaSize : Nat := 17
def fid_archipelagoseat_Vertices : Nat := 18
def fid_archipelagoseat_Edge : Nat := 19
def fid_archipelagoseat_insert : Nat := 20
def fid_archipelagoref8_Has : Nat := 21
def fid_archipelagoref8_Turn : Nat := 22
def fid_archipelagoref8_Before : Nat := 23
def fid_archipelagoref1_GammaPut : Nat := 24
def fid_archipelagoref1_Writer_Put : Nat := 25
def fid_archipelagoref1_Writer_Bytes : Nat := 26
def fid_delta_right : Nat := 27
def fid_bits_NewWriter : Nat := 28
def fid_delta_writer_put : Nat := 29
def fid_bits_Writer_Bytes : Nat := 30
def fid_bits_NewReader : Nat := 31
def fid_delta_reader_event : Nat := 32
def fid_edge_Right : Nat := 33
def fid_bytes_Equal : Nat := 34
def fid_archipelagoref15_event : Nat := 35
def fid_archipelagoref8_Right : Nat := 36
def fid_archipelagoref1_length : Nat := 37
def fid_archipelagoref8_Find : Nat := 38
def fid_archipelagoref8_Rising : Nat := 39
def fid_edge_Before : Nat := 40
def fid_gamma_Put : Nat := 41
def fid_bits_Writer_Put : Nat := 42
def fid_slices_Clone_byte_byte : Nat := 43
def fid_delta_reader_num : Nat := 44
def fid_bits_Reader_Take : Nat := 45
def fid_archipelagoref1_GammaTake : Nat := 46
def fid_archipelagoref1_Reader_Take : Nat := 47
def fid_cmp_Or_int : Nat := 48
def fid_cmp_Compare_int64 : Nat := 49
def fid_edge_compare : Nat := 50
def fid_math_bits_Len64 : Nat := 51
def fid_bits_bound : Nat := 52
def fid_gamma_Take : Nat := 53
def fid_bits_Reader_Left : Nat := 54
def fid_archipelagoref1_Reader_Left : Nat := 55
def fid_cmp_isNaN_int64 : Nat := 56
def fid_cmp_Compare_uint32 : Nat := 57
def fid_cmp_isNaN_uint32 : Nat := 58
def cmp_Or_int_b0 : IC :=
  (.seq (.reg [⟨some 9, .bin .lss (.t 8) (.t 7), none, none⟩])
  (.seq (.cond (.t 9)
  (.skip)
  (.exit 0))
  (.seq (.block 1
  (.seq (.reg [⟨some 10, .iaddr 1 (.t 6) (.t 8), none, none⟩,
        ⟨some 11, .load 1 false (.t 10), none, none⟩,
        ⟨some 5, .mov (.t 11), none, none⟩])
    (.seq (.reg [⟨some 12, .mov (.t 5), none, none⟩,
        ⟨some 13, .mov (.t 3), none, none⟩,
        ⟨some 14, .bin .neq (.t 12) (.t 13), none, none⟩])
    (.cond (.t 14)
    (.seq (.reg [⟨some 15, .mov (.t 5), none, none⟩,
          ⟨some 2, .mov (.t 15), none, none⟩])
      (.ret))
    (.skip)))))
  (.reg [⟨some 16, .bin .add (.t 8) (.c (.int .i64 1)), none, none⟩,
      ⟨some 8, .mov (.t 16), none, none⟩]))))
def ir_cmp_Or_int : IFn :=
  { params := 1, results := [.tmp 2], body :=
  (.seq (.reg [⟨some 2, .mov (.c (.int .i64 0)), none, none⟩])
  (.seq (.reg [⟨some 3, .mov (.c (.int .i64 0)), none, none⟩])
  (.seq (.seq (.reg [⟨some 6, .mov (.t 0), none, none⟩,
      ⟨some 7, .len .sl (.t 6), none, none⟩,
      ⟨some 8, .mov (.c (.int .i64 0)), none, none⟩])
  (.block 0
  (.loop [3, 6, 7, 8] cmp_Or_int_b0)))
  (.seq (.reg [⟨some 17, .mov (.t 3), none, none⟩,
      ⟨some 2, .mov (.t 17), none, none⟩])
  (.ret))))) }
def ir_cmp_isNaN_int64 : IFn :=
  { params := 1, results := [.tmp 2], body :=
  (.seq (.reg [⟨some 2, .mov (.c (.bool false)), none, none⟩])
  (.seq (.reg [⟨some 3, .mov (.t 0), none, none⟩,
      ⟨some 4, .mov (.t 0), none, none⟩,
      ⟨some 5, .bin .neq (.t 3) (.t 4), none, none⟩,
      ⟨some 2, .mov (.t 5), none, none⟩])
  (.ret))) }
def ir_cmp_Compare_int64 : IFn :=
  { params := 2, results := [.tmp 4], body :=
  (.seq (.reg [⟨some 4, .mov (.c (.int .i64 0)), none, none⟩])
  (.seq (.reg [⟨some 7, .mov (.t 0), none, none⟩,
      ⟨some 8, .call fid_cmp_isNaN_int64 [(.t 7)], none, none⟩,
      ⟨some 5, .mov (.t 8), none, none⟩])
  (.seq (.reg [⟨some 9, .mov (.t 1), none, none⟩,
      ⟨some 10, .call fid_cmp_isNaN_int64 [(.t 9)], none, none⟩,
      ⟨some 6, .mov (.t 10), none, none⟩])
  (.seq (.seq (.reg [⟨some 11, .mov (.t 5), none, none⟩])
  (.cond (.t 11)
  (.seq (.seq (.reg [⟨some 12, .mov (.t 6), none, none⟩])
    (.cond (.t 12)
    (.seq (.reg [⟨some 4, .mov (.c (.int .i64 0)), none, none⟩])
      (.ret))
    (.skip)))
    (.seq (.reg [⟨some 4, .mov (.c (.int .i64 (-1))), none, none⟩])
    (.ret)))
  (.skip)))
  (.seq (.seq (.reg [⟨some 13, .mov (.t 6), none, none⟩])
  (.cond (.t 13)
  (.seq (.reg [⟨some 4, .mov (.c (.int .i64 1)), none, none⟩])
    (.ret))
  (.skip)))
  (.seq (.seq (.reg [⟨some 14, .mov (.t 0), none, none⟩,
      ⟨some 15, .mov (.t 1), none, none⟩,
      ⟨some 16, .bin .lss (.t 14) (.t 15), none, none⟩])
  (.cond (.t 16)
  (.seq (.reg [⟨some 4, .mov (.c (.int .i64 (-1))), none, none⟩])
    (.ret))
  (.skip)))
  (.seq (.seq (.reg [⟨some 17, .mov (.t 0), none, none⟩,
      ⟨some 18, .mov (.t 1), none, none⟩,
      ⟨some 19, .bin .gtr (.t 17) (.t 18), none, none⟩])
  (.cond (.t 19)
  (.seq (.reg [⟨some 4, .mov (.c (.int .i64 1)), none, none⟩])
    (.ret))
  (.skip)))
  (.seq (.reg [⟨some 4, .mov (.c (.int .i64 0)), none, none⟩])
  (.ret))))))))) }
def ir_cmp_isNaN_uint32 : IFn :=
  { params := 1, results := [.tmp 2], body :=
  (.seq (.reg [⟨some 2, .mov (.c (.bool false)), none, none⟩])
  (.seq (.reg [⟨some 3, .mov (.t 0), none, none⟩,
      ⟨some 4, .mov (.t 0), none, none⟩,
      ⟨some 5, .bin .neq (.t 3) (.t 4), none, none⟩,
      ⟨some 2, .mov (.t 5), none, none⟩])
  (.ret))) }
def ir_cmp_Compare_uint32 : IFn :=
  { params := 2, results := [.tmp 4], body :=
  (.seq (.reg [⟨some 4, .mov (.c (.int .i64 0)), none, none⟩])
  (.seq (.reg [⟨some 7, .mov (.t 0), none, none⟩,
      ⟨some 8, .call fid_cmp_isNaN_uint32 [(.t 7)], none, none⟩,
      ⟨some 5, .mov (.t 8), none, none⟩])
  (.seq (.reg [⟨some 9, .mov (.t 1), none, none⟩,
      ⟨some 10, .call fid_cmp_isNaN_uint32 [(.t 9)], none, none⟩,
      ⟨some 6, .mov (.t 10), none, none⟩])
  (.seq (.seq (.reg [⟨some 11, .mov (.t 5), none, none⟩])
  (.cond (.t 11)
  (.seq (.seq (.reg [⟨some 12, .mov (.t 6), none, none⟩])
    (.cond (.t 12)
    (.seq (.reg [⟨some 4, .mov (.c (.int .i64 0)), none, none⟩])
      (.ret))
    (.skip)))
    (.seq (.reg [⟨some 4, .mov (.c (.int .i64 (-1))), none, none⟩])
    (.ret)))
  (.skip)))
  (.seq (.seq (.reg [⟨some 13, .mov (.t 6), none, none⟩])
  (.cond (.t 13)
  (.seq (.reg [⟨some 4, .mov (.c (.int .i64 1)), none, none⟩])
    (.ret))
  (.skip)))
  (.seq (.seq (.reg [⟨some 14, .mov (.t 0), none, none⟩,
      ⟨some 15, .mov (.t 1), none, none⟩,
      ⟨some 16, .bin .lss (.t 14) (.t 15), none, none⟩])
  (.cond (.t 16)
  (.seq (.reg [⟨some 4, .mov (.c (.int .i64 (-1))), none, none⟩])
    (.ret))
  (.skip)))
  (.seq (.seq (.reg [⟨some 17, .mov (.t 0), none, none⟩,
      ⟨some 18, .mov (.t 1), none, none⟩,
      ⟨some 19, .bin .gtr (.t 17) (.t 18), none, none⟩])
  (.cond (.t 19)
  (.seq (.reg [⟨some 4, .mov (.c (.int .i64 1)), none, none⟩])
    (.ret))
  (.skip)))
  (.seq (.reg [⟨some 4, .mov (.c (.int .i64 0)), none, none⟩])
  (.ret))))))))) }
def ir_edge_compare : IFn :=
  { params := 2, results := [.tmp 4], body :=
  (.seq (.reg [⟨some 2, .box (.t 0), none, none⟩,
      ⟨some 3, .box (.t 1), none, none⟩,
      ⟨some 4, .mov (.c (.int .i64 0)), none, none⟩])
  (.seq (.regD [0, 1, 2, 3, 4, 5, 6, 7, 8, 9, 10, 11, 12] [⟨some 5, .faddr 0 (.t 2), none, none⟩,
      ⟨some 6, .load 1 false (.t 5), none, none⟩,
      ⟨some 7, .faddr 0 (.t 3), none, none⟩,
      ⟨some 8, .load 1 false (.t 7), none, none⟩,
      ⟨some 9, .call fid_cmp_Compare_uint32 [(.t 6), (.t 8)], none, none⟩,
      ⟨some 10, .faddr 1 (.t 2), none, none⟩,
      ⟨some 11, .load 1 false (.t 10), none, some (0, 1)⟩,
      ⟨some 12, .faddr 1 (.t 3), none, none⟩,
      ⟨some 13, .load 1 false (.t 12), none, some (0, 1)⟩,
      ⟨some 14, .call fid_cmp_Compare_uint32 [(.t 11), (.t 13)], none, none⟩,
      ⟨some 15, .mkrow 1 2 [(.int .i64 0)] [(0, (.t 9)), (1, (.t 14))], none, none⟩,
      ⟨some 16, .call fid_cmp_Or_int [(.t 15)], none, none⟩,
      ⟨some 4, .mov (.t 16), none, none⟩])
  (.ret))) }
def ir_edge_Before : IFn :=
  { params := 2, results := [.tmp 4], body :=
  (.seq (.reg [⟨some 2, .box (.t 0), none, none⟩,
      ⟨some 3, .box (.t 1), none, none⟩,
      ⟨some 4, .mov (.c (.bool false)), none, none⟩])
  (.seq (.regD [0, 1, 2, 3, 4, 5, 6, 7, 8, 9, 10, 11, 12, 13] [⟨some 5, .faddr 0 (.t 2), none, none⟩,
      ⟨some 6, .load 1 false (.t 5), none, none⟩,
      ⟨some 7, .faddr 0 (.t 3), none, none⟩,
      ⟨some 8, .load 1 false (.t 7), none, none⟩,
      ⟨some 9, .call fid_cmp_Compare_int64 [(.t 6), (.t 8)], none, none⟩,
      ⟨some 10, .faddr 1 (.t 2), none, none⟩,
      ⟨some 11, .load 2 true (.t 10), none, some (0, 1)⟩,
      ⟨some 12, .faddr 1 (.t 3), none, none⟩,
      ⟨some 13, .load 2 true (.t 12), none, some (0, 1)⟩,
      ⟨some 14, .call fid_edge_compare [(.t 11), (.t 13)], none, none⟩,
      ⟨some 15, .mkrow 1 2 [(.int .i64 0)] [(0, (.t 9)), (1, (.t 14))], none, none⟩,
      ⟨some 16, .call fid_cmp_Or_int [(.t 15)], none, none⟩,
      ⟨some 17, .bin .lss (.t 16) (.c (.int .i64 0)), none, none⟩,
      ⟨some 4, .mov (.t 17), none, none⟩])
  (.ret))) }
def delta_right_b0 : IC :=
  (.seq (.reg [⟨some 10, .bin .lss (.t 9) (.t 8), none, none⟩])
  (.seq (.cond (.t 10)
  (.skip)
  (.exit 0))
  (.seq (.block 1
  (.seq (.reg [⟨some 11, .mov (.t 9), none, none⟩,
        ⟨some 12, .iaddr 4 (.t 7) (.t 9), none, none⟩,
        ⟨some 13, .load 4 true (.t 12), none, none⟩,
        ⟨some 6, .box (.c (.agg [(.int .i64 0), (.int .u32 0), (.int .u32 0), (.bool false)])), none, none⟩,
        ⟨some 5, .mov (.t 11), none, none⟩,
        ⟨none, .store 4 (.t 6) (.t 13), none, none⟩])
    (.seq (.regD [0, 1, 2, 3, 4, 5, 6, 7, 8, 9, 10, 11, 12, 13, 14, 15, 16, 17, 18, 19, 20, 21, 22, 23, 24, 25, 26, 27, 28, 29, 30] [⟨some 14, .faddr 0 (.t 6), none, none⟩,
        ⟨some 15, .load 1 false (.t 14), none, none⟩,
        ⟨some 16, .bin .lss (.t 15) (.c (.int .i64 0)), none, none⟩,
        ⟨some 17, .mov (.t 16), none, none⟩,
        ⟨some 18, .faddr 0 (.t 6), (some (17, false)), none⟩,
        ⟨some 19, .load 1 false (.t 18), (some (17, false)), none⟩,
        ⟨some 20, .bin .gtr (.t 19) (.c (.int .i64 4611686018427387903)), (some (17, false)), none⟩,
        ⟨some 21, .pick (.t 17) (.c (.bool true)) (.t 20), none, none⟩,
        ⟨some 22, .mov (.t 21), none, none⟩,
        ⟨some 23, .faddr 1 (.t 6), (some (22, false)), none⟩,
        ⟨some 24, .faddr 0 (.t 23), (some (22, false)), none⟩,
        ⟨some 25, .load 1 false (.t 24), (some (22, false)), none⟩,
        ⟨some 26, .faddr 1 (.t 6), (some (22, false)), none⟩,
        ⟨some 27, .faddr 1 (.t 26), (some (22, false)), none⟩,
        ⟨some 28, .load 1 false (.t 27), (some (22, false)), none⟩,
        ⟨some 29, .bin .geq (.t 25) (.t 28), (some (22, false)), none⟩,
        ⟨some 30, .pick (.t 22) (.c (.bool true)) (.t 29), none, none⟩,
        ⟨some 31, .mov (.t 30), none, none⟩,
        ⟨some 32, .mov (.t 5), (some (31, false)), none⟩,
        ⟨some 33, .bin .gtr (.t 32) (.c (.int .i64 0)), (some (31, false)), none⟩,
        ⟨some 34, .mov (.t 33), (some (31, false)), none⟩,
        ⟨some 35, .mov (.t 1), (some (34, true)), none⟩,
        ⟨some 36, .mov (.t 5), (some (34, true)), none⟩,
        ⟨some 37, .bin .sub (.t 36) (.c (.int .i64 1)), (some (34, true)), none⟩,
        ⟨some 38, .iaddr 4 (.t 35) (.t 37), (some (34, true)), none⟩,
        ⟨some 39, .load 4 true (.t 38), (some (34, true)), none⟩,
        ⟨some 40, .load 4 true (.t 6), (some (34, true)), none⟩,
        ⟨some 41, .call fid_edge_Before [(.t 39), (.t 40)], (some (34, true)), none⟩,
        ⟨some 42, .un .not (.t 41), (some (34, true)), none⟩,
        ⟨some 43, .pick (.t 34) (.t 42) (.c (.bool false)), (some (31, false)), none⟩,
        ⟨some 44, .pick (.t 31) (.c (.bool true)) (.t 43), none, none⟩])
    (.cond (.t 44)
    (.seq (.reg [⟨some 4, .mov (.c (.bool false)), none, none⟩])
      (.ret))
    (.skip)))))
  (.reg [⟨some 45, .bin .add (.t 9) (.c (.int .i64 1)), none, none⟩,
      ⟨some 9, .mov (.t 45), none, none⟩]))))
def ir_delta_right : IFn :=
  { params := 2, results := [.tmp 4], body :=
  (.seq (.reg [⟨some 4, .mov (.c (.bool false)), none, none⟩])
  (.seq (.seq (.reg [⟨some 7, .mov (.t 1), none, none⟩,
      ⟨some 8, .len .sl (.t 7), none, none⟩,
      ⟨some 9, .mov (.c (.int .i64 0)), none, none⟩])
  (.block 0
  (.loop [0, 1, 7, 8, 9] delta_right_b0)))
  (.seq (.reg [⟨some 46, .mov (.t 1), none, none⟩,
      ⟨some 47, .len .sl (.t 46), none, none⟩,
      ⟨some 48, .bin .eql (.t 47) (.c (.int .i64 0)), none, none⟩,
      ⟨some 49, .mov (.t 48), none, none⟩,
      ⟨some 50, .mov (.t 1), (some (49, false)), none⟩,
      ⟨some 51, .iaddr 4 (.t 50) (.c (.int .i64 0)), (some (49, false)), none⟩,
      ⟨some 52, .faddr 0 (.t 51), (some (49, false)), none⟩,
      ⟨some 53, .load 1 false (.t 52), (some (49, false)), none⟩,
      ⟨some 54, .mov (.t 0), (some (49, false)), none⟩,
      ⟨some 55, .bin .eql (.t 53) (.t 54), (some (49, false)), none⟩,
      ⟨some 56, .pick (.t 49) (.c (.bool true)) (.t 55), none, none⟩,
      ⟨some 4, .mov (.t 56), none, none⟩])
  (.ret)))) }
def ir_bits_NewWriter : IFn :=
  { params := 0, results := [.tmp 0], body :=
  (.seq (.reg [⟨some 0, .mov (.c .nilp), none, none⟩])
  (.seq (.reg [⟨some 1, .build [.nils, (.int .i64 0)] [], none, none⟩,
      ⟨some 2, .box (.t 1), none, none⟩,
      ⟨some 0, .mov (.t 2), none, none⟩])
  (.ret))) }
def ir_bits_bound : IFn :=
  { params := 1, results := [.tmp 2], body :=
  (.seq (.reg [⟨some 2, .mov (.c (.int .i64 0)), none, none⟩])
  (.seq (.reg [⟨some 3, .mov (.t 0), none, none⟩,
      ⟨some 4, .minmax false [(.t 3), (.c (.int .i64 0))], none, none⟩,
      ⟨some 5, .minmax true [(.t 4), (.c (.int .i64 64))], none, none⟩,
      ⟨some 2, .mov (.t 5), none, none⟩])
  (.ret))) }
def bits_Writer_Put_b0 : IC :=
  (.seq (.seq (.reg [⟨some 10, .mov (.t 6), none, none⟩,
      ⟨some 11, .bin .geq (.t 10) (.c (.int .i64 0)), none, none⟩])
  (.cond (.t 11)
  (.skip)
  (.exit 0)))
  (.seq (.block 1
  (.seq (.seq (.reg [⟨some 14, .mov (.t 0), none, none⟩,
        ⟨some 15, .nilck (.t 14), none, none⟩,
        ⟨some 16, .faddr 1 (.t 15), none, none⟩,
        ⟨some 17, .load 1 false (.t 16), none, none⟩,
        ⟨some 18, .bin .rem (.t 17) (.c (.int .i64 8)), none, none⟩,
        ⟨some 19, .bin .eql (.t 18) (.c (.int .i64 0)), none, none⟩])
    (.cond (.t 19)
    (.reg [⟨some 20, .mov (.t 0), none, none⟩,
          ⟨some 21, .mov (.t 0), none, none⟩,
          ⟨some 22, .nilck (.t 21), none, none⟩,
          ⟨some 23, .faddr 0 (.t 22), none, none⟩,
          ⟨some 24, .load 1 false (.t 23), none, none⟩,
          ⟨some 25, .mkrow 1 1 [(.int .u8 0)] [(0, (.c (.int .u8 0)))], none, none⟩,
          ⟨some 26, .append 1 1 (.t 24) (.t 25), none, none⟩,
          ⟨some 27, .nilck (.t 20), none, none⟩,
          ⟨some 28, .faddr 0 (.t 27), none, none⟩,
          ⟨none, .store 1 (.t 28) (.t 26), none, none⟩])
    (.skip)))
    (.seq (.regD [0, 1, 2, 3, 4, 5, 6, 7, 8, 9, 10, 11, 12, 13, 14, 15, 16, 17, 18, 19, 20, 21, 22, 23, 24] [⟨some 29, .mov (.t 0), none, none⟩,
        ⟨some 30, .nilck (.t 29), none, none⟩,
        ⟨some 31, .faddr 0 (.t 30), none, none⟩,
        ⟨some 32, .load 1 false (.t 31), none, none⟩,
        ⟨some 33, .mov (.t 0), none, none⟩,
        ⟨some 34, .nilck (.t 33), none, none⟩,
        ⟨some 35, .faddr 1 (.t 34), none, none⟩,
        ⟨some 36, .load 1 false (.t 35), none, none⟩,
        ⟨some 37, .bin .quo (.t 36) (.c (.int .i64 8)), none, none⟩,
        ⟨some 38, .iaddr 1 (.t 32) (.t 37), none, none⟩,
        ⟨some 39, .load 1 false (.t 38), none, none⟩,
        ⟨some 40, .mov (.t 1), none, none⟩,
        ⟨some 41, .mov (.t 6), none, none⟩,
        ⟨some 42, .bin .shr (.t 40) (.t 41), none, none⟩,
        ⟨some 43, .bin .and (.t 42) (.c (.int .u64 1)), none, none⟩,
        ⟨some 44, .conv .u8 (.t 43), none, none⟩,
        ⟨some 45, .mov (.t 0), none, none⟩,
        ⟨some 46, .nilck (.t 45), none, none⟩,
        ⟨some 47, .faddr 1 (.t 46), none, none⟩,
        ⟨some 48, .load 1 false (.t 47), none, none⟩,
        ⟨some 49, .bin .rem (.t 48) (.c (.int .i64 8)), none, none⟩,
        ⟨some 50, .bin .shl (.t 44) (.t 49), none, none⟩,
        ⟨some 51, .bin .or (.t 39) (.t 50), none, none⟩,
        ⟨some 52, .iaddr 1 (.t 32) (.t 37), none, none⟩,
        ⟨none, .store 1 (.t 52) (.t 51), none, none⟩])
    (.reg [⟨some 53, .mov (.t 0), none, none⟩,
        ⟨some 54, .nilck (.t 53), none, none⟩,
        ⟨some 55, .faddr 1 (.t 54), none, none⟩,
        ⟨some 56, .load 1 false (.t 55), none, none⟩,
        ⟨some 57, .bin .add (.t 56) (.c (.int .i64 1)), none, none⟩,
        ⟨some 58, .nilck (.t 53), none, none⟩,
        ⟨some 59, .faddr 1 (.t 58), none, none⟩,
        ⟨none, .store 1 (.t 59) (.t 57), none, none⟩]))))
  (.reg [⟨some 12, .mov (.t 6), none, none⟩,
      ⟨some 13, .bin .sub (.t 12) (.c (.int .i64 1)), none, none⟩,
      ⟨some 6, .mov (.t 13), none, none⟩])))
def ir_bits_Writer_Put : IFn :=
  { params := 3, results := [], body :=
  (.seq (.reg [⟨some 7, .mov (.t 2), none, none⟩,
      ⟨some 8, .call fid_bits_bound [(.t 7)], none, none⟩,
      ⟨some 9, .bin .sub (.t 8) (.c (.int .i64 1)), none, none⟩,
      ⟨some 6, .mov (.t 9), none, none⟩])
  (.block 0
  (.loop [0, 1, 6] bits_Writer_Put_b0))) }
def ir_math_bits_Len64 : IFn :=
  { params := 1, results := [.tmp 2], body :=
  (.seq (.reg [⟨some 2, .mov (.c (.int .i64 0)), none, none⟩])
  (.seq (.seq (.reg [⟨some 3, .mov (.t 0), none, none⟩,
      ⟨some 4, .bin .geq (.t 3) (.c (.int .u64 4294967296)), none, none⟩])
  (.cond (.t 4)
  (.seq (.reg [⟨some 5, .mov (.t 0), none, none⟩,
        ⟨some 6, .bin .shr (.t 5) (.c (.int .u64 32)), none, none⟩,
        ⟨some 0, .mov (.t 6), none, none⟩])
    (.reg [⟨some 2, .mov (.c (.int .i64 32)), none, none⟩]))
  (.skip)))
  (.seq (.seq (.reg [⟨some 7, .mov (.t 0), none, none⟩,
      ⟨some 8, .bin .geq (.t 7) (.c (.int .u64 65536)), none, none⟩])
  (.cond (.t 8)
  (.seq (.reg [⟨some 9, .mov (.t 0), none, none⟩,
        ⟨some 10, .bin .shr (.t 9) (.c (.int .u64 16)), none, none⟩,
        ⟨some 0, .mov (.t 10), none, none⟩])
    (.reg [⟨some 11, .mov (.t 2), none, none⟩,
        ⟨some 12, .bin .add (.t 11) (.c (.int .i64 16)), none, none⟩,
        ⟨some 2, .mov (.t 12), none, none⟩]))
  (.skip)))
  (.seq (.seq (.reg [⟨some 13, .mov (.t 0), none, none⟩,
      ⟨some 14, .bin .geq (.t 13) (.c (.int .u64 256)), none, none⟩])
  (.cond (.t 14)
  (.seq (.reg [⟨some 15, .mov (.t 0), none, none⟩,
        ⟨some 16, .bin .shr (.t 15) (.c (.int .u64 8)), none, none⟩,
        ⟨some 0, .mov (.t 16), none, none⟩])
    (.reg [⟨some 17, .mov (.t 2), none, none⟩,
        ⟨some 18, .bin .add (.t 17) (.c (.int .i64 8)), none, none⟩,
        ⟨some 2, .mov (.t 18), none, none⟩]))
  (.skip)))
  (.seq (.reg [⟨some 19, .mov (.t 2), none, none⟩,
      ⟨some 20, .mov (.t 0), none, none⟩,
      ⟨some 21, .conv .u8 (.t 20), none, none⟩,
      ⟨some 22, .index (.c (.str [0, 1, 2, 2, 3, 3, 3, 3, 4, 4, 4, 4, 4, 4, 4, 4, 5, 5, 5, 5, 5, 5, 5, 5, 5, 5, 5, 5, 5, 5, 5, 5, 6, 6, 6, 6, 6, 6, 6, 6, 6, 6, 6, 6, 6, 6, 6, 6, 6, 6, 6, 6, 6, 6, 6, 6, 6, 6, 6, 6, 6, 6, 6, 6, 7, 7, 7, 7, 7, 7, 7, 7, 7, 7, 7, 7, 7, 7, 7, 7, 7, 7, 7, 7, 7, 7, 7, 7, 7, 7, 7, 7, 7, 7, 7, 7, 7, 7, 7, 7, 7, 7, 7, 7, 7, 7, 7, 7, 7, 7, 7, 7, 7, 7, 7, 7, 7, 7, 7, 7, 7, 7, 7, 7, 7, 7, 7, 7, 8, 8, 8, 8, 8, 8, 8, 8, 8, 8, 8, 8, 8, 8, 8, 8, 8, 8, 8, 8, 8, 8, 8, 8, 8, 8, 8, 8, 8, 8, 8, 8, 8, 8, 8, 8, 8, 8, 8, 8, 8, 8, 8, 8, 8, 8, 8, 8, 8, 8, 8, 8, 8, 8, 8, 8, 8, 8, 8, 8, 8, 8, 8, 8, 8, 8, 8, 8, 8, 8, 8, 8, 8, 8, 8, 8, 8, 8, 8, 8, 8, 8, 8, 8, 8, 8, 8, 8, 8, 8, 8, 8, 8, 8, 8, 8, 8, 8, 8, 8, 8, 8, 8, 8, 8, 8, 8, 8, 8, 8, 8, 8, 8, 8, 8, 8, 8, 8, 8, 8, 8, 8, 8, 8, 8, 8, 8, 8])) (.t 21), none, none⟩,
      ⟨some 23, .conv .i64 (.t 22), none, none⟩,
      ⟨some 24, .bin .add (.t 19) (.t 23), none, none⟩,
      ⟨some 2, .mov (.t 24), none, none⟩])
  (.ret)))))) }
def ir_gamma_Put : IFn :=
  { params := 2, results := [], body :=
  (.seq (.seq (.reg [⟨some 5, .mov (.t 0), none, none⟩,
      ⟨some 6, .eq .ptr false (.t 5) (.c .nilp), none, none⟩,
      ⟨some 7, .mov (.t 6), none, none⟩,
      ⟨some 8, .mov (.t 1), (some (7, false)), none⟩,
      ⟨some 9, .bin .eql (.t 8) (.c (.int .u64 0)), (some (7, false)), none⟩,
      ⟨some 10, .pick (.t 7) (.c (.bool true)) (.t 9), none, none⟩])
  (.cond (.t 10)
  (.ret)
  (.skip)))
  (.seq (.reg [⟨some 11, .mov (.t 1), none, none⟩,
      ⟨some 12, .call fid_math_bits_Len64 [(.t 11)], none, none⟩,
      ⟨some 4, .mov (.t 12), none, none⟩])
  (.seq (.reg [⟨some 13, .mov (.t 0), none, none⟩,
      ⟨some 14, .mov (.t 4), none, none⟩,
      ⟨some 15, .bin .sub (.t 14) (.c (.int .i64 1)), none, none⟩,
      ⟨some 16, .call fid_bits_Writer_Put [(.t 13), (.c (.int .u64 0)), (.t 15)], none, none⟩])
  (.reg [⟨some 17, .mov (.t 0), none, none⟩,
      ⟨some 18, .mov (.t 1), none, none⟩,
      ⟨some 19, .mov (.t 4), none, none⟩,
      ⟨some 20, .call fid_bits_Writer_Put [(.t 17), (.t 18), (.t 19)], none, none⟩])))) }
def ir_delta_writer_put : IFn :=
  { params := 2, results := [], body :=
  (.seq (.reg [⟨some 3, .box (.t 1), none, none⟩])
  (.seq (.regD [0, 1, 2, 3, 4, 5, 6, 7, 8, 9, 10, 11, 12, 13, 14] [⟨some 8, .mov (.t 0), none, none⟩,
      ⟨some 9, .nilck (.t 8), none, none⟩,
      ⟨some 10, .faddr 0 (.t 9), none, none⟩,
      ⟨some 11, .load 1 false (.t 10), none, none⟩,
      ⟨some 12, .faddr 0 (.t 3), none, none⟩,
      ⟨some 13, .load 1 false (.t 12), none, none⟩,
      ⟨some 14, .mov (.t 0), none, none⟩,
      ⟨some 15, .nilck (.t 14), none, none⟩,
      ⟨some 16, .faddr 1 (.t 15), none, none⟩,
      ⟨some 17, .faddr 0 (.t 16), none, none⟩,
      ⟨some 18, .load 1 false (.t 17), none, none⟩,
      ⟨some 19, .bin .sub (.t 13) (.t 18), none, none⟩,
      ⟨some 20, .conv .u64 (.t 19), none, none⟩,
      ⟨some 21, .bin .add (.t 20) (.c (.int .u64 1)), none, none⟩,
      ⟨some 22, .call fid_gamma_Put [(.t 11), (.t 21)], none, none⟩])
  (.seq (.reg [⟨some 4, .mov (.c (.int .u64 0)), none, none⟩])
  (.seq (.seq (.reg [⟨some 23, .faddr 3 (.t 3), none, none⟩,
      ⟨some 24, .load 1 false (.t 23), none, none⟩])
  (.cond (.t 24)
  (.reg [⟨some 4, .mov (.c (.int .u64 1)), none, none⟩])
  (.skip)))
  (.seq (.reg [⟨some 25, .mov (.t 0), none, none⟩,
      ⟨some 26, .nilck (.t 25), none, none⟩,
      ⟨some 27, .faddr 0 (.t 26), none, none⟩,
      ⟨some 28, .load 1 false (.t 27), none, none⟩,
      ⟨some 29, .mov (.t 4), none, none⟩,
      ⟨some 30, .call fid_bits_Writer_Put [(.t 28), (.t 29), (.c (.int .i64 1))], none, none⟩])
  (.seq (.regD [0, 1, 2, 3, 4, 5, 6, 7, 8, 9, 10, 11, 12, 13, 14, 15, 16, 17, 18, 19, 20, 21] [⟨some 31, .faddr 1 (.t 3), none, none⟩,
      ⟨some 32, .faddr 0 (.t 31), none, none⟩,
      ⟨some 33, .load 1 false (.t 32), none, none⟩,
      ⟨some 34, .conv .u64 (.t 33), none, none⟩,
      ⟨some 35, .bin .add (.t 34) (.c (.int .u64 1)), none, none⟩,
      ⟨some 36, .faddr 1 (.t 3), none, none⟩,
      ⟨some 37, .faddr 1 (.t 36), none, none⟩,
      ⟨some 38, .load 1 false (.t 37), none, none⟩,
      ⟨some 39, .faddr 1 (.t 3), none, none⟩,
      ⟨some 40, .faddr 0 (.t 39), none, none⟩,
      ⟨some 41, .load 1 false (.t 40), none, none⟩,
      ⟨some 42, .bin .sub (.t 38) (.t 41), none, none⟩,
      ⟨some 43, .conv .u64 (.t 42), none, none⟩,
      ⟨some 44, .mov (.t 0), none, none⟩,
      ⟨some 45, .nilck (.t 44), none, none⟩,
      ⟨some 46, .faddr 1 (.t 45), none, none⟩,
      ⟨some 47, .faddr 1 (.t 46), none, none⟩,
      ⟨some 48, .load 2 true (.t 47), none, none⟩,
      ⟨some 7, .box (.c (.agg [(.int .u32 0), (.int .u32 0)])), none, none⟩,
      ⟨some 5, .mov (.t 35), none, none⟩,
      ⟨some 6, .mov (.t 43), none, none⟩,
      ⟨none, .store 2 (.t 7) (.t 48), none, none⟩])
  (.seq (.seq (.regD [0, 1, 2, 3, 4, 5, 6, 7, 8, 9, 10, 11, 12, 13] [⟨some 49, .mov (.t 0), none, none⟩,
      ⟨some 50, .nilck (.t 49), none, none⟩,
      ⟨some 51, .faddr 5 (.t 50), none, none⟩,
      ⟨some 52, .load 1 false (.t 51), none, none⟩,
      ⟨some 53, .mov (.t 52), none, none⟩,
      ⟨some 54, .faddr 0 (.t 3), (some (53, true)), none⟩,
      ⟨some 55, .load 1 false (.t 54), (some (53, true)), none⟩,
      ⟨some 56, .mov (.t 0), (some (53, true)), none⟩,
      ⟨some 57, .nilck (.t 56), (some (53, true)), none⟩,
      ⟨some 58, .faddr 1 (.t 57), (some (53, true)), none⟩,
      ⟨some 59, .faddr 0 (.t 58), (some (53, true)), none⟩,
      ⟨some 60, .load 1 false (.t 59), (some (53, true)), none⟩,
      ⟨some 61, .bin .eql (.t 55) (.t 60), (some (53, true)), none⟩,
      ⟨some 62, .pick (.t 53) (.t 61) (.c (.bool false)), none, none⟩])
  (.cond (.t 62)
  (.seq (.reg [⟨some 63, .mov (.t 5), none, none⟩,
        ⟨some 64, .faddr 0 (.t 7), none, none⟩,
        ⟨some 65, .load 1 false (.t 64), none, none⟩,
        ⟨some 66, .conv .u64 (.t 65), none, none⟩,
        ⟨some 67, .bin .sub (.t 63) (.t 66), none, none⟩,
        ⟨some 5, .mov (.t 67), none, none⟩])
    (.seq (.reg [⟨some 68, .faddr 1 (.t 3), none, none⟩,
        ⟨some 69, .faddr 0 (.t 68), none, none⟩,
        ⟨some 70, .load 1 false (.t 69), none, none⟩,
        ⟨some 71, .faddr 0 (.t 7), none, none⟩,
        ⟨some 72, .load 1 false (.t 71), none, none⟩,
        ⟨some 73, .bin .eql (.t 70) (.t 72), none, none⟩])
    (.cond (.t 73)
    (.reg [⟨some 74, .faddr 1 (.t 3), none, none⟩,
          ⟨some 75, .faddr 1 (.t 74), none, none⟩,
          ⟨some 76, .load 1 false (.t 75), none, none⟩,
          ⟨some 77, .faddr 1 (.t 7), none, none⟩,
          ⟨some 78, .load 1 false (.t 77), none, none⟩,
          ⟨some 79, .bin .sub (.t 76) (.t 78), none, none⟩,
          ⟨some 80, .conv .u64 (.t 79), none, none⟩,
          ⟨some 6, .mov (.t 80), none, none⟩])
    (.skip))))
  (.skip)))
  (.seq (.reg [⟨some 81, .mov (.t 0), none, none⟩,
      ⟨some 82, .nilck (.t 81), none, none⟩,
      ⟨some 83, .faddr 0 (.t 82), none, none⟩,
      ⟨some 84, .load 1 false (.t 83), none, none⟩,
      ⟨some 85, .mov (.t 5), none, none⟩,
      ⟨some 86, .call fid_gamma_Put [(.t 84), (.t 85)], none, none⟩])
  (.seq (.reg [⟨some 87, .mov (.t 0), none, none⟩,
      ⟨some 88, .nilck (.t 87), none, none⟩,
      ⟨some 89, .faddr 0 (.t 88), none, none⟩,
      ⟨some 90, .load 1 false (.t 89), none, none⟩,
      ⟨some 91, .mov (.t 6), none, none⟩,
      ⟨some 92, .call fid_gamma_Put [(.t 90), (.t 91)], none, none⟩])
  (.reg [⟨some 93, .mov (.t 0), none, none⟩,
      ⟨some 94, .mov (.t 0), none, none⟩,
      ⟨some 95, .load 4 true (.t 3), none, none⟩,
      ⟨some 96, .nilck (.t 93), none, none⟩,
      ⟨some 97, .faddr 1 (.t 96), none, none⟩,
      ⟨none, .store 4 (.t 97) (.t 95), none, none⟩,
      ⟨some 98, .nilck (.t 94), none, none⟩,
      ⟨some 99, .faddr 5 (.t 98), none, none⟩,
      ⟨none, .store 1 (.t 99) (.c (.bool true)), none, none⟩])))))))))) }
def ir_slices_Clone_byte_byte : IFn :=
  { params := 1, results := [.tmp 2], body :=
  (.seq (.reg [⟨some 2, .mov (.c .nils), none, none⟩])
  (.seq (.seq (.reg [⟨some 3, .mov (.t 0), none, none⟩,
      ⟨some 4, .eq .slice false (.t 3) (.c .nils), none, none⟩])
  (.cond (.t 4)
  (.seq (.reg [⟨some 2, .mov (.c .nils), none, none⟩])
    (.ret))
  (.skip)))
  (.seq (.reg [⟨some 5, .mkrow 1 0 [(.int .u8 0)] [], none, none⟩,
      ⟨some 6, .mov (.t 0), none, none⟩,
      ⟨some 7, .append 1 1 (.t 5) (.t 6), none, none⟩,
      ⟨some 2, .mov (.t 7), none, none⟩])
  (.ret)))) }
def ir_bits_Writer_Bytes : IFn :=
  { params := 1, results := [.tmp 2], body :=
  (.seq (.reg [⟨some 2, .mov (.c .nils), none, none⟩])
  (.seq (.reg [⟨some 3, .mov (.t 0), none, none⟩,
      ⟨some 4, .nilck (.t 3), none, none⟩,
      ⟨some 5, .faddr 0 (.t 4), none, none⟩,
      ⟨some 6, .load 1 false (.t 5), none, none⟩,
      ⟨some 7, .call fid_slices_Clone_byte_byte [(.t 6)], none, none⟩,
      ⟨some 2, .mov (.t 7), none, none⟩])
  (.ret))) }
def delta_Put_b0 : IC :=
  (.seq (.reg [⟨some 21, .bin .lss (.t 20) (.t 19), none, none⟩])
  (.seq (.cond (.t 21)
  (.skip)
  (.exit 0))
  (.seq (.block 1
  (.seq (.reg [⟨some 22, .iaddr 4 (.t 18) (.t 20), none, none⟩,
        ⟨some 23, .load 4 true (.t 22), none, none⟩,
        ⟨some 8, .box (.c (.agg [(.int .i64 0), (.int .u32 0), (.int .u32 0), (.bool false)])), none, none⟩,
        ⟨none, .store 4 (.t 8) (.t 23), none, none⟩])
    (.reg [⟨some 24, .mov (.t 6), none, none⟩,
        ⟨some 25, .load 4 true (.t 8), none, none⟩,
        ⟨some 26, .call fid_delta_writer_put [(.t 24), (.t 25)], none, none⟩])))
  (.reg [⟨some 27, .bin .add (.t 20) (.c (.int .i64 1)), none, none⟩,
      ⟨some 20, .mov (.t 27), none, none⟩]))))
def ir_delta_Put : IFn :=
  { params := 2, results := [.tmp 4, .tmp 5], body :=
  (.seq (.reg [⟨some 4, .mov (.c .nils), none, none⟩,
      ⟨some 5, .mov (.c (.int .i64 0)), none, none⟩])
  (.seq (.seq (.reg [⟨some 9, .mov (.t 0), none, none⟩,
      ⟨some 10, .mov (.t 1), none, none⟩,
      ⟨some 11, .call fid_delta_right [(.t 9), (.t 10)], none, none⟩,
      ⟨some 12, .un .not (.t 11), none, none⟩])
  (.cond (.t 12)
  (.seq (.reg [⟨some 4, .mov (.c .nils), none, none⟩,
        ⟨some 5, .mov (.c (.int .i64 23)), none, none⟩])
    (.ret))
  (.skip)))
  (.seq (.reg [⟨some 13, .call fid_bits_NewWriter [], none, none⟩,
      ⟨some 14, .mov (.t 0), none, none⟩,
      ⟨some 15, .build [(.int .i64 0), (.int .u32 0), (.int .u32 0), (.bool false)] [(0, 1, (.t 14))], none, none⟩,
      ⟨some 16, .build [.nilp, (.int .i64 0), (.int .u32 0), (.int .u32 0), (.bool false), (.bool false)] [(0, 1, (.t 13)), (1, 4, (.t 15))], none, none⟩,
      ⟨some 17, .box (.t 16), none, none⟩,
      ⟨some 6, .mov (.t 17), none, none⟩])
  (.seq (.seq (.reg [⟨some 18, .mov (.t 1), none, none⟩,
      ⟨some 19, .len .sl (.t 18), none, none⟩,
      ⟨some 20, .mov (.c (.int .i64 0)), none, none⟩])
  (.block 0
  (.loop [6, 18, 19, 20] delta_Put_b0)))
  (.seq (.reg [⟨some 28, .mov (.t 6), none, none⟩,
      ⟨some 29, .nilck (.t 28), none, none⟩,
      ⟨some 30, .faddr 0 (.t 29), none, none⟩,
      ⟨some 31, .load 1 false (.t 30), none, none⟩,
      ⟨some 32, .call fid_bits_Writer_Bytes [(.t 31)], none, none⟩,
      ⟨some 4, .mov (.t 32), none, none⟩,
      ⟨some 5, .mov (.c (.int .i64 0)), none, none⟩])
  (.ret)))))) }
def ir_bits_NewReader : IFn :=
  { params := 1, results := [.tmp 2], body :=
  (.seq (.reg [⟨some 2, .mov (.c .nilp), none, none⟩])
  (.seq (.reg [⟨some 3, .mov (.t 0), none, none⟩,
      ⟨some 4, .build [.nils, (.int .i64 0)] [(0, 1, (.t 3))], none, none⟩,
      ⟨some 5, .box (.t 4), none, none⟩,
      ⟨some 2, .mov (.t 5), none, none⟩])
  (.ret))) }
def ir_bits_Reader_Left : IFn :=
  { params := 1, results := [.tmp 2], body :=
  (.seq (.reg [⟨some 2, .mov (.c (.int .i64 0)), none, none⟩])
  (.seq (.regD [0, 1, 2, 3, 4, 5, 6, 7, 8, 9, 10, 11] [⟨some 3, .mov (.t 0), none, none⟩,
      ⟨some 4, .nilck (.t 3), none, none⟩,
      ⟨some 5, .faddr 0 (.t 4), none, none⟩,
      ⟨some 6, .load 1 false (.t 5), none, none⟩,
      ⟨some 7, .len .sl (.t 6), none, none⟩,
      ⟨some 8, .bin .mul (.t 7) (.c (.int .i64 8)), none, none⟩,
      ⟨some 9, .mov (.t 0), none, none⟩,
      ⟨some 10, .nilck (.t 9), none, none⟩,
      ⟨some 11, .faddr 1 (.t 10), none, none⟩,
      ⟨some 12, .load 1 false (.t 11), none, none⟩,
      ⟨some 13, .bin .sub (.t 8) (.t 12), none, none⟩,
      ⟨some 2, .mov (.t 13), none, none⟩])
  (.ret))) }
def bits_Reader_Take_b0 : IC :=
  (.seq (.reg [⟨some 15, .bin .lss (.t 14) (.t 13), none, none⟩])
  (.seq (.cond (.t 15)
  (.skip)
  (.exit 0))
  (.seq (.block 1
  (.seq (.regD [0, 1, 2, 3, 4, 5, 6, 7, 8, 9, 10, 11, 12, 13, 14, 15, 16, 17, 18, 19, 20, 21, 22] [⟨some 16, .mov (.t 6), none, none⟩,
        ⟨some 17, .bin .shl (.t 16) (.c (.int .u64 1)), none, none⟩,
        ⟨some 18, .mov (.t 0), none, none⟩,
        ⟨some 19, .nilck (.t 18), none, none⟩,
        ⟨some 20, .faddr 0 (.t 19), none, none⟩,
        ⟨some 21, .load 1 false (.t 20), none, none⟩,
        ⟨some 22, .mov (.t 0), none, none⟩,
        ⟨some 23, .nilck (.t 22), none, none⟩,
        ⟨some 24, .faddr 1 (.t 23), none, none⟩,
        ⟨some 25, .load 1 false (.t 24), none, none⟩,
        ⟨some 26, .bin .quo (.t 25) (.c (.int .i64 8)), none, none⟩,
        ⟨some 27, .iaddr 1 (.t 21) (.t 26), none, none⟩,
        ⟨some 28, .load 1 false (.t 27), none, none⟩,
        ⟨some 29, .mov (.t 0), none, none⟩,
        ⟨some 30, .nilck (.t 29), none, none⟩,
        ⟨some 31, .faddr 1 (.t 30), none, none⟩,
        ⟨some 32, .load 1 false (.t 31), none, none⟩,
        ⟨some 33, .bin .rem (.t 32) (.c (.int .i64 8)), none, none⟩,
        ⟨some 34, .bin .shr (.t 28) (.t 33), none, none⟩,
        ⟨some 35, .bin .and (.t 34) (.c (.int .u8 1)), none, none⟩,
        ⟨some 36, .conv .u64 (.t 35), none, none⟩,
        ⟨some 37, .bin .or (.t 17) (.t 36), none, none⟩,
        ⟨some 6, .mov (.t 37), none, none⟩])
    (.reg [⟨some 38, .mov (.t 0), none, none⟩,
        ⟨some 39, .nilck (.t 38), none, none⟩,
        ⟨some 40, .faddr 1 (.t 39), none, none⟩,
        ⟨some 41, .load 1 false (.t 40), none, none⟩,
        ⟨some 42, .bin .add (.t 41) (.c (.int .i64 1)), none, none⟩,
        ⟨some 43, .nilck (.t 38), none, none⟩,
        ⟨some 44, .faddr 1 (.t 43), none, none⟩,
        ⟨none, .store 1 (.t 44) (.t 42), none, none⟩])))
  (.reg [⟨some 45, .bin .add (.t 14) (.c (.int .i64 1)), none, none⟩,
      ⟨some 14, .mov (.t 45), none, none⟩]))))
def ir_bits_Reader_Take : IFn :=
  { params := 2, results := [.tmp 4, .tmp 5], body :=
  (.seq (.reg [⟨some 4, .mov (.c (.int .u64 0)), none, none⟩,
      ⟨some 5, .mov (.c (.bool false)), none, none⟩])
  (.seq (.reg [⟨some 7, .mov (.t 1), none, none⟩,
      ⟨some 8, .call fid_bits_bound [(.t 7)], none, none⟩,
      ⟨some 1, .mov (.t 8), none, none⟩])
  (.seq (.seq (.reg [⟨some 9, .mov (.t 1), none, none⟩,
      ⟨some 10, .mov (.t 0), none, none⟩,
      ⟨some 11, .call fid_bits_Reader_Left [(.t 10)], none, none⟩,
      ⟨some 12, .bin .gtr (.t 9) (.t 11), none, none⟩])
  (.cond (.t 12)
  (.seq (.reg [⟨some 4, .mov (.c (.int .u64 0)), none, none⟩,
        ⟨some 5, .mov (.c (.bool false)), none, none⟩])
    (.ret))
  (.skip)))
  (.seq (.reg [⟨some 6, .mov (.c (.int .u64 0)), none, none⟩])
  (.seq (.seq (.reg [⟨some 13, .mov (.t 1), none, none⟩,
      ⟨some 14, .mov (.c (.int .i64 0)), none, none⟩])
  (.block 0
  (.loop [0, 6, 13, 14] bits_Reader_Take_b0)))
  (.seq (.reg [⟨some 46, .mov (.t 6), none, none⟩,
      ⟨some 4, .mov (.t 46), none, none⟩,
      ⟨some 5, .mov (.c (.bool true)), none, none⟩])
  (.ret))))))) }
def gamma_Take_b0 : IC :=
  (.seq (.reg [⟨some 15, .bin .lss (.t 14) (.c (.int .i64 64)), none, none⟩])
  (.seq (.cond (.t 15)
  (.skip)
  (.exit 0))
  (.seq (.block 1
  (.seq (.reg [⟨some 16, .mov (.t 14), none, none⟩,
        ⟨some 5, .mov (.t 16), none, none⟩])
    (.seq (.reg [⟨some 18, .mov (.t 0), none, none⟩,
        ⟨some 19, .call fid_bits_Reader_Take [(.t 18), (.c (.int .i64 1))], none, none⟩,
        ⟨some 17, .mov (.t 19), none, none⟩,
        ⟨some 20, .extract (.t 17) 0, none, none⟩,
        ⟨some 21, .extract (.t 17) 1, none, none⟩,
        ⟨some 6, .mov (.t 20), none, none⟩,
        ⟨some 7, .mov (.t 21), none, none⟩])
    (.seq (.seq (.reg [⟨some 22, .mov (.t 7), none, none⟩,
        ⟨some 23, .un .not (.t 22), none, none⟩])
    (.cond (.t 23)
    (.exit 0)
    (.skip)))
    (.seq (.seq (.reg [⟨some 24, .mov (.t 6), none, none⟩,
        ⟨some 25, .bin .eql (.t 24) (.c (.int .u64 0)), none, none⟩])
    (.cond (.t 25)
    (.exit 1)
    (.skip)))
    (.seq (.reg [⟨some 27, .mov (.t 0), none, none⟩,
        ⟨some 28, .mov (.t 5), none, none⟩,
        ⟨some 29, .call fid_bits_Reader_Take [(.t 27), (.t 28)], none, none⟩,
        ⟨some 26, .mov (.t 29), none, none⟩,
        ⟨some 30, .extract (.t 26) 0, none, none⟩,
        ⟨some 31, .extract (.t 26) 1, none, none⟩,
        ⟨some 8, .mov (.t 30), none, none⟩,
        ⟨some 7, .mov (.t 31), none, none⟩])
    (.seq (.seq (.reg [⟨some 32, .mov (.t 7), none, none⟩,
        ⟨some 33, .un .not (.t 32), none, none⟩])
    (.cond (.t 33)
    (.exit 0)
    (.skip)))
    (.seq (.reg [⟨some 34, .mov (.t 5), none, none⟩,
        ⟨some 35, .bin .shl (.c (.int .u64 1)) (.t 34), none, none⟩,
        ⟨some 36, .mov (.t 8), none, none⟩,
        ⟨some 37, .bin .or (.t 35) (.t 36), none, none⟩,
        ⟨some 2, .mov (.t 37), none, none⟩,
        ⟨some 3, .mov (.c (.bool true)), none, none⟩])
    (.ret)))))))))
  (.reg [⟨some 38, .bin .add (.t 14) (.c (.int .i64 1)), none, none⟩,
      ⟨some 14, .mov (.t 38), none, none⟩]))))
def ir_gamma_Take : IFn :=
  { params := 1, results := [.tmp 2, .tmp 3], body :=
  (.seq (.reg [⟨some 2, .mov (.c (.int .u64 0)), none, none⟩,
      ⟨some 3, .mov (.c (.bool false)), none, none⟩])
  (.seq (.seq (.reg [⟨some 9, .mov (.t 0), none, none⟩,
      ⟨some 10, .eq .ptr false (.t 9) (.c .nilp), none, none⟩])
  (.cond (.t 10)
  (.seq (.reg [⟨some 2, .mov (.c (.int .u64 0)), none, none⟩,
        ⟨some 3, .mov (.c (.bool false)), none, none⟩])
    (.ret))
  (.skip)))
  (.seq (.reg [⟨some 11, .mov (.t 0), none, none⟩,
      ⟨some 12, .nilck (.t 11), none, none⟩,
      ⟨some 13, .load 2 true (.t 12), none, none⟩,
      ⟨some 4, .box (.c (.agg [.nils, (.int .i64 0)])), none, none⟩,
      ⟨none, .store 2 (.t 4) (.t 13), none, none⟩])
  (.seq (.seq (.reg [⟨some 14, .mov (.c (.int .i64 0)), none, none⟩])
  (.block 0
  (.loop [0, 4, 14] gamma_Take_b0)))
  (.seq (.reg [⟨some 39, .mov (.t 0), none, none⟩,
      ⟨some 40, .load 2 true (.t 4), none, none⟩,
      ⟨some 41, .nilck (.t 39), none, none⟩,
      ⟨none, .store 2 (.t 41) (.t 40), none, none⟩])
  (.seq (.reg [⟨some 2, .mov (.c (.int .u64 0)), none, none⟩,
      ⟨some 3, .mov (.c (.bool false)), none, none⟩])
  (.ret))))))) }
def ir_delta_reader_num : IFn :=
  { params := 2, results := [.tmp 4], body :=
  (.seq (.reg [⟨some 4, .mov (.c (.int .u64 0)), none, none⟩])
  (.seq (.reg [⟨some 8, .mov (.t 0), none, none⟩,
      ⟨some 9, .nilck (.t 8), none, none⟩,
      ⟨some 10, .faddr 0 (.t 9), none, none⟩,
      ⟨some 11, .load 1 false (.t 10), none, none⟩,
      ⟨some 12, .call fid_gamma_Take [(.t 11)], none, none⟩,
      ⟨some 7, .mov (.t 12), none, none⟩,
      ⟨some 13, .extract (.t 7) 0, none, none⟩,
      ⟨some 14, .extract (.t 7) 1, none, none⟩,
      ⟨some 5, .mov (.t 13), none, none⟩,
      ⟨some 6, .mov (.t 14), none, none⟩])
  (.seq (.reg [⟨some 15, .mov (.t 0), none, none⟩,
      ⟨some 16, .mov (.t 0), none, none⟩,
      ⟨some 17, .nilck (.t 16), none, none⟩,
      ⟨some 18, .faddr 6 (.t 17), none, none⟩,
      ⟨some 19, .load 1 false (.t 18), none, none⟩,
      ⟨some 20, .mov (.t 19), none, none⟩,
      ⟨some 21, .mov (.t 6), (some (20, true)), none⟩,
      ⟨some 22, .pick (.t 20) (.t 21) (.c (.bool false)), none, none⟩,
      ⟨some 23, .mov (.t 22), none, none⟩,
      ⟨some 24, .mov (.t 5), (some (23, true)), none⟩,
      ⟨some 25, .mov (.t 1), (some (23, true)), none⟩,
      ⟨some 26, .bin .leq (.t 24) (.t 25), (some (23, true)), none⟩,
      ⟨some 27, .pick (.t 23) (.t 26) (.c (.bool false)), none, none⟩,
      ⟨some 28, .nilck (.t 15), none, none⟩,
      ⟨some 29, .faddr 6 (.t 28), none, none⟩,
      ⟨none, .store 1 (.t 29) (.t 27), none, none⟩])
  (.seq (.reg [⟨some 30, .mov (.t 5), none, none⟩,
      ⟨some 4, .mov (.t 30), none, none⟩])
  (.ret))))) }
def ir_delta_reader_event : IFn :=
  { params := 1, results := [.cell 2 4 true], body :=
  (.seq (.reg [⟨some 2, .box (.c (.agg [(.int .i64 0), (.int .u32 0), (.int .u32 0), (.bool false)])), none, none⟩])
  (.seq (.reg [⟨some 10, .mov (.t 0), none, none⟩,
      ⟨some 11, .call fid_delta_reader_num [(.t 10), (.c (.int .u64 4611686018427387904))], none, none⟩,
      ⟨some 3, .mov (.t 11), none, none⟩])
  (.seq (.reg [⟨some 13, .mov (.t 0), none, none⟩,
      ⟨some 14, .nilck (.t 13), none, none⟩,
      ⟨some 15, .faddr 0 (.t 14), none, none⟩,
      ⟨some 16, .load 1 false (.t 15), none, none⟩,
      ⟨some 17, .call fid_bits_Reader_Take [(.t 16), (.c (.int .i64 1))], none, none⟩,
      ⟨some 12, .mov (.t 17), none, none⟩,
      ⟨some 18, .extract (.t 12) 0, none, none⟩,
      ⟨some 19, .extract (.t 12) 1, none, none⟩,
      ⟨some 4, .mov (.t 18), none, none⟩,
      ⟨some 5, .mov (.t 19), none, none⟩])
  (.seq (.reg [⟨some 20, .mov (.t 0), none, none⟩,
      ⟨some 21, .call fid_delta_reader_num [(.t 20), (.c (.int .u64 4294967296))], none, none⟩,
      ⟨some 22, .mov (.t 0), none, none⟩,
      ⟨some 23, .call fid_delta_reader_num [(.t 22), (.c (.int .u64 4294967296))], none, none⟩,
      ⟨some 6, .mov (.t 21), none, none⟩,
      ⟨some 7, .mov (.t 23), none, none⟩])
  (.seq (.seq (.reg [⟨some 24, .mov (.t 0), none, none⟩,
      ⟨some 25, .mov (.t 0), none, none⟩,
      ⟨some 26, .nilck (.t 25), none, none⟩,
      ⟨some 27, .faddr 6 (.t 26), none, none⟩,
      ⟨some 28, .load 1 false (.t 27), none, none⟩,
      ⟨some 29, .mov (.t 28), none, none⟩,
      ⟨some 30, .mov (.t 5), (some (29, true)), none⟩,
      ⟨some 31, .pick (.t 29) (.t 30) (.c (.bool false)), none, none⟩,
      ⟨some 32, .nilck (.t 24), none, none⟩,
      ⟨some 33, .faddr 6 (.t 32), none, none⟩,
      ⟨none, .store 1 (.t 33) (.t 31), none, none⟩])
  (.seq (.reg [⟨some 34, .mov (.t 0), none, none⟩,
      ⟨some 35, .nilck (.t 34), none, none⟩,
      ⟨some 36, .faddr 6 (.t 35), none, none⟩,
      ⟨some 37, .load 1 false (.t 36), none, none⟩,
      ⟨some 38, .un .not (.t 37), none, none⟩])
  (.cond (.t 38)
  (.seq (.reg [⟨some 39, .build [(.int .i64 0), (.int .u32 0), (.int .u32 0), (.bool false)] [], none, none⟩,
        ⟨none, .store 4 (.t 2) (.t 39), none, none⟩])
    (.ret))
  (.skip))))
  (.seq (.reg [⟨some 40, .mov (.t 0), none, none⟩,
      ⟨some 41, .nilck (.t 40), none, none⟩,
      ⟨some 42, .faddr 1 (.t 41), none, none⟩,
      ⟨some 43, .faddr 0 (.t 42), none, none⟩,
      ⟨some 44, .load 1 false (.t 43), none, none⟩,
      ⟨some 45, .mov (.t 3), none, none⟩,
      ⟨some 46, .bin .sub (.t 45) (.c (.int .u64 1)), none, none⟩,
      ⟨some 47, .conv .i64 (.t 46), none, none⟩,
      ⟨some 48, .bin .add (.t 44) (.t 47), none, none⟩,
      ⟨some 49, .mov (.t 4), none, none⟩,
      ⟨some 50, .bin .eql (.t 49) (.c (.int .u64 1)), none, none⟩,
      ⟨some 51, .build [(.int .i64 0), (.int .u32 0), (.int .u32 0), (.bool false)] [(0, 1, (.t 48)), (3, 1, (.t 50))], none, none⟩,
      ⟨some 8, .box (.c (.agg [(.int .i64 0), (.int .u32 0), (.int .u32 0), (.bool false)])), none, none⟩,
      ⟨none, .store 4 (.t 8) (.t 51), none, none⟩])
  (.seq (.reg [⟨some 52, .mov (.t 6), none, none⟩,
      ⟨some 53, .bin .sub (.t 52) (.c (.int .u64 1)), none, none⟩,
      ⟨some 6, .mov (.t 53), none, none⟩])
  (.seq (.reg [⟨some 9, .mov (.c (.int .u64 0)), none, none⟩])
  (.seq (.seq (.reg [⟨some 54, .mov (.t 0), none, none⟩,
      ⟨some 55, .nilck (.t 54), none, none⟩,
      ⟨some 56, .faddr 5 (.t 55), none, none⟩,
      ⟨some 57, .load 1 false (.t 56), none, none⟩,
      ⟨some 58, .mov (.t 57), none, none⟩,
      ⟨some 59, .mov (.t 3), (some (58, true)), none⟩,
      ⟨some 60, .bin .eql (.t 59) (.c (.int .u64 1)), (some (58, true)), none⟩,
      ⟨some 61, .pick (.t 58) (.t 60) (.c (.bool false)), none, none⟩])
  (.cond (.t 61)
  (.seq (.reg [⟨some 62, .mov (.t 6), none, none⟩,
        ⟨some 63, .mov (.t 0), none, none⟩,
        ⟨some 64, .nilck (.t 63), none, none⟩,
        ⟨some 65, .faddr 1 (.t 64), none, none⟩,
        ⟨some 66, .faddr 1 (.t 65), none, none⟩,
        ⟨some 67, .faddr 0 (.t 66), none, none⟩,
        ⟨some 68, .load 1 false (.t 67), none, none⟩,
        ⟨some 69, .conv .u64 (.t 68), none, none⟩,
        ⟨some 70, .bin .add (.t 62) (.t 69), none, none⟩,
        ⟨some 6, .mov (.t 70), none, none⟩])
    (.seq (.reg [⟨some 71, .mov (.t 6), none, none⟩,
        ⟨some 72, .mov (.t 0), none, none⟩,
        ⟨some 73, .nilck (.t 72), none, none⟩,
        ⟨some 74, .faddr 1 (.t 73), none, none⟩,
        ⟨some 75, .faddr 1 (.t 74), none, none⟩,
        ⟨some 76, .faddr 0 (.t 75), none, none⟩,
        ⟨some 77, .load 1 false (.t 76), none, none⟩,
        ⟨some 78, .conv .u64 (.t 77), none, none⟩,
        ⟨some 79, .bin .eql (.t 71) (.t 78), none, none⟩])
    (.cond (.t 79)
    (.reg [⟨some 80, .mov (.t 0), none, none⟩,
          ⟨some 81, .nilck (.t 80), none, none⟩,
          ⟨some 82, .faddr 1 (.t 81), none, none⟩,
          ⟨some 83, .faddr 1 (.t 82), none, none⟩,
          ⟨some 84, .faddr 1 (.t 83), none, none⟩,
          ⟨some 85, .load 1 false (.t 84), none, none⟩,
          ⟨some 86, .conv .u64 (.t 85), none, none⟩,
          ⟨some 87, .mov (.t 6), none, none⟩,
          ⟨some 88, .bin .sub (.t 86) (.t 87), none, none⟩,
          ⟨some 9, .mov (.t 88), none, none⟩])
    (.skip))))
  (.skip)))
  (.seq (.reg [⟨some 89, .mov (.t 7), none, none⟩,
      ⟨some 90, .mov (.t 6), none, none⟩,
      ⟨some 91, .mov (.t 9), none, none⟩,
      ⟨some 92, .bin .add (.t 90) (.t 91), none, none⟩,
      ⟨some 93, .bin .add (.t 89) (.t 92), none, none⟩,
      ⟨some 7, .mov (.t 93), none, none⟩])
  (.seq (.reg [⟨some 94, .mov (.t 0), none, none⟩,
      ⟨some 95, .faddr 0 (.t 8), none, none⟩,
      ⟨some 96, .load 1 false (.t 95), none, none⟩,
      ⟨some 97, .bin .leq (.t 96) (.c (.int .i64 4611686018427387903)), none, none⟩,
      ⟨some 98, .mov (.t 97), none, none⟩,
      ⟨some 99, .mov (.t 6), (some (98, true)), none⟩,
      ⟨some 100, .bin .leq (.t 99) (.c (.int .u64 4294967295)), (some (98, true)), none⟩,
      ⟨some 101, .pick (.t 98) (.t 100) (.c (.bool false)), none, none⟩,
      ⟨some 102, .mov (.t 101), none, none⟩,
      ⟨some 103, .mov (.t 7), (some (102, true)), none⟩,
      ⟨some 104, .bin .leq (.t 103) (.c (.int .u64 4294967295)), (some (102, true)), none⟩,
      ⟨some 105, .pick (.t 102) (.t 104) (.c (.bool false)), none, none⟩,
      ⟨some 106, .nilck (.t 94), none, none⟩,
      ⟨some 107, .faddr 6 (.t 106), none, none⟩,
      ⟨none, .store 1 (.t 107) (.t 105), none, none⟩])
  (.seq (.reg [⟨some 108, .mov (.t 6), none, none⟩,
      ⟨some 109, .conv .u32 (.t 108), none, none⟩,
      ⟨some 110, .mov (.t 7), none, none⟩,
      ⟨some 111, .conv .u32 (.t 110), none, none⟩,
      ⟨some 112, .build [(.int .u32 0), (.int .u32 0)] [(0, 1, (.t 109)), (1, 1, (.t 111))], none, none⟩,
      ⟨some 113, .faddr 1 (.t 8), none, none⟩,
      ⟨none, .store 2 (.t 113) (.t 112), none, none⟩])
  (.seq (.reg [⟨some 114, .mov (.t 0), none, none⟩,
      ⟨some 115, .mov (.t 0), none, none⟩,
      ⟨some 116, .load 4 true (.t 8), none, none⟩,
      ⟨some 117, .nilck (.t 114), none, none⟩,
      ⟨some 118, .faddr 1 (.t 117), none, none⟩,
      ⟨none, .store 4 (.t 118) (.t 116), none, none⟩,
      ⟨some 119, .nilck (.t 115), none, none⟩,
      ⟨some 120, .faddr 5 (.t 119), none, none⟩,
      ⟨none, .store 1 (.t 120) (.c (.bool true)), none, none⟩])
  (.seq (.reg [⟨some 121, .load 4 true (.t 8), none, none⟩,
      ⟨none, .store 4 (.t 2) (.t 121), none, none⟩])
  (.ret))))))))))))))) }
def ir_edge_Right : IFn :=
  { params := 2, results := [.tmp 4], body :=
  (.seq (.reg [⟨some 2, .box (.t 0), none, none⟩,
      ⟨some 4, .mov (.c (.bool false)), none, none⟩])
  (.seq (.reg [⟨some 5, .faddr 0 (.t 2), none, none⟩,
      ⟨some 6, .load 1 false (.t 5), none, none⟩,
      ⟨some 7, .faddr 1 (.t 2), none, none⟩,
      ⟨some 8, .load 1 false (.t 7), none, none⟩,
      ⟨some 9, .bin .lss (.t 6) (.t 8), none, none⟩,
      ⟨some 10, .mov (.t 9), none, none⟩,
      ⟨some 11, .faddr 1 (.t 2), (some (10, true)), none⟩,
      ⟨some 12, .load 1 false (.t 11), (some (10, true)), none⟩,
      ⟨some 13, .conv .u64 (.t 12), (some (10, true)), none⟩,
      ⟨some 14, .mov (.t 1), (some (10, true)), none⟩,
      ⟨some 15, .bin .lss (.t 13) (.t 14), (some (10, true)), none⟩,
      ⟨some 16, .pick (.t 10) (.t 15) (.c (.bool false)), none, none⟩,
      ⟨some 4, .mov (.t 16), none, none⟩])
  (.ret))) }
def ir_bytes_Equal : IFn :=
  { params := 2, results := [.tmp 4], body :=
  (.seq (.reg [⟨some 4, .mov (.c (.bool false)), none, none⟩])
  (.seq (.reg [⟨some 5, .mov (.t 0), none, none⟩,
      ⟨some 6, .toStr (.t 5), none, none⟩,
      ⟨some 7, .mov (.t 1), none, none⟩,
      ⟨some 8, .toStr (.t 7), none, none⟩,
      ⟨some 9, .bin .eql (.t 6) (.t 8), none, none⟩,
      ⟨some 4, .mov (.t 9), none, none⟩])
  (.ret))) }
def delta_Read_b0 : IC :=
  (.seq (.seq (.reg [⟨some 35, .mov (.t 2), none, none⟩,
      ⟨some 36, .bin .gtr (.t 35) (.c (.int .i64 0)), none, none⟩,
      ⟨some 37, .mov (.t 36), none, none⟩,
      ⟨some 38, .mov (.t 10), (some (37, true)), none⟩,
      ⟨some 39, .nilck (.t 38), (some (37, true)), none⟩,
      ⟨some 40, .faddr 6 (.t 39), (some (37, true)), none⟩,
      ⟨some 41, .load 1 false (.t 40), (some (37, true)), none⟩,
      ⟨some 42, .pick (.t 37) (.t 41) (.c (.bool false)), none, none⟩])
  (.cond (.t 42)
  (.skip)
  (.exit 0)))
  (.seq (.block 1
  (.seq (.reg [⟨some 45, .mov (.t 10), none, none⟩,
        ⟨some 46, .call fid_delta_reader_event [(.t 45)], none, none⟩,
        ⟨some 12, .box (.c (.agg [(.int .i64 0), (.int .u32 0), (.int .u32 0), (.bool false)])), none, none⟩,
        ⟨none, .store 4 (.t 12) (.t 46), none, none⟩])
    (.seq (.reg [⟨some 47, .mov (.t 10), none, none⟩,
        ⟨some 48, .mov (.t 10), none, none⟩,
        ⟨some 49, .nilck (.t 48), none, none⟩,
        ⟨some 50, .faddr 6 (.t 49), none, none⟩,
        ⟨some 51, .load 1 false (.t 50), none, none⟩,
        ⟨some 52, .mov (.t 51), none, none⟩,
        ⟨some 53, .faddr 1 (.t 12), (some (52, true)), none⟩,
        ⟨some 54, .load 2 true (.t 53), (some (52, true)), none⟩,
        ⟨some 55, .mov (.t 3), (some (52, true)), none⟩,
        ⟨some 56, .call fid_edge_Right [(.t 54), (.t 55)], (some (52, true)), none⟩,
        ⟨some 57, .pick (.t 52) (.t 56) (.c (.bool false)), none, none⟩,
        ⟨some 58, .nilck (.t 47), none, none⟩,
        ⟨some 59, .faddr 6 (.t 58), none, none⟩,
        ⟨none, .store 1 (.t 59) (.t 57), none, none⟩])
    (.reg [⟨some 60, .mov (.t 11), none, none⟩,
        ⟨some 61, .load 4 true (.t 12), none, none⟩,
        ⟨some 62, .mkrow 4 1 [(.int .i64 0), (.int .u32 0), (.int .u32 0), (.bool false)] [(0, (.t 61))], none, none⟩,
        ⟨some 63, .append 4 24 (.t 60) (.t 62), none, none⟩,
        ⟨some 11, .mov (.t 63), none, none⟩]))))
  (.reg [⟨some 43, .mov (.t 2), none, none⟩,
      ⟨some 44, .bin .sub (.t 43) (.c (.int .i64 1)), none, none⟩,
      ⟨some 2, .mov (.t 44), none, none⟩])))
def ir_delta_Read : IFn :=
  { params := 4, results := [.tmp 8, .tmp 9], body :=
  (.seq (.reg [⟨some 8, .mov (.c .nils), none, none⟩,
      ⟨some 9, .mov (.c (.int .i64 0)), none, none⟩])
  (.seq (.seq (.reg [⟨some 15, .mov (.t 2), none, none⟩,
      ⟨some 16, .bin .gtr (.t 15) (.c (.int .i64 0)), none, none⟩,
      ⟨some 17, .mov (.t 16), none, none⟩,
      ⟨some 18, .mov (.t 1), (some (17, true)), none⟩,
      ⟨some 19, .bin .lss (.t 18) (.c (.int .i64 0)), (some (17, true)), none⟩,
      ⟨some 20, .mov (.t 19), (some (17, true)), none⟩,
      ⟨some 21, .mov (.t 1), (some (20, false)), none⟩,
      ⟨some 22, .bin .gtr (.t 21) (.c (.int .i64 4611686018427387903)), (some (20, false)), none⟩,
      ⟨some 23, .pick (.t 20) (.c (.bool true)) (.t 22), (some (17, true)), none⟩,
      ⟨some 24, .pick (.t 17) (.t 23) (.c (.bool false)), none, none⟩,
      ⟨some 25, .mov (.t 24), none, none⟩,
      ⟨some 26, .mov (.t 2), (some (25, false)), none⟩,
      ⟨some 27, .bin .lss (.t 26) (.c (.int .i64 0)), (some (25, false)), none⟩,
      ⟨some 28, .pick (.t 25) (.c (.bool true)) (.t 27), none, none⟩])
  (.cond (.t 28)
  (.seq (.reg [⟨some 8, .mov (.c .nils), none, none⟩,
        ⟨some 9, .mov (.c (.int .i64 21)), none, none⟩])
    (.ret))
  (.skip)))
  (.seq (.reg [⟨some 29, .mov (.t 0), none, none⟩,
      ⟨some 30, .call fid_bits_NewReader [(.t 29)], none, none⟩,
      ⟨some 31, .mov (.t 1), none, none⟩,
      ⟨some 32, .build [(.int .i64 0), (.int .u32 0), (.int .u32 0), (.bool false)] [(0, 1, (.t 31))], none, none⟩,
      ⟨some 33, .build [.nilp, (.int .i64 0), (.int .u32 0), (.int .u32 0), (.bool false), (.bool false), (.bool false)] [(0, 1, (.t 30)), (1, 4, (.t 32)), (6, 1, (.c (.bool true)))], none, none⟩,
      ⟨some 34, .box (.t 33), none, none⟩,
      ⟨some 10, .mov (.t 34), none, none⟩])
  (.seq (.reg [⟨some 11, .mov (.c .nils), none, none⟩])
  (.seq (.block 0
  (.loop [0, 1, 2, 3, 10, 11] delta_Read_b0))
  (.seq (.seq (.reg [⟨some 65, .mov (.t 1), none, none⟩,
      ⟨some 66, .mov (.t 11), none, none⟩,
      ⟨some 67, .call fid_delta_Put [(.t 65), (.t 66)], none, none⟩,
      ⟨some 64, .mov (.t 67), none, none⟩,
      ⟨some 68, .extract (.t 64) 0, none, none⟩,
      ⟨some 69, .extract (.t 64) 1, none, none⟩,
      ⟨some 13, .mov (.t 68), none, none⟩,
      ⟨some 14, .mov (.t 69), none, none⟩])
  (.seq (.reg [⟨some 70, .mov (.t 10), none, none⟩,
      ⟨some 71, .nilck (.t 70), none, none⟩,
      ⟨some 72, .faddr 6 (.t 71), none, none⟩,
      ⟨some 73, .load 1 false (.t 72), none, none⟩,
      ⟨some 74, .un .not (.t 73), none, none⟩,
      ⟨some 75, .mov (.t 74), none, none⟩,
      ⟨some 76, .mov (.t 14), (some (75, false)), none⟩,
      ⟨some 77, .bin .neq (.t 76) (.c (.int .i64 0)), (some (75, false)), none⟩,
      ⟨some 78, .pick (.t 75) (.c (.bool true)) (.t 77), none, none⟩,
      ⟨some 79, .mov (.t 78), none, none⟩,
      ⟨some 80, .mov (.t 13), (some (79, false)), none⟩,
      ⟨some 81, .mov (.t 0), (some (79, false)), none⟩,
      ⟨some 82, .call fid_bytes_Equal [(.t 80), (.t 81)], (some (79, false)), none⟩,
      ⟨some 83, .un .not (.t 82), (some (79, false)), none⟩,
      ⟨some 84, .pick (.t 79) (.c (.bool true)) (.t 83), none, none⟩])
  (.cond (.t 84)
  (.seq (.reg [⟨some 8, .mov (.c .nils), none, none⟩,
        ⟨some 9, .mov (.c (.int .i64 21)), none, none⟩])
    (.ret))
  (.skip))))
  (.seq (.reg [⟨some 85, .mov (.t 11), none, none⟩,
      ⟨some 8, .mov (.t 85), none, none⟩,
      ⟨some 9, .mov (.c (.int .i64 0)), none, none⟩])
  (.ret)))))))) }
def archipelagoref8_SameEvents_b0 : IC :=
  (.seq (.seq (.reg [⟨some 11, .mov (.t 5), none, none⟩,
      ⟨some 12, .mov (.t 0), none, none⟩,
      ⟨some 13, .len .sl (.t 12), none, none⟩,
      ⟨some 14, .bin .lss (.t 11) (.t 13), none, none⟩])
  (.cond (.t 14)
  (.skip)
  (.exit 0)))
  (.seq (.block 1
  (.seq (.regD [0, 1, 2, 3, 4, 5, 6, 7, 8] [⟨some 17, .mov (.t 0), none, none⟩,
        ⟨some 18, .mov (.t 5), none, none⟩,
        ⟨some 19, .iaddr 4 (.t 17) (.t 18), none, none⟩,
        ⟨some 20, .load 4 true (.t 19), none, none⟩,
        ⟨some 21, .mov (.t 1), none, none⟩,
        ⟨some 22, .mov (.t 5), none, none⟩,
        ⟨some 23, .iaddr 4 (.t 21) (.t 22), none, none⟩,
        ⟨some 24, .load 4 true (.t 23), none, none⟩,
        ⟨some 25, .eq (.struct [.int, .int, .int, .bool]) true (.t 20) (.t 24), none, none⟩])
    (.cond (.t 25)
    (.seq (.reg [⟨some 4, .mov (.c (.bool false)), none, none⟩])
      (.ret))
    (.skip))))
  (.reg [⟨some 15, .mov (.t 5), none, none⟩,
      ⟨some 16, .bin .add (.t 15) (.c (.int .i64 1)), none, none⟩,
      ⟨some 5, .mov (.t 16), none, none⟩])))
def ir_archipelagoref8_SameEvents : IFn :=
  { params := 2, results := [.tmp 4], body :=
  (.seq (.reg [⟨some 4, .mov (.c (.bool false)), none, none⟩])
  (.seq (.seq (.reg [⟨some 6, .mov (.t 0), none, none⟩,
      ⟨some 7, .len .sl (.t 6), none, none⟩,
      ⟨some 8, .mov (.t 1), none, none⟩,
      ⟨some 9, .len .sl (.t 8), none, none⟩,
      ⟨some 10, .bin .neq (.t 7) (.t 9), none, none⟩])
  (.cond (.t 10)
  (.seq (.reg [⟨some 4, .mov (.c (.bool false)), none, none⟩])
    (.ret))
  (.skip)))
  (.seq (.seq (.reg [⟨some 5, .mov (.c (.int .i64 0)), none, none⟩])
  (.block 0
  (.loop [0, 1, 5] archipelagoref8_SameEvents_b0)))
  (.seq (.reg [⟨some 4, .mov (.c (.bool true)), none, none⟩])
  (.ret))))) }
def ir_archipelagolaw16_known : IFn :=
  { params := 0, results := [.tmp 0], body :=
  (.seq (.reg [⟨some 0, .mov (.c (.bool false)), none, none⟩])
  (.seq (.reg [⟨some 10, .build [(.int .u32 0), (.int .u32 0)] [(0, 1, (.c (.int .u32 0))), (1, 1, (.c (.int .u32 1)))], none, none⟩,
      ⟨some 11, .build [(.int .i64 0), (.int .u32 0), (.int .u32 0), (.bool false)] [(0, 1, (.c (.int .i64 5))), (1, 2, (.t 10)), (3, 1, (.c (.bool true)))], none, none⟩,
      ⟨some 12, .build [(.int .u32 0), (.int .u32 0)] [(0, 1, (.c (.int .u32 0))), (1, 1, (.c (.int .u32 2)))], none, none⟩,
      ⟨some 13, .build [(.int .i64 0), (.int .u32 0), (.int .u32 0), (.bool false)] [(0, 1, (.c (.int .i64 5))), (1, 2, (.t 12)), (3, 1, (.c (.bool true)))], none, none⟩,
      ⟨some 14, .mkrow 4 2 [(.int .i64 0), (.int .u32 0), (.int .u32 0), (.bool false)] [(0, (.t 11)), (1, (.t 13))], none, none⟩,
      ⟨some 1, .mov (.t 14), none, none⟩])
  (.seq (.reg [⟨some 16, .mov (.t 1), none, none⟩,
      ⟨some 17, .call fid_delta_Put [(.c (.int .i64 5)), (.t 16)], none, none⟩,
      ⟨some 15, .mov (.t 17), none, none⟩,
      ⟨some 18, .extract (.t 15) 0, none, none⟩,
      ⟨some 19, .extract (.t 15) 1, none, none⟩,
      ⟨some 2, .mov (.t 18), none, none⟩,
      ⟨some 3, .mov (.t 19), none, none⟩])
  (.seq (.reg [⟨some 21, .mov (.t 2), none, none⟩,
      ⟨some 22, .call fid_delta_Read [(.t 21), (.c (.int .i64 5)), (.c (.int .i64 2)), (.c (.int .u64 3))], none, none⟩,
      ⟨some 20, .mov (.t 22), none, none⟩,
      ⟨some 23, .extract (.t 20) 0, none, none⟩,
      ⟨some 24, .extract (.t 20) 1, none, none⟩,
      ⟨some 4, .mov (.t 23), none, none⟩,
      ⟨some 5, .mov (.t 24), none, none⟩])
  (.seq (.reg [⟨some 26, .mov (.t 2), none, none⟩,
      ⟨some 27, .call fid_delta_Read [(.t 26), (.c (.int .i64 5)), (.c (.int .i64 2)), (.c (.int .u64 2))], none, none⟩,
      ⟨some 25, .mov (.t 27), none, none⟩,
      ⟨some 28, .extract (.t 25) 0, none, none⟩,
      ⟨some 29, .extract (.t 25) 1, none, none⟩,
      ⟨some 6, .mov (.t 28), none, none⟩,
      ⟨some 7, .mov (.t 29), none, none⟩])
  (.seq (.reg [⟨some 31, .mov (.t 1), none, none⟩,
      ⟨some 32, .call fid_delta_Put [(.c (.int .i64 4)), (.t 31)], none, none⟩,
      ⟨some 30, .mov (.t 32), none, none⟩,
      ⟨some 33, .extract (.t 30) 0, none, none⟩,
      ⟨some 34, .extract (.t 30) 1, none, none⟩,
      ⟨some 8, .mov (.t 33), none, none⟩,
      ⟨some 9, .mov (.t 34), none, none⟩])
  (.seq (.reg [⟨some 35, .mov (.t 3), none, none⟩,
      ⟨some 36, .bin .eql (.t 35) (.c (.int .i64 0)), none, none⟩,
      ⟨some 37, .mov (.t 36), none, none⟩,
      ⟨some 38, .mov (.t 2), (some (37, true)), none⟩,
      ⟨some 39, .len .sl (.t 38), (some (37, true)), none⟩,
      ⟨some 40, .bin .eql (.t 39) (.c (.int .i64 1)), (some (37, true)), none⟩,
      ⟨some 41, .pick (.t 37) (.t 40) (.c (.bool false)), none, none⟩,
      ⟨some 42, .mov (.t 41), none, none⟩,
      ⟨some 43, .mov (.t 5), (some (42, true)), none⟩,
      ⟨some 44, .bin .eql (.t 43) (.c (.int .i64 0)), (some (42, true)), none⟩,
      ⟨some 45, .pick (.t 42) (.t 44) (.c (.bool false)), none, none⟩,
      ⟨some 46, .mov (.t 45), none, none⟩,
      ⟨some 47, .mov (.t 4), (some (46, true)), none⟩,
      ⟨some 48, .mov (.t 1), (some (46, true)), none⟩,
      ⟨some 49, .call fid_archipelagoref8_SameEvents [(.t 47), (.t 48)], (some (46, true)), none⟩,
      ⟨some 50, .pick (.t 46) (.t 49) (.c (.bool false)), none, none⟩,
      ⟨some 51, .mov (.t 50), none, none⟩,
      ⟨some 52, .mov (.t 7), (some (51, true)), none⟩,
      ⟨some 53, .bin .eql (.t 52) (.c (.int .i64 21)), (some (51, true)), none⟩,
      ⟨some 54, .pick (.t 51) (.t 53) (.c (.bool false)), none, none⟩,
      ⟨some 55, .mov (.t 54), none, none⟩,
      ⟨some 56, .mov (.t 9), (some (55, true)), none⟩,
      ⟨some 57, .bin .eql (.t 56) (.c (.int .i64 23)), (some (55, true)), none⟩,
      ⟨some 58, .pick (.t 55) (.t 57) (.c (.bool false)), none, none⟩,
      ⟨some 0, .mov (.t 58), none, none⟩])
  (.ret)))))))) }
def ir_archipelagoseat_Vertices : IFn :=
  { params := 1, results := [.tmp 2], body :=
  (.seq (.reg [⟨some 2, .mov (.c (.int .u64 0)), none, none⟩])
  (.seq (.reg [⟨some 3, .mkrow 1 8 [(.int .u64 0)] [(0, (.c (.int .u64 8))), (1, (.c (.int .u64 5))), (2, (.c (.int .u64 2))), (3, (.c (.int .u64 4294967296))), (4, (.c (.int .u64 300))), (5, (.c (.int .u64 12))), (6, (.c (.int .u64 1048576))), (7, (.c (.int .u64 3)))], none, none⟩,
      ⟨some 4, .mov (.t 0), none, none⟩,
      ⟨some 5, .bin .rem (.t 4) (.c (.int .u8 8)), none, none⟩,
      ⟨some 6, .iaddr 1 (.t 3) (.t 5), none, none⟩,
      ⟨some 7, .load 1 false (.t 6), none, none⟩,
      ⟨some 2, .mov (.t 7), none, none⟩])
  (.ret))) }
def ir_archipelagoseat_Edge : IFn :=
  { params := 3, results := [.cell 6 2 true, .tmp 7], body :=
  (.seq (.reg [⟨some 6, .box (.c (.agg [(.int .u32 0), (.int .u32 0)])), none, none⟩,
      ⟨some 7, .mov (.c (.bool false)), none, none⟩])
  (.seq (.reg [⟨some 11, .mov (.t 2), none, none⟩,
      ⟨some 12, .minmax true [(.t 11), (.c (.int .u64 9))], none, none⟩,
      ⟨some 8, .mov (.t 12), none, none⟩])
  (.seq (.regD [0, 1, 2, 3, 4, 5, 6, 7, 8, 9] [⟨some 13, .mov (.t 0), none, none⟩,
      ⟨some 14, .conv .u64 (.t 13), none, none⟩,
      ⟨some 15, .mov (.t 8), none, none⟩,
      ⟨some 16, .bin .rem (.t 14) (.t 15), none, none⟩,
      ⟨some 17, .mov (.t 1), none, none⟩,
      ⟨some 18, .conv .u64 (.t 17), none, none⟩,
      ⟨some 19, .mov (.t 8), none, none⟩,
      ⟨some 20, .bin .rem (.t 18) (.t 19), none, none⟩,
      ⟨some 9, .mov (.t 16), none, none⟩,
      ⟨some 10, .mov (.t 20), none, none⟩])
  (.seq (.seq (.reg [⟨some 21, .mov (.t 0), none, none⟩,
      ⟨some 22, .bin .gtr (.t 21) (.c (.int .u8 230)), none, none⟩])
  (.cond (.t 22)
  (.reg [⟨some 23, .mov (.t 2), none, none⟩,
        ⟨some 24, .bin .sub (.t 23) (.c (.int .u64 1)), none, none⟩,
        ⟨some 25, .mov (.t 9), none, none⟩,
        ⟨some 26, .bin .sub (.t 24) (.t 25), none, none⟩,
        ⟨some 9, .mov (.t 26), none, none⟩])
  (.skip)))
  (.seq (.seq (.reg [⟨some 27, .mov (.t 1), none, none⟩,
      ⟨some 28, .bin .gtr (.t 27) (.c (.int .u8 240)), none, none⟩])
  (.cond (.t 28)
  (.reg [⟨some 29, .mov (.t 2), none, none⟩,
        ⟨some 30, .bin .sub (.t 29) (.c (.int .u64 1)), none, none⟩,
        ⟨some 31, .mov (.t 10), none, none⟩,
        ⟨some 32, .bin .sub (.t 30) (.t 31), none, none⟩,
        ⟨some 10, .mov (.t 32), none, none⟩])
  (.skip)))
  (.seq (.seq (.reg [⟨some 33, .mov (.t 9), none, none⟩,
      ⟨some 34, .mov (.t 10), none, none⟩,
      ⟨some 35, .bin .eql (.t 33) (.t 34), none, none⟩])
  (.cond (.t 35)
  (.seq (.reg [⟨some 36, .build [(.int .u32 0), (.int .u32 0)] [], none, none⟩,
        ⟨none, .store 2 (.t 6) (.t 36), none, none⟩,
        ⟨some 7, .mov (.c (.bool false)), none, none⟩])
    (.ret))
  (.skip)))
  (.seq (.reg [⟨some 37, .mov (.t 9), none, none⟩,
      ⟨some 38, .mov (.t 10), none, none⟩,
      ⟨some 39, .minmax true [(.t 37), (.t 38)], none, none⟩,
      ⟨some 40, .conv .u32 (.t 39), none, none⟩,
      ⟨some 41, .mov (.t 9), none, none⟩,
      ⟨some 42, .mov (.t 10), none, none⟩,
      ⟨some 43, .minmax false [(.t 41), (.t 42)], none, none⟩,
      ⟨some 44, .conv .u32 (.t 43), none, none⟩,
      ⟨some 45, .build [(.int .u32 0), (.int .u32 0)] [(0, 1, (.t 40)), (1, 1, (.t 44))], none, none⟩,
      ⟨none, .store 2 (.t 6) (.t 45), none, none⟩,
      ⟨some 7, .mov (.c (.bool true)), none, none⟩])
  (.ret)))))))) }
def ir_archipelagoref8_Less : IFn :=
  { params := 2, results := [.tmp 4], body :=
  (.seq (.reg [⟨some 2, .box (.t 0), none, none⟩,
      ⟨some 3, .box (.t 1), none, none⟩,
      ⟨some 4, .mov (.c (.bool false)), none, none⟩])
  (.seq (.reg [⟨some 5, .faddr 0 (.t 2), none, none⟩,
      ⟨some 6, .load 1 false (.t 5), none, none⟩,
      ⟨some 7, .faddr 0 (.t 3), none, none⟩,
      ⟨some 8, .load 1 false (.t 7), none, none⟩,
      ⟨some 9, .bin .lss (.t 6) (.t 8), none, none⟩,
      ⟨some 10, .mov (.t 9), none, none⟩,
      ⟨some 11, .faddr 0 (.t 2), (some (10, false)), none⟩,
      ⟨some 12, .load 1 false (.t 11), (some (10, false)), none⟩,
      ⟨some 13, .faddr 0 (.t 3), (some (10, false)), none⟩,
      ⟨some 14, .load 1 false (.t 13), (some (10, false)), none⟩,
      ⟨some 15, .bin .eql (.t 12) (.t 14), (some (10, false)), none⟩,
      ⟨some 16, .mov (.t 15), (some (10, false)), none⟩,
      ⟨some 17, .faddr 1 (.t 2), (some (16, true)), none⟩,
      ⟨some 18, .load 1 false (.t 17), (some (16, true)), none⟩,
      ⟨some 19, .faddr 1 (.t 3), (some (16, true)), none⟩,
      ⟨some 20, .load 1 false (.t 19), (some (16, true)), none⟩,
      ⟨some 21, .bin .lss (.t 18) (.t 20), (some (16, true)), none⟩,
      ⟨some 22, .pick (.t 16) (.t 21) (.c (.bool false)), (some (10, false)), none⟩,
      ⟨some 23, .pick (.t 10) (.c (.bool true)) (.t 22), none, none⟩,
      ⟨some 4, .mov (.t 23), none, none⟩])
  (.ret))) }
def ir_archipelagoref8_Before : IFn :=
  { params := 2, results := [.tmp 4], body :=
  (.seq (.reg [⟨some 2, .box (.t 0), none, none⟩,
      ⟨some 3, .box (.t 1), none, none⟩,
      ⟨some 4, .mov (.c (.bool false)), none, none⟩])
  (.seq (.reg [⟨some 5, .faddr 0 (.t 2), none, none⟩,
      ⟨some 6, .load 1 false (.t 5), none, none⟩,
      ⟨some 7, .faddr 0 (.t 3), none, none⟩,
      ⟨some 8, .load 1 false (.t 7), none, none⟩,
      ⟨some 9, .bin .lss (.t 6) (.t 8), none, none⟩,
      ⟨some 10, .mov (.t 9), none, none⟩,
      ⟨some 11, .faddr 0 (.t 2), (some (10, false)), none⟩,
      ⟨some 12, .load 1 false (.t 11), (some (10, false)), none⟩,
      ⟨some 13, .faddr 0 (.t 3), (some (10, false)), none⟩,
      ⟨some 14, .load 1 false (.t 13), (some (10, false)), none⟩,
      ⟨some 15, .bin .eql (.t 12) (.t 14), (some (10, false)), none⟩,
      ⟨some 16, .mov (.t 15), (some (10, false)), none⟩,
      ⟨some 17, .faddr 1 (.t 2), (some (16, true)), none⟩,
      ⟨some 18, .load 2 true (.t 17), (some (16, true)), none⟩,
      ⟨some 19, .faddr 1 (.t 3), (some (16, true)), none⟩,
      ⟨some 20, .load 2 true (.t 19), (some (16, true)), none⟩,
      ⟨some 21, .call fid_archipelagoref8_Less [(.t 18), (.t 20)], (some (16, true)), none⟩,
      ⟨some 22, .pick (.t 16) (.t 21) (.c (.bool false)), (some (10, false)), none⟩,
      ⟨some 23, .pick (.t 10) (.c (.bool true)) (.t 22), none, none⟩,
      ⟨some 4, .mov (.t 23), none, none⟩])
  (.ret))) }
def archipelagoseat_insert_b0 : IC :=
  (.seq (.seq (.regD [0, 1, 2, 3, 4, 5, 6, 7, 8, 9, 10] [⟨some 8, .mov (.t 5), none, none⟩,
      ⟨some 9, .bin .gtr (.t 8) (.c (.int .i64 0)), none, none⟩,
      ⟨some 10, .mov (.t 9), none, none⟩,
      ⟨some 11, .load 4 true (.t 3), (some (10, true)), none⟩,
      ⟨some 12, .mov (.t 0), (some (10, true)), none⟩,
      ⟨some 13, .mov (.t 5), (some (10, true)), none⟩,
      ⟨some 14, .bin .sub (.t 13) (.c (.int .i64 1)), (some (10, true)), none⟩,
      ⟨some 15, .iaddr 4 (.t 12) (.t 14), (some (10, true)), none⟩,
      ⟨some 16, .load 4 true (.t 15), (some (10, true)), none⟩,
      ⟨some 17, .call fid_archipelagoref8_Before [(.t 11), (.t 16)], (some (10, true)), none⟩,
      ⟨some 18, .pick (.t 10) (.t 17) (.c (.bool false)), none, none⟩])
  (.cond (.t 18)
  (.skip)
  (.exit 0)))
  (.block 1
  (.reg [⟨some 19, .mov (.t 5), none, none⟩,
        ⟨some 20, .bin .sub (.t 19) (.c (.int .i64 1)), none, none⟩,
        ⟨some 5, .mov (.t 20), none, none⟩])))
def ir_archipelagoseat_insert : IFn :=
  { params := 2, results := [.tmp 4], body :=
  (.seq (.reg [⟨some 3, .box (.t 1), none, none⟩,
      ⟨some 4, .mov (.c .nils), none, none⟩])
  (.seq (.reg [⟨some 6, .mov (.t 0), none, none⟩,
      ⟨some 7, .len .sl (.t 6), none, none⟩,
      ⟨some 5, .mov (.t 7), none, none⟩])
  (.seq (.block 0
  (.loop [0, 3, 5] archipelagoseat_insert_b0))
  (.seq (.seq (.regD [0, 1, 2, 3, 4, 5, 6, 7, 8, 9, 10, 11, 12, 13, 14, 15, 16, 17, 18, 19, 20, 21, 22, 23] [⟨some 21, .mov (.t 5), none, none⟩,
      ⟨some 22, .bin .gtr (.t 21) (.c (.int .i64 0)), none, none⟩,
      ⟨some 23, .mov (.t 22), none, none⟩,
      ⟨some 24, .mov (.t 0), (some (23, true)), none⟩,
      ⟨some 25, .mov (.t 5), (some (23, true)), none⟩,
      ⟨some 26, .bin .sub (.t 25) (.c (.int .i64 1)), (some (23, true)), none⟩,
      ⟨some 27, .iaddr 4 (.t 24) (.t 26), (some (23, true)), none⟩,
      ⟨some 28, .faddr 0 (.t 27), (some (23, true)), none⟩,
      ⟨some 29, .load 1 false (.t 28), (some (23, true)), none⟩,
      ⟨some 30, .faddr 0 (.t 3), (some (23, true)), none⟩,
      ⟨some 31, .load 1 false (.t 30), (some (23, true)), none⟩,
      ⟨some 32, .bin .eql (.t 29) (.t 31), (some (23, true)), none⟩,
      ⟨some 33, .pick (.t 23) (.t 32) (.c (.bool false)), none, none⟩,
      ⟨some 34, .mov (.t 33), none, none⟩,
      ⟨some 35, .mov (.t 0), (some (34, true)), none⟩,
      ⟨some 36, .mov (.t 5), (some (34, true)), none⟩,
      ⟨some 37, .bin .sub (.t 36) (.c (.int .i64 1)), (some (34, true)), none⟩,
      ⟨some 38, .iaddr 4 (.t 35) (.t 37), (some (34, true)), none⟩,
      ⟨some 39, .faddr 1 (.t 38), (some (34, true)), none⟩,
      ⟨some 40, .load 2 true (.t 39), (some (34, true)), none⟩,
      ⟨some 41, .faddr 1 (.t 3), (some (34, true)), none⟩,
      ⟨some 42, .load 2 true (.t 41), (some (34, true)), none⟩,
      ⟨some 43, .eq (.struct [.int, .int]) false (.t 40) (.t 42), (some (34, true)), none⟩,
      ⟨some 44, .pick (.t 34) (.t 43) (.c (.bool false)), none, none⟩])
  (.cond (.t 44)
  (.seq (.reg [⟨some 45, .mov (.t 0), none, none⟩,
        ⟨some 4, .mov (.t 45), none, none⟩])
    (.ret))
  (.skip)))
  (.seq (.regD [0, 1, 2, 3, 4, 5, 6, 7, 8, 9, 10, 11] [⟨some 46, .mov (.t 0), none, none⟩,
      ⟨some 47, .mov (.t 5), none, none⟩,
      ⟨some 48, .slice false 4 (.t 46) none (some (.t 47)) none, none, none⟩,
      ⟨some 49, .append 4 24 (.c .nils) (.t 48), none, none⟩,
      ⟨some 50, .load 4 true (.t 3), none, some (0, 1)⟩,
      ⟨some 51, .mkrow 4 1 [(.int .i64 0), (.int .u32 0), (.int .u32 0), (.bool false)] [(0, (.t 50))], none, none⟩,
      ⟨some 52, .append 4 24 (.t 49) (.t 51), none, none⟩,
      ⟨some 53, .mov (.t 0), none, none⟩,
      ⟨some 54, .mov (.t 5), none, none⟩,
      ⟨some 55, .slice false 4 (.t 53) (some (.t 54)) none none, none, none⟩,
      ⟨some 56, .append 4 24 (.t 52) (.t 55), none, none⟩,
      ⟨some 4, .mov (.t 56), none, none⟩])
  (.ret)))))) }
def archipelagoref8_Find_b0 : IC :=
  (.seq (.seq (.reg [⟨some 6, .mov (.t 5), none, none⟩,
      ⟨some 7, .mov (.t 0), none, none⟩,
      ⟨some 8, .len .sl (.t 7), none, none⟩,
      ⟨some 9, .bin .lss (.t 6) (.t 8), none, none⟩])
  (.cond (.t 9)
  (.skip)
  (.exit 0)))
  (.seq (.block 1
  (.seq (.regD [0, 1, 2, 3, 4, 5] [⟨some 12, .mov (.t 0), none, none⟩,
        ⟨some 13, .mov (.t 5), none, none⟩,
        ⟨some 14, .iaddr 2 (.t 12) (.t 13), none, none⟩,
        ⟨some 15, .load 2 true (.t 14), none, none⟩,
        ⟨some 16, .load 2 true (.t 3), none, none⟩,
        ⟨some 17, .eq (.struct [.int, .int]) false (.t 15) (.t 16), none, none⟩])
    (.cond (.t 17)
    (.seq (.reg [⟨some 18, .mov (.t 5), none, none⟩,
          ⟨some 4, .mov (.t 18), none, none⟩])
      (.ret))
    (.skip))))
  (.reg [⟨some 10, .mov (.t 5), none, none⟩,
      ⟨some 11, .bin .add (.t 10) (.c (.int .i64 1)), none, none⟩,
      ⟨some 5, .mov (.t 11), none, none⟩])))
def ir_archipelagoref8_Find : IFn :=
  { params := 2, results := [.tmp 4], body :=
  (.seq (.reg [⟨some 3, .box (.t 1), none, none⟩,
      ⟨some 4, .mov (.c (.int .i64 0)), none, none⟩])
  (.seq (.seq (.reg [⟨some 5, .mov (.c (.int .i64 0)), none, none⟩])
  (.block 0
  (.loop [0, 3, 5] archipelagoref8_Find_b0)))
  (.seq (.reg [⟨some 4, .mov (.c (.int .i64 (-1))), none, none⟩])
  (.ret)))) }
def ir_archipelagoref8_Has : IFn :=
  { params := 2, results := [.tmp 4], body :=
  (.seq (.reg [⟨some 3, .box (.t 1), none, none⟩,
      ⟨some 4, .mov (.c (.bool false)), none, none⟩])
  (.seq (.reg [⟨some 5, .mov (.t 0), none, none⟩,
      ⟨some 6, .load 2 true (.t 3), none, none⟩,
      ⟨some 7, .call fid_archipelagoref8_Find [(.t 5), (.t 6)], none, none⟩,
      ⟨some 8, .bin .geq (.t 7) (.c (.int .i64 0)), none, none⟩,
      ⟨some 4, .mov (.t 8), none, none⟩])
  (.ret))) }
def archipelagoref8_Rising_b0 : IC :=
  (.seq (.seq (.reg [⟨some 4, .mov (.t 3), none, none⟩,
      ⟨some 5, .mov (.t 0), none, none⟩,
      ⟨some 6, .len .sl (.t 5), none, none⟩,
      ⟨some 7, .bin .lss (.t 4) (.t 6), none, none⟩])
  (.cond (.t 7)
  (.skip)
  (.exit 0)))
  (.seq (.block 1
  (.seq (.regD [0, 1, 2, 3, 4, 5, 6, 7, 8, 9, 10] [⟨some 10, .mov (.t 0), none, none⟩,
        ⟨some 11, .mov (.t 3), none, none⟩,
        ⟨some 12, .bin .sub (.t 11) (.c (.int .i64 1)), none, none⟩,
        ⟨some 13, .iaddr 2 (.t 10) (.t 12), none, none⟩,
        ⟨some 14, .load 2 true (.t 13), none, none⟩,
        ⟨some 15, .mov (.t 0), none, none⟩,
        ⟨some 16, .mov (.t 3), none, none⟩,
        ⟨some 17, .iaddr 2 (.t 15) (.t 16), none, none⟩,
        ⟨some 18, .load 2 true (.t 17), none, none⟩,
        ⟨some 19, .call fid_archipelagoref8_Less [(.t 14), (.t 18)], none, none⟩,
        ⟨some 20, .un .not (.t 19), none, none⟩])
    (.cond (.t 20)
    (.seq (.reg [⟨some 2, .mov (.c (.bool false)), none, none⟩])
      (.ret))
    (.skip))))
  (.reg [⟨some 8, .mov (.t 3), none, none⟩,
      ⟨some 9, .bin .add (.t 8) (.c (.int .i64 1)), none, none⟩,
      ⟨some 3, .mov (.t 9), none, none⟩])))
def ir_archipelagoref8_Rising : IFn :=
  { params := 1, results := [.tmp 2], body :=
  (.seq (.reg [⟨some 2, .mov (.c (.bool false)), none, none⟩])
  (.seq (.seq (.reg [⟨some 3, .mov (.c (.int .i64 1)), none, none⟩])
  (.block 0
  (.loop [0, 3] archipelagoref8_Rising_b0)))
  (.seq (.reg [⟨some 2, .mov (.c (.bool true)), none, none⟩])
  (.ret)))) }
def archipelagoref8_Turn_b0 : IC :=
  (.seq (.seq (.regD [0, 1, 2, 3, 4, 5, 6, 7, 8, 9, 10, 11, 12] [⟨some 33, .mov (.t 6), none, none⟩,
      ⟨some 34, .mov (.t 0), none, none⟩,
      ⟨some 35, .len .sl (.t 34), none, none⟩,
      ⟨some 36, .bin .lss (.t 33) (.t 35), none, none⟩,
      ⟨some 37, .mov (.t 36), none, none⟩,
      ⟨some 38, .mov (.t 0), (some (37, true)), none⟩,
      ⟨some 39, .mov (.t 6), (some (37, true)), none⟩,
      ⟨some 40, .iaddr 2 (.t 38) (.t 39), (some (37, true)), none⟩,
      ⟨some 41, .load 2 true (.t 40), (some (37, true)), none⟩,
      ⟨some 42, .faddr 1 (.t 3), (some (37, true)), none⟩,
      ⟨some 43, .load 2 true (.t 42), (some (37, true)), none⟩,
      ⟨some 44, .call fid_archipelagoref8_Less [(.t 41), (.t 43)], (some (37, true)), none⟩,
      ⟨some 45, .pick (.t 37) (.t 44) (.c (.bool false)), none, none⟩])
  (.cond (.t 45)
  (.skip)
  (.exit 0)))
  (.block 1
  (.reg [⟨some 46, .mov (.t 6), none, none⟩,
        ⟨some 47, .bin .add (.t 46) (.c (.int .i64 1)), none, none⟩,
        ⟨some 6, .mov (.t 47), none, none⟩])))
def ir_archipelagoref8_Turn : IFn :=
  { params := 2, results := [.tmp 4, .tmp 5], body :=
  (.seq (.reg [⟨some 3, .box (.t 1), none, none⟩,
      ⟨some 4, .mov (.c .nils), none, none⟩,
      ⟨some 5, .mov (.c (.bool false)), none, none⟩])
  (.seq (.reg [⟨some 7, .mov (.t 0), none, none⟩,
      ⟨some 8, .faddr 1 (.t 3), none, none⟩,
      ⟨some 9, .load 2 true (.t 8), none, none⟩,
      ⟨some 10, .call fid_archipelagoref8_Find [(.t 7), (.t 9)], none, none⟩,
      ⟨some 6, .mov (.t 10), none, none⟩])
  (.seq (.seq (.reg [⟨some 11, .mov (.t 0), none, none⟩,
      ⟨some 12, .call fid_archipelagoref8_Rising [(.t 11)], none, none⟩,
      ⟨some 13, .un .not (.t 12), none, none⟩,
      ⟨some 14, .mov (.t 13), none, none⟩,
      ⟨some 15, .faddr 3 (.t 3), (some (14, false)), none⟩,
      ⟨some 16, .load 1 false (.t 15), (some (14, false)), none⟩,
      ⟨some 17, .mov (.t 6), (some (14, false)), none⟩,
      ⟨some 18, .bin .geq (.t 17) (.c (.int .i64 0)), (some (14, false)), none⟩,
      ⟨some 19, .eq .bool false (.t 16) (.t 18), (some (14, false)), none⟩,
      ⟨some 20, .pick (.t 14) (.c (.bool true)) (.t 19), none, none⟩])
  (.cond (.t 20)
  (.seq (.reg [⟨some 4, .mov (.c .nils), none, none⟩,
        ⟨some 5, .mov (.c (.bool false)), none, none⟩])
    (.ret))
  (.skip)))
  (.seq (.seq (.reg [⟨some 21, .faddr 3 (.t 3), none, none⟩,
      ⟨some 22, .load 1 false (.t 21), none, none⟩,
      ⟨some 23, .un .not (.t 22), none, none⟩])
  (.cond (.t 23)
  (.seq (.regD [0, 1, 2, 3, 4, 5, 6, 7, 8, 9, 10] [⟨some 24, .mov (.t 0), none, none⟩,
        ⟨some 25, .mov (.t 6), none, none⟩,
        ⟨some 26, .slice false 2 (.t 24) none (some (.t 25)) none, none, none⟩,
        ⟨some 27, .append 2 8 (.c .nils) (.t 26), none, none⟩,
        ⟨some 28, .mov (.t 0), none, none⟩,
        ⟨some 29, .mov (.t 6), none, none⟩,
        ⟨some 30, .bin .add (.t 29) (.c (.int .i64 1)), none, none⟩,
        ⟨some 31, .slice false 2 (.t 28) (some (.t 30)) none none, none, none⟩,
        ⟨some 32, .append 2 8 (.t 27) (.t 31), none, none⟩,
        ⟨some 4, .mov (.t 32), none, none⟩,
        ⟨some 5, .mov (.c (.bool true)), none, none⟩])
    (.ret))
  (.skip)))
  (.seq (.reg [⟨some 6, .mov (.c (.int .i64 0)), none, none⟩])
  (.seq (.block 0
  (.loop [0, 3, 6] archipelagoref8_Turn_b0))
  (.seq (.regD [0, 1, 2, 3, 4, 5, 6, 7, 8, 9, 10, 11, 12, 13] [⟨some 48, .mov (.t 0), none, none⟩,
      ⟨some 49, .mov (.t 6), none, none⟩,
      ⟨some 50, .slice false 2 (.t 48) none (some (.t 49)) none, none, none⟩,
      ⟨some 51, .append 2 8 (.c .nils) (.t 50), none, none⟩,
      ⟨some 52, .faddr 1 (.t 3), none, none⟩,
      ⟨some 53, .load 2 true (.t 52), none, some (0, 1)⟩,
      ⟨some 54, .mkrow 2 1 [(.int .u32 0), (.int .u32 0)] [(0, (.t 53))], none, none⟩,
      ⟨some 55, .append 2 8 (.t 51) (.t 54), none, none⟩,
      ⟨some 56, .mov (.t 0), none, none⟩,
      ⟨some 57, .mov (.t 6), none, none⟩,
      ⟨some 58, .slice false 2 (.t 56) (some (.t 57)) none none, none, none⟩,
      ⟨some 59, .append 2 8 (.t 55) (.t 58), none, none⟩,
      ⟨some 4, .mov (.t 59), none, none⟩,
      ⟨some 5, .mov (.c (.bool true)), none, none⟩])
  (.ret)))))))) }
def archipelagoseat_History_b0 : IC :=
  (.seq (.seq (.reg [⟨some 20, .mov (.t 8), none, none⟩,
      ⟨some 21, .bin .add (.t 20) (.c (.int .i64 2)), none, none⟩,
      ⟨some 22, .mov (.t 1), none, none⟩,
      ⟨some 23, .len .sl (.t 22), none, none⟩,
      ⟨some 24, .bin .lss (.t 21) (.t 23), none, none⟩,
      ⟨some 25, .mov (.t 24), none, none⟩,
      ⟨some 26, .mov (.t 7), (some (25, true)), none⟩,
      ⟨some 27, .len .sl (.t 26), (some (25, true)), none⟩,
      ⟨some 28, .bin .lss (.t 27) (.c (.int .i64 40)), (some (25, true)), none⟩,
      ⟨some 29, .pick (.t 25) (.t 28) (.c (.bool false)), none, none⟩])
  (.cond (.t 29)
  (.skip)
  (.exit 0)))
  (.seq (.block 1
  (.seq (.reg [⟨some 32, .mov (.t 6), none, none⟩,
        ⟨some 33, .mov (.t 1), none, none⟩,
        ⟨some 34, .mov (.t 8), none, none⟩,
        ⟨some 35, .iaddr 1 (.t 33) (.t 34), none, none⟩,
        ⟨some 36, .load 1 false (.t 35), none, none⟩,
        ⟨some 37, .bin .rem (.t 36) (.c (.int .u8 4)), none, none⟩,
        ⟨some 38, .conv .i64 (.t 37), none, none⟩,
        ⟨some 39, .bin .add (.t 32) (.t 38), none, none⟩,
        ⟨some 6, .mov (.t 39), none, none⟩])
    (.seq (.seq (.reg [⟨some 40, .mov (.t 1), none, none⟩,
        ⟨some 41, .mov (.t 8), none, none⟩,
        ⟨some 42, .iaddr 1 (.t 40) (.t 41), none, none⟩,
        ⟨some 43, .load 1 false (.t 42), none, none⟩,
        ⟨some 44, .bin .gtr (.t 43) (.c (.int .u8 240)), none, none⟩])
    (.cond (.t 44)
    (.reg [⟨some 45, .mov (.t 6), none, none⟩,
          ⟨some 46, .mov (.t 1), none, none⟩,
          ⟨some 47, .mov (.t 8), none, none⟩,
          ⟨some 48, .iaddr 1 (.t 46) (.t 47), none, none⟩,
          ⟨some 49, .load 1 false (.t 48), none, none⟩,
          ⟨some 50, .bin .rem (.t 49) (.c (.int .u8 40)), none, none⟩,
          ⟨some 51, .bin .shl (.c (.int .i64 1)) (.t 50), none, none⟩,
          ⟨some 52, .bin .add (.t 45) (.t 51), none, none⟩,
          ⟨some 6, .mov (.t 52), none, none⟩])
    (.skip)))
    (.seq (.regD [0, 1, 2, 3, 4, 5, 6, 7, 8, 9, 10, 11, 12, 13, 14, 16, 17, 15, 18] [⟨some 54, .mov (.t 1), none, none⟩,
        ⟨some 55, .mov (.t 8), none, none⟩,
        ⟨some 56, .bin .add (.t 55) (.c (.int .i64 1)), none, none⟩,
        ⟨some 57, .iaddr 1 (.t 54) (.t 56), none, none⟩,
        ⟨some 58, .load 1 false (.t 57), none, none⟩,
        ⟨some 59, .mov (.t 1), none, none⟩,
        ⟨some 60, .mov (.t 8), none, none⟩,
        ⟨some 61, .bin .add (.t 60) (.c (.int .i64 2)), none, none⟩,
        ⟨some 62, .iaddr 1 (.t 59) (.t 61), none, none⟩,
        ⟨some 63, .load 1 false (.t 62), none, none⟩,
        ⟨some 64, .faddr 0 (.t 5), none, none⟩,
        ⟨some 65, .load 1 false (.t 64), none, none⟩,
        ⟨some 66, .call fid_archipelagoseat_Edge [(.t 58), (.t 63), (.t 65)], none, none⟩,
        ⟨some 53, .mov (.t 66), none, none⟩,
        ⟨some 67, .extract (.t 53) 0, none, none⟩,
        ⟨some 9, .box (.c (.agg [(.int .u32 0), (.int .u32 0)])), none, none⟩,
        ⟨none, .store 2 (.t 9) (.t 67), none, none⟩,
        ⟨some 68, .extract (.t 53) 1, none, none⟩,
        ⟨some 10, .mov (.t 68), none, none⟩])
    (.seq (.reg [⟨some 69, .mov (.t 10), none, none⟩])
    (.cond (.t 69)
    (.reg [⟨some 70, .mov (.t 7), none, none⟩,
          ⟨some 71, .mov (.t 6), none, none⟩,
          ⟨some 72, .load 2 true (.t 9), none, none⟩,
          ⟨some 73, .build [(.int .i64 0), (.int .u32 0), (.int .u32 0), (.bool false)] [(0, 1, (.t 71)), (1, 2, (.t 72))], none, none⟩,
          ⟨some 74, .call fid_archipelagoseat_insert [(.t 70), (.t 73)], none, none⟩,
          ⟨some 7, .mov (.t 74), none, none⟩])
    (.skip)))))))
  (.reg [⟨some 30, .mov (.t 8), none, none⟩,
      ⟨some 31, .bin .add (.t 30) (.c (.int .i64 3)), none, none⟩,
      ⟨some 8, .mov (.t 31), none, none⟩])))
def archipelagoseat_History_b1 : IC :=
  (.seq (.seq (.reg [⟨some 75, .mov (.t 12), none, none⟩,
      ⟨some 76, .mov (.t 7), none, none⟩,
      ⟨some 77, .len .sl (.t 76), none, none⟩,
      ⟨some 78, .bin .lss (.t 75) (.t 77), none, none⟩])
  (.cond (.t 78)
  (.skip)
  (.exit 2)))
  (.seq (.block 3
  (.seq (.reg [⟨some 81, .mov (.t 7), none, none⟩,
        ⟨some 82, .mov (.t 12), none, none⟩,
        ⟨some 83, .iaddr 4 (.t 81) (.t 82), none, none⟩,
        ⟨some 84, .load 4 true (.t 83), none, none⟩,
        ⟨some 13, .box (.c (.agg [(.int .i64 0), (.int .u32 0), (.int .u32 0), (.bool false)])), none, none⟩,
        ⟨none, .store 4 (.t 13) (.t 84), none, none⟩])
    (.seq (.reg [⟨some 85, .mov (.t 11), none, none⟩,
        ⟨some 86, .faddr 1 (.t 13), none, none⟩,
        ⟨some 87, .load 2 true (.t 86), none, none⟩,
        ⟨some 88, .call fid_archipelagoref8_Has [(.t 85), (.t 87)], none, none⟩,
        ⟨some 89, .un .not (.t 88), none, none⟩,
        ⟨some 90, .faddr 3 (.t 13), none, none⟩,
        ⟨none, .store 1 (.t 90) (.t 89), none, none⟩])
    (.seq (.reg [⟨some 92, .mov (.t 11), none, none⟩,
        ⟨some 93, .load 4 true (.t 13), none, none⟩,
        ⟨some 94, .call fid_archipelagoref8_Turn [(.t 92), (.t 93)], none, none⟩,
        ⟨some 91, .mov (.t 94), none, none⟩,
        ⟨some 95, .extract (.t 91) 0, none, none⟩,
        ⟨some 96, .extract (.t 91) 1, none, none⟩,
        ⟨some 11, .mov (.t 95), none, none⟩])
    (.reg [⟨some 97, .faddr 1 (.t 5), none, none⟩,
        ⟨some 98, .load 1 false (.t 97), none, none⟩,
        ⟨some 99, .load 4 true (.t 13), none, none⟩,
        ⟨some 100, .mkrow 4 1 [(.int .i64 0), (.int .u32 0), (.int .u32 0), (.bool false)] [(0, (.t 99))], none, none⟩,
        ⟨some 101, .append 4 24 (.t 98) (.t 100), none, none⟩,
        ⟨some 102, .faddr 1 (.t 5), none, none⟩,
        ⟨none, .store 1 (.t 102) (.t 101), none, none⟩])))))
  (.reg [⟨some 79, .mov (.t 12), none, none⟩,
      ⟨some 80, .bin .add (.t 79) (.c (.int .i64 1)), none, none⟩,
      ⟨some 12, .mov (.t 80), none, none⟩])))
def ir_archipelagoseat_History : IFn :=
  { params := 2, results := [.cell 4 2 true], body :=
  (.seq (.reg [⟨some 4, .box (.c (.agg [(.int .u64 0), .nils])), none, none⟩])
  (.seq (.reg [⟨some 14, .mov (.t 0), none, none⟩,
      ⟨some 15, .call fid_archipelagoseat_Vertices [(.t 14)], none, none⟩,
      ⟨some 16, .build [(.int .u64 0), .nils] [(0, 1, (.t 15))], none, none⟩,
      ⟨some 5, .box (.c (.agg [(.int .u64 0), .nils])), none, none⟩,
      ⟨none, .store 2 (.t 5) (.t 16), none, none⟩])
  (.seq (.reg [⟨some 17, .mov (.t 0), none, none⟩,
      ⟨some 18, .bin .rem (.t 17) (.c (.int .u8 3)), none, none⟩,
      ⟨some 19, .conv .i64 (.t 18), none, none⟩,
      ⟨some 6, .mov (.t 19), none, none⟩])
  (.seq (.reg [⟨some 7, .mov (.c .nils), none, none⟩])
  (.seq (.seq (.reg [⟨some 8, .mov (.c (.int .i64 0)), none, none⟩])
  (.block 0
  (.loop [1, 4, 5, 6, 7, 8] archipelagoseat_History_b0)))
  (.seq (.reg [⟨some 11, .mov (.c .nils), none, none⟩])
  (.seq (.seq (.reg [⟨some 12, .mov (.c (.int .i64 0)), none, none⟩])
  (.block 2
  (.loop [4, 5, 7, 11, 12] archipelagoseat_History_b1)))
  (.seq (.reg [⟨some 103, .load 2 true (.t 5), none, none⟩,
      ⟨none, .store 2 (.t 4) (.t 103), none, none⟩])
  (.ret))))))))) }
def archipelagoseat_Late_b0 : IC :=
  (.seq (.seq (.reg [⟨some 25, .mov (.t 6), none, none⟩,
      ⟨some 26, .mov (.t 3), none, none⟩,
      ⟨some 27, .bin .lss (.t 25) (.t 26), none, none⟩])
  (.cond (.t 27)
  (.skip)
  (.exit 0)))
  (.seq (.block 1
  (.seq (.reg [⟨some 30, .faddr 1 (.t 1), none, none⟩,
        ⟨some 31, .load 1 false (.t 30), none, none⟩,
        ⟨some 32, .mov (.t 6), none, none⟩,
        ⟨some 33, .iaddr 4 (.t 31) (.t 32), none, none⟩,
        ⟨some 34, .load 4 true (.t 33), none, none⟩,
        ⟨some 7, .box (.c (.agg [(.int .i64 0), (.int .u32 0), (.int .u32 0), (.bool false)])), none, none⟩,
        ⟨none, .store 4 (.t 7) (.t 34), none, none⟩])
    (.seq (.reg [⟨some 35, .faddr 0 (.t 7), none, none⟩,
        ⟨some 36, .load 1 false (.t 35), none, none⟩,
        ⟨some 37, .mov (.t 4), none, none⟩,
        ⟨some 38, .bin .add (.t 36) (.t 37), none, none⟩,
        ⟨some 39, .faddr 0 (.t 7), none, none⟩,
        ⟨none, .store 1 (.t 39) (.t 38), none, none⟩])
    (.reg [⟨some 40, .faddr 1 (.t 5), none, none⟩,
        ⟨some 41, .load 1 false (.t 40), none, none⟩,
        ⟨some 42, .load 4 true (.t 7), none, none⟩,
        ⟨some 43, .mkrow 4 1 [(.int .i64 0), (.int .u32 0), (.int .u32 0), (.bool false)] [(0, (.t 42))], none, none⟩,
        ⟨some 44, .append 4 24 (.t 41) (.t 43), none, none⟩,
        ⟨some 45, .faddr 1 (.t 5), none, none⟩,
        ⟨none, .store 1 (.t 45) (.t 44), none, none⟩]))))
  (.reg [⟨some 28, .mov (.t 6), none, none⟩,
      ⟨some 29, .bin .add (.t 28) (.c (.int .i64 1)), none, none⟩,
      ⟨some 6, .mov (.t 29), none, none⟩])))
def ir_archipelagoseat_Late : IFn :=
  { params := 1, results := [.cell 2 2 true], body :=
  (.seq (.reg [⟨some 1, .box (.t 0), none, none⟩,
      ⟨some 2, .box (.c (.agg [(.int .u64 0), .nils])), none, none⟩])
  (.seq (.reg [⟨some 8, .faddr 1 (.t 1), none, none⟩,
      ⟨some 9, .load 1 false (.t 8), none, none⟩,
      ⟨some 10, .len .sl (.t 9), none, none⟩,
      ⟨some 3, .mov (.t 10), none, none⟩])
  (.seq (.seq (.reg [⟨some 11, .mov (.t 3), none, none⟩,
      ⟨some 12, .bin .eql (.t 11) (.c (.int .i64 0)), none, none⟩])
  (.cond (.t 12)
  (.seq (.reg [⟨some 13, .load 2 true (.t 1), none, none⟩,
        ⟨none, .store 2 (.t 2) (.t 13), none, none⟩])
    (.ret))
  (.skip)))
  (.seq (.reg [⟨some 14, .faddr 1 (.t 1), none, none⟩,
      ⟨some 15, .load 1 false (.t 14), none, none⟩,
      ⟨some 16, .mov (.t 3), none, none⟩,
      ⟨some 17, .bin .sub (.t 16) (.c (.int .i64 1)), none, none⟩,
      ⟨some 18, .iaddr 4 (.t 15) (.t 17), none, none⟩,
      ⟨some 19, .faddr 0 (.t 18), none, none⟩,
      ⟨some 20, .load 1 false (.t 19), none, none⟩,
      ⟨some 21, .bin .sub (.c (.int .i64 4611686018427387903)) (.t 20), none, none⟩,
      ⟨some 4, .mov (.t 21), none, none⟩])
  (.seq (.reg [⟨some 22, .faddr 0 (.t 1), none, none⟩,
      ⟨some 23, .load 1 false (.t 22), none, none⟩,
      ⟨some 24, .build [(.int .u64 0), .nils] [(0, 1, (.t 23))], none, none⟩,
      ⟨some 5, .box (.c (.agg [(.int .u64 0), .nils])), none, none⟩,
      ⟨none, .store 2 (.t 5) (.t 24), none, none⟩])
  (.seq (.seq (.reg [⟨some 6, .mov (.c (.int .i64 0)), none, none⟩])
  (.block 0
  (.loop [1, 2, 3, 4, 5, 6] archipelagoseat_Late_b0)))
  (.seq (.reg [⟨some 46, .load 2 true (.t 5), none, none⟩,
      ⟨none, .store 2 (.t 2) (.t 46), none, none⟩])
  (.ret)))))))) }
def archipelagoref1_Writer_Put_b0 : IC :=
  (.seq (.seq (.reg [⟨some 11, .mov (.t 6), none, none⟩,
      ⟨some 12, .bin .geq (.t 11) (.c (.int .i64 0)), none, none⟩])
  (.cond (.t 12)
  (.skip)
  (.exit 0)))
  (.seq (.block 1
  (.regD [1, 2, 3, 4, 5, 6, 7, 8, 9, 10, 11, 0, 12, 13, 14] [⟨some 16, .mov (.t 0), none, none⟩,
        ⟨some 17, .nilck (.t 16), none, none⟩,
        ⟨some 18, .faddr 0 (.t 17), none, none⟩,
        ⟨some 19, .load 1 false (.t 18), none, none⟩,
        ⟨some 20, .mov (.t 1), none, none⟩,
        ⟨some 21, .mov (.t 6), none, none⟩,
        ⟨some 22, .bin .shr (.t 20) (.t 21), none, none⟩,
        ⟨some 23, .bin .and (.t 22) (.c (.int .u64 1)), none, none⟩,
        ⟨some 24, .bin .eql (.t 23) (.c (.int .u64 1)), none, none⟩,
        ⟨some 25, .mkrow 1 1 [(.bool false)] [(0, (.t 24))], none, none⟩,
        ⟨some 26, .append 1 1 (.t 19) (.t 25), none, none⟩,
        ⟨some 15, .mov (.t 0), none, none⟩,
        ⟨some 27, .nilck (.t 15), none, none⟩,
        ⟨some 28, .faddr 0 (.t 27), none, none⟩,
        ⟨none, .store 1 (.t 28) (.t 26), none, none⟩]))
  (.reg [⟨some 13, .mov (.t 6), none, none⟩,
      ⟨some 14, .bin .sub (.t 13) (.c (.int .i64 1)), none, none⟩,
      ⟨some 6, .mov (.t 14), none, none⟩])))
def ir_archipelagoref1_Writer_Put : IFn :=
  { params := 3, results := [], body :=
  (.seq (.reg [⟨some 7, .mov (.t 2), none, none⟩,
      ⟨some 8, .minmax false [(.t 7), (.c (.int .i64 0))], none, none⟩,
      ⟨some 9, .minmax true [(.t 8), (.c (.int .i64 64))], none, none⟩,
      ⟨some 10, .bin .sub (.t 9) (.c (.int .i64 1)), none, none⟩,
      ⟨some 6, .mov (.t 10), none, none⟩])
  (.block 0
  (.loop [0, 1, 6] archipelagoref1_Writer_Put_b0))) }
def archipelagoref1_length_b0 : IC :=
  (.seq (.seq (.reg [⟨some 4, .mov (.t 0), none, none⟩,
      ⟨some 5, .bin .gtr (.t 4) (.c (.int .u64 0)), none, none⟩])
  (.cond (.t 5)
  (.skip)
  (.exit 0)))
  (.block 1
  (.reg [⟨some 6, .mov (.t 3), none, none⟩,
        ⟨some 7, .bin .add (.t 6) (.c (.int .i64 1)), none, none⟩,
        ⟨some 8, .mov (.t 0), none, none⟩,
        ⟨some 9, .bin .shr (.t 8) (.c (.int .u64 1)), none, none⟩,
        ⟨some 3, .mov (.t 7), none, none⟩,
        ⟨some 0, .mov (.t 9), none, none⟩])))
def ir_archipelagoref1_length : IFn :=
  { params := 1, results := [.tmp 2], body :=
  (.seq (.reg [⟨some 2, .mov (.c (.int .i64 0)), none, none⟩])
  (.seq (.reg [⟨some 3, .mov (.c (.int .i64 0)), none, none⟩])
  (.seq (.block 0
  (.loop [0, 3] archipelagoref1_length_b0))
  (.seq (.reg [⟨some 10, .mov (.t 3), none, none⟩,
      ⟨some 2, .mov (.t 10), none, none⟩])
  (.ret))))) }
def ir_archipelagoref1_GammaPut : IFn :=
  { params := 2, results := [], body :=
  (.seq (.reg [⟨some 5, .mov (.t 1), none, none⟩,
      ⟨some 6, .call fid_archipelagoref1_length [(.t 5)], none, none⟩,
      ⟨some 4, .mov (.t 6), none, none⟩])
  (.seq (.reg [⟨some 7, .mov (.t 4), none, none⟩,
      ⟨some 8, .bin .gtr (.t 7) (.c (.int .i64 0)), none, none⟩])
  (.cond (.t 8)
  (.seq (.reg [⟨some 9, .mov (.t 0), none, none⟩,
        ⟨some 10, .mov (.t 4), none, none⟩,
        ⟨some 11, .bin .sub (.t 10) (.c (.int .i64 1)), none, none⟩,
        ⟨some 12, .call fid_archipelagoref1_Writer_Put [(.t 9), (.c (.int .u64 0)), (.t 11)], none, none⟩])
    (.reg [⟨some 13, .mov (.t 0), none, none⟩,
        ⟨some 14, .mov (.t 1), none, none⟩,
        ⟨some 15, .mov (.t 4), none, none⟩,
        ⟨some 16, .call fid_archipelagoref1_Writer_Put [(.t 13), (.t 14), (.t 15)], none, none⟩]))
  (.skip)))) }
def archipelagoref1_Writer_Bytes_b0 : IC :=
  (.seq (.seq (.reg [⟨some 13, .mov (.t 4), none, none⟩,
      ⟨some 14, .mov (.t 0), none, none⟩,
      ⟨some 15, .nilck (.t 14), none, none⟩,
      ⟨some 16, .faddr 0 (.t 15), none, none⟩,
      ⟨some 17, .load 1 false (.t 16), none, none⟩,
      ⟨some 18, .len .sl (.t 17), none, none⟩,
      ⟨some 19, .bin .lss (.t 13) (.t 18), none, none⟩])
  (.cond (.t 19)
  (.skip)
  (.exit 0)))
  (.seq (.block 1
  (.seq (.reg [⟨some 22, .mov (.t 0), none, none⟩,
        ⟨some 23, .nilck (.t 22), none, none⟩,
        ⟨some 24, .faddr 0 (.t 23), none, none⟩,
        ⟨some 25, .load 1 false (.t 24), none, none⟩,
        ⟨some 26, .mov (.t 4), none, none⟩,
        ⟨some 27, .iaddr 1 (.t 25) (.t 26), none, none⟩,
        ⟨some 28, .load 1 false (.t 27), none, none⟩])
    (.cond (.t 28)
    (.regD [0, 1, 2, 3, 4, 5, 6, 7, 8, 9, 10] [⟨some 29, .mov (.t 3), none, none⟩,
          ⟨some 30, .mov (.t 4), none, none⟩,
          ⟨some 31, .bin .quo (.t 30) (.c (.int .i64 8)), none, none⟩,
          ⟨some 32, .iaddr 1 (.t 29) (.t 31), none, none⟩,
          ⟨some 33, .load 1 false (.t 32), none, none⟩,
          ⟨some 34, .mov (.t 4), none, none⟩,
          ⟨some 35, .bin .rem (.t 34) (.c (.int .i64 8)), none, none⟩,
          ⟨some 36, .bin .shl (.c (.int .u8 1)) (.t 35), none, none⟩,
          ⟨some 37, .bin .or (.t 33) (.t 36), none, none⟩,
          ⟨some 38, .iaddr 1 (.t 29) (.t 31), none, none⟩,
          ⟨none, .store 1 (.t 38) (.t 37), none, none⟩])
    (.skip))))
  (.reg [⟨some 20, .mov (.t 4), none, none⟩,
      ⟨some 21, .bin .add (.t 20) (.c (.int .i64 1)), none, none⟩,
      ⟨some 4, .mov (.t 21), none, none⟩])))
def ir_archipelagoref1_Writer_Bytes : IFn :=
  { params := 1, results := [.tmp 2], body :=
  (.seq (.reg [⟨some 2, .mov (.c .nils), none, none⟩])
  (.seq (.reg [⟨some 5, .mov (.t 0), none, none⟩,
      ⟨some 6, .nilck (.t 5), none, none⟩,
      ⟨some 7, .faddr 0 (.t 6), none, none⟩,
      ⟨some 8, .load 1 false (.t 7), none, none⟩,
      ⟨some 9, .len .sl (.t 8), none, none⟩,
      ⟨some 10, .bin .add (.t 9) (.c (.int .i64 7)), none, none⟩,
      ⟨some 11, .bin .quo (.t 10) (.c (.int .i64 8)), none, none⟩,
      ⟨some 12, .mkslice 1 1 [(.int .u8 0)] (.t 11) (.t 11), none, none⟩,
      ⟨some 3, .mov (.t 12), none, none⟩])
  (.seq (.seq (.reg [⟨some 4, .mov (.c (.int .i64 0)), none, none⟩])
  (.block 0
  (.loop [0, 3, 4] archipelagoref1_Writer_Bytes_b0)))
  (.seq (.reg [⟨some 39, .mov (.t 3), none, none⟩,
      ⟨some 2, .mov (.t 39), none, none⟩])
  (.ret))))) }
def archipelagoref15_DeltaPut_b0 : IC :=
  (.seq (.seq (.reg [⟨some 17, .mov (.t 8), none, none⟩,
      ⟨some 18, .mov (.t 1), none, none⟩,
      ⟨some 19, .len .sl (.t 18), none, none⟩,
      ⟨some 20, .bin .lss (.t 17) (.t 19), none, none⟩])
  (.cond (.t 20)
  (.skip)
  (.exit 0)))
  (.seq (.block 1
  (.seq (.reg [⟨some 23, .mov (.t 1), none, none⟩,
        ⟨some 24, .mov (.t 8), none, none⟩,
        ⟨some 25, .iaddr 4 (.t 23) (.t 24), none, none⟩,
        ⟨some 26, .load 4 true (.t 25), none, none⟩,
        ⟨some 9, .box (.c (.agg [(.int .i64 0), (.int .u32 0), (.int .u32 0), (.bool false)])), none, none⟩,
        ⟨none, .store 4 (.t 9) (.t 26), none, none⟩])
    (.seq (.seq (.reg [⟨some 27, .faddr 0 (.t 9), none, none⟩,
        ⟨some 28, .load 1 false (.t 27), none, none⟩,
        ⟨some 29, .bin .lss (.t 28) (.c (.int .i64 0)), none, none⟩,
        ⟨some 30, .mov (.t 29), none, none⟩,
        ⟨some 31, .faddr 0 (.t 9), (some (30, false)), none⟩,
        ⟨some 32, .load 1 false (.t 31), (some (30, false)), none⟩,
        ⟨some 33, .bin .gtr (.t 32) (.c (.int .i64 4611686018427387903)), (some (30, false)), none⟩,
        ⟨some 34, .pick (.t 30) (.c (.bool true)) (.t 33), none, none⟩,
        ⟨some 35, .mov (.t 34), none, none⟩,
        ⟨some 36, .faddr 1 (.t 9), (some (35, false)), none⟩,
        ⟨some 37, .faddr 0 (.t 36), (some (35, false)), none⟩,
        ⟨some 38, .load 1 false (.t 37), (some (35, false)), none⟩,
        ⟨some 39, .faddr 1 (.t 9), (some (35, false)), none⟩,
        ⟨some 40, .faddr 1 (.t 39), (some (35, false)), none⟩,
        ⟨some 41, .load 1 false (.t 40), (some (35, false)), none⟩,
        ⟨some 42, .bin .geq (.t 38) (.t 41), (some (35, false)), none⟩,
        ⟨some 43, .pick (.t 35) (.c (.bool true)) (.t 42), none, none⟩,
        ⟨some 44, .mov (.t 43), none, none⟩,
        ⟨some 45, .mov (.t 8), (some (44, false)), none⟩,
        ⟨some 46, .bin .eql (.t 45) (.c (.int .i64 0)), (some (44, false)), none⟩,
        ⟨some 47, .mov (.t 46), (some (44, false)), none⟩,
        ⟨some 48, .faddr 0 (.t 9), (some (47, true)), none⟩,
        ⟨some 49, .load 1 false (.t 48), (some (47, true)), none⟩,
        ⟨some 50, .mov (.t 0), (some (47, true)), none⟩,
        ⟨some 51, .bin .neq (.t 49) (.t 50), (some (47, true)), none⟩,
        ⟨some 52, .pick (.t 47) (.t 51) (.c (.bool false)), (some (44, false)), none⟩,
        ⟨some 53, .pick (.t 44) (.c (.bool true)) (.t 52), none, none⟩,
        ⟨some 54, .mov (.t 53), none, none⟩,
        ⟨some 55, .mov (.t 8), (some (54, false)), none⟩,
        ⟨some 56, .bin .gtr (.t 55) (.c (.int .i64 0)), (some (54, false)), none⟩,
        ⟨some 57, .mov (.t 56), (some (54, false)), none⟩,
        ⟨some 58, .load 4 true (.t 7), (some (57, true)), none⟩,
        ⟨some 59, .load 4 true (.t 9), (some (57, true)), none⟩,
        ⟨some 60, .call fid_archipelagoref8_Before [(.t 58), (.t 59)], (some (57, true)), none⟩,
        ⟨some 61, .un .not (.t 60), (some (57, true)), none⟩,
        ⟨some 62, .pick (.t 57) (.t 61) (.c (.bool false)), (some (54, false)), none⟩,
        ⟨some 63, .pick (.t 54) (.c (.bool true)) (.t 62), none, none⟩])
    (.cond (.t 63)
    (.seq (.reg [⟨some 4, .mov (.c .nils), none, none⟩,
          ⟨some 5, .mov (.c (.int .i64 23)), none, none⟩])
      (.ret))
    (.skip)))
    (.seq (.reg [⟨some 64, .mov (.t 6), none, none⟩,
        ⟨some 65, .faddr 0 (.t 9), none, none⟩,
        ⟨some 66, .load 1 false (.t 65), none, none⟩,
        ⟨some 67, .faddr 0 (.t 7), none, none⟩,
        ⟨some 68, .load 1 false (.t 67), none, none⟩,
        ⟨some 69, .bin .sub (.t 66) (.t 68), none, none⟩,
        ⟨some 70, .conv .u64 (.t 69), none, none⟩,
        ⟨some 71, .bin .add (.t 70) (.c (.int .u64 1)), none, none⟩,
        ⟨some 72, .call fid_archipelagoref1_GammaPut [(.t 64), (.t 71)], none, none⟩])
    (.seq (.reg [⟨some 10, .mov (.c (.int .u64 0)), none, none⟩])
    (.seq (.seq (.reg [⟨some 73, .faddr 3 (.t 9), none, none⟩,
        ⟨some 74, .load 1 false (.t 73), none, none⟩])
    (.cond (.t 74)
    (.reg [⟨some 10, .mov (.c (.int .u64 1)), none, none⟩])
    (.skip)))
    (.seq (.reg [⟨some 75, .mov (.t 6), none, none⟩,
        ⟨some 76, .mov (.t 10), none, none⟩,
        ⟨some 77, .call fid_archipelagoref1_Writer_Put [(.t 75), (.t 76), (.c (.int .i64 1))], none, none⟩])
    (.seq (.regD [0, 1, 2, 3, 4, 5, 6, 7, 8, 9] [⟨some 78, .faddr 1 (.t 9), none, none⟩,
        ⟨some 79, .faddr 0 (.t 78), none, none⟩,
        ⟨some 80, .load 1 false (.t 79), none, none⟩,
        ⟨some 81, .conv .u64 (.t 80), none, none⟩,
        ⟨some 82, .faddr 1 (.t 9), none, none⟩,
        ⟨some 83, .faddr 1 (.t 82), none, none⟩,
        ⟨some 84, .load 1 false (.t 83), none, none⟩,
        ⟨some 85, .conv .u64 (.t 84), none, none⟩,
        ⟨some 11, .mov (.t 81), none, none⟩,
        ⟨some 12, .mov (.t 85), none, none⟩])
    (.seq (.block 2
    (.seq (.reg [⟨some 101, .mov (.t 8), none, none⟩,
          ⟨some 102, .bin .eql (.t 101) (.c (.int .i64 0)), none, none⟩,
          ⟨some 103, .mov (.t 102), none, none⟩,
          ⟨some 104, .faddr 0 (.t 9), (some (103, false)), none⟩,
          ⟨some 105, .load 1 false (.t 104), (some (103, false)), none⟩,
          ⟨some 106, .faddr 0 (.t 7), (some (103, false)), none⟩,
          ⟨some 107, .load 1 false (.t 106), (some (103, false)), none⟩,
          ⟨some 108, .bin .neq (.t 105) (.t 107), (some (103, false)), none⟩,
          ⟨some 109, .pick (.t 103) (.c (.bool true)) (.t 108), none, none⟩,
          ⟨some 100, .mov (.t 109), none, none⟩])
      (.cond (.t 100)
      (.seq (.reg [⟨some 110, .mov (.t 6), none, none⟩,
            ⟨some 111, .mov (.t 11), none, none⟩,
            ⟨some 112, .bin .add (.t 111) (.c (.int .u64 1)), none, none⟩,
            ⟨some 113, .call fid_archipelagoref1_GammaPut [(.t 110), (.t 112)], none, none⟩])
        (.reg [⟨some 114, .mov (.t 6), none, none⟩,
            ⟨some 115, .mov (.t 12), none, none⟩,
            ⟨some 116, .mov (.t 11), none, none⟩,
            ⟨some 117, .bin .sub (.t 115) (.t 116), none, none⟩,
            ⟨some 118, .call fid_archipelagoref1_GammaPut [(.t 114), (.t 117)], none, none⟩]))
      (.seq (.reg [⟨some 120, .faddr 1 (.t 9), none, none⟩,
            ⟨some 121, .faddr 0 (.t 120), none, none⟩,
            ⟨some 122, .load 1 false (.t 121), none, none⟩,
            ⟨some 123, .faddr 1 (.t 7), none, none⟩,
            ⟨some 124, .faddr 0 (.t 123), none, none⟩,
            ⟨some 125, .load 1 false (.t 124), none, none⟩,
            ⟨some 126, .bin .eql (.t 122) (.t 125), none, none⟩,
            ⟨some 119, .mov (.t 126), none, none⟩])
        (.cond (.t 119)
        (.seq (.reg [⟨some 127, .mov (.t 6), none, none⟩,
              ⟨some 128, .call fid_archipelagoref1_GammaPut [(.t 127), (.c (.int .u64 1))], none, none⟩])
          (.reg [⟨some 129, .mov (.t 6), none, none⟩,
              ⟨some 130, .mov (.t 12), none, none⟩,
              ⟨some 131, .faddr 1 (.t 7), none, none⟩,
              ⟨some 132, .faddr 1 (.t 131), none, none⟩,
              ⟨some 133, .load 1 false (.t 132), none, none⟩,
              ⟨some 134, .conv .u64 (.t 133), none, none⟩,
              ⟨some 135, .bin .sub (.t 130) (.t 134), none, none⟩,
              ⟨some 136, .call fid_archipelagoref1_GammaPut [(.t 129), (.t 135)], none, none⟩]))
        (.seq (.reg [⟨some 86, .mov (.t 6), none, none⟩,
              ⟨some 87, .mov (.t 11), none, none⟩,
              ⟨some 88, .faddr 1 (.t 7), none, none⟩,
              ⟨some 89, .faddr 0 (.t 88), none, none⟩,
              ⟨some 90, .load 1 false (.t 89), none, none⟩,
              ⟨some 91, .conv .u64 (.t 90), none, none⟩,
              ⟨some 92, .bin .sub (.t 87) (.t 91), none, none⟩,
              ⟨some 93, .bin .add (.t 92) (.c (.int .u64 1)), none, none⟩,
              ⟨some 94, .call fid_archipelagoref1_GammaPut [(.t 86), (.t 93)], none, none⟩])
          (.reg [⟨some 95, .mov (.t 6), none, none⟩,
              ⟨some 96, .mov (.t 12), none, none⟩,
              ⟨some 97, .mov (.t 11), none, none⟩,
              ⟨some 98, .bin .sub (.t 96) (.t 97), none, none⟩,
              ⟨some 99, .call fid_archipelagoref1_GammaPut [(.t 95), (.t 98)], none, none⟩])))))))
    (.reg [⟨some 137, .load 4 true (.t 9), none, none⟩,
        ⟨none, .store 4 (.t 7) (.t 137), none, none⟩]))))))))))
  (.reg [⟨some 21, .mov (.t 8), none, none⟩,
      ⟨some 22, .bin .add (.t 21) (.c (.int .i64 1)), none, none⟩,
      ⟨some 8, .mov (.t 22), none, none⟩])))
def ir_archipelagoref15_DeltaPut : IFn :=
  { params := 2, results := [.tmp 4, .tmp 5], body :=
  (.seq (.reg [⟨some 4, .mov (.c .nils), none, none⟩,
      ⟨some 5, .mov (.c (.int .i64 0)), none, none⟩])
  (.seq (.reg [⟨some 13, .build [.nils] [], none, none⟩,
      ⟨some 14, .box (.t 13), none, none⟩,
      ⟨some 6, .mov (.t 14), none, none⟩])
  (.seq (.reg [⟨some 15, .mov (.t 0), none, none⟩,
      ⟨some 16, .build [(.int .i64 0), (.int .u32 0), (.int .u32 0), (.bool false)] [(0, 1, (.t 15))], none, none⟩,
      ⟨some 7, .box (.c (.agg [(.int .i64 0), (.int .u32 0), (.int .u32 0), (.bool false)])), none, none⟩,
      ⟨none, .store 4 (.t 7) (.t 16), none, none⟩])
  (.seq (.seq (.reg [⟨some 8, .mov (.c (.int .i64 0)), none, none⟩])
  (.block 0
  (.loop [0, 1, 6, 7, 8] archipelagoref15_DeltaPut_b0)))
  (.seq (.reg [⟨some 138, .mov (.t 6), none, none⟩,
      ⟨some 139, .call fid_archipelagoref1_Writer_Bytes [(.t 138)], none, none⟩,
      ⟨some 4, .mov (.t 139), none, none⟩,
      ⟨some 5, .mov (.c (.int .i64 0)), none, none⟩])
  (.ret)))))) }
def ir_archipelagoseat_Change : IFn :=
  { params := 5, results := [.tmp 10], body :=
  (.seq (.reg [⟨some 10, .mov (.c .nils), none, none⟩])
  (.seq (.reg [⟨some 13, .mov (.t 0), none, none⟩,
      ⟨some 14, .append 1 1 (.c .nils) (.t 13), none, none⟩,
      ⟨some 11, .mov (.t 14), none, none⟩])
  (.seq (.seq (.reg [⟨some 15, .mov (.t 11), none, none⟩,
      ⟨some 16, .len .sl (.t 15), none, none⟩,
      ⟨some 17, .bin .eql (.t 16) (.c (.int .i64 0)), none, none⟩])
  (.cond (.t 17)
  (.seq (.reg [⟨some 18, .mov (.t 4), none, none⟩,
        ⟨some 19, .append 1 1 (.c .nils) (.t 18), none, none⟩,
        ⟨some 10, .mov (.t 19), none, none⟩])
    (.ret))
  (.skip)))
  (.seq (.reg [⟨some 20, .mov (.t 2), none, none⟩,
      ⟨some 21, .conv .i64 (.t 20), none, none⟩,
      ⟨some 22, .mov (.t 11), none, none⟩,
      ⟨some 23, .len .sl (.t 22), none, none⟩,
      ⟨some 24, .bin .rem (.t 21) (.t 23), none, none⟩,
      ⟨some 12, .mov (.t 24), none, none⟩])
  (.seq (.seq (.reg [⟨some 25, .mov (.t 1), none, none⟩,
      ⟨some 26, .bin .rem (.t 25) (.c (.int .u8 5)), none, none⟩])
  (.block 0
  (.seq (.seq (.reg [⟨some 37, .bin .eql (.t 26) (.c (.int .u8 0)), none, none⟩,
        ⟨some 36, .mov (.t 37), none, none⟩])
    (.cond (.t 36)
    (.skip)
    (.reg [⟨some 38, .bin .eql (.t 26) (.c (.int .u8 1)), none, none⟩,
          ⟨some 36, .mov (.t 38), none, none⟩])))
    (.cond (.t 36)
    (.reg [⟨some 39, .mov (.t 11), none, none⟩,
          ⟨some 40, .mov (.t 12), none, none⟩,
          ⟨some 41, .mov (.t 3), none, none⟩,
          ⟨some 42, .iaddr 1 (.t 39) (.t 40), none, none⟩,
          ⟨none, .store 1 (.t 42) (.t 41), none, none⟩])
    (.seq (.reg [⟨some 44, .bin .eql (.t 26) (.c (.int .u8 2)), none, none⟩,
          ⟨some 43, .mov (.t 44), none, none⟩])
      (.cond (.t 43)
      (.seq (.regD [0, 1, 2, 3, 4, 5, 6, 7, 8, 9, 10] [⟨some 45, .mov (.t 0), none, none⟩,
            ⟨some 46, .mov (.t 12), none, none⟩,
            ⟨some 47, .slice false 1 (.t 45) none (some (.t 46)) none, none, none⟩,
            ⟨some 48, .append 1 1 (.c .nils) (.t 47), none, none⟩,
            ⟨some 49, .mov (.t 4), none, none⟩,
            ⟨some 50, .append 1 1 (.t 48) (.t 49), none, none⟩,
            ⟨some 51, .mov (.t 0), none, none⟩,
            ⟨some 52, .mov (.t 12), none, none⟩,
            ⟨some 53, .slice false 1 (.t 51) (some (.t 52)) none none, none, none⟩,
            ⟨some 54, .append 1 1 (.t 50) (.t 53), none, none⟩,
            ⟨some 10, .mov (.t 54), none, none⟩])
        (.ret))
      (.seq (.reg [⟨some 56, .bin .eql (.t 26) (.c (.int .u8 3)), none, none⟩,
            ⟨some 55, .mov (.t 56), none, none⟩])
        (.cond (.t 55)
        (.seq (.reg [⟨some 57, .mov (.t 11), none, none⟩,
              ⟨some 58, .mov (.t 12), none, none⟩,
              ⟨some 59, .slice false 1 (.t 57) none (some (.t 58)) none, none, none⟩,
              ⟨some 10, .mov (.t 59), none, none⟩])
          (.ret))
        (.regD [0, 1, 2, 3, 4, 5, 6, 7, 8, 9] [⟨some 27, .mov (.t 0), none, none⟩,
              ⟨some 28, .mov (.t 12), none, none⟩,
              ⟨some 29, .slice false 1 (.t 27) none (some (.t 28)) none, none, none⟩,
              ⟨some 30, .append 1 1 (.c .nils) (.t 29), none, none⟩,
              ⟨some 31, .mov (.t 0), none, none⟩,
              ⟨some 32, .mov (.t 12), none, none⟩,
              ⟨some 33, .bin .add (.t 32) (.c (.int .i64 1)), none, none⟩,
              ⟨some 34, .slice false 1 (.t 31) (some (.t 33)) none none, none, none⟩,
              ⟨some 35, .append 1 1 (.t 30) (.t 34), none, none⟩,
              ⟨some 11, .mov (.t 35), none, none⟩])))))))))
  (.seq (.reg [⟨some 60, .mov (.t 11), none, none⟩,
      ⟨some 10, .mov (.t 60), none, none⟩])
  (.ret))))))) }
def ir_archipelagoref1_Reader_Left : IFn :=
  { params := 1, results := [.tmp 2], body :=
  (.seq (.reg [⟨some 2, .mov (.c (.int .i64 0)), none, none⟩])
  (.seq (.regD [0, 1, 2, 3, 4, 5, 6, 7, 8, 9, 10, 11] [⟨some 3, .mov (.t 0), none, none⟩,
      ⟨some 4, .nilck (.t 3), none, none⟩,
      ⟨some 5, .faddr 0 (.t 4), none, none⟩,
      ⟨some 6, .load 1 false (.t 5), none, none⟩,
      ⟨some 7, .len .sl (.t 6), none, none⟩,
      ⟨some 8, .bin .mul (.c (.int .i64 8)) (.t 7), none, none⟩,
      ⟨some 9, .mov (.t 0), none, none⟩,
      ⟨some 10, .nilck (.t 9), none, none⟩,
      ⟨some 11, .faddr 1 (.t 10), none, none⟩,
      ⟨some 12, .load 1 false (.t 11), none, none⟩,
      ⟨some 13, .bin .sub (.t 8) (.t 12), none, none⟩,
      ⟨some 2, .mov (.t 13), none, none⟩])
  (.ret))) }
def archipelagoref1_Reader_Take_b0 : IC :=
  (.seq (.seq (.reg [⟨some 15, .mov (.t 7), none, none⟩,
      ⟨some 16, .mov (.t 1), none, none⟩,
      ⟨some 17, .bin .lss (.t 15) (.t 16), none, none⟩])
  (.cond (.t 17)
  (.skip)
  (.exit 0)))
  (.seq (.block 1
  (.seq (.regD [0, 1, 2, 3, 4, 5, 6, 7, 8, 9, 10, 11, 12, 13, 14, 15, 16, 17, 18, 19, 20, 21, 22] [⟨some 20, .mov (.t 6), none, none⟩,
        ⟨some 21, .bin .shl (.t 20) (.c (.int .u64 1)), none, none⟩,
        ⟨some 22, .mov (.t 0), none, none⟩,
        ⟨some 23, .nilck (.t 22), none, none⟩,
        ⟨some 24, .faddr 0 (.t 23), none, none⟩,
        ⟨some 25, .load 1 false (.t 24), none, none⟩,
        ⟨some 26, .mov (.t 0), none, none⟩,
        ⟨some 27, .nilck (.t 26), none, none⟩,
        ⟨some 28, .faddr 1 (.t 27), none, none⟩,
        ⟨some 29, .load 1 false (.t 28), none, none⟩,
        ⟨some 30, .bin .quo (.t 29) (.c (.int .i64 8)), none, none⟩,
        ⟨some 31, .iaddr 1 (.t 25) (.t 30), none, none⟩,
        ⟨some 32, .load 1 false (.t 31), none, none⟩,
        ⟨some 33, .mov (.t 0), none, none⟩,
        ⟨some 34, .nilck (.t 33), none, none⟩,
        ⟨some 35, .faddr 1 (.t 34), none, none⟩,
        ⟨some 36, .load 1 false (.t 35), none, none⟩,
        ⟨some 37, .bin .rem (.t 36) (.c (.int .i64 8)), none, none⟩,
        ⟨some 38, .bin .shr (.t 32) (.t 37), none, none⟩,
        ⟨some 39, .bin .and (.t 38) (.c (.int .u8 1)), none, none⟩,
        ⟨some 40, .conv .u64 (.t 39), none, none⟩,
        ⟨some 41, .bin .or (.t 21) (.t 40), none, none⟩,
        ⟨some 6, .mov (.t 41), none, none⟩])
    (.reg [⟨some 42, .mov (.t 0), none, none⟩,
        ⟨some 43, .nilck (.t 42), none, none⟩,
        ⟨some 44, .faddr 1 (.t 43), none, none⟩,
        ⟨some 45, .load 1 false (.t 44), none, none⟩,
        ⟨some 46, .bin .add (.t 45) (.c (.int .i64 1)), none, none⟩,
        ⟨some 47, .nilck (.t 42), none, none⟩,
        ⟨some 48, .faddr 1 (.t 47), none, none⟩,
        ⟨none, .store 1 (.t 48) (.t 46), none, none⟩])))
  (.reg [⟨some 18, .mov (.t 7), none, none⟩,
      ⟨some 19, .bin .add (.t 18) (.c (.int .i64 1)), none, none⟩,
      ⟨some 7, .mov (.t 19), none, none⟩])))
def ir_archipelagoref1_Reader_Take : IFn :=
  { params := 2, results := [.tmp 4, .tmp 5], body :=
  (.seq (.reg [⟨some 4, .mov (.c (.int .u64 0)), none, none⟩,
      ⟨some 5, .mov (.c (.bool false)), none, none⟩])
  (.seq (.reg [⟨some 8, .mov (.t 1), none, none⟩,
      ⟨some 9, .minmax false [(.t 8), (.c (.int .i64 0))], none, none⟩,
      ⟨some 10, .minmax true [(.t 9), (.c (.int .i64 64))], none, none⟩,
      ⟨some 1, .mov (.t 10), none, none⟩])
  (.seq (.seq (.reg [⟨some 11, .mov (.t 1), none, none⟩,
      ⟨some 12, .mov (.t 0), none, none⟩,
      ⟨some 13, .call fid_archipelagoref1_Reader_Left [(.t 12)], none, none⟩,
      ⟨some 14, .bin .gtr (.t 11) (.t 13), none, none⟩])
  (.cond (.t 14)
  (.seq (.reg [⟨some 4, .mov (.c (.int .u64 0)), none, none⟩,
        ⟨some 5, .mov (.c (.bool false)), none, none⟩])
    (.ret))
  (.skip)))
  (.seq (.reg [⟨some 6, .mov (.c (.int .u64 0)), none, none⟩])
  (.seq (.seq (.reg [⟨some 7, .mov (.c (.int .i64 0)), none, none⟩])
  (.block 0
  (.loop [0, 1, 6, 7] archipelagoref1_Reader_Take_b0)))
  (.seq (.reg [⟨some 49, .mov (.t 6), none, none⟩,
      ⟨some 4, .mov (.t 49), none, none⟩,
      ⟨some 5, .mov (.c (.bool true)), none, none⟩])
  (.ret))))))) }
def archipelagoref1_GammaTake_b0 : IC :=
  (.seq (.seq (.reg [⟨some 14, .mov (.t 5), none, none⟩,
      ⟨some 15, .bin .lss (.t 14) (.c (.int .i64 64)), none, none⟩])
  (.cond (.t 15)
  (.skip)
  (.exit 0)))
  (.seq (.block 1
  (.seq (.reg [⟨some 19, .mov (.t 0), none, none⟩,
        ⟨some 20, .call fid_archipelagoref1_Reader_Take [(.t 19), (.c (.int .i64 1))], none, none⟩,
        ⟨some 18, .mov (.t 20), none, none⟩,
        ⟨some 21, .extract (.t 18) 0, none, none⟩,
        ⟨some 22, .extract (.t 18) 1, none, none⟩,
        ⟨some 6, .mov (.t 21), none, none⟩,
        ⟨some 7, .mov (.t 22), none, none⟩])
    (.seq (.seq (.reg [⟨some 23, .mov (.t 7), none, none⟩,
        ⟨some 24, .un .not (.t 23), none, none⟩])
    (.cond (.t 24)
    (.exit 0)
    (.skip)))
    (.seq (.seq (.reg [⟨some 25, .mov (.t 6), none, none⟩,
        ⟨some 26, .bin .eql (.t 25) (.c (.int .u64 0)), none, none⟩])
    (.cond (.t 26)
    (.exit 1)
    (.skip)))
    (.seq (.reg [⟨some 28, .mov (.t 0), none, none⟩,
        ⟨some 29, .mov (.t 5), none, none⟩,
        ⟨some 30, .call fid_archipelagoref1_Reader_Take [(.t 28), (.t 29)], none, none⟩,
        ⟨some 27, .mov (.t 30), none, none⟩,
        ⟨some 31, .extract (.t 27) 0, none, none⟩,
        ⟨some 32, .extract (.t 27) 1, none, none⟩,
        ⟨some 8, .mov (.t 31), none, none⟩,
        ⟨some 9, .mov (.t 32), none, none⟩])
    (.seq (.seq (.reg [⟨some 33, .mov (.t 9), none, none⟩,
        ⟨some 34, .un .not (.t 33), none, none⟩])
    (.cond (.t 34)
    (.exit 0)
    (.skip)))
    (.seq (.reg [⟨some 35, .mov (.t 5), none, none⟩,
        ⟨some 36, .bin .shl (.c (.int .u64 1)) (.t 35), none, none⟩,
        ⟨some 37, .mov (.t 8), none, none⟩,
        ⟨some 38, .bin .or (.t 36) (.t 37), none, none⟩,
        ⟨some 2, .mov (.t 38), none, none⟩,
        ⟨some 3, .mov (.c (.bool true)), none, none⟩])
    (.ret))))))))
  (.reg [⟨some 16, .mov (.t 5), none, none⟩,
      ⟨some 17, .bin .add (.t 16) (.c (.int .i64 1)), none, none⟩,
      ⟨some 5, .mov (.t 17), none, none⟩])))
def ir_archipelagoref1_GammaTake : IFn :=
  { params := 1, results := [.tmp 2, .tmp 3], body :=
  (.seq (.reg [⟨some 2, .mov (.c (.int .u64 0)), none, none⟩,
      ⟨some 3, .mov (.c (.bool false)), none, none⟩])
  (.seq (.reg [⟨some 10, .mov (.t 0), none, none⟩,
      ⟨some 11, .nilck (.t 10), none, none⟩,
      ⟨some 12, .faddr 1 (.t 11), none, none⟩,
      ⟨some 13, .load 1 false (.t 12), none, none⟩,
      ⟨some 4, .mov (.t 13), none, none⟩])
  (.seq (.seq (.reg [⟨some 5, .mov (.c (.int .i64 0)), none, none⟩])
  (.block 0
  (.loop [0, 4, 5] archipelagoref1_GammaTake_b0)))
  (.seq (.reg [⟨some 39, .mov (.t 0), none, none⟩,
      ⟨some 40, .mov (.t 4), none, none⟩,
      ⟨some 41, .nilck (.t 39), none, none⟩,
      ⟨some 42, .faddr 1 (.t 41), none, none⟩,
      ⟨none, .store 1 (.t 42) (.t 40), none, none⟩])
  (.seq (.reg [⟨some 2, .mov (.c (.int .u64 0)), none, none⟩,
      ⟨some 3, .mov (.c (.bool false)), none, none⟩])
  (.ret)))))) }
def ir_archipelagoref15_event : IFn :=
  { params := 3, results := [.cell 6 4 true, .tmp 7], body :=
  (.seq (.reg [⟨some 4, .box (.t 1), none, none⟩,
      ⟨some 6, .box (.c (.agg [(.int .i64 0), (.int .u32 0), (.int .u32 0), (.bool false)])), none, none⟩,
      ⟨some 7, .mov (.c (.bool false)), none, none⟩])
  (.seq (.reg [⟨some 20, .mov (.t 0), none, none⟩,
      ⟨some 21, .call fid_archipelagoref1_GammaTake [(.t 20)], none, none⟩,
      ⟨some 19, .mov (.t 21), none, none⟩,
      ⟨some 22, .extract (.t 19) 0, none, none⟩,
      ⟨some 23, .extract (.t 19) 1, none, none⟩,
      ⟨some 8, .mov (.t 22), none, none⟩,
      ⟨some 9, .mov (.t 23), none, none⟩])
  (.seq (.reg [⟨some 25, .mov (.t 0), none, none⟩,
      ⟨some 26, .call fid_archipelagoref1_Reader_Take [(.t 25), (.c (.int .i64 1))], none, none⟩,
      ⟨some 24, .mov (.t 26), none, none⟩,
      ⟨some 27, .extract (.t 24) 0, none, none⟩,
      ⟨some 28, .extract (.t 24) 1, none, none⟩,
      ⟨some 10, .mov (.t 27), none, none⟩,
      ⟨some 11, .mov (.t 28), none, none⟩])
  (.seq (.reg [⟨some 30, .mov (.t 0), none, none⟩,
      ⟨some 31, .call fid_archipelagoref1_GammaTake [(.t 30)], none, none⟩,
      ⟨some 29, .mov (.t 31), none, none⟩,
      ⟨some 32, .extract (.t 29) 0, none, none⟩,
      ⟨some 33, .extract (.t 29) 1, none, none⟩,
      ⟨some 12, .mov (.t 32), none, none⟩,
      ⟨some 13, .mov (.t 33), none, none⟩])
  (.seq (.reg [⟨some 35, .mov (.t 0), none, none⟩,
      ⟨some 36, .call fid_archipelagoref1_GammaTake [(.t 35)], none, none⟩,
      ⟨some 34, .mov (.t 36), none, none⟩,
      ⟨some 37, .extract (.t 34) 0, none, none⟩,
      ⟨some 38, .extract (.t 34) 1, none, none⟩,
      ⟨some 14, .mov (.t 37), none, none⟩,
      ⟨some 15, .mov (.t 38), none, none⟩])
  (.seq (.seq (.reg [⟨some 39, .mov (.t 9), none, none⟩,
      ⟨some 40, .un .not (.t 39), none, none⟩,
      ⟨some 41, .mov (.t 40), none, none⟩,
      ⟨some 42, .mov (.t 11), (some (41, false)), none⟩,
      ⟨some 43, .un .not (.t 42), (some (41, false)), none⟩,
      ⟨some 44, .pick (.t 41) (.c (.bool true)) (.t 43), none, none⟩,
      ⟨some 45, .mov (.t 44), none, none⟩,
      ⟨some 46, .mov (.t 13), (some (45, false)), none⟩,
      ⟨some 47, .un .not (.t 46), (some (45, false)), none⟩,
      ⟨some 48, .pick (.t 45) (.c (.bool true)) (.t 47), none, none⟩,
      ⟨some 49, .mov (.t 48), none, none⟩,
      ⟨some 50, .mov (.t 15), (some (49, false)), none⟩,
      ⟨some 51, .un .not (.t 50), (some (49, false)), none⟩,
      ⟨some 52, .pick (.t 49) (.c (.bool true)) (.t 51), none, none⟩,
      ⟨some 53, .mov (.t 52), none, none⟩,
      ⟨some 54, .mov (.t 8), (some (53, false)), none⟩,
      ⟨some 55, .bin .sub (.t 54) (.c (.int .u64 1)), (some (53, false)), none⟩,
      ⟨some 56, .faddr 0 (.t 4), (some (53, false)), none⟩,
      ⟨some 57, .load 1 false (.t 56), (some (53, false)), none⟩,
      ⟨some 58, .bin .sub (.c (.int .i64 4611686018427387903)) (.t 57), (some (53, false)), none⟩,
      ⟨some 59, .conv .u64 (.t 58), (some (53, false)), none⟩,
      ⟨some 60, .bin .gtr (.t 55) (.t 59), (some (53, false)), none⟩,
      ⟨some 61, .pick (.t 53) (.c (.bool true)) (.t 60), none, none⟩,
      ⟨some 62, .mov (.t 61), none, none⟩,
      ⟨some 63, .mov (.t 12), (some (62, false)), none⟩,
      ⟨some 64, .bin .gtr (.t 63) (.c (.int .u64 4294967296)), (some (62, false)), none⟩,
      ⟨some 65, .pick (.t 62) (.c (.bool true)) (.t 64), none, none⟩,
      ⟨some 66, .mov (.t 65), none, none⟩,
      ⟨some 67, .mov (.t 14), (some (66, false)), none⟩,
      ⟨some 68, .bin .gtr (.t 67) (.c (.int .u64 4294967296)), (some (66, false)), none⟩,
      ⟨some 69, .pick (.t 66) (.c (.bool true)) (.t 68), none, none⟩])
  (.cond (.t 69)
  (.seq (.reg [⟨some 70, .build [(.int .i64 0), (.int .u32 0), (.int .u32 0), (.bool false)] [], none, none⟩,
        ⟨none, .store 4 (.t 6) (.t 70), none, none⟩,
        ⟨some 7, .mov (.c (.bool false)), none, none⟩])
    (.ret))
  (.skip)))
  (.seq (.reg [⟨some 71, .faddr 0 (.t 4), none, none⟩,
      ⟨some 72, .load 1 false (.t 71), none, none⟩,
      ⟨some 73, .mov (.t 8), none, none⟩,
      ⟨some 74, .bin .sub (.t 73) (.c (.int .u64 1)), none, none⟩,
      ⟨some 75, .conv .i64 (.t 74), none, none⟩,
      ⟨some 76, .bin .add (.t 72) (.t 75), none, none⟩,
      ⟨some 77, .mov (.t 10), none, none⟩,
      ⟨some 78, .bin .eql (.t 77) (.c (.int .u64 1)), none, none⟩,
      ⟨some 79, .build [(.int .i64 0), (.int .u32 0), (.int .u32 0), (.bool false)] [(0, 1, (.t 76)), (3, 1, (.t 78))], none, none⟩,
      ⟨some 16, .box (.c (.agg [(.int .i64 0), (.int .u32 0), (.int .u32 0), (.bool false)])), none, none⟩,
      ⟨none, .store 4 (.t 16) (.t 79), none, none⟩])
  (.seq (.reg [⟨some 80, .mov (.t 12), none, none⟩,
      ⟨some 81, .bin .sub (.t 80) (.c (.int .u64 1)), none, none⟩,
      ⟨some 82, .mov (.t 12), none, none⟩,
      ⟨some 83, .bin .sub (.t 82) (.c (.int .u64 1)), none, none⟩,
      ⟨some 84, .mov (.t 14), none, none⟩,
      ⟨some 85, .bin .add (.t 83) (.t 84), none, none⟩,
      ⟨some 17, .mov (.t 81), none, none⟩,
      ⟨some 18, .mov (.t 85), none, none⟩])
  (.seq (.seq (.reg [⟨some 86, .mov (.t 2), none, none⟩,
      ⟨some 87, .un .not (.t 86), none, none⟩,
      ⟨some 88, .mov (.t 87), none, none⟩,
      ⟨some 89, .mov (.t 8), (some (88, true)), none⟩,
      ⟨some 90, .bin .eql (.t 89) (.c (.int .u64 1)), (some (88, true)), none⟩,
      ⟨some 91, .pick (.t 88) (.t 90) (.c (.bool false)), none, none⟩])
  (.cond (.t 91)
  (.seq (.reg [⟨some 92, .faddr 1 (.t 4), none, none⟩,
        ⟨some 93, .faddr 0 (.t 92), none, none⟩,
        ⟨some 94, .load 1 false (.t 93), none, none⟩,
        ⟨some 95, .conv .u64 (.t 94), none, none⟩,
        ⟨some 96, .mov (.t 12), none, none⟩,
        ⟨some 97, .bin .add (.t 95) (.t 96), none, none⟩,
        ⟨some 98, .bin .sub (.t 97) (.c (.int .u64 1)), none, none⟩,
        ⟨some 17, .mov (.t 98), none, none⟩])
    (.seq (.reg [⟨some 99, .mov (.t 17), none, none⟩,
        ⟨some 100, .mov (.t 14), none, none⟩,
        ⟨some 101, .bin .add (.t 99) (.t 100), none, none⟩,
        ⟨some 18, .mov (.t 101), none, none⟩])
    (.seq (.reg [⟨some 102, .mov (.t 12), none, none⟩,
        ⟨some 103, .bin .eql (.t 102) (.c (.int .u64 1)), none, none⟩])
    (.cond (.t 103)
    (.reg [⟨some 104, .faddr 1 (.t 4), none, none⟩,
          ⟨some 105, .faddr 1 (.t 104), none, none⟩,
          ⟨some 106, .load 1 false (.t 105), none, none⟩,
          ⟨some 107, .conv .u64 (.t 106), none, none⟩,
          ⟨some 108, .mov (.t 14), none, none⟩,
          ⟨some 109, .bin .add (.t 107) (.t 108), none, none⟩,
          ⟨some 18, .mov (.t 109), none, none⟩])
    (.skip)))))
  (.skip)))
  (.seq (.seq (.reg [⟨some 110, .mov (.t 17), none, none⟩,
      ⟨some 111, .bin .geq (.t 110) (.c (.int .u64 4294967296)), none, none⟩,
      ⟨some 112, .mov (.t 111), none, none⟩,
      ⟨some 113, .mov (.t 18), (some (112, false)), none⟩,
      ⟨some 114, .bin .geq (.t 113) (.c (.int .u64 4294967296)), (some (112, false)), none⟩,
      ⟨some 115, .pick (.t 112) (.c (.bool true)) (.t 114), none, none⟩])
  (.cond (.t 115)
  (.seq (.reg [⟨some 116, .build [(.int .i64 0), (.int .u32 0), (.int .u32 0), (.bool false)] [], none, none⟩,
        ⟨none, .store 4 (.t 6) (.t 116), none, none⟩,
        ⟨some 7, .mov (.c (.bool false)), none, none⟩])
    (.ret))
  (.skip)))
  (.seq (.reg [⟨some 117, .mov (.t 17), none, none⟩,
      ⟨some 118, .conv .u32 (.t 117), none, none⟩,
      ⟨some 119, .mov (.t 18), none, none⟩,
      ⟨some 120, .conv .u32 (.t 119), none, none⟩,
      ⟨some 121, .build [(.int .u32 0), (.int .u32 0)] [(0, 1, (.t 118)), (1, 1, (.t 120))], none, none⟩,
      ⟨some 122, .faddr 1 (.t 16), none, none⟩,
      ⟨none, .store 2 (.t 122) (.t 121), none, none⟩])
  (.seq (.reg [⟨some 123, .load 4 true (.t 16), none, none⟩,
      ⟨none, .store 4 (.t 6) (.t 123), none, none⟩,
      ⟨some 7, .mov (.c (.bool true)), none, none⟩])
  (.ret))))))))))))) }
def ir_archipelagoref8_Right : IFn :=
  { params := 2, results := [.tmp 4], body :=
  (.seq (.reg [⟨some 2, .box (.t 0), none, none⟩,
      ⟨some 4, .mov (.c (.bool false)), none, none⟩])
  (.seq (.reg [⟨some 5, .faddr 0 (.t 2), none, none⟩,
      ⟨some 6, .load 1 false (.t 5), none, none⟩,
      ⟨some 7, .faddr 1 (.t 2), none, none⟩,
      ⟨some 8, .load 1 false (.t 7), none, none⟩,
      ⟨some 9, .bin .lss (.t 6) (.t 8), none, none⟩,
      ⟨some 10, .mov (.t 9), none, none⟩,
      ⟨some 11, .faddr 1 (.t 2), (some (10, true)), none⟩,
      ⟨some 12, .load 1 false (.t 11), (some (10, true)), none⟩,
      ⟨some 13, .conv .u64 (.t 12), (some (10, true)), none⟩,
      ⟨some 14, .mov (.t 1), (some (10, true)), none⟩,
      ⟨some 15, .bin .lss (.t 13) (.t 14), (some (10, true)), none⟩,
      ⟨some 16, .pick (.t 10) (.t 15) (.c (.bool false)), none, none⟩,
      ⟨some 4, .mov (.t 16), none, none⟩])
  (.ret))) }
def archipelagoref15_DeltaRead_b0 : IC :=
  (.seq (.seq (.reg [⟨some 48, .mov (.t 13), none, none⟩,
      ⟨some 49, .mov (.t 2), none, none⟩,
      ⟨some 50, .bin .lss (.t 48) (.t 49), none, none⟩])
  (.cond (.t 50)
  (.skip)
  (.exit 0)))
  (.seq (.block 1
  (.seq (.reg [⟨some 54, .mov (.t 10), none, none⟩,
        ⟨some 55, .load 4 true (.t 11), none, none⟩,
        ⟨some 56, .mov (.t 13), none, none⟩,
        ⟨some 57, .bin .eql (.t 56) (.c (.int .i64 0)), none, none⟩,
        ⟨some 58, .call fid_archipelagoref15_event [(.t 54), (.t 55), (.t 57)], none, none⟩,
        ⟨some 53, .mov (.t 58), none, none⟩,
        ⟨some 59, .extract (.t 53) 0, none, none⟩,
        ⟨some 60, .extract (.t 53) 1, none, none⟩,
        ⟨some 14, .box (.c (.agg [(.int .i64 0), (.int .u32 0), (.int .u32 0), (.bool false)])), none, none⟩,
        ⟨none, .store 4 (.t 14) (.t 59), none, none⟩,
        ⟨some 15, .mov (.t 60), none, none⟩])
    (.seq (.seq (.reg [⟨some 61, .mov (.t 15), none, none⟩,
        ⟨some 62, .un .not (.t 61), none, none⟩,
        ⟨some 63, .mov (.t 62), none, none⟩,
        ⟨some 64, .faddr 1 (.t 14), (some (63, false)), none⟩,
        ⟨some 65, .load 2 true (.t 64), (some (63, false)), none⟩,
        ⟨some 66, .mov (.t 3), (some (63, false)), none⟩,
        ⟨some 67, .call fid_archipelagoref8_Right [(.t 65), (.t 66)], (some (63, false)), none⟩,
        ⟨some 68, .un .not (.t 67), (some (63, false)), none⟩,
        ⟨some 69, .pick (.t 63) (.c (.bool true)) (.t 68), none, none⟩])
    (.cond (.t 69)
    (.seq (.reg [⟨some 8, .mov (.c .nils), none, none⟩,
          ⟨some 9, .mov (.c (.int .i64 21)), none, none⟩])
      (.ret))
    (.skip)))
    (.regD [0, 1, 2, 3, 4, 5, 6] [⟨some 70, .mov (.t 12), none, none⟩,
        ⟨some 71, .load 4 true (.t 14), none, none⟩,
        ⟨some 72, .mkrow 4 1 [(.int .i64 0), (.int .u32 0), (.int .u32 0), (.bool false)] [(0, (.t 71))], none, none⟩,
        ⟨some 73, .append 4 24 (.t 70) (.t 72), none, none⟩,
        ⟨some 74, .load 4 true (.t 14), none, some (0, 1)⟩,
        ⟨some 12, .mov (.t 73), none, none⟩,
        ⟨none, .store 4 (.t 11) (.t 74), none, none⟩]))))
  (.reg [⟨some 51, .mov (.t 13), none, none⟩,
      ⟨some 52, .bin .add (.t 51) (.c (.int .i64 1)), none, none⟩,
      ⟨some 13, .mov (.t 52), none, none⟩])))
def ir_archipelagoref15_DeltaRead : IFn :=
  { params := 4, results := [.tmp 8, .tmp 9], body :=
  (.seq (.reg [⟨some 8, .mov (.c .nils), none, none⟩,
      ⟨some 9, .mov (.c (.int .i64 0)), none, none⟩])
  (.seq (.seq (.reg [⟨some 18, .mov (.t 2), none, none⟩,
      ⟨some 19, .bin .lss (.t 18) (.c (.int .i64 0)), none, none⟩,
      ⟨some 20, .mov (.t 19), none, none⟩,
      ⟨some 21, .mov (.t 2), (some (20, false)), none⟩,
      ⟨some 22, .mov (.t 0), (some (20, false)), none⟩,
      ⟨some 23, .len .sl (.t 22), (some (20, false)), none⟩,
      ⟨some 24, .bin .mul (.c (.int .i64 8)) (.t 23), (some (20, false)), none⟩,
      ⟨some 25, .bin .gtr (.t 21) (.t 24), (some (20, false)), none⟩,
      ⟨some 26, .pick (.t 20) (.c (.bool true)) (.t 25), none, none⟩,
      ⟨some 27, .mov (.t 26), none, none⟩,
      ⟨some 28, .mov (.t 1), (some (27, false)), none⟩,
      ⟨some 29, .bin .lss (.t 28) (.c (.int .i64 0)), (some (27, false)), none⟩,
      ⟨some 30, .mov (.t 29), (some (27, false)), none⟩,
      ⟨some 31, .mov (.t 2), (some (30, true)), none⟩,
      ⟨some 32, .bin .gtr (.t 31) (.c (.int .i64 0)), (some (30, true)), none⟩,
      ⟨some 33, .pick (.t 30) (.t 32) (.c (.bool false)), (some (27, false)), none⟩,
      ⟨some 34, .pick (.t 27) (.c (.bool true)) (.t 33), none, none⟩,
      ⟨some 35, .mov (.t 34), none, none⟩,
      ⟨some 36, .mov (.t 1), (some (35, false)), none⟩,
      ⟨some 37, .bin .gtr (.t 36) (.c (.int .i64 4611686018427387903)), (some (35, false)), none⟩,
      ⟨some 38, .mov (.t 37), (some (35, false)), none⟩,
      ⟨some 39, .mov (.t 2), (some (38, true)), none⟩,
      ⟨some 40, .bin .gtr (.t 39) (.c (.int .i64 0)), (some (38, true)), none⟩,
      ⟨some 41, .pick (.t 38) (.t 40) (.c (.bool false)), (some (35, false)), none⟩,
      ⟨some 42, .pick (.t 35) (.c (.bool true)) (.t 41), none, none⟩])
  (.cond (.t 42)
  (.seq (.reg [⟨some 8, .mov (.c .nils), none, none⟩,
        ⟨some 9, .mov (.c (.int .i64 21)), none, none⟩])
    (.ret))
  (.skip)))
  (.seq (.reg [⟨some 43, .mov (.t 0), none, none⟩,
      ⟨some 44, .build [.nils, (.int .i64 0)] [(0, 1, (.t 43))], none, none⟩,
      ⟨some 45, .box (.t 44), none, none⟩,
      ⟨some 10, .mov (.t 45), none, none⟩])
  (.seq (.reg [⟨some 46, .mov (.t 1), none, none⟩,
      ⟨some 47, .build [(.int .i64 0), (.int .u32 0), (.int .u32 0), (.bool false)] [(0, 1, (.t 46))], none, none⟩,
      ⟨some 11, .box (.c (.agg [(.int .i64 0), (.int .u32 0), (.int .u32 0), (.bool false)])), none, none⟩,
      ⟨none, .store 4 (.t 11) (.t 47), none, none⟩])
  (.seq (.reg [⟨some 12, .mov (.c .nils), none, none⟩])
  (.seq (.seq (.reg [⟨some 13, .mov (.c (.int .i64 0)), none, none⟩])
  (.block 0
  (.loop [0, 1, 2, 3, 10, 11, 12, 13] archipelagoref15_DeltaRead_b0)))
  (.seq (.seq (.reg [⟨some 76, .mov (.t 1), none, none⟩,
      ⟨some 77, .mov (.t 12), none, none⟩,
      ⟨some 78, .call fid_archipelagoref15_DeltaPut [(.t 76), (.t 77)], none, none⟩,
      ⟨some 75, .mov (.t 78), none, none⟩,
      ⟨some 79, .extract (.t 75) 0, none, none⟩,
      ⟨some 80, .extract (.t 75) 1, none, none⟩,
      ⟨some 16, .mov (.t 79), none, none⟩,
      ⟨some 17, .mov (.t 80), none, none⟩])
  (.seq (.reg [⟨some 81, .mov (.t 17), none, none⟩,
      ⟨some 82, .bin .neq (.t 81) (.c (.int .i64 0)), none, none⟩,
      ⟨some 83, .mov (.t 82), none, none⟩,
      ⟨some 84, .mov (.t 16), (some (83, false)), none⟩,
      ⟨some 85, .toStr (.t 84), (some (83, false)), none⟩,
      ⟨some 86, .mov (.t 0), (some (83, false)), none⟩,
      ⟨some 87, .toStr (.t 86), (some (83, false)), none⟩,
      ⟨some 88, .bin .neq (.t 85) (.t 87), (some (83, false)), none⟩,
      ⟨some 89, .pick (.t 83) (.c (.bool true)) (.t 88), none, none⟩])
  (.cond (.t 89)
  (.seq (.reg [⟨some 8, .mov (.c .nils), none, none⟩,
        ⟨some 9, .mov (.c (.int .i64 21)), none, none⟩])
    (.ret))
  (.skip))))
  (.seq (.reg [⟨some 90, .mov (.t 12), none, none⟩,
      ⟨some 8, .mov (.t 90), none, none⟩,
      ⟨some 9, .mov (.c (.int .i64 0)), none, none⟩])
  (.ret))))))))) }
def archipelagolaw16_DeltaTells_b0 : IC :=
  (.seq (.reg [⟨some 119, .bin .lss (.t 118) (.t 117), none, none⟩])
  (.seq (.cond (.t 119)
  (.skip)
  (.exit 2))
  (.seq (.block 3
  (.seq (.reg [⟨some 120, .iaddr 1 (.t 116) (.t 118), none, none⟩,
        ⟨some 121, .load 1 false (.t 120), none, none⟩,
        ⟨some 32, .mov (.t 121), none, none⟩])
    (.seq (.reg [⟨some 123, .mov (.t 32), none, none⟩,
        ⟨some 124, .mov (.t 30), none, none⟩,
        ⟨some 125, .call fid_delta_Put [(.t 123), (.t 124)], none, none⟩,
        ⟨some 122, .mov (.t 125), none, none⟩,
        ⟨some 126, .extract (.t 122) 0, none, none⟩,
        ⟨some 127, .extract (.t 122) 1, none, none⟩,
        ⟨some 33, .mov (.t 126), none, none⟩,
        ⟨some 34, .mov (.t 127), none, none⟩])
    (.seq (.reg [⟨some 129, .mov (.t 32), none, none⟩,
        ⟨some 130, .mov (.t 30), none, none⟩,
        ⟨some 131, .call fid_archipelagoref15_DeltaPut [(.t 129), (.t 130)], none, none⟩,
        ⟨some 128, .mov (.t 131), none, none⟩,
        ⟨some 132, .extract (.t 128) 0, none, none⟩,
        ⟨some 133, .extract (.t 128) 1, none, none⟩,
        ⟨some 35, .mov (.t 132), none, none⟩,
        ⟨some 36, .mov (.t 133), none, none⟩])
    (.seq (.reg [⟨some 134, .mov (.t 34), none, none⟩,
        ⟨some 135, .mov (.t 36), none, none⟩,
        ⟨some 136, .bin .neq (.t 134) (.t 135), none, none⟩,
        ⟨some 137, .mov (.t 136), none, none⟩,
        ⟨some 138, .mov (.t 33), (some (137, false)), none⟩,
        ⟨some 139, .toStr (.t 138), (some (137, false)), none⟩,
        ⟨some 140, .mov (.t 35), (some (137, false)), none⟩,
        ⟨some 141, .toStr (.t 140), (some (137, false)), none⟩,
        ⟨some 142, .bin .neq (.t 139) (.t 141), (some (137, false)), none⟩,
        ⟨some 143, .pick (.t 137) (.c (.bool true)) (.t 142), none, none⟩])
    (.cond (.t 143)
    (.seq (.reg [⟨some 24, .mov (.c (.bool false)), none, none⟩])
      (.ret))
    (.skip)))))))
  (.reg [⟨some 144, .bin .add (.t 118) (.c (.int .i64 1)), none, none⟩,
      ⟨some 118, .mov (.t 144), none, none⟩]))))
def archipelagolaw16_DeltaTells_b1 : IC :=
  (.seq (.reg [⟨some 109, .bin .lss (.t 108) (.t 107), none, none⟩])
  (.seq (.cond (.t 109)
  (.skip)
  (.exit 0))
  (.seq (.block 1
  (.seq (.reg [⟨some 110, .iaddr 1 (.t 106) (.t 108), none, none⟩,
        ⟨some 111, .load 1 false (.t 110), none, none⟩,
        ⟨some 30, .mov (.t 111), none, none⟩])
    (.seq (.reg [⟨some 112, .mov (.t 26), none, none⟩,
        ⟨some 113, .mov (.t 8), none, none⟩,
        ⟨some 114, .mov (.t 26), none, none⟩,
        ⟨some 115, .bin .add (.t 114) (.c (.int .i64 1)), none, none⟩,
        ⟨some 116, .mkrow 1 3 [(.int .i64 0)] [(0, (.t 112)), (1, (.t 113)), (2, (.t 115))], none, none⟩,
        ⟨some 117, .len .sl (.t 116), none, none⟩,
        ⟨some 118, .mov (.c (.int .i64 0)), none, none⟩])
    (.block 2
    (.loop [3, 4, 5, 6, 7, 8, 9, 10, 25, 26, 27, 30, 106, 107, 108, 116, 117, 118] archipelagolaw16_DeltaTells_b0)))))
  (.reg [⟨some 145, .bin .add (.t 108) (.c (.int .i64 1)), none, none⟩,
      ⟨some 108, .mov (.t 145), none, none⟩]))))
def archipelagolaw16_DeltaTells_b2 : IC :=
  (.seq (.reg [⟨some 182, .bin .lss (.t 181) (.t 180), none, none⟩])
  (.seq (.cond (.t 182)
  (.skip)
  (.exit 8))
  (.seq (.block 9
  (.seq (.reg [⟨some 183, .iaddr 1 (.t 179) (.t 181), none, none⟩,
        ⟨some 184, .load 1 false (.t 183), none, none⟩,
        ⟨some 42, .mov (.t 184), none, none⟩])
    (.seq (.reg [⟨some 186, .mov (.t 38), none, none⟩,
        ⟨some 187, .mov (.t 42), none, none⟩,
        ⟨some 188, .mov (.t 40), none, none⟩,
        ⟨some 189, .faddr 0 (.t 25), none, none⟩,
        ⟨some 190, .load 1 false (.t 189), none, none⟩,
        ⟨some 191, .call fid_delta_Read [(.t 186), (.t 187), (.t 188), (.t 190)], none, none⟩,
        ⟨some 185, .mov (.t 191), none, none⟩,
        ⟨some 192, .extract (.t 185) 0, none, none⟩,
        ⟨some 193, .extract (.t 185) 1, none, none⟩,
        ⟨some 43, .mov (.t 192), none, none⟩,
        ⟨some 44, .mov (.t 193), none, none⟩])
    (.seq (.reg [⟨some 195, .mov (.t 38), none, none⟩,
        ⟨some 196, .mov (.t 42), none, none⟩,
        ⟨some 197, .mov (.t 40), none, none⟩,
        ⟨some 198, .faddr 0 (.t 25), none, none⟩,
        ⟨some 199, .load 1 false (.t 198), none, none⟩,
        ⟨some 200, .call fid_archipelagoref15_DeltaRead [(.t 195), (.t 196), (.t 197), (.t 199)], none, none⟩,
        ⟨some 194, .mov (.t 200), none, none⟩,
        ⟨some 201, .extract (.t 194) 0, none, none⟩,
        ⟨some 202, .extract (.t 194) 1, none, none⟩,
        ⟨some 45, .mov (.t 201), none, none⟩,
        ⟨some 46, .mov (.t 202), none, none⟩])
    (.seq (.reg [⟨some 204, .mov (.t 38), none, none⟩,
        ⟨some 205, .mov (.t 42), none, none⟩,
        ⟨some 206, .mov (.t 40), none, none⟩,
        ⟨some 207, .mov (.t 10), none, none⟩,
        ⟨some 208, .call fid_delta_Read [(.t 204), (.t 205), (.t 206), (.t 207)], none, none⟩,
        ⟨some 203, .mov (.t 208), none, none⟩,
        ⟨some 209, .extract (.t 203) 0, none, none⟩,
        ⟨some 210, .extract (.t 203) 1, none, none⟩,
        ⟨some 47, .mov (.t 209), none, none⟩,
        ⟨some 48, .mov (.t 210), none, none⟩])
    (.seq (.reg [⟨some 212, .mov (.t 38), none, none⟩,
        ⟨some 213, .mov (.t 42), none, none⟩,
        ⟨some 214, .mov (.t 40), none, none⟩,
        ⟨some 215, .mov (.t 10), none, none⟩,
        ⟨some 216, .call fid_archipelagoref15_DeltaRead [(.t 212), (.t 213), (.t 214), (.t 215)], none, none⟩,
        ⟨some 211, .mov (.t 216), none, none⟩,
        ⟨some 217, .extract (.t 211) 0, none, none⟩,
        ⟨some 218, .extract (.t 211) 1, none, none⟩,
        ⟨some 49, .mov (.t 217), none, none⟩,
        ⟨some 50, .mov (.t 218), none, none⟩])
    (.seq (.reg [⟨some 219, .mov (.t 44), none, none⟩,
        ⟨some 220, .mov (.t 46), none, none⟩,
        ⟨some 221, .bin .neq (.t 219) (.t 220), none, none⟩,
        ⟨some 222, .mov (.t 221), none, none⟩,
        ⟨some 223, .mov (.t 43), (some (222, false)), none⟩,
        ⟨some 224, .mov (.t 45), (some (222, false)), none⟩,
        ⟨some 225, .call fid_archipelagoref8_SameEvents [(.t 223), (.t 224)], (some (222, false)), none⟩,
        ⟨some 226, .un .not (.t 225), (some (222, false)), none⟩,
        ⟨some 227, .pick (.t 222) (.c (.bool true)) (.t 226), none, none⟩,
        ⟨some 228, .mov (.t 227), none, none⟩,
        ⟨some 229, .mov (.t 48), (some (228, false)), none⟩,
        ⟨some 230, .mov (.t 50), (some (228, false)), none⟩,
        ⟨some 231, .bin .neq (.t 229) (.t 230), (some (228, false)), none⟩,
        ⟨some 232, .pick (.t 228) (.c (.bool true)) (.t 231), none, none⟩,
        ⟨some 233, .mov (.t 232), none, none⟩,
        ⟨some 234, .mov (.t 47), (some (233, false)), none⟩,
        ⟨some 235, .mov (.t 49), (some (233, false)), none⟩,
        ⟨some 236, .call fid_archipelagoref8_SameEvents [(.t 234), (.t 235)], (some (233, false)), none⟩,
        ⟨some 237, .un .not (.t 236), (some (233, false)), none⟩,
        ⟨some 238, .pick (.t 233) (.c (.bool true)) (.t 237), none, none⟩])
    (.cond (.t 238)
    (.seq (.reg [⟨some 24, .mov (.c (.bool false)), none, none⟩])
      (.ret))
    (.skip)))))))))
  (.reg [⟨some 239, .bin .add (.t 181) (.c (.int .i64 1)), none, none⟩,
      ⟨some 181, .mov (.t 239), none, none⟩]))))
def archipelagolaw16_DeltaTells_b3 : IC :=
  (.seq (.reg [⟨some 174, .bin .lss (.t 173) (.t 172), none, none⟩])
  (.seq (.cond (.t 174)
  (.skip)
  (.exit 6))
  (.seq (.block 7
  (.seq (.reg [⟨some 175, .iaddr 1 (.t 171) (.t 173), none, none⟩,
        ⟨some 176, .load 1 false (.t 175), none, none⟩,
        ⟨some 40, .mov (.t 176), none, none⟩])
    (.seq (.reg [⟨some 177, .mov (.t 26), none, none⟩,
        ⟨some 178, .mov (.t 8), none, none⟩,
        ⟨some 179, .mkrow 1 2 [(.int .i64 0)] [(0, (.t 177)), (1, (.t 178))], none, none⟩,
        ⟨some 180, .len .sl (.t 179), none, none⟩,
        ⟨some 181, .mov (.c (.int .i64 0)), none, none⟩])
    (.block 8
    (.loop [6, 8, 9, 10, 25, 26, 38, 40, 154, 155, 156, 171, 172, 173, 179, 180, 181] archipelagolaw16_DeltaTells_b2)))))
  (.reg [⟨some 240, .bin .add (.t 173) (.c (.int .i64 1)), none, none⟩,
      ⟨some 173, .mov (.t 240), none, none⟩]))))
def archipelagolaw16_DeltaTells_b4 : IC :=
  (.seq (.reg [⟨some 157, .bin .lss (.t 156) (.t 155), none, none⟩])
  (.seq (.cond (.t 157)
  (.skip)
  (.exit 4))
  (.seq (.block 5
  (.seq (.reg [⟨some 158, .iaddr 1 (.t 154) (.t 156), none, none⟩,
        ⟨some 159, .load 1 false (.t 158), none, none⟩,
        ⟨some 38, .mov (.t 159), none, none⟩])
    (.seq (.reg [⟨some 160, .mov (.t 9), none, none⟩,
        ⟨some 161, .faddr 1 (.t 25), none, none⟩,
        ⟨some 162, .load 1 false (.t 161), none, none⟩,
        ⟨some 163, .len .sl (.t 162), none, none⟩,
        ⟨some 164, .faddr 1 (.t 25), none, none⟩,
        ⟨some 165, .load 1 false (.t 164), none, none⟩,
        ⟨some 166, .len .sl (.t 165), none, none⟩,
        ⟨some 167, .bin .add (.t 166) (.c (.int .i64 1)), none, none⟩,
        ⟨some 168, .mov (.t 6), none, none⟩,
        ⟨some 169, .bin .rem (.t 168) (.c (.int .u8 5)), none, none⟩,
        ⟨some 170, .conv .i64 (.t 169), none, none⟩,
        ⟨some 171, .mkrow 1 4 [(.int .i64 0)] [(0, (.t 160)), (1, (.t 163)), (2, (.t 167)), (3, (.t 170))], none, none⟩,
        ⟨some 172, .len .sl (.t 171), none, none⟩,
        ⟨some 173, .mov (.c (.int .i64 0)), none, none⟩])
    (.block 6
    (.loop [6, 8, 9, 10, 25, 26, 38, 154, 155, 156, 171, 172, 173] archipelagolaw16_DeltaTells_b3)))))
  (.reg [⟨some 241, .bin .add (.t 156) (.c (.int .i64 1)), none, none⟩,
      ⟨some 156, .mov (.t 241), none, none⟩]))))
def ir_archipelagolaw16_DeltaTells : IFn :=
  { params := 12, results := [.tmp 24], body :=
  (.seq (.reg [⟨some 24, .mov (.c (.bool false)), none, none⟩])
  (.seq (.seq (.reg [⟨some 51, .call fid_archipelagolaw16_known [], none, none⟩,
      ⟨some 52, .un .not (.t 51), none, none⟩])
  (.cond (.t 52)
  (.seq (.reg [⟨some 24, .mov (.c (.bool false)), none, none⟩])
    (.ret))
  (.skip)))
  (.seq (.seq (.reg [⟨some 53, .mov (.t 0), none, none⟩,
      ⟨some 54, .len .sl (.t 53), none, none⟩,
      ⟨some 55, .bin .gtr (.t 54) (.c (.int .i64 20)), none, none⟩,
      ⟨some 56, .mov (.t 55), none, none⟩,
      ⟨some 57, .mov (.t 2), (some (56, false)), none⟩,
      ⟨some 58, .len .sl (.t 57), (some (56, false)), none⟩,
      ⟨some 59, .bin .gtr (.t 58) (.c (.int .i64 60)), (some (56, false)), none⟩,
      ⟨some 60, .pick (.t 56) (.c (.bool true)) (.t 59), none, none⟩,
      ⟨some 61, .mov (.t 60), none, none⟩,
      ⟨some 62, .mov (.t 3), (some (61, false)), none⟩,
      ⟨some 63, .len .sl (.t 62), (some (61, false)), none⟩,
      ⟨some 64, .bin .gtr (.t 63) (.c (.int .i64 60)), (some (61, false)), none⟩,
      ⟨some 65, .pick (.t 61) (.c (.bool true)) (.t 64), none, none⟩,
      ⟨some 66, .mov (.t 65), none, none⟩,
      ⟨some 67, .mov (.t 7), (some (66, false)), none⟩,
      ⟨some 68, .len .sl (.t 67), (some (66, false)), none⟩,
      ⟨some 69, .bin .gtr (.t 68) (.c (.int .i64 8)), (some (66, false)), none⟩,
      ⟨some 70, .pick (.t 66) (.c (.bool true)) (.t 69), none, none⟩,
      ⟨some 71, .mov (.t 70), none, none⟩,
      ⟨some 72, .mov (.t 9), (some (71, false)), none⟩,
      ⟨some 73, .bin .gtr (.t 72) (.c (.int .i64 100)), (some (71, false)), none⟩,
      ⟨some 74, .pick (.t 71) (.c (.bool true)) (.t 73), none, none⟩])
  (.cond (.t 74)
  (.seq (.reg [⟨some 24, .mov (.c (.bool true)), none, none⟩])
    (.ret))
  (.skip)))
  (.seq (.reg [⟨some 75, .mov (.t 1), none, none⟩,
      ⟨some 76, .mov (.t 2), none, none⟩,
      ⟨some 77, .call fid_archipelagoseat_History [(.t 75), (.t 76)], none, none⟩,
      ⟨some 25, .box (.c (.agg [(.int .u64 0), .nils])), none, none⟩,
      ⟨none, .store 2 (.t 25) (.t 77), none, none⟩])
  (.seq (.seq (.reg [⟨some 78, .mov (.t 11), none, none⟩])
  (.cond (.t 78)
  (.reg [⟨some 79, .load 2 true (.t 25), none, none⟩,
        ⟨some 80, .call fid_archipelagoseat_Late [(.t 79)], none, none⟩,
        ⟨none, .store 2 (.t 25) (.t 80), none, none⟩])
  (.skip)))
  (.seq (.reg [⟨some 81, .mov (.t 8), none, none⟩,
      ⟨some 26, .mov (.t 81), none, none⟩])
  (.seq (.seq (.reg [⟨some 82, .faddr 1 (.t 25), none, none⟩,
      ⟨some 83, .load 1 false (.t 82), none, none⟩,
      ⟨some 84, .len .sl (.t 83), none, none⟩,
      ⟨some 85, .bin .gtr (.t 84) (.c (.int .i64 0)), none, none⟩])
  (.cond (.t 85)
  (.reg [⟨some 86, .faddr 1 (.t 25), none, none⟩,
        ⟨some 87, .load 1 false (.t 86), none, none⟩,
        ⟨some 88, .iaddr 4 (.t 87) (.c (.int .i64 0)), none, none⟩,
        ⟨some 89, .faddr 0 (.t 88), none, none⟩,
        ⟨some 90, .load 1 false (.t 89), none, none⟩,
        ⟨some 26, .mov (.t 90), none, none⟩])
  (.skip)))
  (.seq (.reg [⟨some 92, .mov (.t 26), none, none⟩,
      ⟨some 93, .faddr 1 (.t 25), none, none⟩,
      ⟨some 94, .load 1 false (.t 93), none, none⟩,
      ⟨some 95, .call fid_archipelagoref15_DeltaPut [(.t 92), (.t 94)], none, none⟩,
      ⟨some 91, .mov (.t 95), none, none⟩,
      ⟨some 96, .extract (.t 91) 0, none, none⟩,
      ⟨some 97, .extract (.t 91) 1, none, none⟩,
      ⟨some 27, .mov (.t 96), none, none⟩,
      ⟨some 28, .mov (.t 97), none, none⟩])
  (.seq (.seq (.regD [3, 4, 5, 6, 7, 0, 1, 2, 8, 9, 10] [⟨some 101, .faddr 1 (.t 25), none, none⟩,
      ⟨some 102, .load 1 false (.t 101), none, none⟩,
      ⟨some 103, .append 4 24 (.c .nils) (.t 102), none, none⟩,
      ⟨some 104, .mov (.t 0), none, none⟩,
      ⟨some 105, .append 4 24 (.t 103) (.t 104), none, none⟩,
      ⟨some 98, .mov (.t 0), none, none⟩,
      ⟨some 99, .faddr 1 (.t 25), none, none⟩,
      ⟨some 100, .load 1 false (.t 99), none, some (0, 2)⟩,
      ⟨some 106, .mkrow 1 3 [.nils] [(0, (.t 98)), (1, (.t 100)), (2, (.t 105))], none, none⟩,
      ⟨some 107, .len .sl (.t 106), none, none⟩,
      ⟨some 108, .mov (.c (.int .i64 0)), none, none⟩])
  (.block 0
  (.loop [3, 4, 5, 6, 7, 8, 9, 10, 25, 26, 27, 106, 107, 108] archipelagolaw16_DeltaTells_b1)))
  (.seq (.seq (.reg [⟨some 146, .mov (.t 3), none, none⟩,
      ⟨some 147, .mov (.t 27), none, none⟩,
      ⟨some 148, .mov (.t 27), none, none⟩,
      ⟨some 149, .mov (.t 4), none, none⟩,
      ⟨some 150, .mov (.t 5), none, none⟩,
      ⟨some 151, .mov (.t 6), none, none⟩,
      ⟨some 152, .mov (.t 7), none, none⟩,
      ⟨some 153, .call fid_archipelagoseat_Change [(.t 148), (.t 149), (.t 150), (.t 151), (.t 152)], none, none⟩,
      ⟨some 154, .mkrow 1 3 [.nils] [(0, (.t 146)), (1, (.t 147)), (2, (.t 153))], none, none⟩,
      ⟨some 155, .len .sl (.t 154), none, none⟩,
      ⟨some 156, .mov (.c (.int .i64 0)), none, none⟩])
  (.block 4
  (.loop [6, 8, 9, 10, 25, 26, 154, 155, 156] archipelagolaw16_DeltaTells_b4)))
  (.seq (.reg [⟨some 24, .mov (.c (.bool true)), none, none⟩])
  (.ret)))))))))))) }
def ir_archipelagolaw16_DeltaBack : IFn :=
  { params := 4, results := [.tmp 8], body :=
  (.seq (.reg [⟨some 8, .mov (.c (.bool false)), none, none⟩])
  (.seq (.seq (.reg [⟨some 22, .call fid_archipelagolaw16_known [], none, none⟩,
      ⟨some 23, .un .not (.t 22), none, none⟩])
  (.cond (.t 23)
  (.seq (.reg [⟨some 8, .mov (.c (.bool false)), none, none⟩])
    (.ret))
  (.skip)))
  (.seq (.seq (.reg [⟨some 24, .mov (.t 1), none, none⟩,
      ⟨some 25, .len .sl (.t 24), none, none⟩,
      ⟨some 26, .bin .gtr (.t 25) (.c (.int .i64 90)), none, none⟩])
  (.cond (.t 26)
  (.seq (.reg [⟨some 8, .mov (.c (.bool true)), none, none⟩])
    (.ret))
  (.skip)))
  (.seq (.reg [⟨some 27, .mov (.t 0), none, none⟩,
      ⟨some 28, .mov (.t 1), none, none⟩,
      ⟨some 29, .call fid_archipelagoseat_History [(.t 27), (.t 28)], none, none⟩,
      ⟨some 9, .box (.c (.agg [(.int .u64 0), .nils])), none, none⟩,
      ⟨none, .store 2 (.t 9) (.t 29), none, none⟩])
  (.seq (.seq (.reg [⟨some 30, .mov (.t 2), none, none⟩])
  (.cond (.t 30)
  (.reg [⟨some 31, .load 2 true (.t 9), none, none⟩,
        ⟨some 32, .call fid_archipelagoseat_Late [(.t 31)], none, none⟩,
        ⟨none, .store 2 (.t 9) (.t 32), none, none⟩])
  (.skip)))
  (.seq (.reg [⟨some 33, .faddr 1 (.t 9), none, none⟩,
      ⟨some 34, .load 1 false (.t 33), none, none⟩,
      ⟨some 35, .len .sl (.t 34), none, none⟩,
      ⟨some 10, .mov (.t 35), none, none⟩])
  (.seq (.seq (.reg [⟨some 36, .mov (.t 10), none, none⟩,
      ⟨some 37, .bin .eql (.t 36) (.c (.int .i64 0)), none, none⟩])
  (.cond (.t 37)
  (.seq (.reg [⟨some 39, .call fid_delta_Put [(.c (.int .i64 0)), (.c .nils)], none, none⟩,
        ⟨some 38, .mov (.t 39), none, none⟩,
        ⟨some 40, .extract (.t 38) 0, none, none⟩,
        ⟨some 41, .extract (.t 38) 1, none, none⟩,
        ⟨some 11, .mov (.t 40), none, none⟩,
        ⟨some 12, .mov (.t 41), none, none⟩])
    (.seq (.reg [⟨some 42, .mov (.t 12), none, none⟩,
        ⟨some 43, .bin .eql (.t 42) (.c (.int .i64 0)), none, none⟩,
        ⟨some 44, .mov (.t 43), none, none⟩,
        ⟨some 45, .mov (.t 11), (some (44, true)), none⟩,
        ⟨some 46, .len .sl (.t 45), (some (44, true)), none⟩,
        ⟨some 47, .bin .eql (.t 46) (.c (.int .i64 0)), (some (44, true)), none⟩,
        ⟨some 48, .pick (.t 44) (.t 47) (.c (.bool false)), none, none⟩,
        ⟨some 8, .mov (.t 48), none, none⟩])
    (.ret)))
  (.skip)))
  (.seq (.reg [⟨some 49, .faddr 1 (.t 9), none, none⟩,
      ⟨some 50, .load 1 false (.t 49), none, none⟩,
      ⟨some 51, .iaddr 4 (.t 50) (.c (.int .i64 0)), none, none⟩,
      ⟨some 52, .faddr 0 (.t 51), none, none⟩,
      ⟨some 53, .load 1 false (.t 52), none, none⟩,
      ⟨some 13, .mov (.t 53), none, none⟩])
  (.seq (.reg [⟨some 55, .mov (.t 13), none, none⟩,
      ⟨some 56, .faddr 1 (.t 9), none, none⟩,
      ⟨some 57, .load 1 false (.t 56), none, none⟩,
      ⟨some 58, .call fid_delta_Put [(.t 55), (.t 57)], none, none⟩,
      ⟨some 54, .mov (.t 58), none, none⟩,
      ⟨some 59, .extract (.t 54) 0, none, none⟩,
      ⟨some 60, .extract (.t 54) 1, none, none⟩,
      ⟨some 14, .mov (.t 59), none, none⟩,
      ⟨some 15, .mov (.t 60), none, none⟩])
  (.seq (.reg [⟨some 62, .mov (.t 14), none, none⟩,
      ⟨some 63, .mov (.t 13), none, none⟩,
      ⟨some 64, .mov (.t 10), none, none⟩,
      ⟨some 65, .faddr 0 (.t 9), none, none⟩,
      ⟨some 66, .load 1 false (.t 65), none, none⟩,
      ⟨some 67, .call fid_delta_Read [(.t 62), (.t 63), (.t 64), (.t 66)], none, none⟩,
      ⟨some 61, .mov (.t 67), none, none⟩,
      ⟨some 68, .extract (.t 61) 0, none, none⟩,
      ⟨some 69, .extract (.t 61) 1, none, none⟩,
      ⟨some 16, .mov (.t 68), none, none⟩,
      ⟨some 17, .mov (.t 69), none, none⟩])
  (.seq (.reg [⟨some 71, .mov (.t 14), none, none⟩,
      ⟨some 72, .mov (.t 13), none, none⟩,
      ⟨some 73, .mov (.t 10), none, none⟩,
      ⟨some 74, .bin .add (.t 73) (.c (.int .i64 1)), none, none⟩,
      ⟨some 75, .mov (.t 3), none, none⟩,
      ⟨some 76, .bin .rem (.t 75) (.c (.int .u8 3)), none, none⟩,
      ⟨some 77, .conv .i64 (.t 76), none, none⟩,
      ⟨some 78, .bin .add (.t 74) (.t 77), none, none⟩,
      ⟨some 79, .faddr 0 (.t 9), none, none⟩,
      ⟨some 80, .load 1 false (.t 79), none, none⟩,
      ⟨some 81, .call fid_delta_Read [(.t 71), (.t 72), (.t 78), (.t 80)], none, none⟩,
      ⟨some 70, .mov (.t 81), none, none⟩,
      ⟨some 82, .extract (.t 70) 0, none, none⟩,
      ⟨some 83, .extract (.t 70) 1, none, none⟩,
      ⟨some 18, .mov (.t 82), none, none⟩,
      ⟨some 19, .mov (.t 83), none, none⟩])
  (.seq (.reg [⟨some 85, .mov (.t 14), none, none⟩,
      ⟨some 86, .mov (.t 13), none, none⟩,
      ⟨some 87, .faddr 0 (.t 9), none, none⟩,
      ⟨some 88, .load 1 false (.t 87), none, none⟩,
      ⟨some 89, .call fid_delta_Read [(.t 85), (.t 86), (.c (.int .i64 (-1))), (.t 88)], none, none⟩,
      ⟨some 84, .mov (.t 89), none, none⟩,
      ⟨some 90, .extract (.t 84) 0, none, none⟩,
      ⟨some 91, .extract (.t 84) 1, none, none⟩,
      ⟨some 20, .mov (.t 90), none, none⟩,
      ⟨some 21, .mov (.t 91), none, none⟩])
  (.seq (.reg [⟨some 92, .mov (.t 15), none, none⟩,
      ⟨some 93, .bin .eql (.t 92) (.c (.int .i64 0)), none, none⟩,
      ⟨some 94, .mov (.t 93), none, none⟩,
      ⟨some 95, .mov (.t 17), (some (94, true)), none⟩,
      ⟨some 96, .bin .eql (.t 95) (.c (.int .i64 0)), (some (94, true)), none⟩,
      ⟨some 97, .pick (.t 94) (.t 96) (.c (.bool false)), none, none⟩,
      ⟨some 98, .mov (.t 97), none, none⟩,
      ⟨some 99, .mov (.t 16), (some (98, true)), none⟩,
      ⟨some 100, .faddr 1 (.t 9), (some (98, true)), none⟩,
      ⟨some 101, .load 1 false (.t 100), (some (98, true)), none⟩,
      ⟨some 102, .call fid_archipelagoref8_SameEvents [(.t 99), (.t 101)], (some (98, true)), none⟩,
      ⟨some 103, .pick (.t 98) (.t 102) (.c (.bool false)), none, none⟩,
      ⟨some 104, .mov (.t 103), none, none⟩,
      ⟨some 105, .mov (.t 19), (some (104, true)), none⟩,
      ⟨some 106, .bin .eql (.t 105) (.c (.int .i64 21)), (some (104, true)), none⟩,
      ⟨some 107, .pick (.t 104) (.t 106) (.c (.bool false)), none, none⟩,
      ⟨some 108, .mov (.t 107), none, none⟩,
      ⟨some 109, .mov (.t 21), (some (108, true)), none⟩,
      ⟨some 110, .bin .eql (.t 109) (.c (.int .i64 21)), (some (108, true)), none⟩,
      ⟨some 111, .pick (.t 108) (.t 110) (.c (.bool false)), none, none⟩,
      ⟨some 112, .mov (.t 111), none, none⟩,
      ⟨some 113, .mov (.t 14), (some (112, true)), none⟩,
      ⟨some 114, .len .sl (.t 113), (some (112, true)), none⟩,
      ⟨some 115, .bin .gtr (.t 114) (.c (.int .i64 0)), (some (112, true)), none⟩,
      ⟨some 116, .pick (.t 112) (.t 115) (.c (.bool false)), none, none⟩,
      ⟨some 8, .mov (.t 116), none, none⟩])
  (.ret)))))))))))))) }
def ir_archipelagoref1_GammaSize : IFn :=
  { params := 1, results := [.tmp 2], body :=
  (.seq (.reg [⟨some 2, .mov (.c (.int .i64 0)), none, none⟩])
  (.seq (.reg [⟨some 3, .mov (.t 0), none, none⟩,
      ⟨some 4, .call fid_archipelagoref1_length [(.t 3)], none, none⟩,
      ⟨some 5, .bin .mul (.c (.int .i64 2)) (.t 4), none, none⟩,
      ⟨some 6, .bin .sub (.t 5) (.c (.int .i64 1)), none, none⟩,
      ⟨some 7, .minmax false [(.t 6), (.c (.int .i64 0))], none, none⟩,
      ⟨some 2, .mov (.t 7), none, none⟩])
  (.ret))) }
def ir_archipelagolaw16_DeltaSizes : IFn :=
  { params := 5, results := [.tmp 10], body :=
  (.seq (.reg [⟨some 10, .mov (.c (.bool false)), none, none⟩])
  (.seq (.seq (.reg [⟨some 20, .call fid_archipelagolaw16_known [], none, none⟩,
      ⟨some 21, .un .not (.t 20), none, none⟩])
  (.cond (.t 21)
  (.seq (.reg [⟨some 10, .mov (.c (.bool false)), none, none⟩])
    (.ret))
  (.skip)))
  (.seq (.reg [⟨some 22, .build [(.int .u32 0), (.int .u32 0)] [(0, 1, (.c (.int .u32 3))), (1, 1, (.c (.int .u32 7)))], none, none⟩,
      ⟨some 23, .build [(.int .i64 0), (.int .u32 0), (.int .u32 0), (.bool false)] [(0, 1, (.c (.int .i64 9))), (1, 2, (.t 22)), (3, 1, (.c (.bool true)))], none, none⟩,
      ⟨some 11, .box (.c (.agg [(.int .i64 0), (.int .u32 0), (.int .u32 0), (.bool false)])), none, none⟩,
      ⟨none, .store 4 (.t 11) (.t 23), none, none⟩])
  (.seq (.reg [⟨some 24, .mov (.t 0), none, none⟩,
      ⟨some 25, .conv .u32 (.t 24), none, none⟩,
      ⟨some 26, .mov (.t 0), none, none⟩,
      ⟨some 27, .conv .u32 (.t 26), none, none⟩,
      ⟨some 28, .bin .add (.t 27) (.c (.int .u32 1)), none, none⟩,
      ⟨some 29, .mov (.t 1), none, none⟩,
      ⟨some 30, .conv .u32 (.t 29), none, none⟩,
      ⟨some 31, .bin .add (.t 28) (.t 30), none, none⟩,
      ⟨some 32, .build [(.int .u32 0), (.int .u32 0)] [(0, 1, (.t 25)), (1, 1, (.t 31))], none, none⟩,
      ⟨some 12, .box (.c (.agg [(.int .u32 0), (.int .u32 0)])), none, none⟩,
      ⟨none, .store 2 (.t 12) (.t 32), none, none⟩])
  (.seq (.reg [⟨some 33, .load 2 true (.t 12), none, none⟩,
      ⟨some 34, .mov (.t 4), none, none⟩,
      ⟨some 35, .build [(.int .i64 0), (.int .u32 0), (.int .u32 0), (.bool false)] [(0, 1, (.c (.int .i64 9))), (1, 2, (.t 33)), (3, 1, (.t 34))], none, none⟩,
      ⟨some 13, .box (.c (.agg [(.int .i64 0), (.int .u32 0), (.int .u32 0), (.bool false)])), none, none⟩,
      ⟨none, .store 4 (.t 13) (.t 35), none, none⟩])
  (.seq (.seq (.reg [⟨some 36, .mov (.t 3), none, none⟩,
      ⟨some 37, .un .not (.t 36), none, none⟩])
  (.cond (.t 37)
  (.reg [⟨some 38, .mov (.t 2), none, none⟩,
        ⟨some 39, .conv .i64 (.t 38), none, none⟩,
        ⟨some 40, .bin .add (.c (.int .i64 10)) (.t 39), none, none⟩,
        ⟨some 41, .faddr 0 (.t 13), none, none⟩,
        ⟨none, .store 1 (.t 41) (.t 40), none, none⟩])
  (.seq (.reg [⟨some 42, .faddr 1 (.t 11), none, none⟩,
        ⟨some 43, .load 2 true (.t 42), none, none⟩,
        ⟨some 44, .load 2 true (.t 12), none, none⟩,
        ⟨some 45, .call fid_archipelagoref8_Less [(.t 43), (.t 44)], none, none⟩,
        ⟨some 46, .un .not (.t 45), none, none⟩])
    (.cond (.t 46)
    (.seq (.reg [⟨some 10, .mov (.c (.bool true)), none, none⟩])
      (.ret))
    (.skip)))))
  (.seq (.reg [⟨some 48, .load 4 true (.t 11), none, none⟩,
      ⟨some 49, .mkrow 4 1 [(.int .i64 0), (.int .u32 0), (.int .u32 0), (.bool false)] [(0, (.t 48))], none, none⟩,
      ⟨some 50, .call fid_delta_Put [(.c (.int .i64 9)), (.t 49)], none, none⟩,
      ⟨some 47, .mov (.t 50), none, none⟩,
      ⟨some 51, .extract (.t 47) 0, none, none⟩,
      ⟨some 52, .extract (.t 47) 1, none, none⟩,
      ⟨some 14, .mov (.t 51), none, none⟩,
      ⟨some 15, .mov (.t 52), none, none⟩])
  (.seq (.reg [⟨some 54, .load 4 true (.t 11), none, none⟩,
      ⟨some 55, .load 4 true (.t 13), none, none⟩,
      ⟨some 56, .mkrow 4 2 [(.int .i64 0), (.int .u32 0), (.int .u32 0), (.bool false)] [(0, (.t 54)), (1, (.t 55))], none, none⟩,
      ⟨some 57, .call fid_delta_Put [(.c (.int .i64 9)), (.t 56)], none, none⟩,
      ⟨some 53, .mov (.t 57), none, none⟩,
      ⟨some 58, .extract (.t 53) 0, none, none⟩,
      ⟨some 59, .extract (.t 53) 1, none, none⟩,
      ⟨some 16, .mov (.t 58), none, none⟩,
      ⟨some 17, .mov (.t 59), none, none⟩])
  (.seq (.reg [⟨some 18, .mov (.c (.int .i64 12)), none, none⟩])
  (.seq (.reg [⟨some 60, .mov (.t 18), none, none⟩,
      ⟨some 61, .faddr 0 (.t 13), none, none⟩,
      ⟨some 62, .load 1 false (.t 61), none, none⟩,
      ⟨some 63, .bin .sub (.t 62) (.c (.int .i64 9)), none, none⟩,
      ⟨some 64, .conv .u64 (.t 63), none, none⟩,
      ⟨some 65, .bin .add (.t 64) (.c (.int .u64 1)), none, none⟩,
      ⟨some 66, .call fid_archipelagoref1_GammaSize [(.t 65)], none, none⟩,
      ⟨some 67, .bin .add (.t 60) (.t 66), none, none⟩,
      ⟨some 68, .bin .add (.t 67) (.c (.int .i64 1)), none, none⟩,
      ⟨some 19, .mov (.t 68), none, none⟩])
  (.seq (.block 0
  (.seq (.reg [⟨some 86, .mov (.t 3), none, none⟩,
        ⟨some 87, .un .not (.t 86), none, none⟩,
        ⟨some 85, .mov (.t 87), none, none⟩])
    (.cond (.t 85)
    (.regD [1, 2, 3, 4, 5, 6, 7, 8, 9, 10, 11, 12, 0, 13, 14, 15] [⟨some 89, .faddr 0 (.t 12), none, none⟩,
          ⟨some 90, .load 1 false (.t 89), none, none⟩,
          ⟨some 91, .conv .u64 (.t 90), none, none⟩,
          ⟨some 92, .bin .add (.t 91) (.c (.int .u64 1)), none, none⟩,
          ⟨some 93, .call fid_archipelagoref1_GammaSize [(.t 92)], none, none⟩,
          ⟨some 94, .faddr 1 (.t 12), none, none⟩,
          ⟨some 95, .load 1 false (.t 94), none, some (0, 1)⟩,
          ⟨some 96, .faddr 0 (.t 12), none, none⟩,
          ⟨some 97, .load 1 false (.t 96), none, some (0, 1)⟩,
          ⟨some 98, .bin .sub (.t 95) (.t 97), none, none⟩,
          ⟨some 99, .conv .u64 (.t 98), none, none⟩,
          ⟨some 100, .call fid_archipelagoref1_GammaSize [(.t 99)], none, none⟩,
          ⟨some 88, .mov (.t 19), none, none⟩,
          ⟨some 101, .bin .add (.t 93) (.t 100), none, none⟩,
          ⟨some 102, .bin .add (.t 88) (.t 101), none, none⟩,
          ⟨some 19, .mov (.t 102), none, none⟩])
    (.seq (.reg [⟨some 104, .faddr 0 (.t 12), none, none⟩,
          ⟨some 105, .load 1 false (.t 104), none, none⟩,
          ⟨some 106, .bin .eql (.t 105) (.c (.int .u32 3)), none, none⟩,
          ⟨some 103, .mov (.t 106), none, none⟩])
      (.cond (.t 103)
      (.reg [⟨some 107, .mov (.t 19), none, none⟩,
            ⟨some 108, .faddr 1 (.t 12), none, none⟩,
            ⟨some 109, .load 1 false (.t 108), none, none⟩,
            ⟨some 110, .bin .sub (.t 109) (.c (.int .u32 7)), none, none⟩,
            ⟨some 111, .conv .u64 (.t 110), none, none⟩,
            ⟨some 112, .call fid_archipelagoref1_GammaSize [(.t 111)], none, none⟩,
            ⟨some 113, .bin .add (.c (.int .i64 1)) (.t 112), none, none⟩,
            ⟨some 114, .bin .add (.t 107) (.t 113), none, none⟩,
            ⟨some 19, .mov (.t 114), none, none⟩])
      (.regD [1, 2, 3, 4, 5, 6, 7, 8, 9, 10, 11, 12, 13, 0, 14, 15, 16] [⟨some 70, .faddr 0 (.t 12), none, none⟩,
            ⟨some 71, .load 1 false (.t 70), none, none⟩,
            ⟨some 72, .bin .sub (.t 71) (.c (.int .u32 3)), none, none⟩,
            ⟨some 73, .conv .u64 (.t 72), none, none⟩,
            ⟨some 74, .bin .add (.t 73) (.c (.int .u64 1)), none, none⟩,
            ⟨some 75, .call fid_archipelagoref1_GammaSize [(.t 74)], none, none⟩,
            ⟨some 76, .faddr 1 (.t 12), none, none⟩,
            ⟨some 77, .load 1 false (.t 76), none, some (0, 1)⟩,
            ⟨some 78, .faddr 0 (.t 12), none, none⟩,
            ⟨some 79, .load 1 false (.t 78), none, some (0, 1)⟩,
            ⟨some 80, .bin .sub (.t 77) (.t 79), none, none⟩,
            ⟨some 81, .conv .u64 (.t 80), none, none⟩,
            ⟨some 82, .call fid_archipelagoref1_GammaSize [(.t 81)], none, none⟩,
            ⟨some 69, .mov (.t 19), none, none⟩,
            ⟨some 83, .bin .add (.t 75) (.t 82), none, none⟩,
            ⟨some 84, .bin .add (.t 69) (.t 83), none, none⟩,
            ⟨some 19, .mov (.t 84), none, none⟩]))))))
  (.seq (.reg [⟨some 115, .mov (.t 17), none, none⟩,
      ⟨some 116, .bin .eql (.t 115) (.c (.int .i64 0)), none, none⟩,
      ⟨some 117, .mov (.t 116), none, none⟩,
      ⟨some 118, .mov (.t 14), (some (117, true)), none⟩,
      ⟨some 119, .len .sl (.t 118), (some (117, true)), none⟩,
      ⟨some 120, .mov (.t 18), (some (117, true)), none⟩,
      ⟨some 121, .bin .add (.t 120) (.c (.int .i64 7)), (some (117, true)), none⟩,
      ⟨some 122, .bin .quo (.t 121) (.c (.int .i64 8)), (some (117, true)), none⟩,
      ⟨some 123, .bin .eql (.t 119) (.t 122), (some (117, true)), none⟩,
      ⟨some 124, .pick (.t 117) (.t 123) (.c (.bool false)), none, none⟩,
      ⟨some 125, .mov (.t 124), none, none⟩,
      ⟨some 126, .mov (.t 16), (some (125, true)), none⟩,
      ⟨some 127, .len .sl (.t 126), (some (125, true)), none⟩,
      ⟨some 128, .mov (.t 19), (some (125, true)), none⟩,
      ⟨some 129, .bin .add (.t 128) (.c (.int .i64 7)), (some (125, true)), none⟩,
      ⟨some 130, .bin .quo (.t 129) (.c (.int .i64 8)), (some (125, true)), none⟩,
      ⟨some 131, .bin .eql (.t 127) (.t 130), (some (125, true)), none⟩,
      ⟨some 132, .pick (.t 125) (.t 131) (.c (.bool false)), none, none⟩,
      ⟨some 10, .mov (.t 132), none, none⟩])
  (.ret))))))))))))) }
def archipelagolaw16_DeltaShifts_b0 : IC :=
  (.seq (.seq (.reg [⟨some 32, .mov (.t 9), none, none⟩,
      ⟨some 33, .mov (.t 8), none, none⟩,
      ⟨some 34, .len .sl (.t 33), none, none⟩,
      ⟨some 35, .bin .lss (.t 32) (.t 34), none, none⟩])
  (.cond (.t 35)
  (.skip)
  (.exit 0)))
  (.seq (.block 1
  (.reg [⟨some 38, .mov (.t 8), none, none⟩,
        ⟨some 39, .mov (.t 9), none, none⟩,
        ⟨some 40, .iaddr 4 (.t 38) (.t 39), none, none⟩,
        ⟨some 41, .faddr 0 (.t 40), none, none⟩,
        ⟨some 42, .load 1 false (.t 41), none, none⟩,
        ⟨some 43, .mov (.t 2), none, none⟩,
        ⟨some 44, .conv .i64 (.t 43), none, none⟩,
        ⟨some 45, .bin .add (.t 42) (.t 44), none, none⟩,
        ⟨some 46, .iaddr 4 (.t 38) (.t 39), none, none⟩,
        ⟨some 47, .faddr 0 (.t 46), none, none⟩,
        ⟨none, .store 1 (.t 47) (.t 45), none, none⟩]))
  (.reg [⟨some 36, .mov (.t 9), none, none⟩,
      ⟨some 37, .bin .add (.t 36) (.c (.int .i64 1)), none, none⟩,
      ⟨some 9, .mov (.t 37), none, none⟩])))
def ir_archipelagolaw16_DeltaShifts : IFn :=
  { params := 3, results := [.tmp 6], body :=
  (.seq (.reg [⟨some 6, .mov (.c (.bool false)), none, none⟩])
  (.seq (.seq (.reg [⟨some 17, .call fid_archipelagolaw16_known [], none, none⟩,
      ⟨some 18, .un .not (.t 17), none, none⟩])
  (.cond (.t 18)
  (.seq (.reg [⟨some 6, .mov (.c (.bool false)), none, none⟩])
    (.ret))
  (.skip)))
  (.seq (.seq (.reg [⟨some 19, .mov (.t 1), none, none⟩,
      ⟨some 20, .len .sl (.t 19), none, none⟩,
      ⟨some 21, .bin .gtr (.t 20) (.c (.int .i64 90)), none, none⟩])
  (.cond (.t 21)
  (.seq (.reg [⟨some 6, .mov (.c (.bool true)), none, none⟩])
    (.ret))
  (.skip)))
  (.seq (.reg [⟨some 22, .mov (.t 0), none, none⟩,
      ⟨some 23, .mov (.t 1), none, none⟩,
      ⟨some 24, .call fid_archipelagoseat_History [(.t 22), (.t 23)], none, none⟩,
      ⟨some 7, .box (.c (.agg [(.int .u64 0), .nils])), none, none⟩,
      ⟨none, .store 2 (.t 7) (.t 24), none, none⟩])
  (.seq (.seq (.reg [⟨some 25, .faddr 1 (.t 7), none, none⟩,
      ⟨some 26, .load 1 false (.t 25), none, none⟩,
      ⟨some 27, .len .sl (.t 26), none, none⟩,
      ⟨some 28, .bin .eql (.t 27) (.c (.int .i64 0)), none, none⟩])
  (.cond (.t 28)
  (.seq (.reg [⟨some 6, .mov (.c (.bool true)), none, none⟩])
    (.ret))
  (.skip)))
  (.seq (.reg [⟨some 29, .faddr 1 (.t 7), none, none⟩,
      ⟨some 30, .load 1 false (.t 29), none, none⟩,
      ⟨some 31, .append 4 24 (.c .nils) (.t 30), none, none⟩,
      ⟨some 8, .mov (.t 31), none, none⟩])
  (.seq (.seq (.reg [⟨some 9, .mov (.c (.int .i64 0)), none, none⟩])
  (.block 0
  (.loop [2, 7, 8, 9] archipelagolaw16_DeltaShifts_b0)))
  (.seq (.reg [⟨some 48, .faddr 1 (.t 7), none, none⟩,
      ⟨some 49, .load 1 false (.t 48), none, none⟩,
      ⟨some 50, .iaddr 4 (.t 49) (.c (.int .i64 0)), none, none⟩,
      ⟨some 51, .faddr 0 (.t 50), none, none⟩,
      ⟨some 52, .load 1 false (.t 51), none, none⟩,
      ⟨some 10, .mov (.t 52), none, none⟩])
  (.seq (.reg [⟨some 54, .mov (.t 10), none, none⟩,
      ⟨some 55, .faddr 1 (.t 7), none, none⟩,
      ⟨some 56, .load 1 false (.t 55), none, none⟩,
      ⟨some 57, .call fid_delta_Put [(.t 54), (.t 56)], none, none⟩,
      ⟨some 53, .mov (.t 57), none, none⟩,
      ⟨some 58, .extract (.t 53) 0, none, none⟩,
      ⟨some 59, .extract (.t 53) 1, none, none⟩,
      ⟨some 11, .mov (.t 58), none, none⟩,
      ⟨some 12, .mov (.t 59), none, none⟩])
  (.seq (.reg [⟨some 61, .mov (.t 10), none, none⟩,
      ⟨some 62, .mov (.t 2), none, none⟩,
      ⟨some 63, .conv .i64 (.t 62), none, none⟩,
      ⟨some 64, .bin .add (.t 61) (.t 63), none, none⟩,
      ⟨some 65, .mov (.t 8), none, none⟩,
      ⟨some 66, .call fid_delta_Put [(.t 64), (.t 65)], none, none⟩,
      ⟨some 60, .mov (.t 66), none, none⟩,
      ⟨some 67, .extract (.t 60) 0, none, none⟩,
      ⟨some 68, .extract (.t 60) 1, none, none⟩,
      ⟨some 13, .mov (.t 67), none, none⟩,
      ⟨some 14, .mov (.t 68), none, none⟩])
  (.seq (.reg [⟨some 70, .mov (.t 11), none, none⟩,
      ⟨some 71, .mov (.t 10), none, none⟩,
      ⟨some 72, .mov (.t 2), none, none⟩,
      ⟨some 73, .conv .i64 (.t 72), none, none⟩,
      ⟨some 74, .bin .add (.t 71) (.t 73), none, none⟩,
      ⟨some 75, .mov (.t 8), none, none⟩,
      ⟨some 76, .len .sl (.t 75), none, none⟩,
      ⟨some 77, .faddr 0 (.t 7), none, none⟩,
      ⟨some 78, .load 1 false (.t 77), none, none⟩,
      ⟨some 79, .call fid_delta_Read [(.t 70), (.t 74), (.t 76), (.t 78)], none, none⟩,
      ⟨some 69, .mov (.t 79), none, none⟩,
      ⟨some 80, .extract (.t 69) 0, none, none⟩,
      ⟨some 81, .extract (.t 69) 1, none, none⟩,
      ⟨some 15, .mov (.t 80), none, none⟩,
      ⟨some 16, .mov (.t 81), none, none⟩])
  (.seq (.reg [⟨some 82, .mov (.t 12), none, none⟩,
      ⟨some 83, .bin .eql (.t 82) (.c (.int .i64 0)), none, none⟩,
      ⟨some 84, .mov (.t 83), none, none⟩,
      ⟨some 85, .mov (.t 14), (some (84, true)), none⟩,
      ⟨some 86, .bin .eql (.t 85) (.c (.int .i64 0)), (some (84, true)), none⟩,
      ⟨some 87, .pick (.t 84) (.t 86) (.c (.bool false)), none, none⟩,
      ⟨some 88, .mov (.t 87), none, none⟩,
      ⟨some 89, .mov (.t 11), (some (88, true)), none⟩,
      ⟨some 90, .toStr (.t 89), (some (88, true)), none⟩,
      ⟨some 91, .mov (.t 13), (some (88, true)), none⟩,
      ⟨some 92, .toStr (.t 91), (some (88, true)), none⟩,
      ⟨some 93, .bin .eql (.t 90) (.t 92), (some (88, true)), none⟩,
      ⟨some 94, .pick (.t 88) (.t 93) (.c (.bool false)), none, none⟩,
      ⟨some 95, .mov (.t 94), none, none⟩,
      ⟨some 96, .mov (.t 16), (some (95, true)), none⟩,
      ⟨some 97, .bin .eql (.t 96) (.c (.int .i64 0)), (some (95, true)), none⟩,
      ⟨some 98, .pick (.t 95) (.t 97) (.c (.bool false)), none, none⟩,
      ⟨some 99, .mov (.t 98), none, none⟩,
      ⟨some 100, .mov (.t 8), (some (99, true)), none⟩,
      ⟨some 101, .mov (.t 15), (some (99, true)), none⟩,
      ⟨some 102, .call fid_archipelagoref8_SameEvents [(.t 100), (.t 101)], (some (99, true)), none⟩,
      ⟨some 103, .pick (.t 99) (.t 102) (.c (.bool false)), none, none⟩,
      ⟨some 6, .mov (.t 103), none, none⟩])
  (.ret))))))))))))) }
end Go.Ab
