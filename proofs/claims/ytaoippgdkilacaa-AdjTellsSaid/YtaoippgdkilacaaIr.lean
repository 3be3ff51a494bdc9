/- The functions as the abstract machine has them (printed by wip/irgen.py). -/
import Derived.Test.YtaoippgdkilacaaAbs1
namespace Go.Ab
open Go
def fid_archipelagolaw15_AdjTells : Nat := 3
def fid_archipelagolaw15_AdjBack : Nat := 4
def fid_archipelagolaw15_AdjSizes : Nat := 5
def fid_archipelagolaw15_AdjStrange : Nat := 6
def fid_archipelagolaw15_known : Nat := 7
def fid_archipelagoseat_History : Nat := 8
def fid_archipelagoref8_At : Nat := 9
def fid_archipelagoseat_Time : Nat := 10
def fid_archipelagoref15_AdjPut : Nat := 11
def fid_adj_Put : Nat := 12
def fid_archipelagoseat_Change : Nat := 13
def fid_adj_Read : Nat := 14
def fid_archipelagoref15_AdjRead : Nat := 15
def fid_archipelagoref8_SameEdges : Nat := 16
def fid_archipelagoseat_Vertices : Nat := 17
def fid_archipelagoseat_Edge : Nat := 18
def fid_archipelagoseat_insert : Nat := 19
def fid_archipelagoref8_Has : Nat := 20
def fid_archipelagoref8_Turn : Nat := 21
def fid_archipelagoref8_After : Nat := 22
def fid_archipelagoref8_Upto : Nat := 23
def fid_archipelagoref8_Less : Nat := 24
def fid_archipelagoref1_Put : Nat := 25
def fid_edge_Rising : Nat := 26
def fid_varint_Put : Nat := 27
def fid_adj_reader_edges : Nat := 28
def fid_bytes_Equal : Nat := 29
def fid_archipelagoref15_numbers : Nat := 30
def fid_archipelagoref15_near : Nat := 31
def fid_archipelagoref8_Before : Nat := 32
def fid_archipelagoref8_Find : Nat := 33
def fid_archipelagoref8_Rising : Nat := 34
def fid_archipelagoref8_Check : Nat := 35
def fid_edge_Less : Nat := 36
def fid_adj_reader_num : Nat := 37
def fid_archipelagoref1_Take : Nat := 38
def fid_archipelagoref8_Right : Nat := 39
def fid_edge_compare : Nat := 40
def fid_varint_Take : Nat := 41
def fid_cmp_Or_int : Nat := 42
def fid_cmp_Compare_uint32 : Nat := 43
def fid_cmp_isNaN_uint32 : Nat := 44
def cmp_Or_int_b0 : IC :=
  (.seq (.reg [⟨some 9, .bin .lss (.t 8) (.t 7), none, none⟩])
  (.seq (.cond (.t 9)
  (.skip)
  (.exit 0))
  (.seq (.block 1
  (.seq (.reg [⟨some 10, .iaddr 1 (.t 6) (.t 8), none, none⟩,
        ⟨some 11, .load 1 false (.t 10), none, none⟩,
        ⟨some 5, .mov (.t 11), none, none⟩])
    (.seq (.reg [⟨some 12, .mov (.t 5), none, none⟩,
        ⟨some 13, .mov (.t 3), none, none⟩,
        ⟨some 14, .bin .neq (.t 12) (.t 13), none, none⟩])
    (.cond (.t 14)
    (.seq (.reg [⟨some 15, .mov (.t 5), none, none⟩,
          ⟨some 2, .mov (.t 15), none, none⟩])
      (.ret))
    (.skip)))))
  (.reg [⟨some 16, .bin .add (.t 8) (.c (.int .i64 1)), none, none⟩,
      ⟨some 8, .mov (.t 16), none, none⟩]))))
def ir_cmp_Or_int : IFn :=
  { params := 1, results := [.tmp 2], body :=
  (.seq (.reg [⟨some 2, .mov (.c (.int .i64 0)), none, none⟩])
  (.seq (.reg [⟨some 3, .mov (.c (.int .i64 0)), none, none⟩])
  (.seq (.seq (.reg [⟨some 6, .mov (.t 0), none, none⟩,
      ⟨some 7, .len .sl (.t 6), none, none⟩,
      ⟨some 8, .mov (.c (.int .i64 0)), none, none⟩])
  (.block 0
  (.loop [3, 6, 7, 8] cmp_Or_int_b0)))
  (.seq (.reg [⟨some 17, .mov (.t 3), none, none⟩,
      ⟨some 2, .mov (.t 17), none, none⟩])
  (.ret))))) }
def ir_cmp_isNaN_uint32 : IFn :=
  { params := 1, results := [.tmp 2], body :=
  (.seq (.reg [⟨some 2, .mov (.c (.bool false)), none, none⟩])
  (.seq (.reg [⟨some 3, .mov (.t 0), none, none⟩,
      ⟨some 4, .mov (.t 0), none, none⟩,
      ⟨some 5, .bin .neq (.t 3) (.t 4), none, none⟩,
      ⟨some 2, .mov (.t 5), none, none⟩])
  (.ret))) }
def ir_cmp_Compare_uint32 : IFn :=
  { params := 2, results := [.tmp 4], body :=
  (.seq (.reg [⟨some 4, .mov (.c (.int .i64 0)), none, none⟩])
  (.seq (.reg [⟨some 7, .mov (.t 0), none, none⟩,
      ⟨some 8, .call fid_cmp_isNaN_uint32 [(.t 7)], none, none⟩,
      ⟨some 5, .mov (.t 8), none, none⟩])
  (.seq (.reg [⟨some 9, .mov (.t 1), none, none⟩,
      ⟨some 10, .call fid_cmp_isNaN_uint32 [(.t 9)], none, none⟩,
      ⟨some 6, .mov (.t 10), none, none⟩])
  (.seq (.seq (.reg [⟨some 11, .mov (.t 5), none, none⟩])
  (.cond (.t 11)
  (.seq (.seq (.reg [⟨some 12, .mov (.t 6), none, none⟩])
    (.cond (.t 12)
    (.seq (.reg [⟨some 4, .mov (.c (.int .i64 0)), none, none⟩])
      (.ret))
    (.skip)))
    (.seq (.reg [⟨some 4, .mov (.c (.int .i64 (-1))), none, none⟩])
    (.ret)))
  (.skip)))
  (.seq (.seq (.reg [⟨some 13, .mov (.t 6), none, none⟩])
  (.cond (.t 13)
  (.seq (.reg [⟨some 4, .mov (.c (.int .i64 1)), none, none⟩])
    (.ret))
  (.skip)))
  (.seq (.seq (.reg [⟨some 14, .mov (.t 0), none, none⟩,
      ⟨some 15, .mov (.t 1), none, none⟩,
      ⟨some 16, .bin .lss (.t 14) (.t 15), none, none⟩])
  (.cond (.t 16)
  (.seq (.reg [⟨some 4, .mov (.c (.int .i64 (-1))), none, none⟩])
    (.ret))
  (.skip)))
  (.seq (.seq (.reg [⟨some 17, .mov (.t 0), none, none⟩,
      ⟨some 18, .mov (.t 1), none, none⟩,
      ⟨some 19, .bin .gtr (.t 17) (.t 18), none, none⟩])
  (.cond (.t 19)
  (.seq (.reg [⟨some 4, .mov (.c (.int .i64 1)), none, none⟩])
    (.ret))
  (.skip)))
  (.seq (.reg [⟨some 4, .mov (.c (.int .i64 0)), none, none⟩])
  (.ret))))))))) }
def ir_edge_compare : IFn :=
  { params := 2, results := [.tmp 4], body :=
  (.seq (.reg [⟨some 2, .box (.t 0), none, none⟩,
      ⟨some 3, .box (.t 1), none, none⟩,
      ⟨some 4, .mov (.c (.int .i64 0)), none, none⟩])
  (.seq (.regD [0, 1, 2, 3, 4, 5, 6, 7, 8, 9, 10, 11, 12] [⟨some 5, .faddr 0 (.t 2), none, none⟩,
      ⟨some 6, .load 1 false (.t 5), none, none⟩,
      ⟨some 7, .faddr 0 (.t 3), none, none⟩,
      ⟨some 8, .load 1 false (.t 7), none, none⟩,
      ⟨some 9, .call fid_cmp_Compare_uint32 [(.t 6), (.t 8)], none, none⟩,
      ⟨some 10, .faddr 1 (.t 2), none, none⟩,
      ⟨some 11, .load 1 false (.t 10), none, some (0, 1)⟩,
      ⟨some 12, .faddr 1 (.t 3), none, none⟩,
      ⟨some 13, .load 1 false (.t 12), none, some (0, 1)⟩,
      ⟨some 14, .call fid_cmp_Compare_uint32 [(.t 11), (.t 13)], none, none⟩,
      ⟨some 15, .mkrow 1 2 [(.int .i64 0)] [(0, (.t 9)), (1, (.t 14))], none, none⟩,
      ⟨some 16, .call fid_cmp_Or_int [(.t 15)], none, none⟩,
      ⟨some 4, .mov (.t 16), none, none⟩])
  (.ret))) }
def ir_edge_Less : IFn :=
  { params := 2, results := [.tmp 4], body :=
  (.seq (.reg [⟨some 2, .box (.t 0), none, none⟩,
      ⟨some 3, .box (.t 1), none, none⟩,
      ⟨some 4, .mov (.c (.bool false)), none, none⟩])
  (.seq (.reg [⟨some 5, .load 2 true (.t 2), none, none⟩,
      ⟨some 6, .load 2 true (.t 3), none, none⟩,
      ⟨some 7, .call fid_edge_compare [(.t 5), (.t 6)], none, none⟩,
      ⟨some 8, .bin .lss (.t 7) (.c (.int .i64 0)), none, none⟩,
      ⟨some 4, .mov (.t 8), none, none⟩])
  (.ret))) }
def edge_Rising_b0 : IC :=
  (.seq (.reg [⟨some 7, .bin .lss (.t 6) (.t 5), none, none⟩])
  (.seq (.cond (.t 7)
  (.skip)
  (.exit 0))
  (.seq (.block 1
  (.seq (.reg [⟨some 8, .mov (.t 6), none, none⟩,
        ⟨some 3, .mov (.t 8), none, none⟩])
    (.seq (.regD [0, 1, 2, 3, 4, 5, 6, 7, 8, 9, 10, 11, 12, 13, 14] [⟨some 9, .mov (.t 3), none, none⟩,
        ⟨some 10, .bin .gtr (.t 9) (.c (.int .i64 0)), none, none⟩,
        ⟨some 11, .mov (.t 10), none, none⟩,
        ⟨some 12, .mov (.t 0), (some (11, true)), none⟩,
        ⟨some 13, .mov (.t 3), (some (11, true)), none⟩,
        ⟨some 14, .bin .sub (.t 13) (.c (.int .i64 1)), (some (11, true)), none⟩,
        ⟨some 15, .iaddr 2 (.t 12) (.t 14), (some (11, true)), none⟩,
        ⟨some 16, .load 2 true (.t 15), (some (11, true)), none⟩,
        ⟨some 17, .mov (.t 0), (some (11, true)), none⟩,
        ⟨some 18, .mov (.t 3), (some (11, true)), none⟩,
        ⟨some 19, .iaddr 2 (.t 17) (.t 18), (some (11, true)), none⟩,
        ⟨some 20, .load 2 true (.t 19), (some (11, true)), none⟩,
        ⟨some 21, .call fid_edge_Less [(.t 16), (.t 20)], (some (11, true)), none⟩,
        ⟨some 22, .un .not (.t 21), (some (11, true)), none⟩,
        ⟨some 23, .pick (.t 11) (.t 22) (.c (.bool false)), none, none⟩])
    (.cond (.t 23)
    (.seq (.reg [⟨some 2, .mov (.c (.bool false)), none, none⟩])
      (.ret))
    (.skip)))))
  (.reg [⟨some 24, .bin .add (.t 6) (.c (.int .i64 1)), none, none⟩,
      ⟨some 6, .mov (.t 24), none, none⟩]))))
def ir_edge_Rising : IFn :=
  { params := 1, results := [.tmp 2], body :=
  (.seq (.reg [⟨some 2, .mov (.c (.bool false)), none, none⟩])
  (.seq (.seq (.reg [⟨some 4, .mov (.t 0), none, none⟩,
      ⟨some 5, .len .sl (.t 4), none, none⟩,
      ⟨some 6, .mov (.c (.int .i64 0)), none, none⟩])
  (.block 0
  (.loop [0, 5, 6] edge_Rising_b0)))
  (.seq (.reg [⟨some 2, .mov (.c (.bool true)), none, none⟩])
  (.ret)))) }
def varint_Put_b0 : IC :=
  (.seq (.seq (.reg [⟨some 12, .mov (.t 5), none, none⟩,
      ⟨some 13, .bin .geq (.t 12) (.c (.int .u64 128)), none, none⟩])
  (.cond (.t 13)
  (.skip)
  (.exit 2)))
  (.seq (.block 3
  (.reg [⟨some 16, .mov (.t 3), none, none⟩,
        ⟨some 17, .mov (.t 5), none, none⟩,
        ⟨some 18, .conv .u8 (.t 17), none, none⟩,
        ⟨some 19, .bin .or (.t 18) (.c (.int .u8 128)), none, none⟩,
        ⟨some 20, .mkrow 1 1 [(.int .u8 0)] [(0, (.t 19))], none, none⟩,
        ⟨some 21, .append 1 1 (.t 16) (.t 20), none, none⟩,
        ⟨some 3, .mov (.t 21), none, none⟩]))
  (.reg [⟨some 14, .mov (.t 5), none, none⟩,
      ⟨some 15, .bin .shr (.t 14) (.c (.int .u64 7)), none, none⟩,
      ⟨some 5, .mov (.t 15), none, none⟩])))
def varint_Put_b1 : IC :=
  (.seq (.reg [⟨some 9, .bin .lss (.t 8) (.t 7), none, none⟩])
  (.seq (.cond (.t 9)
  (.skip)
  (.exit 0))
  (.seq (.block 1
  (.seq (.reg [⟨some 10, .iaddr 1 (.t 6) (.t 8), none, none⟩,
        ⟨some 11, .load 1 false (.t 10), none, none⟩,
        ⟨some 5, .mov (.t 11), none, none⟩])
    (.seq (.block 2
    (.loop [3, 5, 6, 7, 8] varint_Put_b0))
    (.reg [⟨some 22, .mov (.t 3), none, none⟩,
        ⟨some 23, .mov (.t 5), none, none⟩,
        ⟨some 24, .conv .u8 (.t 23), none, none⟩,
        ⟨some 25, .mkrow 1 1 [(.int .u8 0)] [(0, (.t 24))], none, none⟩,
        ⟨some 26, .append 1 1 (.t 22) (.t 25), none, none⟩,
        ⟨some 3, .mov (.t 26), none, none⟩]))))
  (.reg [⟨some 27, .bin .add (.t 8) (.c (.int .i64 1)), none, none⟩,
      ⟨some 8, .mov (.t 27), none, none⟩]))))
def ir_varint_Put : IFn :=
  { params := 1, results := [.tmp 2], body :=
  (.seq (.reg [⟨some 2, .mov (.c .nils), none, none⟩])
  (.seq (.reg [⟨some 3, .mov (.c .nils), none, none⟩])
  (.seq (.seq (.reg [⟨some 6, .mov (.t 0), none, none⟩,
      ⟨some 7, .len .sl (.t 6), none, none⟩,
      ⟨some 8, .mov (.c (.int .i64 0)), none, none⟩])
  (.block 0
  (.loop [3, 6, 7, 8] varint_Put_b1)))
  (.seq (.reg [⟨some 28, .mov (.t 3), none, none⟩,
      ⟨some 2, .mov (.t 28), none, none⟩])
  (.ret))))) }
def adj_Put_b0 : IC :=
  (.seq (.seq (.reg [⟨some 28, .mov (.t 7), none, none⟩,
      ⟨some 29, .mov (.t 0), none, none⟩,
      ⟨some 30, .len .sl (.t 29), none, none⟩,
      ⟨some 31, .bin .lss (.t 28) (.t 30), none, none⟩,
      ⟨some 32, .mov (.t 31), none, none⟩,
      ⟨some 33, .mov (.t 0), (some (32, true)), none⟩,
      ⟨some 34, .mov (.t 7), (some (32, true)), none⟩,
      ⟨some 35, .iaddr 2 (.t 33) (.t 34), (some (32, true)), none⟩,
      ⟨some 36, .faddr 0 (.t 35), (some (32, true)), none⟩,
      ⟨some 37, .load 1 false (.t 36), (some (32, true)), none⟩,
      ⟨some 38, .mov (.t 8), (some (32, true)), none⟩,
      ⟨some 39, .bin .eql (.t 37) (.t 38), (some (32, true)), none⟩,
      ⟨some 40, .pick (.t 32) (.t 39) (.c (.bool false)), none, none⟩])
  (.cond (.t 40)
  (.skip)
  (.exit 2)))
  (.seq (.block 3
  (.seq (.reg [⟨some 43, .mov (.t 0), none, none⟩,
        ⟨some 44, .mov (.t 7), none, none⟩,
        ⟨some 45, .iaddr 2 (.t 43) (.t 44), none, none⟩,
        ⟨some 46, .faddr 1 (.t 45), none, none⟩,
        ⟨some 47, .load 1 false (.t 46), none, none⟩,
        ⟨some 48, .conv .u64 (.t 47), none, none⟩,
        ⟨some 12, .mov (.t 48), none, none⟩])
    (.seq (.seq (.reg [⟨some 49, .mov (.t 12), none, none⟩,
        ⟨some 50, .mov (.t 11), none, none⟩,
        ⟨some 51, .bin .leq (.t 49) (.t 50), none, none⟩])
    (.cond (.t 51)
    (.seq (.reg [⟨some 2, .mov (.c .nils), none, none⟩,
          ⟨some 3, .mov (.c (.int .i64 23)), none, none⟩])
      (.ret))
    (.skip)))
    (.seq (.reg [⟨some 52, .mov (.t 10), none, none⟩,
        ⟨some 53, .mov (.t 12), none, none⟩,
        ⟨some 54, .mov (.t 11), none, none⟩,
        ⟨some 55, .bin .sub (.t 53) (.t 54), none, none⟩,
        ⟨some 56, .bin .sub (.t 55) (.c (.int .u64 1)), none, none⟩,
        ⟨some 57, .mkrow 1 1 [(.int .u64 0)] [(0, (.t 56))], none, none⟩,
        ⟨some 58, .call fid_varint_Put [(.t 57)], none, none⟩,
        ⟨some 59, .append 1 1 (.t 52) (.t 58), none, none⟩,
        ⟨some 10, .mov (.t 59), none, none⟩])
    (.reg [⟨some 60, .mov (.t 12), none, none⟩,
        ⟨some 11, .mov (.t 60), none, none⟩])))))
  (.reg [⟨some 41, .mov (.t 7), none, none⟩,
      ⟨some 42, .bin .add (.t 41) (.c (.int .i64 1)), none, none⟩,
      ⟨some 7, .mov (.t 42), none, none⟩])))
def adj_Put_b1 : IC :=
  (.seq (.seq (.reg [⟨some 16, .mov (.t 7), none, none⟩,
      ⟨some 17, .mov (.t 0), none, none⟩,
      ⟨some 18, .len .sl (.t 17), none, none⟩,
      ⟨some 19, .bin .lss (.t 16) (.t 18), none, none⟩])
  (.cond (.t 19)
  (.skip)
  (.exit 0)))
  (.block 1
  (.seq (.reg [⟨some 20, .mov (.t 0), none, none⟩,
        ⟨some 21, .mov (.t 7), none, none⟩,
        ⟨some 22, .iaddr 2 (.t 20) (.t 21), none, none⟩,
        ⟨some 23, .faddr 0 (.t 22), none, none⟩,
        ⟨some 24, .load 1 false (.t 23), none, none⟩,
        ⟨some 25, .mov (.t 7), none, none⟩,
        ⟨some 8, .mov (.t 24), none, none⟩,
        ⟨some 9, .mov (.t 25), none, none⟩])
    (.seq (.reg [⟨some 10, .mov (.c .nils), none, none⟩])
    (.seq (.reg [⟨some 26, .mov (.t 8), none, none⟩,
        ⟨some 27, .conv .u64 (.t 26), none, none⟩,
        ⟨some 11, .mov (.t 27), none, none⟩])
    (.seq (.block 2
    (.loop [0, 4, 5, 6, 7, 8, 9, 10, 11] adj_Put_b0))
    (.seq (.reg [⟨some 61, .mov (.t 4), none, none⟩,
        ⟨some 62, .mov (.t 8), none, none⟩,
        ⟨some 63, .conv .u64 (.t 62), none, none⟩,
        ⟨some 64, .mov (.t 6), none, none⟩,
        ⟨some 65, .bin .sub (.t 63) (.t 64), none, none⟩,
        ⟨some 66, .mov (.t 7), none, none⟩,
        ⟨some 67, .mov (.t 9), none, none⟩,
        ⟨some 68, .bin .sub (.t 66) (.t 67), none, none⟩,
        ⟨some 69, .conv .u64 (.t 68), none, none⟩,
        ⟨some 70, .mkrow 1 2 [(.int .u64 0)] [(0, (.t 65)), (1, (.t 69))], none, none⟩,
        ⟨some 71, .call fid_varint_Put [(.t 70)], none, none⟩,
        ⟨some 72, .append 1 1 (.t 61) (.t 71), none, none⟩,
        ⟨some 73, .mov (.t 10), none, none⟩,
        ⟨some 74, .append 1 1 (.t 72) (.t 73), none, none⟩,
        ⟨some 4, .mov (.t 74), none, none⟩])
    (.reg [⟨some 75, .mov (.t 5), none, none⟩,
        ⟨some 76, .bin .add (.t 75) (.c (.int .u64 1)), none, none⟩,
        ⟨some 77, .mov (.t 8), none, none⟩,
        ⟨some 78, .conv .u64 (.t 77), none, none⟩,
        ⟨some 79, .bin .add (.t 78) (.c (.int .u64 1)), none, none⟩,
        ⟨some 5, .mov (.t 76), none, none⟩,
        ⟨some 6, .mov (.t 79), none, none⟩]))))))))
def ir_adj_Put : IFn :=
  { params := 1, results := [.tmp 2, .tmp 3], body :=
  (.seq (.reg [⟨some 2, .mov (.c .nils), none, none⟩,
      ⟨some 3, .mov (.c (.int .i64 0)), none, none⟩])
  (.seq (.seq (.reg [⟨some 13, .mov (.t 0), none, none⟩,
      ⟨some 14, .call fid_edge_Rising [(.t 13)], none, none⟩,
      ⟨some 15, .un .not (.t 14), none, none⟩])
  (.cond (.t 15)
  (.seq (.reg [⟨some 2, .mov (.c .nils), none, none⟩,
        ⟨some 3, .mov (.c (.int .i64 23)), none, none⟩])
    (.ret))
  (.skip)))
  (.seq (.reg [⟨some 4, .mov (.c .nils), none, none⟩])
  (.seq (.reg [⟨some 5, .mov (.c (.int .u64 0)), none, none⟩,
      ⟨some 6, .mov (.c (.int .u64 0)), none, none⟩])
  (.seq (.seq (.reg [⟨some 7, .mov (.c (.int .i64 0)), none, none⟩])
  (.block 0
  (.loop [0, 4, 5, 6, 7] adj_Put_b1)))
  (.seq (.reg [⟨some 80, .mov (.t 5), none, none⟩,
      ⟨some 81, .mkrow 1 1 [(.int .u64 0)] [(0, (.t 80))], none, none⟩,
      ⟨some 82, .call fid_varint_Put [(.t 81)], none, none⟩,
      ⟨some 83, .mov (.t 4), none, none⟩,
      ⟨some 84, .append 1 1 (.t 82) (.t 83), none, none⟩,
      ⟨some 2, .mov (.t 84), none, none⟩,
      ⟨some 3, .mov (.c (.int .i64 0)), none, none⟩])
  (.ret))))))) }
def varint_Take_b0 : IC :=
  (.seq (.reg [⟨some 13, .bin .lss (.t 12) (.t 11), none, none⟩])
  (.seq (.cond (.t 13)
  (.skip)
  (.exit 0))
  (.seq (.block 1
  (.seq (.reg [⟨some 14, .mov (.t 12), none, none⟩,
        ⟨some 15, .iaddr 1 (.t 10) (.t 12), none, none⟩,
        ⟨some 16, .load 1 false (.t 15), none, none⟩,
        ⟨some 8, .mov (.t 14), none, none⟩,
        ⟨some 9, .mov (.t 16), none, none⟩])
    (.seq (.seq (.reg [⟨some 17, .mov (.t 8), none, none⟩,
        ⟨some 18, .bin .eql (.t 17) (.c (.int .i64 9)), none, none⟩,
        ⟨some 19, .mov (.t 18), none, none⟩,
        ⟨some 20, .mov (.t 9), (some (19, true)), none⟩,
        ⟨some 21, .bin .gtr (.t 20) (.c (.int .u8 1)), (some (19, true)), none⟩,
        ⟨some 22, .pick (.t 19) (.t 21) (.c (.bool false)), none, none⟩,
        ⟨some 23, .mov (.t 22), none, none⟩,
        ⟨some 24, .mov (.t 8), (some (23, false)), none⟩,
        ⟨some 25, .bin .gtr (.t 24) (.c (.int .i64 0)), (some (23, false)), none⟩,
        ⟨some 26, .mov (.t 25), (some (23, false)), none⟩,
        ⟨some 27, .mov (.t 9), (some (26, true)), none⟩,
        ⟨some 28, .bin .eql (.t 27) (.c (.int .u8 0)), (some (26, true)), none⟩,
        ⟨some 29, .pick (.t 26) (.t 28) (.c (.bool false)), (some (23, false)), none⟩,
        ⟨some 30, .pick (.t 23) (.c (.bool true)) (.t 29), none, none⟩])
    (.cond (.t 30)
    (.seq (.reg [⟨some 4, .mov (.c (.int .u64 0)), none, none⟩,
          ⟨some 5, .mov (.c (.int .i64 0)), none, none⟩,
          ⟨some 6, .mov (.c (.int .i64 21)), none, none⟩])
      (.ret))
    (.skip)))
    (.seq (.reg [⟨some 31, .mov (.t 7), none, none⟩,
        ⟨some 32, .mov (.t 9), none, none⟩,
        ⟨some 33, .bin .and (.t 32) (.c (.int .u8 127)), none, none⟩,
        ⟨some 34, .conv .u64 (.t 33), none, none⟩,
        ⟨some 35, .mov (.t 8), none, none⟩,
        ⟨some 36, .bin .mul (.c (.int .i64 7)) (.t 35), none, none⟩,
        ⟨some 37, .bin .shl (.t 34) (.t 36), none, none⟩,
        ⟨some 38, .bin .or (.t 31) (.t 37), none, none⟩,
        ⟨some 7, .mov (.t 38), none, none⟩])
    (.seq (.seq (.reg [⟨some 39, .mov (.t 9), none, none⟩,
        ⟨some 40, .bin .geq (.t 39) (.c (.int .u8 128)), none, none⟩])
    (.cond (.t 40)
    (.exit 1)
    (.skip)))
    (.seq (.seq (.reg [⟨some 41, .mov (.t 7), none, none⟩,
        ⟨some 42, .mov (.t 1), none, none⟩,
        ⟨some 43, .bin .gtr (.t 41) (.t 42), none, none⟩])
    (.cond (.t 43)
    (.seq (.reg [⟨some 4, .mov (.c (.int .u64 0)), none, none⟩,
          ⟨some 5, .mov (.c (.int .i64 0)), none, none⟩,
          ⟨some 6, .mov (.c (.int .i64 22)), none, none⟩])
      (.ret))
    (.skip)))
    (.seq (.reg [⟨some 44, .mov (.t 7), none, none⟩,
        ⟨some 45, .mov (.t 8), none, none⟩,
        ⟨some 46, .bin .add (.t 45) (.c (.int .i64 1)), none, none⟩,
        ⟨some 4, .mov (.t 44), none, none⟩,
        ⟨some 5, .mov (.t 46), none, none⟩,
        ⟨some 6, .mov (.c (.int .i64 0)), none, none⟩])
    (.ret))))))))
  (.reg [⟨some 47, .bin .add (.t 12) (.c (.int .i64 1)), none, none⟩,
      ⟨some 12, .mov (.t 47), none, none⟩]))))
def ir_varint_Take : IFn :=
  { params := 2, results := [.tmp 4, .tmp 5, .tmp 6], body :=
  (.seq (.reg [⟨some 4, .mov (.c (.int .u64 0)), none, none⟩,
      ⟨some 5, .mov (.c (.int .i64 0)), none, none⟩,
      ⟨some 6, .mov (.c (.int .i64 0)), none, none⟩])
  (.seq (.reg [⟨some 7, .mov (.c (.int .u64 0)), none, none⟩])
  (.seq (.seq (.reg [⟨some 10, .mov (.t 0), none, none⟩,
      ⟨some 11, .len .sl (.t 10), none, none⟩,
      ⟨some 12, .mov (.c (.int .i64 0)), none, none⟩])
  (.block 0
  (.loop [1, 7, 10, 11, 12] varint_Take_b0)))
  (.seq (.reg [⟨some 4, .mov (.c (.int .u64 0)), none, none⟩,
      ⟨some 5, .mov (.c (.int .i64 0)), none, none⟩,
      ⟨some 6, .mov (.c (.int .i64 20)), none, none⟩])
  (.ret))))) }
def ir_adj_reader_num : IFn :=
  { params := 1, results := [.tmp 2], body :=
  (.seq (.reg [⟨some 2, .mov (.c (.int .u64 0)), none, none⟩])
  (.seq (.reg [⟨some 7, .mov (.t 0), none, none⟩,
      ⟨some 8, .nilck (.t 7), none, none⟩,
      ⟨some 9, .faddr 0 (.t 8), none, none⟩,
      ⟨some 10, .load 1 false (.t 9), none, none⟩,
      ⟨some 11, .call fid_varint_Take [(.t 10), (.c (.int .u64 4294967295))], none, none⟩,
      ⟨some 6, .mov (.t 11), none, none⟩,
      ⟨some 12, .extract (.t 6) 0, none, none⟩,
      ⟨some 13, .extract (.t 6) 1, none, none⟩,
      ⟨some 14, .extract (.t 6) 2, none, none⟩,
      ⟨some 3, .mov (.t 12), none, none⟩,
      ⟨some 4, .mov (.t 13), none, none⟩,
      ⟨some 5, .mov (.t 14), none, none⟩])
  (.seq (.regD [0, 2, 3, 4, 5, 6, 7, 8, 9, 10, 11, 12, 16, 17, 18, 1, 13, 14, 15, 19, 20, 21] [⟨some 15, .mov (.t 0), none, none⟩,
      ⟨some 17, .mov (.t 0), none, none⟩,
      ⟨some 18, .nilck (.t 17), none, none⟩,
      ⟨some 19, .faddr 0 (.t 18), none, none⟩,
      ⟨some 20, .load 1 false (.t 19), none, none⟩,
      ⟨some 21, .mov (.t 4), none, none⟩,
      ⟨some 22, .slice false 1 (.t 20) (some (.t 21)) none none, none, none⟩,
      ⟨some 23, .mov (.t 0), none, none⟩,
      ⟨some 24, .nilck (.t 23), none, none⟩,
      ⟨some 25, .faddr 1 (.t 24), none, none⟩,
      ⟨some 26, .load 1 false (.t 25), none, none⟩,
      ⟨some 27, .mov (.t 26), none, none⟩,
      ⟨some 31, .nilck (.t 15), none, none⟩,
      ⟨some 32, .faddr 0 (.t 31), none, none⟩,
      ⟨none, .store 1 (.t 32) (.t 22), none, none⟩,
      ⟨some 16, .mov (.t 0), none, none⟩,
      ⟨some 28, .mov (.t 5), (some (27, true)), none⟩,
      ⟨some 29, .bin .eql (.t 28) (.c (.int .i64 0)), (some (27, true)), none⟩,
      ⟨some 30, .pick (.t 27) (.t 29) (.c (.bool false)), none, none⟩,
      ⟨some 33, .nilck (.t 16), none, none⟩,
      ⟨some 34, .faddr 1 (.t 33), none, none⟩,
      ⟨none, .store 1 (.t 34) (.t 30), none, none⟩])
  (.seq (.reg [⟨some 35, .mov (.t 3), none, none⟩,
      ⟨some 2, .mov (.t 35), none, none⟩])
  (.ret))))) }
def adj_reader_edges_b0 : IC :=
  (.seq (.seq (.reg [⟨some 32, .mov (.t 10), none, none⟩,
      ⟨some 33, .bin .gtr (.t 32) (.c (.int .u64 0)), none, none⟩,
      ⟨some 34, .mov (.t 33), none, none⟩,
      ⟨some 35, .mov (.t 0), (some (34, true)), none⟩,
      ⟨some 36, .nilck (.t 35), (some (34, true)), none⟩,
      ⟨some 37, .faddr 1 (.t 36), (some (34, true)), none⟩,
      ⟨some 38, .load 1 false (.t 37), (some (34, true)), none⟩,
      ⟨some 39, .pick (.t 34) (.t 38) (.c (.bool false)), none, none⟩])
  (.cond (.t 39)
  (.skip)
  (.exit 2)))
  (.seq (.block 3
  (.seq (.reg [⟨some 42, .mov (.t 9), none, none⟩,
        ⟨some 43, .mov (.t 0), none, none⟩,
        ⟨some 44, .call fid_adj_reader_num [(.t 43)], none, none⟩,
        ⟨some 45, .bin .add (.t 44) (.c (.int .u64 1)), none, none⟩,
        ⟨some 46, .bin .add (.t 42) (.t 45), none, none⟩,
        ⟨some 9, .mov (.t 46), none, none⟩])
    (.seq (.reg [⟨some 47, .mov (.t 0), none, none⟩,
        ⟨some 48, .mov (.t 0), none, none⟩,
        ⟨some 49, .nilck (.t 48), none, none⟩,
        ⟨some 50, .faddr 1 (.t 49), none, none⟩,
        ⟨some 51, .load 1 false (.t 50), none, none⟩,
        ⟨some 52, .mov (.t 51), none, none⟩,
        ⟨some 53, .mov (.t 9), (some (52, true)), none⟩,
        ⟨some 54, .mov (.t 1), (some (52, true)), none⟩,
        ⟨some 55, .bin .lss (.t 53) (.t 54), (some (52, true)), none⟩,
        ⟨some 56, .pick (.t 52) (.t 55) (.c (.bool false)), none, none⟩,
        ⟨some 57, .mov (.t 56), none, none⟩,
        ⟨some 58, .mov (.t 9), (some (57, true)), none⟩,
        ⟨some 59, .bin .leq (.t 58) (.c (.int .u64 4294967295)), (some (57, true)), none⟩,
        ⟨some 60, .pick (.t 57) (.t 59) (.c (.bool false)), none, none⟩,
        ⟨some 61, .nilck (.t 47), none, none⟩,
        ⟨some 62, .faddr 1 (.t 61), none, none⟩,
        ⟨none, .store 1 (.t 62) (.t 60), none, none⟩])
    (.seq (.reg [⟨some 63, .mov (.t 0), none, none⟩,
        ⟨some 64, .nilck (.t 63), none, none⟩,
        ⟨some 65, .faddr 1 (.t 64), none, none⟩,
        ⟨some 66, .load 1 false (.t 65), none, none⟩])
    (.cond (.t 66)
    (.reg [⟨some 67, .mov (.t 5), none, none⟩,
          ⟨some 68, .mov (.t 8), none, none⟩,
          ⟨some 69, .conv .u32 (.t 68), none, none⟩,
          ⟨some 70, .mov (.t 9), none, none⟩,
          ⟨some 71, .conv .u32 (.t 70), none, none⟩,
          ⟨some 72, .build [(.int .u32 0), (.int .u32 0)] [(0, 1, (.t 69)), (1, 1, (.t 71))], none, none⟩,
          ⟨some 73, .mkrow 2 1 [(.int .u32 0), (.int .u32 0)] [(0, (.t 72))], none, none⟩,
          ⟨some 74, .append 2 8 (.t 67) (.t 73), none, none⟩,
          ⟨some 5, .mov (.t 74), none, none⟩])
    (.skip))))))
  (.reg [⟨some 40, .mov (.t 10), none, none⟩,
      ⟨some 41, .bin .sub (.t 40) (.c (.int .u64 1)), none, none⟩,
      ⟨some 10, .mov (.t 41), none, none⟩])))
def adj_reader_edges_b1 : IC :=
  (.seq (.seq (.reg [⟨some 13, .mov (.t 7), none, none⟩,
      ⟨some 14, .bin .gtr (.t 13) (.c (.int .u64 0)), none, none⟩,
      ⟨some 15, .mov (.t 14), none, none⟩,
      ⟨some 16, .mov (.t 0), (some (15, true)), none⟩,
      ⟨some 17, .nilck (.t 16), (some (15, true)), none⟩,
      ⟨some 18, .faddr 1 (.t 17), (some (15, true)), none⟩,
      ⟨some 19, .load 1 false (.t 18), (some (15, true)), none⟩,
      ⟨some 20, .pick (.t 15) (.t 19) (.c (.bool false)), none, none⟩])
  (.cond (.t 20)
  (.skip)
  (.exit 0)))
  (.seq (.block 1
  (.seq (.reg [⟨some 23, .mov (.t 6), none, none⟩,
        ⟨some 24, .mov (.t 0), none, none⟩,
        ⟨some 25, .call fid_adj_reader_num [(.t 24)], none, none⟩,
        ⟨some 26, .bin .add (.t 23) (.t 25), none, none⟩,
        ⟨some 8, .mov (.t 26), none, none⟩])
    (.seq (.reg [⟨some 27, .mov (.t 8), none, none⟩,
        ⟨some 28, .bin .add (.t 27) (.c (.int .u64 1)), none, none⟩,
        ⟨some 6, .mov (.t 28), none, none⟩])
    (.seq (.reg [⟨some 29, .mov (.t 8), none, none⟩,
        ⟨some 9, .mov (.t 29), none, none⟩])
    (.seq (.reg [⟨some 30, .mov (.t 0), none, none⟩,
        ⟨some 31, .call fid_adj_reader_num [(.t 30)], none, none⟩,
        ⟨some 10, .mov (.t 31), none, none⟩])
    (.block 2
    (.loop [0, 1, 5, 6, 7, 8, 9, 10] adj_reader_edges_b0)))))))
  (.reg [⟨some 21, .mov (.t 7), none, none⟩,
      ⟨some 22, .bin .sub (.t 21) (.c (.int .u64 1)), none, none⟩,
      ⟨some 7, .mov (.t 22), none, none⟩])))
def ir_adj_reader_edges : IFn :=
  { params := 2, results := [.tmp 4], body :=
  (.seq (.reg [⟨some 4, .mov (.c .nils), none, none⟩])
  (.seq (.reg [⟨some 5, .mov (.c .nils), none, none⟩])
  (.seq (.reg [⟨some 6, .mov (.c (.int .u64 0)), none, none⟩])
  (.seq (.seq (.reg [⟨some 11, .mov (.t 0), none, none⟩,
      ⟨some 12, .call fid_adj_reader_num [(.t 11)], none, none⟩,
      ⟨some 7, .mov (.t 12), none, none⟩])
  (.block 0
  (.loop [0, 1, 5, 6, 7] adj_reader_edges_b1)))
  (.seq (.reg [⟨some 75, .mov (.t 5), none, none⟩,
      ⟨some 4, .mov (.t 75), none, none⟩])
  (.ret)))))) }
def ir_bytes_Equal : IFn :=
  { params := 2, results := [.tmp 4], body :=
  (.seq (.reg [⟨some 4, .mov (.c (.bool false)), none, none⟩])
  (.seq (.reg [⟨some 5, .mov (.t 0), none, none⟩,
      ⟨some 6, .toStr (.t 5), none, none⟩,
      ⟨some 7, .mov (.t 1), none, none⟩,
      ⟨some 8, .toStr (.t 7), none, none⟩,
      ⟨some 9, .bin .eql (.t 6) (.t 8), none, none⟩,
      ⟨some 4, .mov (.t 9), none, none⟩])
  (.ret))) }
def ir_adj_Read : IFn :=
  { params := 2, results := [.tmp 4, .tmp 5], body :=
  (.seq (.reg [⟨some 4, .mov (.c .nils), none, none⟩,
      ⟨some 5, .mov (.c (.int .i64 0)), none, none⟩])
  (.seq (.reg [⟨some 10, .mov (.t 0), none, none⟩,
      ⟨some 11, .build [.nils, (.bool false)] [(0, 1, (.t 10)), (1, 1, (.c (.bool true)))], none, none⟩,
      ⟨some 12, .box (.t 11), none, none⟩,
      ⟨some 6, .mov (.t 12), none, none⟩])
  (.seq (.reg [⟨some 13, .mov (.t 6), none, none⟩,
      ⟨some 14, .mov (.t 1), none, none⟩,
      ⟨some 15, .call fid_adj_reader_edges [(.t 13), (.t 14)], none, none⟩,
      ⟨some 7, .mov (.t 15), none, none⟩])
  (.seq (.seq (.reg [⟨some 17, .mov (.t 7), none, none⟩,
      ⟨some 18, .call fid_adj_Put [(.t 17)], none, none⟩,
      ⟨some 16, .mov (.t 18), none, none⟩,
      ⟨some 19, .extract (.t 16) 0, none, none⟩,
      ⟨some 20, .extract (.t 16) 1, none, none⟩,
      ⟨some 8, .mov (.t 19), none, none⟩,
      ⟨some 9, .mov (.t 20), none, none⟩])
  (.seq (.reg [⟨some 21, .mov (.t 6), none, none⟩,
      ⟨some 22, .nilck (.t 21), none, none⟩,
      ⟨some 23, .faddr 1 (.t 22), none, none⟩,
      ⟨some 24, .load 1 false (.t 23), none, none⟩,
      ⟨some 25, .un .not (.t 24), none, none⟩,
      ⟨some 26, .mov (.t 25), none, none⟩,
      ⟨some 27, .mov (.t 9), (some (26, false)), none⟩,
      ⟨some 28, .bin .neq (.t 27) (.c (.int .i64 0)), (some (26, false)), none⟩,
      ⟨some 29, .pick (.t 26) (.c (.bool true)) (.t 28), none, none⟩,
      ⟨some 30, .mov (.t 29), none, none⟩,
      ⟨some 31, .mov (.t 8), (some (30, false)), none⟩,
      ⟨some 32, .mov (.t 0), (some (30, false)), none⟩,
      ⟨some 33, .call fid_bytes_Equal [(.t 31), (.t 32)], (some (30, false)), none⟩,
      ⟨some 34, .un .not (.t 33), (some (30, false)), none⟩,
      ⟨some 35, .pick (.t 30) (.c (.bool true)) (.t 34), none, none⟩])
  (.cond (.t 35)
  (.seq (.reg [⟨some 4, .mov (.c .nils), none, none⟩,
        ⟨some 5, .mov (.c (.int .i64 21)), none, none⟩])
    (.ret))
  (.skip))))
  (.seq (.reg [⟨some 36, .mov (.t 7), none, none⟩,
      ⟨some 4, .mov (.t 36), none, none⟩,
      ⟨some 5, .mov (.c (.int .i64 0)), none, none⟩])
  (.ret)))))) }
def archipelagoref8_SameEdges_b0 : IC :=
  (.seq (.seq (.reg [⟨some 11, .mov (.t 5), none, none⟩,
      ⟨some 12, .mov (.t 0), none, none⟩,
      ⟨some 13, .len .sl (.t 12), none, none⟩,
      ⟨some 14, .bin .lss (.t 11) (.t 13), none, none⟩])
  (.cond (.t 14)
  (.skip)
  (.exit 0)))
  (.seq (.block 1
  (.seq (.regD [0, 1, 2, 3, 4, 5, 6, 7, 8] [⟨some 17, .mov (.t 0), none, none⟩,
        ⟨some 18, .mov (.t 5), none, none⟩,
        ⟨some 19, .iaddr 2 (.t 17) (.t 18), none, none⟩,
        ⟨some 20, .load 2 true (.t 19), none, none⟩,
        ⟨some 21, .mov (.t 1), none, none⟩,
        ⟨some 22, .mov (.t 5), none, none⟩,
        ⟨some 23, .iaddr 2 (.t 21) (.t 22), none, none⟩,
        ⟨some 24, .load 2 true (.t 23), none, none⟩,
        ⟨some 25, .eq (.struct [.int, .int]) true (.t 20) (.t 24), none, none⟩])
    (.cond (.t 25)
    (.seq (.reg [⟨some 4, .mov (.c (.bool false)), none, none⟩])
      (.ret))
    (.skip))))
  (.reg [⟨some 15, .mov (.t 5), none, none⟩,
      ⟨some 16, .bin .add (.t 15) (.c (.int .i64 1)), none, none⟩,
      ⟨some 5, .mov (.t 16), none, none⟩])))
def ir_archipelagoref8_SameEdges : IFn :=
  { params := 2, results := [.tmp 4], body :=
  (.seq (.reg [⟨some 4, .mov (.c (.bool false)), none, none⟩])
  (.seq (.seq (.reg [⟨some 6, .mov (.t 0), none, none⟩,
      ⟨some 7, .len .sl (.t 6), none, none⟩,
      ⟨some 8, .mov (.t 1), none, none⟩,
      ⟨some 9, .len .sl (.t 8), none, none⟩,
      ⟨some 10, .bin .neq (.t 7) (.t 9), none, none⟩])
  (.cond (.t 10)
  (.seq (.reg [⟨some 4, .mov (.c (.bool false)), none, none⟩])
    (.ret))
  (.skip)))
  (.seq (.seq (.reg [⟨some 5, .mov (.c (.int .i64 0)), none, none⟩])
  (.block 0
  (.loop [0, 1, 5] archipelagoref8_SameEdges_b0)))
  (.seq (.reg [⟨some 4, .mov (.c (.bool true)), none, none⟩])
  (.ret))))) }
def ir_archipelagolaw15_known : IFn :=
  { params := 0, results := [.tmp 0], body :=
  (.seq (.reg [⟨some 0, .mov (.c (.bool false)), none, none⟩])
  (.seq (.reg [⟨some 10, .build [(.int .u32 0), (.int .u32 0)] [(0, 1, (.c (.int .u32 0))), (1, 1, (.c (.int .u32 1)))], none, none⟩,
      ⟨some 11, .build [(.int .u32 0), (.int .u32 0)] [(0, 1, (.c (.int .u32 0))), (1, 1, (.c (.int .u32 3)))], none, none⟩,
      ⟨some 12, .build [(.int .u32 0), (.int .u32 0)] [(0, 1, (.c (.int .u32 2))), (1, 1, (.c (.int .u32 3)))], none, none⟩,
      ⟨some 13, .mkrow 2 3 [(.int .u32 0), (.int .u32 0)] [(0, (.t 10)), (1, (.t 11)), (2, (.t 12))], none, none⟩,
      ⟨some 1, .mov (.t 13), none, none⟩])
  (.seq (.reg [⟨some 15, .mov (.t 1), none, none⟩,
      ⟨some 16, .call fid_adj_Put [(.t 15)], none, none⟩,
      ⟨some 14, .mov (.t 16), none, none⟩,
      ⟨some 17, .extract (.t 14) 0, none, none⟩,
      ⟨some 18, .extract (.t 14) 1, none, none⟩,
      ⟨some 2, .mov (.t 17), none, none⟩,
      ⟨some 3, .mov (.t 18), none, none⟩])
  (.seq (.reg [⟨some 20, .mov (.t 2), none, none⟩,
      ⟨some 21, .call fid_adj_Read [(.t 20), (.c (.int .u64 4))], none, none⟩,
      ⟨some 19, .mov (.t 21), none, none⟩,
      ⟨some 22, .extract (.t 19) 0, none, none⟩,
      ⟨some 23, .extract (.t 19) 1, none, none⟩,
      ⟨some 4, .mov (.t 22), none, none⟩,
      ⟨some 5, .mov (.t 23), none, none⟩])
  (.seq (.reg [⟨some 25, .mov (.t 2), none, none⟩,
      ⟨some 26, .call fid_adj_Read [(.t 25), (.c (.int .u64 3))], none, none⟩,
      ⟨some 24, .mov (.t 26), none, none⟩,
      ⟨some 27, .extract (.t 24) 0, none, none⟩,
      ⟨some 28, .extract (.t 24) 1, none, none⟩,
      ⟨some 6, .mov (.t 27), none, none⟩,
      ⟨some 7, .mov (.t 28), none, none⟩])
  (.seq (.reg [⟨some 30, .build [(.int .u32 0), (.int .u32 0)] [(0, 1, (.c (.int .u32 1))), (1, 1, (.c (.int .u32 1)))], none, none⟩,
      ⟨some 31, .mkrow 2 1 [(.int .u32 0), (.int .u32 0)] [(0, (.t 30))], none, none⟩,
      ⟨some 32, .call fid_adj_Put [(.t 31)], none, none⟩,
      ⟨some 29, .mov (.t 32), none, none⟩,
      ⟨some 33, .extract (.t 29) 0, none, none⟩,
      ⟨some 34, .extract (.t 29) 1, none, none⟩,
      ⟨some 8, .mov (.t 33), none, none⟩,
      ⟨some 9, .mov (.t 34), none, none⟩])
  (.seq (.reg [⟨some 35, .mov (.t 3), none, none⟩,
      ⟨some 36, .bin .eql (.t 35) (.c (.int .i64 0)), none, none⟩,
      ⟨some 37, .mov (.t 36), none, none⟩,
      ⟨some 38, .mov (.t 2), (some (37, true)), none⟩,
      ⟨some 39, .toStr (.t 38), (some (37, true)), none⟩,
      ⟨some 40, .bin .eql (.t 39) (.c (.str [2, 0, 2, 0, 1, 1, 1, 0])), (some (37, true)), none⟩,
      ⟨some 41, .pick (.t 37) (.t 40) (.c (.bool false)), none, none⟩,
      ⟨some 42, .mov (.t 41), none, none⟩,
      ⟨some 43, .mov (.t 5), (some (42, true)), none⟩,
      ⟨some 44, .bin .eql (.t 43) (.c (.int .i64 0)), (some (42, true)), none⟩,
      ⟨some 45, .pick (.t 42) (.t 44) (.c (.bool false)), none, none⟩,
      ⟨some 46, .mov (.t 45), none, none⟩,
      ⟨some 47, .mov (.t 4), (some (46, true)), none⟩,
      ⟨some 48, .mov (.t 1), (some (46, true)), none⟩,
      ⟨some 49, .call fid_archipelagoref8_SameEdges [(.t 47), (.t 48)], (some (46, true)), none⟩,
      ⟨some 50, .pick (.t 46) (.t 49) (.c (.bool false)), none, none⟩,
      ⟨some 51, .mov (.t 50), none, none⟩,
      ⟨some 52, .mov (.t 7), (some (51, true)), none⟩,
      ⟨some 53, .bin .eql (.t 52) (.c (.int .i64 21)), (some (51, true)), none⟩,
      ⟨some 54, .pick (.t 51) (.t 53) (.c (.bool false)), none, none⟩,
      ⟨some 55, .mov (.t 54), none, none⟩,
      ⟨some 56, .mov (.t 9), (some (55, true)), none⟩,
      ⟨some 57, .bin .eql (.t 56) (.c (.int .i64 23)), (some (55, true)), none⟩,
      ⟨some 58, .pick (.t 55) (.t 57) (.c (.bool false)), none, none⟩,
      ⟨some 0, .mov (.t 58), none, none⟩])
  (.ret)))))))) }
def ir_archipelagoseat_Vertices : IFn :=
  { params := 1, results := [.tmp 2], body :=
  (.seq (.reg [⟨some 2, .mov (.c (.int .u64 0)), none, none⟩])
  (.seq (.reg [⟨some 3, .mkrow 1 8 [(.int .u64 0)] [(0, (.c (.int .u64 8))), (1, (.c (.int .u64 5))), (2, (.c (.int .u64 2))), (3, (.c (.int .u64 4294967296))), (4, (.c (.int .u64 300))), (5, (.c (.int .u64 12))), (6, (.c (.int .u64 1048576))), (7, (.c (.int .u64 3)))], none, none⟩,
      ⟨some 4, .mov (.t 0), none, none⟩,
      ⟨some 5, .bin .rem (.t 4) (.c (.int .u8 8)), none, none⟩,
      ⟨some 6, .iaddr 1 (.t 3) (.t 5), none, none⟩,
      ⟨some 7, .load 1 false (.t 6), none, none⟩,
      ⟨some 2, .mov (.t 7), none, none⟩])
  (.ret))) }
def ir_archipelagoseat_Edge : IFn :=
  { params := 3, results := [.cell 6 2 true, .tmp 7], body :=
  (.seq (.reg [⟨some 6, .box (.c (.agg [(.int .u32 0), (.int .u32 0)])), none, none⟩,
      ⟨some 7, .mov (.c (.bool false)), none, none⟩])
  (.seq (.reg [⟨some 11, .mov (.t 2), none, none⟩,
      ⟨some 12, .minmax true [(.t 11), (.c (.int .u64 9))], none, none⟩,
      ⟨some 8, .mov (.t 12), none, none⟩])
  (.seq (.regD [0, 1, 2, 3, 4, 5, 6, 7, 8, 9] [⟨some 13, .mov (.t 0), none, none⟩,
      ⟨some 14, .conv .u64 (.t 13), none, none⟩,
      ⟨some 15, .mov (.t 8), none, none⟩,
      ⟨some 16, .bin .rem (.t 14) (.t 15), none, none⟩,
      ⟨some 17, .mov (.t 1), none, none⟩,
      ⟨some 18, .conv .u64 (.t 17), none, none⟩,
      ⟨some 19, .mov (.t 8), none, none⟩,
      ⟨some 20, .bin .rem (.t 18) (.t 19), none, none⟩,
      ⟨some 9, .mov (.t 16), none, none⟩,
      ⟨some 10, .mov (.t 20), none, none⟩])
  (.seq (.seq (.reg [⟨some 21, .mov (.t 0), none, none⟩,
      ⟨some 22, .bin .gtr (.t 21) (.c (.int .u8 230)), none, none⟩])
  (.cond (.t 22)
  (.reg [⟨some 23, .mov (.t 2), none, none⟩,
        ⟨some 24, .bin .sub (.t 23) (.c (.int .u64 1)), none, none⟩,
        ⟨some 25, .mov (.t 9), none, none⟩,
        ⟨some 26, .bin .sub (.t 24) (.t 25), none, none⟩,
        ⟨some 9, .mov (.t 26), none, none⟩])
  (.skip)))
  (.seq (.seq (.reg [⟨some 27, .mov (.t 1), none, none⟩,
      ⟨some 28, .bin .gtr (.t 27) (.c (.int .u8 240)), none, none⟩])
  (.cond (.t 28)
  (.reg [⟨some 29, .mov (.t 2), none, none⟩,
        ⟨some 30, .bin .sub (.t 29) (.c (.int .u64 1)), none, none⟩,
        ⟨some 31, .mov (.t 10), none, none⟩,
        ⟨some 32, .bin .sub (.t 30) (.t 31), none, none⟩,
        ⟨some 10, .mov (.t 32), none, none⟩])
  (.skip)))
  (.seq (.seq (.reg [⟨some 33, .mov (.t 9), none, none⟩,
      ⟨some 34, .mov (.t 10), none, none⟩,
      ⟨some 35, .bin .eql (.t 33) (.t 34), none, none⟩])
  (.cond (.t 35)
  (.seq (.reg [⟨some 36, .build [(.int .u32 0), (.int .u32 0)] [], none, none⟩,
        ⟨none, .store 2 (.t 6) (.t 36), none, none⟩,
        ⟨some 7, .mov (.c (.bool false)), none, none⟩])
    (.ret))
  (.skip)))
  (.seq (.reg [⟨some 37, .mov (.t 9), none, none⟩,
      ⟨some 38, .mov (.t 10), none, none⟩,
      ⟨some 39, .minmax true [(.t 37), (.t 38)], none, none⟩,
      ⟨some 40, .conv .u32 (.t 39), none, none⟩,
      ⟨some 41, .mov (.t 9), none, none⟩,
      ⟨some 42, .mov (.t 10), none, none⟩,
      ⟨some 43, .minmax false [(.t 41), (.t 42)], none, none⟩,
      ⟨some 44, .conv .u32 (.t 43), none, none⟩,
      ⟨some 45, .build [(.int .u32 0), (.int .u32 0)] [(0, 1, (.t 40)), (1, 1, (.t 44))], none, none⟩,
      ⟨none, .store 2 (.t 6) (.t 45), none, none⟩,
      ⟨some 7, .mov (.c (.bool true)), none, none⟩])
  (.ret)))))))) }
def ir_archipelagoref8_Less : IFn :=
  { params := 2, results := [.tmp 4], body :=
  (.seq (.reg [⟨some 2, .box (.t 0), none, none⟩,
      ⟨some 3, .box (.t 1), none, none⟩,
      ⟨some 4, .mov (.c (.bool false)), none, none⟩])
  (.seq (.reg [⟨some 5, .faddr 0 (.t 2), none, none⟩,
      ⟨some 6, .load 1 false (.t 5), none, none⟩,
      ⟨some 7, .faddr 0 (.t 3), none, none⟩,
      ⟨some 8, .load 1 false (.t 7), none, none⟩,
      ⟨some 9, .bin .lss (.t 6) (.t 8), none, none⟩,
      ⟨some 10, .mov (.t 9), none, none⟩,
      ⟨some 11, .faddr 0 (.t 2), (some (10, false)), none⟩,
      ⟨some 12, .load 1 false (.t 11), (some (10, false)), none⟩,
      ⟨some 13, .faddr 0 (.t 3), (some (10, false)), none⟩,
      ⟨some 14, .load 1 false (.t 13), (some (10, false)), none⟩,
      ⟨some 15, .bin .eql (.t 12) (.t 14), (some (10, false)), none⟩,
      ⟨some 16, .mov (.t 15), (some (10, false)), none⟩,
      ⟨some 17, .faddr 1 (.t 2), (some (16, true)), none⟩,
      ⟨some 18, .load 1 false (.t 17), (some (16, true)), none⟩,
      ⟨some 19, .faddr 1 (.t 3), (some (16, true)), none⟩,
      ⟨some 20, .load 1 false (.t 19), (some (16, true)), none⟩,
      ⟨some 21, .bin .lss (.t 18) (.t 20), (some (16, true)), none⟩,
      ⟨some 22, .pick (.t 16) (.t 21) (.c (.bool false)), (some (10, false)), none⟩,
      ⟨some 23, .pick (.t 10) (.c (.bool true)) (.t 22), none, none⟩,
      ⟨some 4, .mov (.t 23), none, none⟩])
  (.ret))) }
def ir_archipelagoref8_Before : IFn :=
  { params := 2, results := [.tmp 4], body :=
  (.seq (.reg [⟨some 2, .box (.t 0), none, none⟩,
      ⟨some 3, .box (.t 1), none, none⟩,
      ⟨some 4, .mov (.c (.bool false)), none, none⟩])
  (.seq (.reg [⟨some 5, .faddr 0 (.t 2), none, none⟩,
      ⟨some 6, .load 1 false (.t 5), none, none⟩,
      ⟨some 7, .faddr 0 (.t 3), none, none⟩,
      ⟨some 8, .load 1 false (.t 7), none, none⟩,
      ⟨some 9, .bin .lss (.t 6) (.t 8), none, none⟩,
      ⟨some 10, .mov (.t 9), none, none⟩,
      ⟨some 11, .faddr 0 (.t 2), (some (10, false)), none⟩,
      ⟨some 12, .load 1 false (.t 11), (some (10, false)), none⟩,
      ⟨some 13, .faddr 0 (.t 3), (some (10, false)), none⟩,
      ⟨some 14, .load 1 false (.t 13), (some (10, false)), none⟩,
      ⟨some 15, .bin .eql (.t 12) (.t 14), (some (10, false)), none⟩,
      ⟨some 16, .mov (.t 15), (some (10, false)), none⟩,
      ⟨some 17, .faddr 1 (.t 2), (some (16, true)), none⟩,
      ⟨some 18, .load 2 true (.t 17), (some (16, true)), none⟩,
      ⟨some 19, .faddr 1 (.t 3), (some (16, true)), none⟩,
      ⟨some 20, .load 2 true (.t 19), (some (16, true)), none⟩,
      ⟨some 21, .call fid_archipelagoref8_Less [(.t 18), (.t 20)], (some (16, true)), none⟩,
      ⟨some 22, .pick (.t 16) (.t 21) (.c (.bool false)), (some (10, false)), none⟩,
      ⟨some 23, .pick (.t 10) (.c (.bool true)) (.t 22), none, none⟩,
      ⟨some 4, .mov (.t 23), none, none⟩])
  (.ret))) }
def archipelagoseat_insert_b0 : IC :=
  (.seq (.seq (.regD [0, 1, 2, 3, 4, 5, 6, 7, 8, 9, 10] [⟨some 8, .mov (.t 5), none, none⟩,
      ⟨some 9, .bin .gtr (.t 8) (.c (.int .i64 0)), none, none⟩,
      ⟨some 10, .mov (.t 9), none, none⟩,
      ⟨some 11, .load 4 true (.t 3), (some (10, true)), none⟩,
      ⟨some 12, .mov (.t 0), (some (10, true)), none⟩,
      ⟨some 13, .mov (.t 5), (some (10, true)), none⟩,
      ⟨some 14, .bin .sub (.t 13) (.c (.int .i64 1)), (some (10, true)), none⟩,
      ⟨some 15, .iaddr 4 (.t 12) (.t 14), (some (10, true)), none⟩,
      ⟨some 16, .load 4 true (.t 15), (some (10, true)), none⟩,
      ⟨some 17, .call fid_archipelagoref8_Before [(.t 11), (.t 16)], (some (10, true)), none⟩,
      ⟨some 18, .pick (.t 10) (.t 17) (.c (.bool false)), none, none⟩])
  (.cond (.t 18)
  (.skip)
  (.exit 0)))
  (.block 1
  (.reg [⟨some 19, .mov (.t 5), none, none⟩,
        ⟨some 20, .bin .sub (.t 19) (.c (.int .i64 1)), none, none⟩,
        ⟨some 5, .mov (.t 20), none, none⟩])))
def ir_archipelagoseat_insert : IFn :=
  { params := 2, results := [.tmp 4], body :=
  (.seq (.reg [⟨some 3, .box (.t 1), none, none⟩,
      ⟨some 4, .mov (.c .nils), none, none⟩])
  (.seq (.reg [⟨some 6, .mov (.t 0), none, none⟩,
      ⟨some 7, .len .sl (.t 6), none, none⟩,
      ⟨some 5, .mov (.t 7), none, none⟩])
  (.seq (.block 0
  (.loop [0, 3, 5] archipelagoseat_insert_b0))
  (.seq (.seq (.regD [0, 1, 2, 3, 4, 5, 6, 7, 8, 9, 10, 11, 12, 13, 14, 15, 16, 17, 18, 19, 20, 21, 22, 23] [⟨some 21, .mov (.t 5), none, none⟩,
      ⟨some 22, .bin .gtr (.t 21) (.c (.int .i64 0)), none, none⟩,
      ⟨some 23, .mov (.t 22), none, none⟩,
      ⟨some 24, .mov (.t 0), (some (23, true)), none⟩,
      ⟨some 25, .mov (.t 5), (some (23, true)), none⟩,
      ⟨some 26, .bin .sub (.t 25) (.c (.int .i64 1)), (some (23, true)), none⟩,
      ⟨some 27, .iaddr 4 (.t 24) (.t 26), (some (23, true)), none⟩,
      ⟨some 28, .faddr 0 (.t 27), (some (23, true)), none⟩,
      ⟨some 29, .load 1 false (.t 28), (some (23, true)), none⟩,
      ⟨some 30, .faddr 0 (.t 3), (some (23, true)), none⟩,
      ⟨some 31, .load 1 false (.t 30), (some (23, true)), none⟩,
      ⟨some 32, .bin .eql (.t 29) (.t 31), (some (23, true)), none⟩,
      ⟨some 33, .pick (.t 23) (.t 32) (.c (.bool false)), none, none⟩,
      ⟨some 34, .mov (.t 33), none, none⟩,
      ⟨some 35, .mov (.t 0), (some (34, true)), none⟩,
      ⟨some 36, .mov (.t 5), (some (34, true)), none⟩,
      ⟨some 37, .bin .sub (.t 36) (.c (.int .i64 1)), (some (34, true)), none⟩,
      ⟨some 38, .iaddr 4 (.t 35) (.t 37), (some (34, true)), none⟩,
      ⟨some 39, .faddr 1 (.t 38), (some (34, true)), none⟩,
      ⟨some 40, .load 2 true (.t 39), (some (34, true)), none⟩,
      ⟨some 41, .faddr 1 (.t 3), (some (34, true)), none⟩,
      ⟨some 42, .load 2 true (.t 41), (some (34, true)), none⟩,
      ⟨some 43, .eq (.struct [.int, .int]) false (.t 40) (.t 42), (some (34, true)), none⟩,
      ⟨some 44, .pick (.t 34) (.t 43) (.c (.bool false)), none, none⟩])
  (.cond (.t 44)
  (.seq (.reg [⟨some 45, .mov (.t 0), none, none⟩,
        ⟨some 4, .mov (.t 45), none, none⟩])
    (.ret))
  (.skip)))
  (.seq (.regD [0, 1, 2, 3, 4, 5, 6, 7, 8, 9, 10, 11] [⟨some 46, .mov (.t 0), none, none⟩,
      ⟨some 47, .mov (.t 5), none, none⟩,
      ⟨some 48, .slice false 4 (.t 46) none (some (.t 47)) none, none, none⟩,
      ⟨some 49, .append 4 24 (.c .nils) (.t 48), none, none⟩,
      ⟨some 50, .load 4 true (.t 3), none, some (0, 1)⟩,
      ⟨some 51, .mkrow 4 1 [(.int .i64 0), (.int .u32 0), (.int .u32 0), (.bool false)] [(0, (.t 50))], none, none⟩,
      ⟨some 52, .append 4 24 (.t 49) (.t 51), none, none⟩,
      ⟨some 53, .mov (.t 0), none, none⟩,
      ⟨some 54, .mov (.t 5), none, none⟩,
      ⟨some 55, .slice false 4 (.t 53) (some (.t 54)) none none, none, none⟩,
      ⟨some 56, .append 4 24 (.t 52) (.t 55), none, none⟩,
      ⟨some 4, .mov (.t 56), none, none⟩])
  (.ret)))))) }
def archipelagoref8_Find_b0 : IC :=
  (.seq (.seq (.reg [⟨some 6, .mov (.t 5), none, none⟩,
      ⟨some 7, .mov (.t 0), none, none⟩,
      ⟨some 8, .len .sl (.t 7), none, none⟩,
      ⟨some 9, .bin .lss (.t 6) (.t 8), none, none⟩])
  (.cond (.t 9)
  (.skip)
  (.exit 0)))
  (.seq (.block 1
  (.seq (.regD [0, 1, 2, 3, 4, 5] [⟨some 12, .mov (.t 0), none, none⟩,
        ⟨some 13, .mov (.t 5), none, none⟩,
        ⟨some 14, .iaddr 2 (.t 12) (.t 13), none, none⟩,
        ⟨some 15, .load 2 true (.t 14), none, none⟩,
        ⟨some 16, .load 2 true (.t 3), none, none⟩,
        ⟨some 17, .eq (.struct [.int, .int]) false (.t 15) (.t 16), none, none⟩])
    (.cond (.t 17)
    (.seq (.reg [⟨some 18, .mov (.t 5), none, none⟩,
          ⟨some 4, .mov (.t 18), none, none⟩])
      (.ret))
    (.skip))))
  (.reg [⟨some 10, .mov (.t 5), none, none⟩,
      ⟨some 11, .bin .add (.t 10) (.c (.int .i64 1)), none, none⟩,
      ⟨some 5, .mov (.t 11), none, none⟩])))
def ir_archipelagoref8_Find : IFn :=
  { params := 2, results := [.tmp 4], body :=
  (.seq (.reg [⟨some 3, .box (.t 1), none, none⟩,
      ⟨some 4, .mov (.c (.int .i64 0)), none, none⟩])
  (.seq (.seq (.reg [⟨some 5, .mov (.c (.int .i64 0)), none, none⟩])
  (.block 0
  (.loop [0, 3, 5] archipelagoref8_Find_b0)))
  (.seq (.reg [⟨some 4, .mov (.c (.int .i64 (-1))), none, none⟩])
  (.ret)))) }
def ir_archipelagoref8_Has : IFn :=
  { params := 2, results := [.tmp 4], body :=
  (.seq (.reg [⟨some 3, .box (.t 1), none, none⟩,
      ⟨some 4, .mov (.c (.bool false)), none, none⟩])
  (.seq (.reg [⟨some 5, .mov (.t 0), none, none⟩,
      ⟨some 6, .load 2 true (.t 3), none, none⟩,
      ⟨some 7, .call fid_archipelagoref8_Find [(.t 5), (.t 6)], none, none⟩,
      ⟨some 8, .bin .geq (.t 7) (.c (.int .i64 0)), none, none⟩,
      ⟨some 4, .mov (.t 8), none, none⟩])
  (.ret))) }
def archipelagoref8_Rising_b0 : IC :=
  (.seq (.seq (.reg [⟨some 4, .mov (.t 3), none, none⟩,
      ⟨some 5, .mov (.t 0), none, none⟩,
      ⟨some 6, .len .sl (.t 5), none, none⟩,
      ⟨some 7, .bin .lss (.t 4) (.t 6), none, none⟩])
  (.cond (.t 7)
  (.skip)
  (.exit 0)))
  (.seq (.block 1
  (.seq (.regD [0, 1, 2, 3, 4, 5, 6, 7, 8, 9, 10] [⟨some 10, .mov (.t 0), none, none⟩,
        ⟨some 11, .mov (.t 3), none, none⟩,
        ⟨some 12, .bin .sub (.t 11) (.c (.int .i64 1)), none, none⟩,
        ⟨some 13, .iaddr 2 (.t 10) (.t 12), none, none⟩,
        ⟨some 14, .load 2 true (.t 13), none, none⟩,
        ⟨some 15, .mov (.t 0), none, none⟩,
        ⟨some 16, .mov (.t 3), none, none⟩,
        ⟨some 17, .iaddr 2 (.t 15) (.t 16), none, none⟩,
        ⟨some 18, .load 2 true (.t 17), none, none⟩,
        ⟨some 19, .call fid_archipelagoref8_Less [(.t 14), (.t 18)], none, none⟩,
        ⟨some 20, .un .not (.t 19), none, none⟩])
    (.cond (.t 20)
    (.seq (.reg [⟨some 2, .mov (.c (.bool false)), none, none⟩])
      (.ret))
    (.skip))))
  (.reg [⟨some 8, .mov (.t 3), none, none⟩,
      ⟨some 9, .bin .add (.t 8) (.c (.int .i64 1)), none, none⟩,
      ⟨some 3, .mov (.t 9), none, none⟩])))
def ir_archipelagoref8_Rising : IFn :=
  { params := 1, results := [.tmp 2], body :=
  (.seq (.reg [⟨some 2, .mov (.c (.bool false)), none, none⟩])
  (.seq (.seq (.reg [⟨some 3, .mov (.c (.int .i64 1)), none, none⟩])
  (.block 0
  (.loop [0, 3] archipelagoref8_Rising_b0)))
  (.seq (.reg [⟨some 2, .mov (.c (.bool true)), none, none⟩])
  (.ret)))) }
def archipelagoref8_Turn_b0 : IC :=
  (.seq (.seq (.regD [0, 1, 2, 3, 4, 5, 6, 7, 8, 9, 10, 11, 12] [⟨some 33, .mov (.t 6), none, none⟩,
      ⟨some 34, .mov (.t 0), none, none⟩,
      ⟨some 35, .len .sl (.t 34), none, none⟩,
      ⟨some 36, .bin .lss (.t 33) (.t 35), none, none⟩,
      ⟨some 37, .mov (.t 36), none, none⟩,
      ⟨some 38, .mov (.t 0), (some (37, true)), none⟩,
      ⟨some 39, .mov (.t 6), (some (37, true)), none⟩,
      ⟨some 40, .iaddr 2 (.t 38) (.t 39), (some (37, true)), none⟩,
      ⟨some 41, .load 2 true (.t 40), (some (37, true)), none⟩,
      ⟨some 42, .faddr 1 (.t 3), (some (37, true)), none⟩,
      ⟨some 43, .load 2 true (.t 42), (some (37, true)), none⟩,
      ⟨some 44, .call fid_archipelagoref8_Less [(.t 41), (.t 43)], (some (37, true)), none⟩,
      ⟨some 45, .pick (.t 37) (.t 44) (.c (.bool false)), none, none⟩])
  (.cond (.t 45)
  (.skip)
  (.exit 0)))
  (.block 1
  (.reg [⟨some 46, .mov (.t 6), none, none⟩,
        ⟨some 47, .bin .add (.t 46) (.c (.int .i64 1)), none, none⟩,
        ⟨some 6, .mov (.t 47), none, none⟩])))
def ir_archipelagoref8_Turn : IFn :=
  { params := 2, results := [.tmp 4, .tmp 5], body :=
  (.seq (.reg [⟨some 3, .box (.t 1), none, none⟩,
      ⟨some 4, .mov (.c .nils), none, none⟩,
      ⟨some 5, .mov (.c (.bool false)), none, none⟩])
  (.seq (.reg [⟨some 7, .mov (.t 0), none, none⟩,
      ⟨some 8, .faddr 1 (.t 3), none, none⟩,
      ⟨some 9, .load 2 true (.t 8), none, none⟩,
      ⟨some 10, .call fid_archipelagoref8_Find [(.t 7), (.t 9)], none, none⟩,
      ⟨some 6, .mov (.t 10), none, none⟩])
  (.seq (.seq (.reg [⟨some 11, .mov (.t 0), none, none⟩,
      ⟨some 12, .call fid_archipelagoref8_Rising [(.t 11)], none, none⟩,
      ⟨some 13, .un .not (.t 12), none, none⟩,
      ⟨some 14, .mov (.t 13), none, none⟩,
      ⟨some 15, .faddr 3 (.t 3), (some (14, false)), none⟩,
      ⟨some 16, .load 1 false (.t 15), (some (14, false)), none⟩,
      ⟨some 17, .mov (.t 6), (some (14, false)), none⟩,
      ⟨some 18, .bin .geq (.t 17) (.c (.int .i64 0)), (some (14, false)), none⟩,
      ⟨some 19, .eq .bool false (.t 16) (.t 18), (some (14, false)), none⟩,
      ⟨some 20, .pick (.t 14) (.c (.bool true)) (.t 19), none, none⟩])
  (.cond (.t 20)
  (.seq (.reg [⟨some 4, .mov (.c .nils), none, none⟩,
        ⟨some 5, .mov (.c (.bool false)), none, none⟩])
    (.ret))
  (.skip)))
  (.seq (.seq (.reg [⟨some 21, .faddr 3 (.t 3), none, none⟩,
      ⟨some 22, .load 1 false (.t 21), none, none⟩,
      ⟨some 23, .un .not (.t 22), none, none⟩])
  (.cond (.t 23)
  (.seq (.regD [0, 1, 2, 3, 4, 5, 6, 7, 8, 9, 10] [⟨some 24, .mov (.t 0), none, none⟩,
        ⟨some 25, .mov (.t 6), none, none⟩,
        ⟨some 26, .slice false 2 (.t 24) none (some (.t 25)) none, none, none⟩,
        ⟨some 27, .append 2 8 (.c .nils) (.t 26), none, none⟩,
        ⟨some 28, .mov (.t 0), none, none⟩,
        ⟨some 29, .mov (.t 6), none, none⟩,
        ⟨some 30, .bin .add (.t 29) (.c (.int .i64 1)), none, none⟩,
        ⟨some 31, .slice false 2 (.t 28) (some (.t 30)) none none, none, none⟩,
        ⟨some 32, .append 2 8 (.t 27) (.t 31), none, none⟩,
        ⟨some 4, .mov (.t 32), none, none⟩,
        ⟨some 5, .mov (.c (.bool true)), none, none⟩])
    (.ret))
  (.skip)))
  (.seq (.reg [⟨some 6, .mov (.c (.int .i64 0)), none, none⟩])
  (.seq (.block 0
  (.loop [0, 3, 6] archipelagoref8_Turn_b0))
  (.seq (.regD [0, 1, 2, 3, 4, 5, 6, 7, 8, 9, 10, 11, 12, 13] [⟨some 48, .mov (.t 0), none, none⟩,
      ⟨some 49, .mov (.t 6), none, none⟩,
      ⟨some 50, .slice false 2 (.t 48) none (some (.t 49)) none, none, none⟩,
      ⟨some 51, .append 2 8 (.c .nils) (.t 50), none, none⟩,
      ⟨some 52, .faddr 1 (.t 3), none, none⟩,
      ⟨some 53, .load 2 true (.t 52), none, some (0, 1)⟩,
      ⟨some 54, .mkrow 2 1 [(.int .u32 0), (.int .u32 0)] [(0, (.t 53))], none, none⟩,
      ⟨some 55, .append 2 8 (.t 51) (.t 54), none, none⟩,
      ⟨some 56, .mov (.t 0), none, none⟩,
      ⟨some 57, .mov (.t 6), none, none⟩,
      ⟨some 58, .slice false 2 (.t 56) (some (.t 57)) none none, none, none⟩,
      ⟨some 59, .append 2 8 (.t 55) (.t 58), none, none⟩,
      ⟨some 4, .mov (.t 59), none, none⟩,
      ⟨some 5, .mov (.c (.bool true)), none, none⟩])
  (.ret)))))))) }
def archipelagoseat_History_b0 : IC :=
  (.seq (.seq (.reg [⟨some 20, .mov (.t 8), none, none⟩,
      ⟨some 21, .bin .add (.t 20) (.c (.int .i64 2)), none, none⟩,
      ⟨some 22, .mov (.t 1), none, none⟩,
      ⟨some 23, .len .sl (.t 22), none, none⟩,
      ⟨some 24, .bin .lss (.t 21) (.t 23), none, none⟩,
      ⟨some 25, .mov (.t 24), none, none⟩,
      ⟨some 26, .mov (.t 7), (some (25, true)), none⟩,
      ⟨some 27, .len .sl (.t 26), (some (25, true)), none⟩,
      ⟨some 28, .bin .lss (.t 27) (.c (.int .i64 40)), (some (25, true)), none⟩,
      ⟨some 29, .pick (.t 25) (.t 28) (.c (.bool false)), none, none⟩])
  (.cond (.t 29)
  (.skip)
  (.exit 0)))
  (.seq (.block 1
  (.seq (.reg [⟨some 32, .mov (.t 6), none, none⟩,
        ⟨some 33, .mov (.t 1), none, none⟩,
        ⟨some 34, .mov (.t 8), none, none⟩,
        ⟨some 35, .iaddr 1 (.t 33) (.t 34), none, none⟩,
        ⟨some 36, .load 1 false (.t 35), none, none⟩,
        ⟨some 37, .bin .rem (.t 36) (.c (.int .u8 4)), none, none⟩,
        ⟨some 38, .conv .i64 (.t 37), none, none⟩,
        ⟨some 39, .bin .add (.t 32) (.t 38), none, none⟩,
        ⟨some 6, .mov (.t 39), none, none⟩])
    (.seq (.seq (.reg [⟨some 40, .mov (.t 1), none, none⟩,
        ⟨some 41, .mov (.t 8), none, none⟩,
        ⟨some 42, .iaddr 1 (.t 40) (.t 41), none, none⟩,
        ⟨some 43, .load 1 false (.t 42), none, none⟩,
        ⟨some 44, .bin .gtr (.t 43) (.c (.int .u8 240)), none, none⟩])
    (.cond (.t 44)
    (.reg [⟨some 45, .mov (.t 6), none, none⟩,
          ⟨some 46, .mov (.t 1), none, none⟩,
          ⟨some 47, .mov (.t 8), none, none⟩,
          ⟨some 48, .iaddr 1 (.t 46) (.t 47), none, none⟩,
          ⟨some 49, .load 1 false (.t 48), none, none⟩,
          ⟨some 50, .bin .rem (.t 49) (.c (.int .u8 40)), none, none⟩,
          ⟨some 51, .bin .shl (.c (.int .i64 1)) (.t 50), none, none⟩,
          ⟨some 52, .bin .add (.t 45) (.t 51), none, none⟩,
          ⟨some 6, .mov (.t 52), none, none⟩])
    (.skip)))
    (.seq (.regD [0, 1, 2, 3, 4, 5, 6, 7, 8, 9, 10, 11, 12, 13, 14, 16, 17, 15, 18] [⟨some 54, .mov (.t 1), none, none⟩,
        ⟨some 55, .mov (.t 8), none, none⟩,
        ⟨some 56, .bin .add (.t 55) (.c (.int .i64 1)), none, none⟩,
        ⟨some 57, .iaddr 1 (.t 54) (.t 56), none, none⟩,
        ⟨some 58, .load 1 false (.t 57), none, none⟩,
        ⟨some 59, .mov (.t 1), none, none⟩,
        ⟨some 60, .mov (.t 8), none, none⟩,
        ⟨some 61, .bin .add (.t 60) (.c (.int .i64 2)), none, none⟩,
        ⟨some 62, .iaddr 1 (.t 59) (.t 61), none, none⟩,
        ⟨some 63, .load 1 false (.t 62), none, none⟩,
        ⟨some 64, .faddr 0 (.t 5), none, none⟩,
        ⟨some 65, .load 1 false (.t 64), none, none⟩,
        ⟨some 66, .call fid_archipelagoseat_Edge [(.t 58), (.t 63), (.t 65)], none, none⟩,
        ⟨some 53, .mov (.t 66), none, none⟩,
        ⟨some 67, .extract (.t 53) 0, none, none⟩,
        ⟨some 9, .box (.c (.agg [(.int .u32 0), (.int .u32 0)])), none, none⟩,
        ⟨none, .store 2 (.t 9) (.t 67), none, none⟩,
        ⟨some 68, .extract (.t 53) 1, none, none⟩,
        ⟨some 10, .mov (.t 68), none, none⟩])
    (.seq (.reg [⟨some 69, .mov (.t 10), none, none⟩])
    (.cond (.t 69)
    (.reg [⟨some 70, .mov (.t 7), none, none⟩,
          ⟨some 71, .mov (.t 6), none, none⟩,
          ⟨some 72, .load 2 true (.t 9), none, none⟩,
          ⟨some 73, .build [(.int .i64 0), (.int .u32 0), (.int .u32 0), (.bool false)] [(0, 1, (.t 71)), (1, 2, (.t 72))], none, none⟩,
          ⟨some 74, .call fid_archipelagoseat_insert [(.t 70), (.t 73)], none, none⟩,
          ⟨some 7, .mov (.t 74), none, none⟩])
    (.skip)))))))
  (.reg [⟨some 30, .mov (.t 8), none, none⟩,
      ⟨some 31, .bin .add (.t 30) (.c (.int .i64 3)), none, none⟩,
      ⟨some 8, .mov (.t 31), none, none⟩])))
def archipelagoseat_History_b1 : IC :=
  (.seq (.seq (.reg [⟨some 75, .mov (.t 12), none, none⟩,
      ⟨some 76, .mov (.t 7), none, none⟩,
      ⟨some 77, .len .sl (.t 76), none, none⟩,
      ⟨some 78, .bin .lss (.t 75) (.t 77), none, none⟩])
  (.cond (.t 78)
  (.skip)
  (.exit 2)))
  (.seq (.block 3
  (.seq (.reg [⟨some 81, .mov (.t 7), none, none⟩,
        ⟨some 82, .mov (.t 12), none, none⟩,
        ⟨some 83, .iaddr 4 (.t 81) (.t 82), none, none⟩,
        ⟨some 84, .load 4 true (.t 83), none, none⟩,
        ⟨some 13, .box (.c (.agg [(.int .i64 0), (.int .u32 0), (.int .u32 0), (.bool false)])), none, none⟩,
        ⟨none, .store 4 (.t 13) (.t 84), none, none⟩])
    (.seq (.reg [⟨some 85, .mov (.t 11), none, none⟩,
        ⟨some 86, .faddr 1 (.t 13), none, none⟩,
        ⟨some 87, .load 2 true (.t 86), none, none⟩,
        ⟨some 88, .call fid_archipelagoref8_Has [(.t 85), (.t 87)], none, none⟩,
        ⟨some 89, .un .not (.t 88), none, none⟩,
        ⟨some 90, .faddr 3 (.t 13), none, none⟩,
        ⟨none, .store 1 (.t 90) (.t 89), none, none⟩])
    (.seq (.reg [⟨some 92, .mov (.t 11), none, none⟩,
        ⟨some 93, .load 4 true (.t 13), none, none⟩,
        ⟨some 94, .call fid_archipelagoref8_Turn [(.t 92), (.t 93)], none, none⟩,
        ⟨some 91, .mov (.t 94), none, none⟩,
        ⟨some 95, .extract (.t 91) 0, none, none⟩,
        ⟨some 96, .extract (.t 91) 1, none, none⟩,
        ⟨some 11, .mov (.t 95), none, none⟩])
    (.reg [⟨some 97, .faddr 1 (.t 5), none, none⟩,
        ⟨some 98, .load 1 false (.t 97), none, none⟩,
        ⟨some 99, .load 4 true (.t 13), none, none⟩,
        ⟨some 100, .mkrow 4 1 [(.int .i64 0), (.int .u32 0), (.int .u32 0), (.bool false)] [(0, (.t 99))], none, none⟩,
        ⟨some 101, .append 4 24 (.t 98) (.t 100), none, none⟩,
        ⟨some 102, .faddr 1 (.t 5), none, none⟩,
        ⟨none, .store 1 (.t 102) (.t 101), none, none⟩])))))
  (.reg [⟨some 79, .mov (.t 12), none, none⟩,
      ⟨some 80, .bin .add (.t 79) (.c (.int .i64 1)), none, none⟩,
      ⟨some 12, .mov (.t 80), none, none⟩])))
def ir_archipelagoseat_History : IFn :=
  { params := 2, results := [.cell 4 2 true], body :=
  (.seq (.reg [⟨some 4, .box (.c (.agg [(.int .u64 0), .nils])), none, none⟩])
  (.seq (.reg [⟨some 14, .mov (.t 0), none, none⟩,
      ⟨some 15, .call fid_archipelagoseat_Vertices [(.t 14)], none, none⟩,
      ⟨some 16, .build [(.int .u64 0), .nils] [(0, 1, (.t 15))], none, none⟩,
      ⟨some 5, .box (.c (.agg [(.int .u64 0), .nils])), none, none⟩,
      ⟨none, .store 2 (.t 5) (.t 16), none, none⟩])
  (.seq (.reg [⟨some 17, .mov (.t 0), none, none⟩,
      ⟨some 18, .bin .rem (.t 17) (.c (.int .u8 3)), none, none⟩,
      ⟨some 19, .conv .i64 (.t 18), none, none⟩,
      ⟨some 6, .mov (.t 19), none, none⟩])
  (.seq (.reg [⟨some 7, .mov (.c .nils), none, none⟩])
  (.seq (.seq (.reg [⟨some 8, .mov (.c (.int .i64 0)), none, none⟩])
  (.block 0
  (.loop [1, 4, 5, 6, 7, 8] archipelagoseat_History_b0)))
  (.seq (.reg [⟨some 11, .mov (.c .nils), none, none⟩])
  (.seq (.seq (.reg [⟨some 12, .mov (.c (.int .i64 0)), none, none⟩])
  (.block 2
  (.loop [4, 5, 7, 11, 12] archipelagoseat_History_b1)))
  (.seq (.reg [⟨some 103, .load 2 true (.t 5), none, none⟩,
      ⟨none, .store 2 (.t 4) (.t 103), none, none⟩])
  (.ret))))))))) }
def ir_archipelagoref8_Right : IFn :=
  { params := 2, results := [.tmp 4], body :=
  (.seq (.reg [⟨some 2, .box (.t 0), none, none⟩,
      ⟨some 4, .mov (.c (.bool false)), none, none⟩])
  (.seq (.reg [⟨some 5, .faddr 0 (.t 2), none, none⟩,
      ⟨some 6, .load 1 false (.t 5), none, none⟩,
      ⟨some 7, .faddr 1 (.t 2), none, none⟩,
      ⟨some 8, .load 1 false (.t 7), none, none⟩,
      ⟨some 9, .bin .lss (.t 6) (.t 8), none, none⟩,
      ⟨some 10, .mov (.t 9), none, none⟩,
      ⟨some 11, .faddr 1 (.t 2), (some (10, true)), none⟩,
      ⟨some 12, .load 1 false (.t 11), (some (10, true)), none⟩,
      ⟨some 13, .conv .u64 (.t 12), (some (10, true)), none⟩,
      ⟨some 14, .mov (.t 1), (some (10, true)), none⟩,
      ⟨some 15, .bin .lss (.t 13) (.t 14), (some (10, true)), none⟩,
      ⟨some 16, .pick (.t 10) (.t 15) (.c (.bool false)), none, none⟩,
      ⟨some 4, .mov (.t 16), none, none⟩])
  (.ret))) }
def archipelagoref8_Check_b0 : IC :=
  (.seq (.seq (.reg [⟨some 18, .mov (.t 5), none, none⟩,
      ⟨some 19, .faddr 1 (.t 1), none, none⟩,
      ⟨some 20, .load 1 false (.t 19), none, none⟩,
      ⟨some 21, .len .sl (.t 20), none, none⟩,
      ⟨some 22, .bin .lss (.t 18) (.t 21), none, none⟩])
  (.cond (.t 22)
  (.skip)
  (.exit 0)))
  (.seq (.block 1
  (.seq (.reg [⟨some 25, .faddr 1 (.t 1), none, none⟩,
        ⟨some 26, .load 1 false (.t 25), none, none⟩,
        ⟨some 27, .mov (.t 5), none, none⟩,
        ⟨some 28, .iaddr 4 (.t 26) (.t 27), none, none⟩,
        ⟨some 29, .load 4 true (.t 28), none, none⟩,
        ⟨some 6, .box (.c (.agg [(.int .i64 0), (.int .u32 0), (.int .u32 0), (.bool false)])), none, none⟩,
        ⟨none, .store 4 (.t 6) (.t 29), none, none⟩])
    (.seq (.block 2
    (.seq (.reg [⟨some 31, .faddr 0 (.t 6), none, none⟩,
          ⟨some 32, .load 1 false (.t 31), none, none⟩,
          ⟨some 33, .bin .lss (.t 32) (.c (.int .i64 0)), none, none⟩,
          ⟨some 34, .mov (.t 33), none, none⟩,
          ⟨some 35, .faddr 0 (.t 6), (some (34, false)), none⟩,
          ⟨some 36, .load 1 false (.t 35), (some (34, false)), none⟩,
          ⟨some 37, .bin .gtr (.t 36) (.c (.int .i64 4611686018427387903)), (some (34, false)), none⟩,
          ⟨some 38, .pick (.t 34) (.c (.bool true)) (.t 37), none, none⟩,
          ⟨some 30, .mov (.t 38), none, none⟩])
      (.cond (.t 30)
      (.seq (.reg [⟨some 39, .mov (.t 5), none, none⟩,
            ⟨some 2, .mov (.t 39), none, none⟩,
            ⟨some 3, .mov (.c (.int .i64 26)), none, none⟩])
        (.ret))
      (.seq (.reg [⟨some 41, .faddr 1 (.t 6), none, none⟩,
            ⟨some 42, .load 2 true (.t 41), none, none⟩,
            ⟨some 43, .faddr 0 (.t 1), none, none⟩,
            ⟨some 44, .load 1 false (.t 43), none, none⟩,
            ⟨some 45, .call fid_archipelagoref8_Right [(.t 42), (.t 44)], none, none⟩,
            ⟨some 46, .un .not (.t 45), none, none⟩,
            ⟨some 40, .mov (.t 46), none, none⟩])
        (.cond (.t 40)
        (.seq (.reg [⟨some 47, .mov (.t 5), none, none⟩,
              ⟨some 2, .mov (.t 47), none, none⟩,
              ⟨some 3, .mov (.c (.int .i64 24)), none, none⟩])
          (.ret))
        (.seq (.regD [0, 1, 2, 3, 4, 5, 6, 7, 8, 9, 10, 11, 12, 13] [⟨some 49, .mov (.t 5), none, none⟩,
              ⟨some 50, .bin .gtr (.t 49) (.c (.int .i64 0)), none, none⟩,
              ⟨some 51, .mov (.t 50), none, none⟩,
              ⟨some 52, .faddr 1 (.t 1), (some (51, true)), none⟩,
              ⟨some 53, .load 1 false (.t 52), (some (51, true)), none⟩,
              ⟨some 54, .mov (.t 5), (some (51, true)), none⟩,
              ⟨some 55, .bin .sub (.t 54) (.c (.int .i64 1)), (some (51, true)), none⟩,
              ⟨some 56, .iaddr 4 (.t 53) (.t 55), (some (51, true)), none⟩,
              ⟨some 57, .load 4 true (.t 56), (some (51, true)), none⟩,
              ⟨some 58, .load 4 true (.t 6), (some (51, true)), none⟩,
              ⟨some 59, .call fid_archipelagoref8_Before [(.t 57), (.t 58)], (some (51, true)), none⟩,
              ⟨some 60, .un .not (.t 59), (some (51, true)), none⟩,
              ⟨some 61, .pick (.t 51) (.t 60) (.c (.bool false)), none, none⟩,
              ⟨some 48, .mov (.t 61), none, none⟩])
          (.cond (.t 48)
          (.seq (.reg [⟨some 62, .mov (.t 5), none, none⟩,
                ⟨some 2, .mov (.t 62), none, none⟩,
                ⟨some 3, .mov (.c (.int .i64 23)), none, none⟩])
            (.ret))
          (.skip))))))))
    (.seq (.reg [⟨some 64, .mov (.t 4), none, none⟩,
        ⟨some 65, .load 4 true (.t 6), none, none⟩,
        ⟨some 66, .call fid_archipelagoref8_Turn [(.t 64), (.t 65)], none, none⟩,
        ⟨some 63, .mov (.t 66), none, none⟩,
        ⟨some 67, .extract (.t 63) 0, none, none⟩,
        ⟨some 68, .extract (.t 63) 1, none, none⟩,
        ⟨some 7, .mov (.t 67), none, none⟩,
        ⟨some 8, .mov (.t 68), none, none⟩])
    (.seq (.seq (.reg [⟨some 69, .mov (.t 8), none, none⟩,
        ⟨some 70, .un .not (.t 69), none, none⟩])
    (.cond (.t 70)
    (.seq (.reg [⟨some 71, .mov (.t 5), none, none⟩,
          ⟨some 2, .mov (.t 71), none, none⟩,
          ⟨some 3, .mov (.c (.int .i64 25)), none, none⟩])
      (.ret))
    (.skip)))
    (.reg [⟨some 72, .mov (.t 7), none, none⟩,
        ⟨some 4, .mov (.t 72), none, none⟩]))))))
  (.reg [⟨some 23, .mov (.t 5), none, none⟩,
      ⟨some 24, .bin .add (.t 23) (.c (.int .i64 1)), none, none⟩,
      ⟨some 5, .mov (.t 24), none, none⟩])))
def ir_archipelagoref8_Check : IFn :=
  { params := 1, results := [.tmp 2, .tmp 3], body :=
  (.seq (.reg [⟨some 1, .box (.t 0), none, none⟩,
      ⟨some 2, .mov (.c (.int .i64 0)), none, none⟩,
      ⟨some 3, .mov (.c (.int .i64 0)), none, none⟩])
  (.seq (.seq (.reg [⟨some 9, .faddr 0 (.t 1), none, none⟩,
      ⟨some 10, .load 1 false (.t 9), none, none⟩,
      ⟨some 11, .bin .gtr (.t 10) (.c (.int .u64 4294967296)), none, none⟩,
      ⟨some 12, .mov (.t 11), none, none⟩,
      ⟨some 13, .faddr 1 (.t 1), (some (12, false)), none⟩,
      ⟨some 14, .load 1 false (.t 13), (some (12, false)), none⟩,
      ⟨some 15, .len .sl (.t 14), (some (12, false)), none⟩,
      ⟨some 16, .bin .gtr (.t 15) (.c (.int .i64 2147483648)), (some (12, false)), none⟩,
      ⟨some 17, .pick (.t 12) (.c (.bool true)) (.t 16), none, none⟩])
  (.cond (.t 17)
  (.seq (.reg [⟨some 2, .mov (.c (.int .i64 0)), none, none⟩,
        ⟨some 3, .mov (.c (.int .i64 26)), none, none⟩])
    (.ret))
  (.skip)))
  (.seq (.reg [⟨some 4, .mov (.c .nils), none, none⟩])
  (.seq (.seq (.reg [⟨some 5, .mov (.c (.int .i64 0)), none, none⟩])
  (.block 0
  (.loop [1, 4, 5] archipelagoref8_Check_b0)))
  (.seq (.reg [⟨some 2, .mov (.c (.int .i64 0)), none, none⟩,
      ⟨some 3, .mov (.c (.int .i64 0)), none, none⟩])
  (.ret)))))) }
def archipelagoref8_After_b0 : IC :=
  (.seq (.seq (.reg [⟨some 18, .mov (.t 9), none, none⟩,
      ⟨some 19, .faddr 1 (.t 2), none, none⟩,
      ⟨some 20, .load 1 false (.t 19), none, none⟩,
      ⟨some 21, .len .sl (.t 20), none, none⟩,
      ⟨some 22, .bin .lss (.t 18) (.t 21), none, none⟩,
      ⟨some 23, .mov (.t 22), none, none⟩,
      ⟨some 24, .mov (.t 9), (some (23, true)), none⟩,
      ⟨some 25, .mov (.t 1), (some (23, true)), none⟩,
      ⟨some 26, .bin .lss (.t 24) (.t 25), (some (23, true)), none⟩,
      ⟨some 27, .pick (.t 23) (.t 26) (.c (.bool false)), none, none⟩])
  (.cond (.t 27)
  (.skip)
  (.exit 0)))
  (.seq (.block 1
  (.reg [⟨some 31, .mov (.t 8), none, none⟩,
        ⟨some 32, .faddr 1 (.t 2), none, none⟩,
        ⟨some 33, .load 1 false (.t 32), none, none⟩,
        ⟨some 34, .mov (.t 9), none, none⟩,
        ⟨some 35, .iaddr 4 (.t 33) (.t 34), none, none⟩,
        ⟨some 36, .load 4 true (.t 35), none, none⟩,
        ⟨some 37, .call fid_archipelagoref8_Turn [(.t 31), (.t 36)], none, none⟩,
        ⟨some 30, .mov (.t 37), none, none⟩,
        ⟨some 38, .extract (.t 30) 0, none, none⟩,
        ⟨some 39, .extract (.t 30) 1, none, none⟩,
        ⟨some 8, .mov (.t 38), none, none⟩]))
  (.reg [⟨some 28, .mov (.t 9), none, none⟩,
      ⟨some 29, .bin .add (.t 28) (.c (.int .i64 1)), none, none⟩,
      ⟨some 9, .mov (.t 29), none, none⟩])))
def ir_archipelagoref8_After : IFn :=
  { params := 2, results := [.tmp 4, .tmp 5], body :=
  (.seq (.reg [⟨some 2, .box (.t 0), none, none⟩,
      ⟨some 4, .mov (.c .nils), none, none⟩,
      ⟨some 5, .mov (.c (.int .i64 0)), none, none⟩])
  (.seq (.seq (.reg [⟨some 11, .load 2 true (.t 2), none, none⟩,
      ⟨some 12, .call fid_archipelagoref8_Check [(.t 11)], none, none⟩,
      ⟨some 10, .mov (.t 12), none, none⟩,
      ⟨some 13, .extract (.t 10) 0, none, none⟩,
      ⟨some 14, .extract (.t 10) 1, none, none⟩,
      ⟨some 6, .mov (.t 13), none, none⟩,
      ⟨some 7, .mov (.t 14), none, none⟩])
  (.seq (.reg [⟨some 15, .mov (.t 7), none, none⟩,
      ⟨some 16, .bin .neq (.t 15) (.c (.int .i64 0)), none, none⟩])
  (.cond (.t 16)
  (.seq (.reg [⟨some 17, .mov (.t 7), none, none⟩,
        ⟨some 4, .mov (.c .nils), none, none⟩,
        ⟨some 5, .mov (.t 17), none, none⟩])
    (.ret))
  (.skip))))
  (.seq (.reg [⟨some 8, .mov (.c .nils), none, none⟩])
  (.seq (.seq (.reg [⟨some 9, .mov (.c (.int .i64 0)), none, none⟩])
  (.block 0
  (.loop [1, 2, 8, 9] archipelagoref8_After_b0)))
  (.seq (.reg [⟨some 40, .mov (.t 8), none, none⟩,
      ⟨some 4, .mov (.t 40), none, none⟩,
      ⟨some 5, .mov (.c (.int .i64 0)), none, none⟩])
  (.ret)))))) }
def archipelagoref8_Upto_b0 : IC :=
  (.seq (.seq (.reg [⟨some 6, .mov (.t 5), none, none⟩,
      ⟨some 7, .faddr 1 (.t 2), none, none⟩,
      ⟨some 8, .load 1 false (.t 7), none, none⟩,
      ⟨some 9, .len .sl (.t 8), none, none⟩,
      ⟨some 10, .bin .lss (.t 6) (.t 9), none, none⟩,
      ⟨some 11, .mov (.t 10), none, none⟩,
      ⟨some 12, .faddr 1 (.t 2), (some (11, true)), none⟩,
      ⟨some 13, .load 1 false (.t 12), (some (11, true)), none⟩,
      ⟨some 14, .mov (.t 5), (some (11, true)), none⟩,
      ⟨some 15, .iaddr 4 (.t 13) (.t 14), (some (11, true)), none⟩,
      ⟨some 16, .faddr 0 (.t 15), (some (11, true)), none⟩,
      ⟨some 17, .load 1 false (.t 16), (some (11, true)), none⟩,
      ⟨some 18, .mov (.t 1), (some (11, true)), none⟩,
      ⟨some 19, .bin .leq (.t 17) (.t 18), (some (11, true)), none⟩,
      ⟨some 20, .pick (.t 11) (.t 19) (.c (.bool false)), none, none⟩])
  (.cond (.t 20)
  (.skip)
  (.exit 0)))
  (.block 1
  (.reg [⟨some 21, .mov (.t 5), none, none⟩,
        ⟨some 22, .bin .add (.t 21) (.c (.int .i64 1)), none, none⟩,
        ⟨some 5, .mov (.t 22), none, none⟩])))
def ir_archipelagoref8_Upto : IFn :=
  { params := 2, results := [.tmp 4], body :=
  (.seq (.reg [⟨some 2, .box (.t 0), none, none⟩,
      ⟨some 4, .mov (.c (.int .i64 0)), none, none⟩])
  (.seq (.reg [⟨some 5, .mov (.c (.int .i64 0)), none, none⟩])
  (.seq (.block 0
  (.loop [1, 2, 5] archipelagoref8_Upto_b0))
  (.seq (.reg [⟨some 23, .mov (.t 5), none, none⟩,
      ⟨some 4, .mov (.t 23), none, none⟩])
  (.ret))))) }
def ir_archipelagoref8_At : IFn :=
  { params := 2, results := [.tmp 4, .tmp 5], body :=
  (.seq (.reg [⟨some 2, .box (.t 0), none, none⟩,
      ⟨some 4, .mov (.c .nils), none, none⟩,
      ⟨some 5, .mov (.c (.int .i64 0)), none, none⟩])
  (.seq (.regD [1, 2, 3, 0, 4, 5, 6, 7, 8] [⟨some 7, .load 2 true (.t 2), none, none⟩,
      ⟨some 8, .mov (.t 1), none, none⟩,
      ⟨some 9, .call fid_archipelagoref8_Upto [(.t 7), (.t 8)], none, none⟩,
      ⟨some 6, .load 2 true (.t 2), none, some (0, 1)⟩,
      ⟨some 10, .call fid_archipelagoref8_After [(.t 6), (.t 9)], none, none⟩,
      ⟨some 11, .extract (.t 10) 0, none, none⟩,
      ⟨some 12, .extract (.t 10) 1, none, none⟩,
      ⟨some 4, .mov (.t 11), none, none⟩,
      ⟨some 5, .mov (.t 12), none, none⟩])
  (.ret))) }
def ir_archipelagoseat_Time : IFn :=
  { params := 2, results := [.tmp 4], body :=
  (.seq (.reg [⟨some 2, .box (.t 0), none, none⟩,
      ⟨some 4, .mov (.c (.int .i64 0)), none, none⟩])
  (.seq (.seq (.reg [⟨some 5, .faddr 1 (.t 2), none, none⟩,
      ⟨some 6, .load 1 false (.t 5), none, none⟩,
      ⟨some 7, .len .sl (.t 6), none, none⟩,
      ⟨some 8, .bin .eql (.t 7) (.c (.int .i64 0)), none, none⟩,
      ⟨some 9, .mov (.t 8), none, none⟩,
      ⟨some 10, .mov (.t 1), (some (9, false)), none⟩,
      ⟨some 11, .bin .gtr (.t 10) (.c (.int .u8 245)), (some (9, false)), none⟩,
      ⟨some 12, .pick (.t 9) (.c (.bool true)) (.t 11), none, none⟩])
  (.cond (.t 12)
  (.seq (.reg [⟨some 13, .mkrow 1 6 [(.int .i64 0)] [(0, (.c (.int .i64 0))), (1, (.c (.int .i64 5))), (2, (.c (.int .i64 4611686018427387903))), (3, (.c (.int .i64 9223372036854775807))), (4, (.c (.int .i64 (-1)))), (5, (.c (.int .i64 (-9223372036854775808))))], none, none⟩,
        ⟨some 14, .mov (.t 1), none, none⟩,
        ⟨some 15, .bin .rem (.t 14) (.c (.int .u8 6)), none, none⟩,
        ⟨some 16, .iaddr 1 (.t 13) (.t 15), none, none⟩,
        ⟨some 17, .load 1 false (.t 16), none, none⟩,
        ⟨some 4, .mov (.t 17), none, none⟩])
    (.ret))
  (.skip)))
  (.seq (.regD [0, 1, 2, 3, 4, 5, 6, 7, 8, 9, 10, 11, 12, 13, 14, 15, 16, 17] [⟨some 18, .faddr 1 (.t 2), none, none⟩,
      ⟨some 19, .load 1 false (.t 18), none, none⟩,
      ⟨some 20, .mov (.t 1), none, none⟩,
      ⟨some 21, .bin .quo (.t 20) (.c (.int .u8 3)), none, none⟩,
      ⟨some 22, .conv .i64 (.t 21), none, none⟩,
      ⟨some 23, .faddr 1 (.t 2), none, none⟩,
      ⟨some 24, .load 1 false (.t 23), none, none⟩,
      ⟨some 25, .len .sl (.t 24), none, none⟩,
      ⟨some 26, .bin .rem (.t 22) (.t 25), none, none⟩,
      ⟨some 27, .iaddr 4 (.t 19) (.t 26), none, none⟩,
      ⟨some 28, .faddr 0 (.t 27), none, none⟩,
      ⟨some 29, .load 1 false (.t 28), none, none⟩,
      ⟨some 30, .mov (.t 1), none, none⟩,
      ⟨some 31, .bin .rem (.t 30) (.c (.int .u8 3)), none, none⟩,
      ⟨some 32, .conv .i64 (.t 31), none, none⟩,
      ⟨some 33, .bin .add (.t 29) (.t 32), none, none⟩,
      ⟨some 34, .bin .sub (.t 33) (.c (.int .i64 1)), none, none⟩,
      ⟨some 4, .mov (.t 34), none, none⟩])
  (.ret)))) }
def archipelagoref1_Put_b0 : IC :=
  (.seq (.seq (.reg [⟨some 16, .mov (.t 5), none, none⟩,
      ⟨some 17, .bin .geq (.t 16) (.c (.int .u64 128)), none, none⟩])
  (.cond (.t 17)
  (.skip)
  (.exit 2)))
  (.block 3
  (.seq (.reg [⟨some 18, .mov (.t 3), none, none⟩,
        ⟨some 19, .mov (.t 5), none, none⟩,
        ⟨some 20, .bin .and (.t 19) (.c (.int .u64 127)), none, none⟩,
        ⟨some 21, .conv .u8 (.t 20), none, none⟩,
        ⟨some 22, .bin .or (.t 21) (.c (.int .u8 128)), none, none⟩,
        ⟨some 23, .mkrow 1 1 [(.int .u8 0)] [(0, (.t 22))], none, none⟩,
        ⟨some 24, .append 1 1 (.t 18) (.t 23), none, none⟩,
        ⟨some 3, .mov (.t 24), none, none⟩])
    (.reg [⟨some 25, .mov (.t 5), none, none⟩,
        ⟨some 26, .bin .shr (.t 25) (.c (.int .u64 7)), none, none⟩,
        ⟨some 5, .mov (.t 26), none, none⟩]))))
def archipelagoref1_Put_b1 : IC :=
  (.seq (.seq (.reg [⟨some 6, .mov (.t 4), none, none⟩,
      ⟨some 7, .mov (.t 0), none, none⟩,
      ⟨some 8, .len .sl (.t 7), none, none⟩,
      ⟨some 9, .bin .lss (.t 6) (.t 8), none, none⟩])
  (.cond (.t 9)
  (.skip)
  (.exit 0)))
  (.seq (.block 1
  (.seq (.reg [⟨some 12, .mov (.t 0), none, none⟩,
        ⟨some 13, .mov (.t 4), none, none⟩,
        ⟨some 14, .iaddr 1 (.t 12) (.t 13), none, none⟩,
        ⟨some 15, .load 1 false (.t 14), none, none⟩,
        ⟨some 5, .mov (.t 15), none, none⟩])
    (.seq (.block 2
    (.loop [0, 3, 4, 5] archipelagoref1_Put_b0))
    (.reg [⟨some 27, .mov (.t 3), none, none⟩,
        ⟨some 28, .mov (.t 5), none, none⟩,
        ⟨some 29, .conv .u8 (.t 28), none, none⟩,
        ⟨some 30, .mkrow 1 1 [(.int .u8 0)] [(0, (.t 29))], none, none⟩,
        ⟨some 31, .append 1 1 (.t 27) (.t 30), none, none⟩,
        ⟨some 3, .mov (.t 31), none, none⟩]))))
  (.reg [⟨some 10, .mov (.t 4), none, none⟩,
      ⟨some 11, .bin .add (.t 10) (.c (.int .i64 1)), none, none⟩,
      ⟨some 4, .mov (.t 11), none, none⟩])))
def ir_archipelagoref1_Put : IFn :=
  { params := 1, results := [.tmp 2], body :=
  (.seq (.reg [⟨some 2, .mov (.c .nils), none, none⟩])
  (.seq (.reg [⟨some 3, .mov (.c .nils), none, none⟩])
  (.seq (.seq (.reg [⟨some 4, .mov (.c (.int .i64 0)), none, none⟩])
  (.block 0
  (.loop [0, 3, 4] archipelagoref1_Put_b1)))
  (.seq (.reg [⟨some 32, .mov (.t 3), none, none⟩,
      ⟨some 2, .mov (.t 32), none, none⟩])
  (.ret))))) }
def archipelagoref15_AdjPut_b0 : IC :=
  (.seq (.seq (.regD [0, 1, 2, 3, 4, 5, 6, 7, 8, 9, 10, 11, 12, 13, 14, 15, 16, 17, 18, 19, 20] [⟨some 77, .mov (.t 7), none, none⟩,
      ⟨some 78, .mov (.t 8), none, none⟩,
      ⟨some 79, .bin .add (.t 77) (.t 78), none, none⟩,
      ⟨some 80, .mov (.t 0), none, none⟩,
      ⟨some 81, .len .sl (.t 80), none, none⟩,
      ⟨some 82, .bin .lss (.t 79) (.t 81), none, none⟩,
      ⟨some 83, .mov (.t 82), none, none⟩,
      ⟨some 84, .mov (.t 0), (some (83, true)), none⟩,
      ⟨some 85, .mov (.t 7), (some (83, true)), none⟩,
      ⟨some 86, .mov (.t 8), (some (83, true)), none⟩,
      ⟨some 87, .bin .add (.t 85) (.t 86), (some (83, true)), none⟩,
      ⟨some 88, .iaddr 2 (.t 84) (.t 87), (some (83, true)), none⟩,
      ⟨some 89, .faddr 0 (.t 88), (some (83, true)), none⟩,
      ⟨some 90, .load 1 false (.t 89), (some (83, true)), none⟩,
      ⟨some 91, .mov (.t 0), (some (83, true)), none⟩,
      ⟨some 92, .mov (.t 7), (some (83, true)), none⟩,
      ⟨some 93, .iaddr 2 (.t 91) (.t 92), (some (83, true)), none⟩,
      ⟨some 94, .faddr 0 (.t 93), (some (83, true)), none⟩,
      ⟨some 95, .load 1 false (.t 94), (some (83, true)), none⟩,
      ⟨some 96, .bin .eql (.t 90) (.t 95), (some (83, true)), none⟩,
      ⟨some 97, .pick (.t 83) (.t 96) (.c (.bool false)), none, none⟩])
  (.cond (.t 97)
  (.skip)
  (.exit 2)))
  (.block 3
  (.reg [⟨some 98, .mov (.t 8), none, none⟩,
        ⟨some 99, .bin .add (.t 98) (.c (.int .i64 1)), none, none⟩,
        ⟨some 8, .mov (.t 99), none, none⟩])))
def archipelagoref15_AdjPut_b1 : IC :=
  (.seq (.seq (.reg [⟨some 9, .mov (.t 7), none, none⟩,
      ⟨some 10, .mov (.t 0), none, none⟩,
      ⟨some 11, .len .sl (.t 10), none, none⟩,
      ⟨some 12, .bin .lss (.t 9) (.t 11), none, none⟩])
  (.cond (.t 12)
  (.skip)
  (.exit 0)))
  (.seq (.block 1
  (.seq (.seq (.regD [0, 1, 2, 3, 4, 5, 6, 7, 8, 9, 10, 11, 12, 13, 14, 15, 16, 17, 18, 19, 20, 21, 22, 23, 24, 25, 26, 27] [⟨some 15, .mov (.t 0), none, none⟩,
        ⟨some 16, .mov (.t 7), none, none⟩,
        ⟨some 17, .iaddr 2 (.t 15) (.t 16), none, none⟩,
        ⟨some 18, .faddr 0 (.t 17), none, none⟩,
        ⟨some 19, .load 1 false (.t 18), none, none⟩,
        ⟨some 20, .mov (.t 0), none, none⟩,
        ⟨some 21, .mov (.t 7), none, none⟩,
        ⟨some 22, .iaddr 2 (.t 20) (.t 21), none, none⟩,
        ⟨some 23, .faddr 1 (.t 22), none, none⟩,
        ⟨some 24, .load 1 false (.t 23), none, none⟩,
        ⟨some 25, .bin .geq (.t 19) (.t 24), none, none⟩,
        ⟨some 26, .mov (.t 25), none, none⟩,
        ⟨some 27, .mov (.t 7), (some (26, false)), none⟩,
        ⟨some 28, .bin .gtr (.t 27) (.c (.int .i64 0)), (some (26, false)), none⟩,
        ⟨some 29, .mov (.t 28), (some (26, false)), none⟩,
        ⟨some 30, .mov (.t 0), (some (29, true)), none⟩,
        ⟨some 31, .mov (.t 7), (some (29, true)), none⟩,
        ⟨some 32, .bin .sub (.t 31) (.c (.int .i64 1)), (some (29, true)), none⟩,
        ⟨some 33, .iaddr 2 (.t 30) (.t 32), (some (29, true)), none⟩,
        ⟨some 34, .load 2 true (.t 33), (some (29, true)), none⟩,
        ⟨some 35, .mov (.t 0), (some (29, true)), none⟩,
        ⟨some 36, .mov (.t 7), (some (29, true)), none⟩,
        ⟨some 37, .iaddr 2 (.t 35) (.t 36), (some (29, true)), none⟩,
        ⟨some 38, .load 2 true (.t 37), (some (29, true)), none⟩,
        ⟨some 39, .call fid_archipelagoref8_Less [(.t 34), (.t 38)], (some (29, true)), none⟩,
        ⟨some 40, .un .not (.t 39), (some (29, true)), none⟩,
        ⟨some 41, .pick (.t 29) (.t 40) (.c (.bool false)), (some (26, false)), none⟩,
        ⟨some 42, .pick (.t 26) (.c (.bool true)) (.t 41), none, none⟩])
    (.cond (.t 42)
    (.seq (.reg [⟨some 2, .mov (.c .nils), none, none⟩,
          ⟨some 3, .mov (.c (.int .i64 23)), none, none⟩])
      (.ret))
    (.skip)))
    (.seq (.seq (.regD [0, 1, 2, 3, 4, 5, 6, 7, 8, 9, 10, 11, 12, 13, 14, 15] [⟨some 43, .mov (.t 7), none, none⟩,
        ⟨some 44, .bin .gtr (.t 43) (.c (.int .i64 0)), none, none⟩,
        ⟨some 45, .mov (.t 44), none, none⟩,
        ⟨some 46, .mov (.t 0), (some (45, true)), none⟩,
        ⟨some 47, .mov (.t 7), (some (45, true)), none⟩,
        ⟨some 48, .bin .sub (.t 47) (.c (.int .i64 1)), (some (45, true)), none⟩,
        ⟨some 49, .iaddr 2 (.t 46) (.t 48), (some (45, true)), none⟩,
        ⟨some 50, .faddr 0 (.t 49), (some (45, true)), none⟩,
        ⟨some 51, .load 1 false (.t 50), (some (45, true)), none⟩,
        ⟨some 52, .mov (.t 0), (some (45, true)), none⟩,
        ⟨some 53, .mov (.t 7), (some (45, true)), none⟩,
        ⟨some 54, .iaddr 2 (.t 52) (.t 53), (some (45, true)), none⟩,
        ⟨some 55, .faddr 0 (.t 54), (some (45, true)), none⟩,
        ⟨some 56, .load 1 false (.t 55), (some (45, true)), none⟩,
        ⟨some 57, .bin .eql (.t 51) (.t 56), (some (45, true)), none⟩,
        ⟨some 58, .pick (.t 45) (.t 57) (.c (.bool false)), none, none⟩])
    (.cond (.t 58)
    (.seq (.regD [1, 2, 3, 4, 5, 6, 7, 8, 9, 10, 11, 12, 13, 14, 15, 16, 0, 17, 18] [⟨some 60, .mov (.t 0), none, none⟩,
          ⟨some 61, .mov (.t 7), none, none⟩,
          ⟨some 62, .iaddr 2 (.t 60) (.t 61), none, none⟩,
          ⟨some 63, .faddr 1 (.t 62), none, none⟩,
          ⟨some 64, .load 1 false (.t 63), none, none⟩,
          ⟨some 65, .mov (.t 0), none, none⟩,
          ⟨some 66, .mov (.t 7), none, none⟩,
          ⟨some 67, .bin .sub (.t 66) (.c (.int .i64 1)), none, none⟩,
          ⟨some 68, .iaddr 2 (.t 65) (.t 67), none, none⟩,
          ⟨some 69, .faddr 1 (.t 68), none, none⟩,
          ⟨some 70, .load 1 false (.t 69), none, none⟩,
          ⟨some 71, .bin .sub (.t 64) (.t 70), none, none⟩,
          ⟨some 72, .bin .sub (.t 71) (.c (.int .u32 1)), none, none⟩,
          ⟨some 73, .conv .u64 (.t 72), none, none⟩,
          ⟨some 74, .mkrow 1 1 [(.int .u64 0)] [(0, (.t 73))], none, none⟩,
          ⟨some 75, .call fid_archipelagoref1_Put [(.t 74)], none, none⟩,
          ⟨some 59, .mov (.t 4), none, none⟩,
          ⟨some 76, .append 1 1 (.t 59) (.t 75), none, none⟩,
          ⟨some 4, .mov (.t 76), none, none⟩])
      (.exit 1))
    (.skip)))
    (.seq (.reg [⟨some 8, .mov (.c (.int .i64 0)), none, none⟩])
    (.seq (.block 2
    (.loop [0, 4, 5, 6, 7, 8] archipelagoref15_AdjPut_b0))
    (.seq (.regD [1, 2, 3, 4, 5, 6, 7, 8, 9, 10, 11, 12, 13, 14, 15, 16, 17, 18, 19, 20, 21, 22, 23, 24, 25, 26, 27, 0, 28, 29] [⟨some 101, .mov (.t 0), none, none⟩,
        ⟨some 102, .mov (.t 7), none, none⟩,
        ⟨some 103, .iaddr 2 (.t 101) (.t 102), none, none⟩,
        ⟨some 104, .faddr 0 (.t 103), none, none⟩,
        ⟨some 105, .load 1 false (.t 104), none, none⟩,
        ⟨some 106, .conv .i64 (.t 105), none, none⟩,
        ⟨some 107, .mov (.t 6), none, none⟩,
        ⟨some 108, .bin .sub (.t 106) (.t 107), none, none⟩,
        ⟨some 109, .bin .sub (.t 108) (.c (.int .i64 1)), none, none⟩,
        ⟨some 110, .conv .u64 (.t 109), none, none⟩,
        ⟨some 111, .mov (.t 8), none, none⟩,
        ⟨some 112, .conv .u64 (.t 111), none, none⟩,
        ⟨some 113, .mov (.t 0), none, none⟩,
        ⟨some 114, .mov (.t 7), none, none⟩,
        ⟨some 115, .iaddr 2 (.t 113) (.t 114), none, none⟩,
        ⟨some 116, .faddr 1 (.t 115), none, none⟩,
        ⟨some 117, .load 1 false (.t 116), none, none⟩,
        ⟨some 118, .mov (.t 0), none, none⟩,
        ⟨some 119, .mov (.t 7), none, none⟩,
        ⟨some 120, .iaddr 2 (.t 118) (.t 119), none, none⟩,
        ⟨some 121, .faddr 0 (.t 120), none, none⟩,
        ⟨some 122, .load 1 false (.t 121), none, none⟩,
        ⟨some 123, .bin .sub (.t 117) (.t 122), none, none⟩,
        ⟨some 124, .bin .sub (.t 123) (.c (.int .u32 1)), none, none⟩,
        ⟨some 125, .conv .u64 (.t 124), none, none⟩,
        ⟨some 126, .mkrow 1 3 [(.int .u64 0)] [(0, (.t 110)), (1, (.t 112)), (2, (.t 125))], none, none⟩,
        ⟨some 127, .call fid_archipelagoref1_Put [(.t 126)], none, none⟩,
        ⟨some 100, .mov (.t 4), none, none⟩,
        ⟨some 128, .append 1 1 (.t 100) (.t 127), none, none⟩,
        ⟨some 4, .mov (.t 128), none, none⟩])
    (.regD [0, 1, 2, 3, 4, 5, 6, 7, 8, 9] [⟨some 129, .mov (.t 5), none, none⟩,
        ⟨some 130, .bin .add (.t 129) (.c (.int .i64 1)), none, none⟩,
        ⟨some 131, .mov (.t 0), none, none⟩,
        ⟨some 132, .mov (.t 7), none, none⟩,
        ⟨some 133, .iaddr 2 (.t 131) (.t 132), none, none⟩,
        ⟨some 134, .faddr 0 (.t 133), none, none⟩,
        ⟨some 135, .load 1 false (.t 134), none, none⟩,
        ⟨some 136, .conv .i64 (.t 135), none, none⟩,
        ⟨some 5, .mov (.t 130), none, none⟩,
        ⟨some 6, .mov (.t 136), none, none⟩])))))))
  (.reg [⟨some 13, .mov (.t 7), none, none⟩,
      ⟨some 14, .bin .add (.t 13) (.c (.int .i64 1)), none, none⟩,
      ⟨some 7, .mov (.t 14), none, none⟩])))
def ir_archipelagoref15_AdjPut : IFn :=
  { params := 1, results := [.tmp 2, .tmp 3], body :=
  (.seq (.reg [⟨some 2, .mov (.c .nils), none, none⟩,
      ⟨some 3, .mov (.c (.int .i64 0)), none, none⟩])
  (.seq (.reg [⟨some 4, .mov (.c .nils), none, none⟩])
  (.seq (.reg [⟨some 5, .mov (.c (.int .i64 0)), none, none⟩])
  (.seq (.reg [⟨some 6, .mov (.c (.int .i64 (-1))), none, none⟩])
  (.seq (.seq (.reg [⟨some 7, .mov (.c (.int .i64 0)), none, none⟩])
  (.block 0
  (.loop [0, 4, 5, 6, 7] archipelagoref15_AdjPut_b1)))
  (.seq (.reg [⟨some 137, .mov (.t 5), none, none⟩,
      ⟨some 138, .conv .u64 (.t 137), none, none⟩,
      ⟨some 139, .mkrow 1 1 [(.int .u64 0)] [(0, (.t 138))], none, none⟩,
      ⟨some 140, .call fid_archipelagoref1_Put [(.t 139)], none, none⟩,
      ⟨some 141, .mov (.t 4), none, none⟩,
      ⟨some 142, .append 1 1 (.t 140) (.t 141), none, none⟩,
      ⟨some 2, .mov (.t 142), none, none⟩,
      ⟨some 3, .mov (.c (.int .i64 0)), none, none⟩])
  (.ret))))))) }
def ir_archipelagoseat_Change : IFn :=
  { params := 5, results := [.tmp 10], body :=
  (.seq (.reg [⟨some 10, .mov (.c .nils), none, none⟩])
  (.seq (.reg [⟨some 13, .mov (.t 0), none, none⟩,
      ⟨some 14, .append 1 1 (.c .nils) (.t 13), none, none⟩,
      ⟨some 11, .mov (.t 14), none, none⟩])
  (.seq (.seq (.reg [⟨some 15, .mov (.t 11), none, none⟩,
      ⟨some 16, .len .sl (.t 15), none, none⟩,
      ⟨some 17, .bin .eql (.t 16) (.c (.int .i64 0)), none, none⟩])
  (.cond (.t 17)
  (.seq (.reg [⟨some 18, .mov (.t 4), none, none⟩,
        ⟨some 19, .append 1 1 (.c .nils) (.t 18), none, none⟩,
        ⟨some 10, .mov (.t 19), none, none⟩])
    (.ret))
  (.skip)))
  (.seq (.reg [⟨some 20, .mov (.t 2), none, none⟩,
      ⟨some 21, .conv .i64 (.t 20), none, none⟩,
      ⟨some 22, .mov (.t 11), none, none⟩,
      ⟨some 23, .len .sl (.t 22), none, none⟩,
      ⟨some 24, .bin .rem (.t 21) (.t 23), none, none⟩,
      ⟨some 12, .mov (.t 24), none, none⟩])
  (.seq (.seq (.reg [⟨some 25, .mov (.t 1), none, none⟩,
      ⟨some 26, .bin .rem (.t 25) (.c (.int .u8 5)), none, none⟩])
  (.block 0
  (.seq (.seq (.reg [⟨some 37, .bin .eql (.t 26) (.c (.int .u8 0)), none, none⟩,
        ⟨some 36, .mov (.t 37), none, none⟩])
    (.cond (.t 36)
    (.skip)
    (.reg [⟨some 38, .bin .eql (.t 26) (.c (.int .u8 1)), none, none⟩,
          ⟨some 36, .mov (.t 38), none, none⟩])))
    (.cond (.t 36)
    (.reg [⟨some 39, .mov (.t 11), none, none⟩,
          ⟨some 40, .mov (.t 12), none, none⟩,
          ⟨some 41, .mov (.t 3), none, none⟩,
          ⟨some 42, .iaddr 1 (.t 39) (.t 40), none, none⟩,
          ⟨none, .store 1 (.t 42) (.t 41), none, none⟩])
    (.seq (.reg [⟨some 44, .bin .eql (.t 26) (.c (.int .u8 2)), none, none⟩,
          ⟨some 43, .mov (.t 44), none, none⟩])
      (.cond (.t 43)
      (.seq (.regD [0, 1, 2, 3, 4, 5, 6, 7, 8, 9, 10] [⟨some 45, .mov (.t 0), none, none⟩,
            ⟨some 46, .mov (.t 12), none, none⟩,
            ⟨some 47, .slice false 1 (.t 45) none (some (.t 46)) none, none, none⟩,
            ⟨some 48, .append 1 1 (.c .nils) (.t 47), none, none⟩,
            ⟨some 49, .mov (.t 4), none, none⟩,
            ⟨some 50, .append 1 1 (.t 48) (.t 49), none, none⟩,
            ⟨some 51, .mov (.t 0), none, none⟩,
            ⟨some 52, .mov (.t 12), none, none⟩,
            ⟨some 53, .slice false 1 (.t 51) (some (.t 52)) none none, none, none⟩,
            ⟨some 54, .append 1 1 (.t 50) (.t 53), none, none⟩,
            ⟨some 10, .mov (.t 54), none, none⟩])
        (.ret))
      (.seq (.reg [⟨some 56, .bin .eql (.t 26) (.c (.int .u8 3)), none, none⟩,
            ⟨some 55, .mov (.t 56), none, none⟩])
        (.cond (.t 55)
        (.seq (.reg [⟨some 57, .mov (.t 11), none, none⟩,
              ⟨some 58, .mov (.t 12), none, none⟩,
              ⟨some 59, .slice false 1 (.t 57) none (some (.t 58)) none, none, none⟩,
              ⟨some 10, .mov (.t 59), none, none⟩])
          (.ret))
        (.regD [0, 1, 2, 3, 4, 5, 6, 7, 8, 9] [⟨some 27, .mov (.t 0), none, none⟩,
              ⟨some 28, .mov (.t 12), none, none⟩,
              ⟨some 29, .slice false 1 (.t 27) none (some (.t 28)) none, none, none⟩,
              ⟨some 30, .append 1 1 (.c .nils) (.t 29), none, none⟩,
              ⟨some 31, .mov (.t 0), none, none⟩,
              ⟨some 32, .mov (.t 12), none, none⟩,
              ⟨some 33, .bin .add (.t 32) (.c (.int .i64 1)), none, none⟩,
              ⟨some 34, .slice false 1 (.t 31) (some (.t 33)) none none, none, none⟩,
              ⟨some 35, .append 1 1 (.t 30) (.t 34), none, none⟩,
              ⟨some 11, .mov (.t 35), none, none⟩])))))))))
  (.seq (.reg [⟨some 60, .mov (.t 11), none, none⟩,
      ⟨some 10, .mov (.t 60), none, none⟩])
  (.ret))))))) }
def archipelagoref1_Take_b0 : IC :=
  (.seq (.seq (.reg [⟨some 9, .mov (.t 8), none, none⟩,
      ⟨some 10, .mov (.t 0), none, none⟩,
      ⟨some 11, .len .sl (.t 10), none, none⟩,
      ⟨some 12, .bin .lss (.t 9) (.t 11), none, none⟩])
  (.cond (.t 12)
  (.skip)
  (.exit 0)))
  (.seq (.block 1
  (.seq (.seq (.reg [⟨some 15, .mov (.t 8), none, none⟩,
        ⟨some 16, .bin .eql (.t 15) (.c (.int .i64 9)), none, none⟩,
        ⟨some 17, .mov (.t 16), none, none⟩,
        ⟨some 18, .mov (.t 0), (some (17, true)), none⟩,
        ⟨some 19, .mov (.t 8), (some (17, true)), none⟩,
        ⟨some 20, .iaddr 1 (.t 18) (.t 19), (some (17, true)), none⟩,
        ⟨some 21, .load 1 false (.t 20), (some (17, true)), none⟩,
        ⟨some 22, .bin .gtr (.t 21) (.c (.int .u8 1)), (some (17, true)), none⟩,
        ⟨some 23, .pick (.t 17) (.t 22) (.c (.bool false)), none, none⟩])
    (.cond (.t 23)
    (.seq (.reg [⟨some 4, .mov (.c (.int .u64 0)), none, none⟩,
          ⟨some 5, .mov (.c (.int .i64 0)), none, none⟩,
          ⟨some 6, .mov (.c (.int .i64 21)), none, none⟩])
      (.ret))
    (.skip)))
    (.seq (.reg [⟨some 24, .mov (.t 7), none, none⟩,
        ⟨some 25, .mov (.t 0), none, none⟩,
        ⟨some 26, .mov (.t 8), none, none⟩,
        ⟨some 27, .iaddr 1 (.t 25) (.t 26), none, none⟩,
        ⟨some 28, .load 1 false (.t 27), none, none⟩,
        ⟨some 29, .bin .and (.t 28) (.c (.int .u8 127)), none, none⟩,
        ⟨some 30, .conv .u64 (.t 29), none, none⟩,
        ⟨some 31, .mov (.t 8), none, none⟩,
        ⟨some 32, .bin .mul (.c (.int .i64 7)) (.t 31), none, none⟩,
        ⟨some 33, .bin .shl (.t 30) (.t 32), none, none⟩,
        ⟨some 34, .bin .or (.t 24) (.t 33), none, none⟩,
        ⟨some 7, .mov (.t 34), none, none⟩])
    (.seq (.reg [⟨some 35, .mov (.t 0), none, none⟩,
        ⟨some 36, .mov (.t 8), none, none⟩,
        ⟨some 37, .iaddr 1 (.t 35) (.t 36), none, none⟩,
        ⟨some 38, .load 1 false (.t 37), none, none⟩,
        ⟨some 39, .bin .lss (.t 38) (.c (.int .u8 128)), none, none⟩])
    (.cond (.t 39)
    (.seq (.block 2
      (.seq (.reg [⟨some 41, .mov (.t 0), none, none⟩,
            ⟨some 42, .mov (.t 8), none, none⟩,
            ⟨some 43, .iaddr 1 (.t 41) (.t 42), none, none⟩,
            ⟨some 44, .load 1 false (.t 43), none, none⟩,
            ⟨some 45, .bin .eql (.t 44) (.c (.int .u8 0)), none, none⟩,
            ⟨some 46, .mov (.t 45), none, none⟩,
            ⟨some 47, .mov (.t 8), (some (46, true)), none⟩,
            ⟨some 48, .bin .gtr (.t 47) (.c (.int .i64 0)), (some (46, true)), none⟩,
            ⟨some 49, .pick (.t 46) (.t 48) (.c (.bool false)), none, none⟩,
            ⟨some 40, .mov (.t 49), none, none⟩])
        (.cond (.t 40)
        (.seq (.reg [⟨some 4, .mov (.c (.int .u64 0)), none, none⟩,
              ⟨some 5, .mov (.c (.int .i64 0)), none, none⟩,
              ⟨some 6, .mov (.c (.int .i64 21)), none, none⟩])
          (.ret))
        (.seq (.reg [⟨some 51, .mov (.t 7), none, none⟩,
              ⟨some 52, .mov (.t 1), none, none⟩,
              ⟨some 53, .bin .gtr (.t 51) (.t 52), none, none⟩,
              ⟨some 50, .mov (.t 53), none, none⟩])
          (.cond (.t 50)
          (.seq (.reg [⟨some 4, .mov (.c (.int .u64 0)), none, none⟩,
                ⟨some 5, .mov (.c (.int .i64 0)), none, none⟩,
                ⟨some 6, .mov (.c (.int .i64 22)), none, none⟩])
            (.ret))
          (.skip))))))
      (.seq (.reg [⟨some 54, .mov (.t 7), none, none⟩,
          ⟨some 55, .mov (.t 8), none, none⟩,
          ⟨some 56, .bin .add (.t 55) (.c (.int .i64 1)), none, none⟩,
          ⟨some 4, .mov (.t 54), none, none⟩,
          ⟨some 5, .mov (.t 56), none, none⟩,
          ⟨some 6, .mov (.c (.int .i64 0)), none, none⟩])
      (.ret)))
    (.skip))))))
  (.reg [⟨some 13, .mov (.t 8), none, none⟩,
      ⟨some 14, .bin .add (.t 13) (.c (.int .i64 1)), none, none⟩,
      ⟨some 8, .mov (.t 14), none, none⟩])))
def ir_archipelagoref1_Take : IFn :=
  { params := 2, results := [.tmp 4, .tmp 5, .tmp 6], body :=
  (.seq (.reg [⟨some 4, .mov (.c (.int .u64 0)), none, none⟩,
      ⟨some 5, .mov (.c (.int .i64 0)), none, none⟩,
      ⟨some 6, .mov (.c (.int .i64 0)), none, none⟩])
  (.seq (.reg [⟨some 7, .mov (.c (.int .u64 0)), none, none⟩])
  (.seq (.seq (.reg [⟨some 8, .mov (.c (.int .i64 0)), none, none⟩])
  (.block 0
  (.loop [0, 1, 7, 8] archipelagoref1_Take_b0)))
  (.seq (.reg [⟨some 4, .mov (.c (.int .u64 0)), none, none⟩,
      ⟨some 5, .mov (.c (.int .i64 0)), none, none⟩,
      ⟨some 6, .mov (.c (.int .i64 20)), none, none⟩])
  (.ret))))) }
def archipelagoref15_numbers_b0 : IC :=
  (.seq (.seq (.reg [⟨some 9, .mov (.t 5), none, none⟩,
      ⟨some 10, .mov (.t 0), none, none⟩,
      ⟨some 11, .len .sl (.t 10), none, none⟩,
      ⟨some 12, .bin .lss (.t 9) (.t 11), none, none⟩])
  (.cond (.t 12)
  (.skip)
  (.exit 0)))
  (.block 1
  (.seq (.reg [⟨some 14, .mov (.t 0), none, none⟩,
        ⟨some 15, .mov (.t 5), none, none⟩,
        ⟨some 16, .slice false 1 (.t 14) (some (.t 15)) none none, none, none⟩,
        ⟨some 17, .call fid_archipelagoref1_Take [(.t 16), (.c (.int .u64 9223372036854775807))], none, none⟩,
        ⟨some 13, .mov (.t 17), none, none⟩,
        ⟨some 18, .extract (.t 13) 0, none, none⟩,
        ⟨some 19, .extract (.t 13) 1, none, none⟩,
        ⟨some 20, .extract (.t 13) 2, none, none⟩,
        ⟨some 6, .mov (.t 18), none, none⟩,
        ⟨some 7, .mov (.t 19), none, none⟩,
        ⟨some 8, .mov (.t 20), none, none⟩])
    (.seq (.seq (.reg [⟨some 21, .mov (.t 8), none, none⟩,
        ⟨some 22, .bin .neq (.t 21) (.c (.int .i64 0)), none, none⟩])
    (.cond (.t 22)
    (.seq (.reg [⟨some 2, .mov (.c .nils), none, none⟩,
          ⟨some 3, .mov (.c (.bool false)), none, none⟩])
      (.ret))
    (.skip)))
    (.reg [⟨some 23, .mov (.t 4), none, none⟩,
        ⟨some 24, .mov (.t 6), none, none⟩,
        ⟨some 25, .mkrow 1 1 [(.int .u64 0)] [(0, (.t 24))], none, none⟩,
        ⟨some 26, .append 1 8 (.t 23) (.t 25), none, none⟩,
        ⟨some 27, .mov (.t 5), none, none⟩,
        ⟨some 28, .mov (.t 7), none, none⟩,
        ⟨some 29, .bin .add (.t 27) (.t 28), none, none⟩,
        ⟨some 4, .mov (.t 26), none, none⟩,
        ⟨some 5, .mov (.t 29), none, none⟩])))))
def ir_archipelagoref15_numbers : IFn :=
  { params := 1, results := [.tmp 2, .tmp 3], body :=
  (.seq (.reg [⟨some 2, .mov (.c .nils), none, none⟩,
      ⟨some 3, .mov (.c (.bool false)), none, none⟩])
  (.seq (.reg [⟨some 4, .mov (.c .nils), none, none⟩])
  (.seq (.seq (.reg [⟨some 5, .mov (.c (.int .i64 0)), none, none⟩])
  (.block 0
  (.loop [0, 4, 5] archipelagoref15_numbers_b0)))
  (.seq (.reg [⟨some 30, .mov (.t 4), none, none⟩,
      ⟨some 2, .mov (.t 30), none, none⟩,
      ⟨some 3, .mov (.c (.bool true)), none, none⟩])
  (.ret))))) }
def ir_archipelagoref15_near : IFn :=
  { params := 2, results := [.tmp 4, .tmp 5], body :=
  (.seq (.reg [⟨some 4, .mov (.c (.int .i64 0)), none, none⟩,
      ⟨some 5, .mov (.c (.bool false)), none, none⟩])
  (.seq (.seq (.reg [⟨some 6, .mov (.t 1), none, none⟩,
      ⟨some 7, .bin .gtr (.t 6) (.c (.int .u64 4294967296)), none, none⟩,
      ⟨some 8, .mov (.t 7), none, none⟩,
      ⟨some 9, .mov (.t 0), (some (8, false)), none⟩,
      ⟨some 10, .mov (.t 1), (some (8, false)), none⟩,
      ⟨some 11, .conv .i64 (.t 10), (some (8, false)), none⟩,
      ⟨some 12, .bin .add (.t 9) (.t 11), (some (8, false)), none⟩,
      ⟨some 13, .bin .add (.t 12) (.c (.int .i64 1)), (some (8, false)), none⟩,
      ⟨some 14, .bin .geq (.t 13) (.c (.int .i64 4294967296)), (some (8, false)), none⟩,
      ⟨some 15, .pick (.t 8) (.c (.bool true)) (.t 14), none, none⟩])
  (.cond (.t 15)
  (.seq (.reg [⟨some 4, .mov (.c (.int .i64 0)), none, none⟩,
        ⟨some 5, .mov (.c (.bool false)), none, none⟩])
    (.ret))
  (.skip)))
  (.seq (.reg [⟨some 16, .mov (.t 0), none, none⟩,
      ⟨some 17, .mov (.t 1), none, none⟩,
      ⟨some 18, .conv .i64 (.t 17), none, none⟩,
      ⟨some 19, .bin .add (.t 16) (.t 18), none, none⟩,
      ⟨some 20, .bin .add (.t 19) (.c (.int .i64 1)), none, none⟩,
      ⟨some 4, .mov (.t 20), none, none⟩,
      ⟨some 5, .mov (.c (.bool true)), none, none⟩])
  (.ret)))) }
def archipelagoref15_AdjRead_b0 : IC :=
  (.seq (.seq (.reg [⟨some 63, .mov (.t 15), none, none⟩,
      ⟨some 64, .mov (.t 13), none, none⟩,
      ⟨some 65, .bin .lss (.t 63) (.t 64), none, none⟩])
  (.cond (.t 65)
  (.skip)
  (.exit 2)))
  (.seq (.block 3
  (.seq (.seq (.reg [⟨some 68, .mov (.t 10), none, none⟩,
        ⟨some 69, .mov (.t 6), none, none⟩,
        ⟨some 70, .len .sl (.t 69), none, none⟩,
        ⟨some 71, .bin .geq (.t 68) (.t 70), none, none⟩])
    (.cond (.t 71)
    (.seq (.reg [⟨some 4, .mov (.c .nils), none, none⟩,
          ⟨some 5, .mov (.c (.int .i64 21)), none, none⟩])
      (.ret))
    (.skip)))
    (.seq (.reg [⟨some 73, .mov (.t 14), none, none⟩,
        ⟨some 74, .mov (.t 6), none, none⟩,
        ⟨some 75, .mov (.t 10), none, none⟩,
        ⟨some 76, .iaddr 1 (.t 74) (.t 75), none, none⟩,
        ⟨some 77, .load 1 false (.t 76), none, none⟩,
        ⟨some 78, .call fid_archipelagoref15_near [(.t 73), (.t 77)], none, none⟩,
        ⟨some 72, .mov (.t 78), none, none⟩,
        ⟨some 79, .extract (.t 72) 0, none, none⟩,
        ⟨some 80, .extract (.t 72) 1, none, none⟩,
        ⟨some 16, .mov (.t 79), none, none⟩,
        ⟨some 17, .mov (.t 80), none, none⟩])
    (.seq (.seq (.reg [⟨some 81, .mov (.t 17), none, none⟩,
        ⟨some 82, .un .not (.t 81), none, none⟩,
        ⟨some 83, .mov (.t 82), none, none⟩,
        ⟨some 84, .mov (.t 16), (some (83, false)), none⟩,
        ⟨some 85, .conv .u64 (.t 84), (some (83, false)), none⟩,
        ⟨some 86, .mov (.t 1), (some (83, false)), none⟩,
        ⟨some 87, .bin .geq (.t 85) (.t 86), (some (83, false)), none⟩,
        ⟨some 88, .pick (.t 83) (.c (.bool true)) (.t 87), none, none⟩])
    (.cond (.t 88)
    (.seq (.reg [⟨some 4, .mov (.c .nils), none, none⟩,
          ⟨some 5, .mov (.c (.int .i64 21)), none, none⟩])
      (.ret))
    (.skip)))
    (.seq (.reg [⟨some 89, .mov (.t 16), none, none⟩,
        ⟨some 14, .mov (.t 89), none, none⟩])
    (.seq (.reg [⟨some 90, .mov (.t 8), none, none⟩,
        ⟨some 91, .mov (.t 9), none, none⟩,
        ⟨some 92, .conv .u32 (.t 91), none, none⟩,
        ⟨some 93, .mov (.t 14), none, none⟩,
        ⟨some 94, .conv .u32 (.t 93), none, none⟩,
        ⟨some 95, .build [(.int .u32 0), (.int .u32 0)] [(0, 1, (.t 92)), (1, 1, (.t 94))], none, none⟩,
        ⟨some 96, .mkrow 2 1 [(.int .u32 0), (.int .u32 0)] [(0, (.t 95))], none, none⟩,
        ⟨some 97, .append 2 8 (.t 90) (.t 96), none, none⟩,
        ⟨some 8, .mov (.t 97), none, none⟩])
    (.reg [⟨some 98, .mov (.t 10), none, none⟩,
        ⟨some 99, .bin .add (.t 98) (.c (.int .i64 1)), none, none⟩,
        ⟨some 10, .mov (.t 99), none, none⟩])))))))
  (.reg [⟨some 66, .mov (.t 15), none, none⟩,
      ⟨some 67, .bin .add (.t 66) (.c (.int .u64 1)), none, none⟩,
      ⟨some 15, .mov (.t 67), none, none⟩])))
def archipelagoref15_AdjRead_b1 : IC :=
  (.seq (.seq (.reg [⟨some 32, .mov (.t 10), none, none⟩,
      ⟨some 33, .mov (.t 6), none, none⟩,
      ⟨some 34, .len .sl (.t 33), none, none⟩,
      ⟨some 35, .bin .lss (.t 32) (.t 34), none, none⟩])
  (.cond (.t 35)
  (.skip)
  (.exit 0)))
  (.block 1
  (.seq (.reg [⟨some 37, .mov (.t 9), none, none⟩,
        ⟨some 38, .mov (.t 6), none, none⟩,
        ⟨some 39, .mov (.t 10), none, none⟩,
        ⟨some 40, .iaddr 1 (.t 38) (.t 39), none, none⟩,
        ⟨some 41, .load 1 false (.t 40), none, none⟩,
        ⟨some 42, .call fid_archipelagoref15_near [(.t 37), (.t 41)], none, none⟩,
        ⟨some 36, .mov (.t 42), none, none⟩,
        ⟨some 43, .extract (.t 36) 0, none, none⟩,
        ⟨some 44, .extract (.t 36) 1, none, none⟩,
        ⟨some 11, .mov (.t 43), none, none⟩,
        ⟨some 12, .mov (.t 44), none, none⟩])
    (.seq (.seq (.reg [⟨some 45, .mov (.t 12), none, none⟩,
        ⟨some 46, .un .not (.t 45), none, none⟩,
        ⟨some 47, .mov (.t 46), none, none⟩,
        ⟨some 48, .mov (.t 10), (some (47, false)), none⟩,
        ⟨some 49, .bin .add (.t 48) (.c (.int .i64 1)), (some (47, false)), none⟩,
        ⟨some 50, .mov (.t 6), (some (47, false)), none⟩,
        ⟨some 51, .len .sl (.t 50), (some (47, false)), none⟩,
        ⟨some 52, .bin .geq (.t 49) (.t 51), (some (47, false)), none⟩,
        ⟨some 53, .pick (.t 47) (.c (.bool true)) (.t 52), none, none⟩])
    (.cond (.t 53)
    (.seq (.reg [⟨some 4, .mov (.c .nils), none, none⟩,
          ⟨some 5, .mov (.c (.int .i64 21)), none, none⟩])
      (.ret))
    (.skip)))
    (.seq (.reg [⟨some 54, .mov (.t 11), none, none⟩,
        ⟨some 9, .mov (.t 54), none, none⟩])
    (.seq (.reg [⟨some 55, .mov (.t 6), none, none⟩,
        ⟨some 56, .mov (.t 10), none, none⟩,
        ⟨some 57, .bin .add (.t 56) (.c (.int .i64 1)), none, none⟩,
        ⟨some 58, .iaddr 1 (.t 55) (.t 57), none, none⟩,
        ⟨some 59, .load 1 false (.t 58), none, none⟩,
        ⟨some 13, .mov (.t 59), none, none⟩])
    (.seq (.reg [⟨some 60, .mov (.t 10), none, none⟩,
        ⟨some 61, .bin .add (.t 60) (.c (.int .i64 2)), none, none⟩,
        ⟨some 10, .mov (.t 61), none, none⟩])
    (.seq (.reg [⟨some 62, .mov (.t 9), none, none⟩,
        ⟨some 14, .mov (.t 62), none, none⟩])
    (.seq (.reg [⟨some 15, .mov (.c (.int .u64 0)), none, none⟩])
    (.block 2
    (.loop [0, 1, 6, 8, 9, 10, 13, 14, 15] archipelagoref15_AdjRead_b0)))))))))))
def ir_archipelagoref15_AdjRead : IFn :=
  { params := 2, results := [.tmp 4, .tmp 5], body :=
  (.seq (.reg [⟨some 4, .mov (.c .nils), none, none⟩,
      ⟨some 5, .mov (.c (.int .i64 0)), none, none⟩])
  (.seq (.reg [⟨some 21, .mov (.t 0), none, none⟩,
      ⟨some 22, .call fid_archipelagoref15_numbers [(.t 21)], none, none⟩,
      ⟨some 20, .mov (.t 22), none, none⟩,
      ⟨some 23, .extract (.t 20) 0, none, none⟩,
      ⟨some 24, .extract (.t 20) 1, none, none⟩,
      ⟨some 6, .mov (.t 23), none, none⟩,
      ⟨some 7, .mov (.t 24), none, none⟩])
  (.seq (.seq (.reg [⟨some 25, .mov (.t 7), none, none⟩,
      ⟨some 26, .un .not (.t 25), none, none⟩,
      ⟨some 27, .mov (.t 26), none, none⟩,
      ⟨some 28, .mov (.t 6), (some (27, false)), none⟩,
      ⟨some 29, .len .sl (.t 28), (some (27, false)), none⟩,
      ⟨some 30, .bin .eql (.t 29) (.c (.int .i64 0)), (some (27, false)), none⟩,
      ⟨some 31, .pick (.t 27) (.c (.bool true)) (.t 30), none, none⟩])
  (.cond (.t 31)
  (.seq (.reg [⟨some 4, .mov (.c .nils), none, none⟩,
        ⟨some 5, .mov (.c (.int .i64 21)), none, none⟩])
    (.ret))
  (.skip)))
  (.seq (.reg [⟨some 8, .mov (.c .nils), none, none⟩])
  (.seq (.reg [⟨some 9, .mov (.c (.int .i64 (-1))), none, none⟩])
  (.seq (.seq (.reg [⟨some 10, .mov (.c (.int .i64 1)), none, none⟩])
  (.block 0
  (.loop [0, 1, 6, 8, 9, 10] archipelagoref15_AdjRead_b1)))
  (.seq (.seq (.reg [⟨some 101, .mov (.t 8), none, none⟩,
      ⟨some 102, .call fid_archipelagoref15_AdjPut [(.t 101)], none, none⟩,
      ⟨some 100, .mov (.t 102), none, none⟩,
      ⟨some 103, .extract (.t 100) 0, none, none⟩,
      ⟨some 104, .extract (.t 100) 1, none, none⟩,
      ⟨some 18, .mov (.t 103), none, none⟩,
      ⟨some 19, .mov (.t 104), none, none⟩])
  (.seq (.reg [⟨some 105, .mov (.t 19), none, none⟩,
      ⟨some 106, .bin .neq (.t 105) (.c (.int .i64 0)), none, none⟩,
      ⟨some 107, .mov (.t 106), none, none⟩,
      ⟨some 108, .mov (.t 18), (some (107, false)), none⟩,
      ⟨some 109, .toStr (.t 108), (some (107, false)), none⟩,
      ⟨some 110, .mov (.t 0), (some (107, false)), none⟩,
      ⟨some 111, .toStr (.t 110), (some (107, false)), none⟩,
      ⟨some 112, .bin .neq (.t 109) (.t 111), (some (107, false)), none⟩,
      ⟨some 113, .pick (.t 107) (.c (.bool true)) (.t 112), none, none⟩])
  (.cond (.t 113)
  (.seq (.reg [⟨some 4, .mov (.c .nils), none, none⟩,
        ⟨some 5, .mov (.c (.int .i64 21)), none, none⟩])
    (.ret))
  (.skip))))
  (.seq (.reg [⟨some 114, .mov (.t 8), none, none⟩,
      ⟨some 4, .mov (.t 114), none, none⟩,
      ⟨some 5, .mov (.c (.int .i64 0)), none, none⟩])
  (.ret))))))))) }
def archipelagolaw15_AdjTells_b0 : IC :=
  (.seq (.reg [⟨some 85, .bin .lss (.t 84) (.t 83), none, none⟩])
  (.seq (.cond (.t 85)
  (.skip)
  (.exit 0))
  (.seq (.block 1
  (.seq (.reg [⟨some 86, .iaddr 1 (.t 82) (.t 84), none, none⟩,
        ⟨some 87, .load 1 false (.t 86), none, none⟩,
        ⟨some 27, .mov (.t 87), none, none⟩])
    (.seq (.reg [⟨some 89, .mov (.t 27), none, none⟩,
        ⟨some 90, .call fid_adj_Put [(.t 89)], none, none⟩,
        ⟨some 88, .mov (.t 90), none, none⟩,
        ⟨some 91, .extract (.t 88) 0, none, none⟩,
        ⟨some 92, .extract (.t 88) 1, none, none⟩,
        ⟨some 28, .mov (.t 91), none, none⟩,
        ⟨some 29, .mov (.t 92), none, none⟩])
    (.seq (.reg [⟨some 94, .mov (.t 27), none, none⟩,
        ⟨some 95, .call fid_archipelagoref15_AdjPut [(.t 94)], none, none⟩,
        ⟨some 93, .mov (.t 95), none, none⟩,
        ⟨some 96, .extract (.t 93) 0, none, none⟩,
        ⟨some 97, .extract (.t 93) 1, none, none⟩,
        ⟨some 30, .mov (.t 96), none, none⟩,
        ⟨some 31, .mov (.t 97), none, none⟩])
    (.seq (.reg [⟨some 98, .mov (.t 29), none, none⟩,
        ⟨some 99, .mov (.t 31), none, none⟩,
        ⟨some 100, .bin .neq (.t 98) (.t 99), none, none⟩,
        ⟨some 101, .mov (.t 100), none, none⟩,
        ⟨some 102, .mov (.t 28), (some (101, false)), none⟩,
        ⟨some 103, .toStr (.t 102), (some (101, false)), none⟩,
        ⟨some 104, .mov (.t 30), (some (101, false)), none⟩,
        ⟨some 105, .toStr (.t 104), (some (101, false)), none⟩,
        ⟨some 106, .bin .neq (.t 103) (.t 105), (some (101, false)), none⟩,
        ⟨some 107, .pick (.t 101) (.c (.bool true)) (.t 106), none, none⟩])
    (.cond (.t 107)
    (.seq (.reg [⟨some 20, .mov (.c (.bool false)), none, none⟩])
      (.ret))
    (.skip)))))))
  (.reg [⟨some 108, .bin .add (.t 84) (.c (.int .i64 1)), none, none⟩,
      ⟨some 84, .mov (.t 108), none, none⟩]))))
def archipelagolaw15_AdjTells_b1 : IC :=
  (.seq (.reg [⟨some 132, .bin .lss (.t 131) (.t 130), none, none⟩])
  (.seq (.cond (.t 132)
  (.skip)
  (.exit 4))
  (.seq (.block 5
  (.seq (.reg [⟨some 133, .iaddr 1 (.t 129) (.t 131), none, none⟩,
        ⟨some 134, .load 1 false (.t 133), none, none⟩,
        ⟨some 35, .mov (.t 134), none, none⟩])
    (.seq (.reg [⟨some 136, .mov (.t 33), none, none⟩,
        ⟨some 137, .mov (.t 35), none, none⟩,
        ⟨some 138, .call fid_adj_Read [(.t 136), (.t 137)], none, none⟩,
        ⟨some 135, .mov (.t 138), none, none⟩,
        ⟨some 139, .extract (.t 135) 0, none, none⟩,
        ⟨some 140, .extract (.t 135) 1, none, none⟩,
        ⟨some 36, .mov (.t 139), none, none⟩,
        ⟨some 37, .mov (.t 140), none, none⟩])
    (.seq (.reg [⟨some 142, .mov (.t 33), none, none⟩,
        ⟨some 143, .mov (.t 35), none, none⟩,
        ⟨some 144, .call fid_archipelagoref15_AdjRead [(.t 142), (.t 143)], none, none⟩,
        ⟨some 141, .mov (.t 144), none, none⟩,
        ⟨some 145, .extract (.t 141) 0, none, none⟩,
        ⟨some 146, .extract (.t 141) 1, none, none⟩,
        ⟨some 38, .mov (.t 145), none, none⟩,
        ⟨some 39, .mov (.t 146), none, none⟩])
    (.seq (.reg [⟨some 147, .mov (.t 37), none, none⟩,
        ⟨some 148, .mov (.t 39), none, none⟩,
        ⟨some 149, .bin .neq (.t 147) (.t 148), none, none⟩,
        ⟨some 150, .mov (.t 149), none, none⟩,
        ⟨some 151, .mov (.t 36), (some (150, false)), none⟩,
        ⟨some 152, .mov (.t 38), (some (150, false)), none⟩,
        ⟨some 153, .call fid_archipelagoref8_SameEdges [(.t 151), (.t 152)], (some (150, false)), none⟩,
        ⟨some 154, .un .not (.t 153), (some (150, false)), none⟩,
        ⟨some 155, .pick (.t 150) (.c (.bool true)) (.t 154), none, none⟩])
    (.cond (.t 155)
    (.seq (.reg [⟨some 20, .mov (.c (.bool false)), none, none⟩])
      (.ret))
    (.skip)))))))
  (.reg [⟨some 156, .bin .add (.t 131) (.c (.int .i64 1)), none, none⟩,
      ⟨some 131, .mov (.t 156), none, none⟩]))))
def archipelagolaw15_AdjTells_b2 : IC :=
  (.seq (.reg [⟨some 123, .bin .lss (.t 122) (.t 121), none, none⟩])
  (.seq (.cond (.t 123)
  (.skip)
  (.exit 2))
  (.seq (.block 3
  (.seq (.reg [⟨some 124, .iaddr 1 (.t 120) (.t 122), none, none⟩,
        ⟨some 125, .load 1 false (.t 124), none, none⟩,
        ⟨some 33, .mov (.t 125), none, none⟩])
    (.seq (.reg [⟨some 126, .mov (.t 9), none, none⟩,
        ⟨some 127, .faddr 0 (.t 21), none, none⟩,
        ⟨some 128, .load 1 false (.t 127), none, none⟩,
        ⟨some 129, .mkrow 1 3 [(.int .u64 0)] [(0, (.t 126)), (1, (.t 128)), (2, (.c (.int .u64 5)))], none, none⟩,
        ⟨some 130, .len .sl (.t 129), none, none⟩,
        ⟨some 131, .mov (.c (.int .i64 0)), none, none⟩])
    (.block 4
    (.loop [9, 21, 33, 120, 121, 122, 129, 130, 131] archipelagolaw15_AdjTells_b1)))))
  (.reg [⟨some 157, .bin .add (.t 122) (.c (.int .i64 1)), none, none⟩,
      ⟨some 122, .mov (.t 157), none, none⟩]))))
def ir_archipelagolaw15_AdjTells : IFn :=
  { params := 10, results := [.tmp 20], body :=
  (.seq (.reg [⟨some 20, .mov (.c (.bool false)), none, none⟩])
  (.seq (.seq (.reg [⟨some 40, .call fid_archipelagolaw15_known [], none, none⟩,
      ⟨some 41, .un .not (.t 40), none, none⟩])
  (.cond (.t 41)
  (.seq (.reg [⟨some 20, .mov (.c (.bool false)), none, none⟩])
    (.ret))
  (.skip)))
  (.seq (.seq (.reg [⟨some 42, .mov (.t 0), none, none⟩,
      ⟨some 43, .len .sl (.t 42), none, none⟩,
      ⟨some 44, .bin .gtr (.t 43) (.c (.int .i64 30)), none, none⟩,
      ⟨some 45, .mov (.t 44), none, none⟩,
      ⟨some 46, .mov (.t 2), (some (45, false)), none⟩,
      ⟨some 47, .len .sl (.t 46), (some (45, false)), none⟩,
      ⟨some 48, .bin .gtr (.t 47) (.c (.int .i64 60)), (some (45, false)), none⟩,
      ⟨some 49, .pick (.t 45) (.c (.bool true)) (.t 48), none, none⟩,
      ⟨some 50, .mov (.t 49), none, none⟩,
      ⟨some 51, .mov (.t 4), (some (50, false)), none⟩,
      ⟨some 52, .len .sl (.t 51), (some (50, false)), none⟩,
      ⟨some 53, .bin .gtr (.t 52) (.c (.int .i64 60)), (some (50, false)), none⟩,
      ⟨some 54, .pick (.t 50) (.c (.bool true)) (.t 53), none, none⟩,
      ⟨some 55, .mov (.t 54), none, none⟩,
      ⟨some 56, .mov (.t 8), (some (55, false)), none⟩,
      ⟨some 57, .len .sl (.t 56), (some (55, false)), none⟩,
      ⟨some 58, .bin .gtr (.t 57) (.c (.int .i64 8)), (some (55, false)), none⟩,
      ⟨some 59, .pick (.t 55) (.c (.bool true)) (.t 58), none, none⟩])
  (.cond (.t 59)
  (.seq (.reg [⟨some 20, .mov (.c (.bool true)), none, none⟩])
    (.ret))
  (.skip)))
  (.seq (.reg [⟨some 60, .mov (.t 1), none, none⟩,
      ⟨some 61, .mov (.t 2), none, none⟩,
      ⟨some 62, .call fid_archipelagoseat_History [(.t 60), (.t 61)], none, none⟩,
      ⟨some 21, .box (.c (.agg [(.int .u64 0), .nils])), none, none⟩,
      ⟨none, .store 2 (.t 21) (.t 62), none, none⟩])
  (.seq (.regD [1, 2, 3, 0, 4, 5, 6, 7, 8, 9] [⟨some 65, .load 2 true (.t 21), none, none⟩,
      ⟨some 66, .mov (.t 3), none, none⟩,
      ⟨some 67, .call fid_archipelagoseat_Time [(.t 65), (.t 66)], none, none⟩,
      ⟨some 64, .load 2 true (.t 21), none, some (0, 1)⟩,
      ⟨some 68, .call fid_archipelagoref8_At [(.t 64), (.t 67)], none, none⟩,
      ⟨some 63, .mov (.t 68), none, none⟩,
      ⟨some 69, .extract (.t 63) 0, none, none⟩,
      ⟨some 70, .extract (.t 63) 1, none, none⟩,
      ⟨some 22, .mov (.t 69), none, none⟩,
      ⟨some 23, .mov (.t 70), none, none⟩])
  (.seq (.reg [⟨some 72, .mov (.t 22), none, none⟩,
      ⟨some 73, .call fid_archipelagoref15_AdjPut [(.t 72)], none, none⟩,
      ⟨some 71, .mov (.t 73), none, none⟩,
      ⟨some 74, .extract (.t 71) 0, none, none⟩,
      ⟨some 75, .extract (.t 71) 1, none, none⟩,
      ⟨some 24, .mov (.t 74), none, none⟩,
      ⟨some 25, .mov (.t 75), none, none⟩])
  (.seq (.seq (.reg [⟨some 76, .mov (.t 0), none, none⟩,
      ⟨some 77, .mov (.t 22), none, none⟩,
      ⟨some 78, .mov (.t 22), none, none⟩,
      ⟨some 79, .append 2 8 (.c .nils) (.t 78), none, none⟩,
      ⟨some 80, .mov (.t 0), none, none⟩,
      ⟨some 81, .append 2 8 (.t 79) (.t 80), none, none⟩,
      ⟨some 82, .mkrow 1 3 [.nils] [(0, (.t 76)), (1, (.t 77)), (2, (.t 81))], none, none⟩,
      ⟨some 83, .len .sl (.t 82), none, none⟩,
      ⟨some 84, .mov (.c (.int .i64 0)), none, none⟩])
  (.block 0
  (.loop [4, 5, 6, 7, 8, 9, 21, 24, 82, 83, 84] archipelagolaw15_AdjTells_b0)))
  (.seq (.seq (.reg [⟨some 109, .mov (.t 4), none, none⟩,
      ⟨some 110, .mov (.t 24), none, none⟩,
      ⟨some 111, .mov (.t 24), none, none⟩,
      ⟨some 112, .mov (.t 5), none, none⟩,
      ⟨some 113, .mov (.t 6), none, none⟩,
      ⟨some 114, .mov (.t 7), none, none⟩,
      ⟨some 115, .mov (.t 8), none, none⟩,
      ⟨some 116, .call fid_archipelagoseat_Change [(.t 111), (.t 112), (.t 113), (.t 114), (.t 115)], none, none⟩,
      ⟨some 117, .mkrow 1 1 [(.int .u8 0)] [(0, (.c (.int .u8 1)))], none, none⟩,
      ⟨some 118, .mov (.t 4), none, none⟩,
      ⟨some 119, .append 1 1 (.t 117) (.t 118), none, none⟩,
      ⟨some 120, .mkrow 1 4 [.nils] [(0, (.t 109)), (1, (.t 110)), (2, (.t 116)), (3, (.t 119))], none, none⟩,
      ⟨some 121, .len .sl (.t 120), none, none⟩,
      ⟨some 122, .mov (.c (.int .i64 0)), none, none⟩])
  (.block 2
  (.loop [9, 21, 120, 121, 122] archipelagolaw15_AdjTells_b2)))
  (.seq (.reg [⟨some 20, .mov (.c (.bool true)), none, none⟩])
  (.ret)))))))))) }
def archipelagolaw15_AdjBack_b0 : IC :=
  (.seq (.seq (.reg [⟨some 41, .mov (.t 13), none, none⟩,
      ⟨some 42, .mov (.t 8), none, none⟩,
      ⟨some 43, .len .sl (.t 42), none, none⟩,
      ⟨some 44, .bin .lss (.t 41) (.t 43), none, none⟩])
  (.cond (.t 44)
  (.skip)
  (.exit 0)))
  (.seq (.block 1
  (.reg [⟨some 47, .mov (.t 12), none, none⟩,
        ⟨some 48, .mov (.t 8), none, none⟩,
        ⟨some 49, .mov (.t 13), none, none⟩,
        ⟨some 50, .iaddr 2 (.t 48) (.t 49), none, none⟩,
        ⟨some 51, .faddr 1 (.t 50), none, none⟩,
        ⟨some 52, .load 1 false (.t 51), none, none⟩,
        ⟨some 53, .conv .u64 (.t 52), none, none⟩,
        ⟨some 54, .minmax false [(.t 47), (.t 53)], none, none⟩,
        ⟨some 12, .mov (.t 54), none, none⟩]))
  (.reg [⟨some 45, .mov (.t 13), none, none⟩,
      ⟨some 46, .bin .add (.t 45) (.c (.int .i64 1)), none, none⟩,
      ⟨some 13, .mov (.t 46), none, none⟩])))
def ir_archipelagolaw15_AdjBack : IFn :=
  { params := 3, results := [.tmp 6], body :=
  (.seq (.reg [⟨some 6, .mov (.c (.bool false)), none, none⟩])
  (.seq (.seq (.reg [⟨some 20, .call fid_archipelagolaw15_known [], none, none⟩,
      ⟨some 21, .un .not (.t 20), none, none⟩])
  (.cond (.t 21)
  (.seq (.reg [⟨some 6, .mov (.c (.bool false)), none, none⟩])
    (.ret))
  (.skip)))
  (.seq (.seq (.reg [⟨some 22, .mov (.t 1), none, none⟩,
      ⟨some 23, .len .sl (.t 22), none, none⟩,
      ⟨some 24, .bin .gtr (.t 23) (.c (.int .i64 90)), none, none⟩])
  (.cond (.t 24)
  (.seq (.reg [⟨some 6, .mov (.c (.bool true)), none, none⟩])
    (.ret))
  (.skip)))
  (.seq (.reg [⟨some 25, .mov (.t 0), none, none⟩,
      ⟨some 26, .mov (.t 1), none, none⟩,
      ⟨some 27, .call fid_archipelagoseat_History [(.t 25), (.t 26)], none, none⟩,
      ⟨some 7, .box (.c (.agg [(.int .u64 0), .nils])), none, none⟩,
      ⟨none, .store 2 (.t 7) (.t 27), none, none⟩])
  (.seq (.regD [1, 2, 3, 0, 4, 5, 6, 7, 8, 9] [⟨some 30, .load 2 true (.t 7), none, none⟩,
      ⟨some 31, .mov (.t 2), none, none⟩,
      ⟨some 32, .call fid_archipelagoseat_Time [(.t 30), (.t 31)], none, none⟩,
      ⟨some 29, .load 2 true (.t 7), none, some (0, 1)⟩,
      ⟨some 33, .call fid_archipelagoref8_At [(.t 29), (.t 32)], none, none⟩,
      ⟨some 28, .mov (.t 33), none, none⟩,
      ⟨some 34, .extract (.t 28) 0, none, none⟩,
      ⟨some 35, .extract (.t 28) 1, none, none⟩,
      ⟨some 8, .mov (.t 34), none, none⟩,
      ⟨some 9, .mov (.t 35), none, none⟩])
  (.seq (.reg [⟨some 37, .mov (.t 8), none, none⟩,
      ⟨some 38, .call fid_adj_Put [(.t 37)], none, none⟩,
      ⟨some 36, .mov (.t 38), none, none⟩,
      ⟨some 39, .extract (.t 36) 0, none, none⟩,
      ⟨some 40, .extract (.t 36) 1, none, none⟩,
      ⟨some 10, .mov (.t 39), none, none⟩,
      ⟨some 11, .mov (.t 40), none, none⟩])
  (.seq (.reg [⟨some 12, .mov (.c (.int .u64 0)), none, none⟩])
  (.seq (.seq (.reg [⟨some 13, .mov (.c (.int .i64 0)), none, none⟩])
  (.block 0
  (.loop [7, 8, 10, 11, 12, 13] archipelagolaw15_AdjBack_b0)))
  (.seq (.reg [⟨some 56, .mov (.t 10), none, none⟩,
      ⟨some 57, .faddr 0 (.t 7), none, none⟩,
      ⟨some 58, .load 1 false (.t 57), none, none⟩,
      ⟨some 59, .call fid_adj_Read [(.t 56), (.t 58)], none, none⟩,
      ⟨some 55, .mov (.t 59), none, none⟩,
      ⟨some 60, .extract (.t 55) 0, none, none⟩,
      ⟨some 61, .extract (.t 55) 1, none, none⟩,
      ⟨some 14, .mov (.t 60), none, none⟩,
      ⟨some 15, .mov (.t 61), none, none⟩])
  (.seq (.reg [⟨some 63, .mov (.t 10), none, none⟩,
      ⟨some 64, .mov (.t 12), none, none⟩,
      ⟨some 65, .bin .add (.t 64) (.c (.int .u64 1)), none, none⟩,
      ⟨some 66, .call fid_adj_Read [(.t 63), (.t 65)], none, none⟩,
      ⟨some 62, .mov (.t 66), none, none⟩,
      ⟨some 67, .extract (.t 62) 0, none, none⟩,
      ⟨some 68, .extract (.t 62) 1, none, none⟩,
      ⟨some 16, .mov (.t 67), none, none⟩,
      ⟨some 17, .mov (.t 68), none, none⟩])
  (.seq (.seq (.reg [⟨some 69, .mov (.t 11), none, none⟩,
      ⟨some 70, .bin .neq (.t 69) (.c (.int .i64 0)), none, none⟩,
      ⟨some 71, .mov (.t 70), none, none⟩,
      ⟨some 72, .mov (.t 15), (some (71, false)), none⟩,
      ⟨some 73, .bin .neq (.t 72) (.c (.int .i64 0)), (some (71, false)), none⟩,
      ⟨some 74, .pick (.t 71) (.c (.bool true)) (.t 73), none, none⟩,
      ⟨some 75, .mov (.t 74), none, none⟩,
      ⟨some 76, .mov (.t 14), (some (75, false)), none⟩,
      ⟨some 77, .mov (.t 8), (some (75, false)), none⟩,
      ⟨some 78, .call fid_archipelagoref8_SameEdges [(.t 76), (.t 77)], (some (75, false)), none⟩,
      ⟨some 79, .un .not (.t 78), (some (75, false)), none⟩,
      ⟨some 80, .pick (.t 75) (.c (.bool true)) (.t 79), none, none⟩,
      ⟨some 81, .mov (.t 80), none, none⟩,
      ⟨some 82, .mov (.t 17), (some (81, false)), none⟩,
      ⟨some 83, .bin .neq (.t 82) (.c (.int .i64 0)), (some (81, false)), none⟩,
      ⟨some 84, .pick (.t 81) (.c (.bool true)) (.t 83), none, none⟩,
      ⟨some 85, .mov (.t 84), none, none⟩,
      ⟨some 86, .mov (.t 16), (some (85, false)), none⟩,
      ⟨some 87, .mov (.t 8), (some (85, false)), none⟩,
      ⟨some 88, .call fid_archipelagoref8_SameEdges [(.t 86), (.t 87)], (some (85, false)), none⟩,
      ⟨some 89, .un .not (.t 88), (some (85, false)), none⟩,
      ⟨some 90, .pick (.t 85) (.c (.bool true)) (.t 89), none, none⟩])
  (.cond (.t 90)
  (.seq (.reg [⟨some 6, .mov (.c (.bool false)), none, none⟩])
    (.ret))
  (.skip)))
  (.seq (.reg [⟨some 92, .mov (.t 10), none, none⟩,
      ⟨some 93, .mov (.t 12), none, none⟩,
      ⟨some 94, .call fid_adj_Read [(.t 92), (.t 93)], none, none⟩,
      ⟨some 91, .mov (.t 94), none, none⟩,
      ⟨some 95, .extract (.t 91) 0, none, none⟩,
      ⟨some 96, .extract (.t 91) 1, none, none⟩,
      ⟨some 18, .mov (.t 95), none, none⟩,
      ⟨some 19, .mov (.t 96), none, none⟩])
  (.seq (.reg [⟨some 97, .mov (.t 19), none, none⟩,
      ⟨some 98, .bin .eql (.t 97) (.c (.int .i64 0)), none, none⟩,
      ⟨some 99, .mov (.t 8), none, none⟩,
      ⟨some 100, .len .sl (.t 99), none, none⟩,
      ⟨some 101, .bin .eql (.t 100) (.c (.int .i64 0)), none, none⟩,
      ⟨some 102, .eq .bool false (.t 98) (.t 101), none, none⟩,
      ⟨some 6, .mov (.t 102), none, none⟩])
  (.ret)))))))))))))) }
def archipelagolaw15_AdjSizes_b0 : IC :=
  (.seq (.seq (.reg [⟨some 32, .mov (.t 12), none, none⟩,
      ⟨some 33, .mov (.t 9), none, none⟩,
      ⟨some 34, .bin .lss (.t 32) (.t 33), none, none⟩])
  (.cond (.t 34)
  (.skip)
  (.exit 0)))
  (.seq (.block 1
  (.seq (.reg [⟨some 37, .mov (.t 2), none, none⟩])
    (.cond (.t 37)
    (.reg [⟨some 38, .mov (.t 11), none, none⟩,
          ⟨some 39, .mov (.t 10), none, none⟩,
          ⟨some 40, .mov (.t 10), none, none⟩,
          ⟨some 41, .bin .add (.t 40) (.c (.int .u32 1)), none, none⟩,
          ⟨some 42, .mov (.t 12), none, none⟩,
          ⟨some 43, .conv .u32 (.t 42), none, none⟩,
          ⟨some 44, .bin .add (.t 41) (.t 43), none, none⟩,
          ⟨some 45, .build [(.int .u32 0), (.int .u32 0)] [(0, 1, (.t 39)), (1, 1, (.t 44))], none, none⟩,
          ⟨some 46, .mkrow 2 1 [(.int .u32 0), (.int .u32 0)] [(0, (.t 45))], none, none⟩,
          ⟨some 47, .append 2 8 (.t 38) (.t 46), none, none⟩,
          ⟨some 11, .mov (.t 47), none, none⟩])
    (.reg [⟨some 48, .mov (.t 11), none, none⟩,
          ⟨some 49, .mov (.t 10), none, none⟩,
          ⟨some 50, .mov (.t 12), none, none⟩,
          ⟨some 51, .conv .u32 (.t 50), none, none⟩,
          ⟨some 52, .bin .add (.t 49) (.t 51), none, none⟩,
          ⟨some 53, .mov (.t 10), none, none⟩,
          ⟨some 54, .mov (.t 12), none, none⟩,
          ⟨some 55, .conv .u32 (.t 54), none, none⟩,
          ⟨some 56, .bin .add (.t 53) (.t 55), none, none⟩,
          ⟨some 57, .bin .add (.t 56) (.c (.int .u32 1)), none, none⟩,
          ⟨some 58, .build [(.int .u32 0), (.int .u32 0)] [(0, 1, (.t 52)), (1, 1, (.t 57))], none, none⟩,
          ⟨some 59, .mkrow 2 1 [(.int .u32 0), (.int .u32 0)] [(0, (.t 58))], none, none⟩,
          ⟨some 60, .append 2 8 (.t 48) (.t 59), none, none⟩,
          ⟨some 11, .mov (.t 60), none, none⟩]))))
  (.reg [⟨some 35, .mov (.t 12), none, none⟩,
      ⟨some 36, .bin .add (.t 35) (.c (.int .i64 1)), none, none⟩,
      ⟨some 12, .mov (.t 36), none, none⟩])))
def archipelagolaw15_AdjSizes_b1 : IC :=
  (.seq (.seq (.reg [⟨some 73, .mov (.t 18), none, none⟩,
      ⟨some 74, .bin .gtr (.t 73) (.c (.int .u32 0)), none, none⟩])
  (.cond (.t 74)
  (.skip)
  (.exit 2)))
  (.seq (.block 3
  (.reg [⟨some 77, .mov (.t 17), none, none⟩,
        ⟨some 78, .bin .add (.t 77) (.c (.int .i64 1)), none, none⟩,
        ⟨some 17, .mov (.t 78), none, none⟩]))
  (.reg [⟨some 75, .mov (.t 18), none, none⟩,
      ⟨some 76, .bin .shr (.t 75) (.c (.int .u64 7)), none, none⟩,
      ⟨some 18, .mov (.t 76), none, none⟩])))
def ir_archipelagolaw15_AdjSizes : IFn :=
  { params := 4, results := [.tmp 8], body :=
  (.seq (.reg [⟨some 8, .mov (.c (.bool false)), none, none⟩])
  (.seq (.seq (.reg [⟨some 24, .call fid_archipelagolaw15_known [], none, none⟩,
      ⟨some 25, .un .not (.t 24), none, none⟩])
  (.cond (.t 25)
  (.seq (.reg [⟨some 8, .mov (.c (.bool false)), none, none⟩])
    (.ret))
  (.skip)))
  (.seq (.reg [⟨some 26, .mov (.t 0), none, none⟩,
      ⟨some 27, .bin .rem (.t 26) (.c (.int .u8 100)), none, none⟩,
      ⟨some 28, .conv .i64 (.t 27), none, none⟩,
      ⟨some 29, .bin .add (.t 28) (.c (.int .i64 1)), none, none⟩,
      ⟨some 9, .mov (.t 29), none, none⟩])
  (.seq (.reg [⟨some 30, .mov (.t 1), none, none⟩,
      ⟨some 31, .bin .rem (.t 30) (.c (.int .u32 2147483648)), none, none⟩,
      ⟨some 10, .mov (.t 31), none, none⟩])
  (.seq (.reg [⟨some 11, .mov (.c .nils), none, none⟩])
  (.seq (.seq (.reg [⟨some 12, .mov (.c (.int .i64 0)), none, none⟩])
  (.block 0
  (.loop [2, 3, 9, 10, 11, 12] archipelagolaw15_AdjSizes_b0)))
  (.seq (.reg [⟨some 62, .mov (.t 11), none, none⟩,
      ⟨some 63, .call fid_adj_Put [(.t 62)], none, none⟩,
      ⟨some 61, .mov (.t 63), none, none⟩,
      ⟨some 64, .extract (.t 61) 0, none, none⟩,
      ⟨some 65, .extract (.t 61) 1, none, none⟩,
      ⟨some 13, .mov (.t 64), none, none⟩,
      ⟨some 14, .mov (.t 65), none, none⟩])
  (.seq (.reg [⟨some 67, .mov (.t 13), none, none⟩,
      ⟨some 68, .call fid_adj_Read [(.t 67), (.c (.int .u64 4294967296))], none, none⟩,
      ⟨some 66, .mov (.t 68), none, none⟩,
      ⟨some 69, .extract (.t 66) 0, none, none⟩,
      ⟨some 70, .extract (.t 66) 1, none, none⟩,
      ⟨some 15, .mov (.t 69), none, none⟩,
      ⟨some 16, .mov (.t 70), none, none⟩])
  (.seq (.reg [⟨some 17, .mov (.c (.int .i64 0)), none, none⟩])
  (.seq (.seq (.reg [⟨some 71, .mov (.t 10), none, none⟩,
      ⟨some 72, .bin .shr (.t 71) (.c (.int .u64 7)), none, none⟩,
      ⟨some 18, .mov (.t 72), none, none⟩])
  (.block 2
  (.loop [2, 3, 9, 11, 13, 14, 15, 16, 17, 18] archipelagolaw15_AdjSizes_b1)))
  (.seq (.reg [⟨some 79, .mov (.t 17), none, none⟩,
      ⟨some 80, .bin .add (.c (.int .i64 1)) (.t 79), none, none⟩,
      ⟨some 81, .bin .add (.t 80) (.c (.int .i64 1)), none, none⟩,
      ⟨some 82, .bin .add (.t 81) (.c (.int .i64 1)), none, none⟩,
      ⟨some 83, .mov (.t 9), none, none⟩,
      ⟨some 84, .bin .add (.t 82) (.t 83), none, none⟩,
      ⟨some 19, .mov (.t 84), none, none⟩])
  (.seq (.seq (.reg [⟨some 85, .mov (.t 2), none, none⟩,
      ⟨some 86, .un .not (.t 85), none, none⟩])
  (.cond (.t 86)
  (.reg [⟨some 87, .mov (.t 17), none, none⟩,
        ⟨some 88, .bin .add (.c (.int .i64 1)) (.t 87), none, none⟩,
        ⟨some 89, .mov (.t 9), none, none⟩,
        ⟨some 90, .bin .mul (.c (.int .i64 3)) (.t 89), none, none⟩,
        ⟨some 91, .bin .add (.t 88) (.t 90), none, none⟩,
        ⟨some 19, .mov (.t 91), none, none⟩])
  (.skip)))
  (.seq (.reg [⟨some 92, .mov (.t 3), none, none⟩,
      ⟨some 93, .conv .i64 (.t 92), none, none⟩,
      ⟨some 94, .mov (.t 9), none, none⟩,
      ⟨some 95, .bin .rem (.t 93) (.t 94), none, none⟩,
      ⟨some 20, .mov (.t 95), none, none⟩])
  (.seq (.regD [0, 1, 2, 3, 4, 5, 6, 7, 8] [⟨some 96, .mov (.t 11), none, none⟩,
      ⟨some 97, .append 2 8 (.c .nils) (.t 96), none, none⟩,
      ⟨some 98, .mov (.t 11), none, none⟩,
      ⟨some 99, .mov (.t 20), none, none⟩,
      ⟨some 100, .iaddr 2 (.t 98) (.t 99), none, none⟩,
      ⟨some 101, .load 2 true (.t 100), none, some (0, 1)⟩,
      ⟨some 102, .mkrow 2 1 [(.int .u32 0), (.int .u32 0)] [(0, (.t 101))], none, none⟩,
      ⟨some 103, .append 2 8 (.t 97) (.t 102), none, none⟩,
      ⟨some 21, .mov (.t 103), none, none⟩])
  (.seq (.reg [⟨some 105, .mov (.t 21), none, none⟩,
      ⟨some 106, .call fid_adj_Put [(.t 105)], none, none⟩,
      ⟨some 104, .mov (.t 106), none, none⟩,
      ⟨some 107, .extract (.t 104) 0, none, none⟩,
      ⟨some 108, .extract (.t 104) 1, none, none⟩,
      ⟨some 22, .mov (.t 107), none, none⟩,
      ⟨some 23, .mov (.t 108), none, none⟩])
  (.seq (.reg [⟨some 109, .mov (.t 14), none, none⟩,
      ⟨some 110, .bin .eql (.t 109) (.c (.int .i64 0)), none, none⟩,
      ⟨some 111, .mov (.t 110), none, none⟩,
      ⟨some 112, .mov (.t 16), (some (111, true)), none⟩,
      ⟨some 113, .bin .eql (.t 112) (.c (.int .i64 0)), (some (111, true)), none⟩,
      ⟨some 114, .pick (.t 111) (.t 113) (.c (.bool false)), none, none⟩,
      ⟨some 115, .mov (.t 114), none, none⟩,
      ⟨some 116, .mov (.t 15), (some (115, true)), none⟩,
      ⟨some 117, .mov (.t 11), (some (115, true)), none⟩,
      ⟨some 118, .call fid_archipelagoref8_SameEdges [(.t 116), (.t 117)], (some (115, true)), none⟩,
      ⟨some 119, .pick (.t 115) (.t 118) (.c (.bool false)), none, none⟩,
      ⟨some 120, .mov (.t 119), none, none⟩,
      ⟨some 121, .mov (.t 13), (some (120, true)), none⟩,
      ⟨some 122, .len .sl (.t 121), (some (120, true)), none⟩,
      ⟨some 123, .mov (.t 19), (some (120, true)), none⟩,
      ⟨some 124, .bin .eql (.t 122) (.t 123), (some (120, true)), none⟩,
      ⟨some 125, .pick (.t 120) (.t 124) (.c (.bool false)), none, none⟩,
      ⟨some 126, .mov (.t 125), none, none⟩,
      ⟨some 127, .mov (.t 23), (some (126, true)), none⟩,
      ⟨some 128, .bin .eql (.t 127) (.c (.int .i64 23)), (some (126, true)), none⟩,
      ⟨some 129, .pick (.t 126) (.t 128) (.c (.bool false)), none, none⟩,
      ⟨some 8, .mov (.t 129), none, none⟩])
  (.ret))))))))))))))))) }
def ir_archipelagolaw15_AdjStrange : IFn :=
  { params := 3, results := [.tmp 6], body :=
  (.seq (.reg [⟨some 6, .mov (.c (.bool false)), none, none⟩])
  (.seq (.seq (.reg [⟨some 21, .call fid_archipelagolaw15_known [], none, none⟩,
      ⟨some 22, .un .not (.t 21), none, none⟩])
  (.cond (.t 22)
  (.seq (.reg [⟨some 6, .mov (.c (.bool false)), none, none⟩])
    (.ret))
  (.skip)))
  (.seq (.reg [⟨some 23, .mov (.t 0), none, none⟩,
      ⟨some 24, .bin .rem (.t 23) (.c (.int .u8 60)), none, none⟩,
      ⟨some 25, .conv .u64 (.t 24), none, none⟩,
      ⟨some 26, .mov (.t 1), none, none⟩,
      ⟨some 27, .bin .rem (.t 26) (.c (.int .u8 60)), none, none⟩,
      ⟨some 28, .conv .u64 (.t 27), none, none⟩,
      ⟨some 7, .mov (.t 25), none, none⟩,
      ⟨some 8, .mov (.t 28), none, none⟩])
  (.seq (.reg [⟨some 29, .mov (.t 7), none, none⟩,
      ⟨some 30, .conv .u8 (.t 29), none, none⟩,
      ⟨some 31, .mov (.t 8), none, none⟩,
      ⟨some 32, .conv .u8 (.t 31), none, none⟩,
      ⟨some 33, .mkrow 1 4 [(.int .u8 0)] [(0, (.c (.int .u8 1))), (1, (.t 30)), (2, (.c (.int .u8 1))), (3, (.t 32))], none, none⟩,
      ⟨some 9, .mov (.t 33), none, none⟩])
  (.seq (.reg [⟨some 35, .mov (.t 9), none, none⟩,
      ⟨some 36, .mov (.t 2), none, none⟩,
      ⟨some 37, .bin .rem (.t 36) (.c (.int .u8 130)), none, none⟩,
      ⟨some 38, .conv .u64 (.t 37), none, none⟩,
      ⟨some 39, .call fid_adj_Read [(.t 35), (.t 38)], none, none⟩,
      ⟨some 34, .mov (.t 39), none, none⟩,
      ⟨some 40, .extract (.t 34) 0, none, none⟩,
      ⟨some 41, .extract (.t 34) 1, none, none⟩,
      ⟨some 10, .mov (.t 40), none, none⟩,
      ⟨some 11, .mov (.t 41), none, none⟩])
  (.seq (.reg [⟨some 43, .mov (.t 7), none, none⟩,
      ⟨some 44, .conv .u8 (.t 43), none, none⟩,
      ⟨some 45, .mkrow 1 3 [(.int .u8 0)] [(0, (.c (.int .u8 1))), (1, (.t 44)), (2, (.c (.int .u8 0)))], none, none⟩,
      ⟨some 46, .call fid_adj_Read [(.t 45), (.c (.int .u64 200))], none, none⟩,
      ⟨some 42, .mov (.t 46), none, none⟩,
      ⟨some 47, .extract (.t 42) 0, none, none⟩,
      ⟨some 48, .extract (.t 42) 1, none, none⟩,
      ⟨some 12, .mov (.t 47), none, none⟩,
      ⟨some 13, .mov (.t 48), none, none⟩])
  (.seq (.reg [⟨some 50, .mov (.t 7), none, none⟩,
      ⟨some 51, .conv .u8 (.t 50), none, none⟩,
      ⟨some 52, .mov (.t 8), none, none⟩,
      ⟨some 53, .conv .u8 (.t 52), none, none⟩,
      ⟨some 54, .mkrow 1 4 [(.int .u8 0)] [(0, (.c (.int .u8 2))), (1, (.t 51)), (2, (.c (.int .u8 1))), (3, (.t 53))], none, none⟩,
      ⟨some 55, .call fid_adj_Read [(.t 54), (.c (.int .u64 200))], none, none⟩,
      ⟨some 49, .mov (.t 55), none, none⟩,
      ⟨some 56, .extract (.t 49) 0, none, none⟩,
      ⟨some 57, .extract (.t 49) 1, none, none⟩,
      ⟨some 14, .mov (.t 56), none, none⟩,
      ⟨some 15, .mov (.t 57), none, none⟩])
  (.seq (.reg [⟨some 59, .mov (.t 7), none, none⟩,
      ⟨some 60, .conv .u8 (.t 59), none, none⟩,
      ⟨some 61, .mkrow 1 2 [(.int .u8 0)] [(0, (.c (.int .u8 0))), (1, (.t 60))], none, none⟩,
      ⟨some 62, .call fid_adj_Read [(.t 61), (.c (.int .u64 200))], none, none⟩,
      ⟨some 58, .mov (.t 62), none, none⟩,
      ⟨some 63, .extract (.t 58) 0, none, none⟩,
      ⟨some 64, .extract (.t 58) 1, none, none⟩,
      ⟨some 16, .mov (.t 63), none, none⟩,
      ⟨some 17, .mov (.t 64), none, none⟩])
  (.seq (.reg [⟨some 66, .mov (.t 7), none, none⟩,
      ⟨some 67, .conv .u8 (.t 66), none, none⟩,
      ⟨some 68, .bin .or (.t 67) (.c (.int .u8 128)), none, none⟩,
      ⟨some 69, .mov (.t 8), none, none⟩,
      ⟨some 70, .conv .u8 (.t 69), none, none⟩,
      ⟨some 71, .mkrow 1 5 [(.int .u8 0)] [(0, (.c (.int .u8 1))), (1, (.t 68)), (2, (.c (.int .u8 0))), (3, (.c (.int .u8 1))), (4, (.t 70))], none, none⟩,
      ⟨some 72, .call fid_adj_Read [(.t 71), (.c (.int .u64 200))], none, none⟩,
      ⟨some 65, .mov (.t 72), none, none⟩,
      ⟨some 73, .extract (.t 65) 0, none, none⟩,
      ⟨some 74, .extract (.t 65) 1, none, none⟩,
      ⟨some 18, .mov (.t 73), none, none⟩,
      ⟨some 19, .mov (.t 74), none, none⟩])
  (.seq (.reg [⟨some 75, .mov (.t 7), none, none⟩,
      ⟨some 76, .mov (.t 8), none, none⟩,
      ⟨some 77, .bin .add (.t 75) (.t 76), none, none⟩,
      ⟨some 78, .bin .add (.t 77) (.c (.int .u64 1)), none, none⟩,
      ⟨some 79, .mov (.t 2), none, none⟩,
      ⟨some 80, .bin .rem (.t 79) (.c (.int .u8 130)), none, none⟩,
      ⟨some 81, .conv .u64 (.t 80), none, none⟩,
      ⟨some 82, .bin .lss (.t 78) (.t 81), none, none⟩,
      ⟨some 20, .mov (.t 82), none, none⟩])
  (.seq (.reg [⟨some 83, .mov (.t 11), none, none⟩,
      ⟨some 84, .bin .eql (.t 83) (.c (.int .i64 0)), none, none⟩,
      ⟨some 85, .mov (.t 20), none, none⟩,
      ⟨some 86, .eq .bool false (.t 84) (.t 85), none, none⟩,
      ⟨some 87, .mov (.t 86), none, none⟩,
      ⟨some 88, .mov (.t 20), (some (87, true)), none⟩,
      ⟨some 89, .un .not (.t 88), (some (87, true)), none⟩,
      ⟨some 90, .mov (.t 89), (some (87, true)), none⟩,
      ⟨some 91, .mov (.t 10), (some (90, false)), none⟩,
      ⟨some 92, .len .sl (.t 91), (some (90, false)), none⟩,
      ⟨some 93, .bin .eql (.t 92) (.c (.int .i64 1)), (some (90, false)), none⟩,
      ⟨some 94, .mov (.t 93), (some (90, false)), none⟩,
      ⟨some 95, .mov (.t 10), (some (94, true)), none⟩,
      ⟨some 96, .iaddr 2 (.t 95) (.c (.int .i64 0)), (some (94, true)), none⟩,
      ⟨some 97, .load 2 true (.t 96), (some (94, true)), none⟩,
      ⟨some 98, .mov (.t 7), (some (94, true)), none⟩,
      ⟨some 99, .conv .u32 (.t 98), (some (94, true)), none⟩,
      ⟨some 100, .mov (.t 7), (some (94, true)), none⟩,
      ⟨some 101, .mov (.t 8), (some (94, true)), none⟩,
      ⟨some 102, .bin .add (.t 100) (.t 101), (some (94, true)), none⟩,
      ⟨some 103, .bin .add (.t 102) (.c (.int .u64 1)), (some (94, true)), none⟩,
      ⟨some 104, .conv .u32 (.t 103), (some (94, true)), none⟩,
      ⟨some 105, .build [(.int .u32 0), (.int .u32 0)] [(0, 1, (.t 99)), (1, 1, (.t 104))], (some (94, true)), none⟩,
      ⟨some 106, .eq (.struct [.int, .int]) false (.t 97) (.t 105), (some (94, true)), none⟩,
      ⟨some 107, .pick (.t 94) (.t 106) (.c (.bool false)), (some (90, false)), none⟩,
      ⟨some 108, .pick (.t 90) (.c (.bool true)) (.t 107), (some (87, true)), none⟩,
      ⟨some 109, .pick (.t 87) (.t 108) (.c (.bool false)), none, none⟩,
      ⟨some 110, .mov (.t 109), none, none⟩,
      ⟨some 111, .mov (.t 13), (some (110, true)), none⟩,
      ⟨some 112, .bin .eql (.t 111) (.c (.int .i64 21)), (some (110, true)), none⟩,
      ⟨some 113, .pick (.t 110) (.t 112) (.c (.bool false)), none, none⟩,
      ⟨some 114, .mov (.t 113), none, none⟩,
      ⟨some 115, .mov (.t 15), (some (114, true)), none⟩,
      ⟨some 116, .bin .eql (.t 115) (.c (.int .i64 21)), (some (114, true)), none⟩,
      ⟨some 117, .pick (.t 114) (.t 116) (.c (.bool false)), none, none⟩,
      ⟨some 118, .mov (.t 117), none, none⟩,
      ⟨some 119, .mov (.t 17), (some (118, true)), none⟩,
      ⟨some 120, .bin .eql (.t 119) (.c (.int .i64 21)), (some (118, true)), none⟩,
      ⟨some 121, .pick (.t 118) (.t 120) (.c (.bool false)), none, none⟩,
      ⟨some 122, .mov (.t 121), none, none⟩,
      ⟨some 123, .mov (.t 19), (some (122, true)), none⟩,
      ⟨some 124, .bin .eql (.t 123) (.c (.int .i64 21)), (some (122, true)), none⟩,
      ⟨some 125, .pick (.t 122) (.t 124) (.c (.bool false)), none, none⟩,
      ⟨some 6, .mov (.t 125), none, none⟩])
  (.ret)))))))))))) }
end Go.Ab
