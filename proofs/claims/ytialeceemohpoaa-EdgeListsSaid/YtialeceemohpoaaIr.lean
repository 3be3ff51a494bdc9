/- The functions as the abstract machine has them (printed by wip/irgen.py). -/
import Derived.Test.YtialeceemohpoaaAbs1
namespace Go.Ab
open Go
def fid_archipelagolaw8_EdgeTells : Nat := 3
def fid_archipelagolaw8_EdgeLists : Nat := 4
def fid_archipelagolaw8_EdgeOrders : Nat := 5
def fid_archipelagolaw8_EdgeNames : Nat := 6
def fid_archipelagolaw8_known : Nat := 7
def fid_edge_Of : Nat := 8
def fid_edge_Right : Nat := 9
def fid_archipelagoref8_Right : Nat := 10
def fid_edge_Less : Nat := 11
def fid_archipelagoref8_Less : Nat := 12
def fid_edge_Rising : Nat := 13
def fid_archipelagoref8_Rising : Nat := 14
def fid_edge_Before : Nat := 15
def fid_archipelagoref8_Before : Nat := 16
def fid_archipelagolaw8_few : Nat := 17
def fid_edge_compare : Nat := 18
def fid_cmp_Or_int : Nat := 19
def fid_cmp_Compare_int64 : Nat := 20
def fid_cmp_Compare_uint32 : Nat := 21
def fid_cmp_isNaN_int64 : Nat := 22
def fid_cmp_isNaN_uint32 : Nat := 23
def ir_edge_Of : IFn :=
  { params := 2, results := [.cell 4 2 true, .tmp 5], body :=
  (.seq (.reg [⟨some 4, .box (.c (.agg [(.int .u32 0), (.int .u32 0)])), none, none⟩,
      ⟨some 5, .mov (.c (.bool false)), none, none⟩])
  (.seq (.seq (.reg [⟨some 6, .mov (.t 0), none, none⟩,
      ⟨some 7, .mov (.t 1), none, none⟩,
      ⟨some 8, .bin .eql (.t 6) (.t 7), none, none⟩])
  (.cond (.t 8)
  (.seq (.reg [⟨some 9, .build [(.int .u32 0), (.int .u32 0)] [], none, none⟩,
        ⟨none, .store 2 (.t 4) (.t 9), none, none⟩,
        ⟨some 5, .mov (.c (.bool false)), none, none⟩])
    (.ret))
  (.skip)))
  (.seq (.reg [⟨some 10, .mov (.t 0), none, none⟩,
      ⟨some 11, .mov (.t 1), none, none⟩,
      ⟨some 12, .minmax true [(.t 10), (.t 11)], none, none⟩,
      ⟨some 13, .mov (.t 0), none, none⟩,
      ⟨some 14, .mov (.t 1), none, none⟩,
      ⟨some 15, .minmax false [(.t 13), (.t 14)], none, none⟩,
      ⟨some 16, .build [(.int .u32 0), (.int .u32 0)] [(0, 1, (.t 12)), (1, 1, (.t 15))], none, none⟩,
      ⟨none, .store 2 (.t 4) (.t 16), none, none⟩,
      ⟨some 5, .mov (.c (.bool true)), none, none⟩])
  (.ret)))) }
def ir_edge_Right : IFn :=
  { params := 2, results := [.tmp 4], body :=
  (.seq (.reg [⟨some 2, .box (.t 0), none, none⟩,
      ⟨some 4, .mov (.c (.bool false)), none, none⟩])
  (.seq (.reg [⟨some 5, .faddr 0 (.t 2), none, none⟩,
      ⟨some 6, .load 1 false (.t 5), none, none⟩,
      ⟨some 7, .faddr 1 (.t 2), none, none⟩,
      ⟨some 8, .load 1 false (.t 7), none, none⟩,
      ⟨some 9, .bin .lss (.t 6) (.t 8), none, none⟩,
      ⟨some 10, .mov (.t 9), none, none⟩,
      ⟨some 11, .faddr 1 (.t 2), (some (10, true)), none⟩,
      ⟨some 12, .load 1 false (.t 11), (some (10, true)), none⟩,
      ⟨some 13, .conv .u64 (.t 12), (some (10, true)), none⟩,
      ⟨some 14, .mov (.t 1), (some (10, true)), none⟩,
      ⟨some 15, .bin .lss (.t 13) (.t 14), (some (10, true)), none⟩,
      ⟨some 16, .pick (.t 10) (.t 15) (.c (.bool false)), none, none⟩,
      ⟨some 4, .mov (.t 16), none, none⟩])
  (.ret))) }
def cmp_Or_int_b0 : IC :=
  (.seq (.reg [⟨some 9, .bin .lss (.t 8) (.t 7), none, none⟩])
  (.seq (.cond (.t 9)
  (.skip)
  (.exit 0))
  (.seq (.block 1
  (.seq (.reg [⟨some 10, .iaddr 1 (.t 6) (.t 8), none, none⟩,
        ⟨some 11, .load 1 false (.t 10), none, none⟩,
        ⟨some 5, .mov (.t 11), none, none⟩])
    (.seq (.reg [⟨some 12, .mov (.t 5), none, none⟩,
        ⟨some 13, .mov (.t 3), none, none⟩,
        ⟨some 14, .bin .neq (.t 12) (.t 13), none, none⟩])
    (.cond (.t 14)
    (.seq (.reg [⟨some 15, .mov (.t 5), none, none⟩,
          ⟨some 2, .mov (.t 15), none, none⟩])
      (.ret))
    (.skip)))))
  (.reg [⟨some 16, .bin .add (.t 8) (.c (.int .i64 1)), none, none⟩,
      ⟨some 8, .mov (.t 16), none, none⟩]))))
def ir_cmp_Or_int : IFn :=
  { params := 1, results := [.tmp 2], body :=
  (.seq (.reg [⟨some 2, .mov (.c (.int .i64 0)), none, none⟩])
  (.seq (.reg [⟨some 3, .mov (.c (.int .i64 0)), none, none⟩])
  (.seq (.seq (.reg [⟨some 6, .mov (.t 0), none, none⟩,
      ⟨some 7, .len .sl (.t 6), none, none⟩,
      ⟨some 8, .mov (.c (.int .i64 0)), none, none⟩])
  (.block 0
  (.loop [3, 6, 7, 8] cmp_Or_int_b0)))
  (.seq (.reg [⟨some 17, .mov (.t 3), none, none⟩,
      ⟨some 2, .mov (.t 17), none, none⟩])
  (.ret))))) }
def ir_cmp_isNaN_uint32 : IFn :=
  { params := 1, results := [.tmp 2], body :=
  (.seq (.reg [⟨some 2, .mov (.c (.bool false)), none, none⟩])
  (.seq (.reg [⟨some 3, .mov (.t 0), none, none⟩,
      ⟨some 4, .mov (.t 0), none, none⟩,
      ⟨some 5, .bin .neq (.t 3) (.t 4), none, none⟩,
      ⟨some 2, .mov (.t 5), none, none⟩])
  (.ret))) }
def ir_cmp_Compare_uint32 : IFn :=
  { params := 2, results := [.tmp 4], body :=
  (.seq (.reg [⟨some 4, .mov (.c (.int .i64 0)), none, none⟩])
  (.seq (.reg [⟨some 7, .mov (.t 0), none, none⟩,
      ⟨some 8, .call fid_cmp_isNaN_uint32 [(.t 7)], none, none⟩,
      ⟨some 5, .mov (.t 8), none, none⟩])
  (.seq (.reg [⟨some 9, .mov (.t 1), none, none⟩,
      ⟨some 10, .call fid_cmp_isNaN_uint32 [(.t 9)], none, none⟩,
      ⟨some 6, .mov (.t 10), none, none⟩])
  (.seq (.seq (.reg [⟨some 11, .mov (.t 5), none, none⟩])
  (.cond (.t 11)
  (.seq (.seq (.reg [⟨some 12, .mov (.t 6), none, none⟩])
    (.cond (.t 12)
    (.seq (.reg [⟨some 4, .mov (.c (.int .i64 0)), none, none⟩])
      (.ret))
    (.skip)))
    (.seq (.reg [⟨some 4, .mov (.c (.int .i64 (-1))), none, none⟩])
    (.ret)))
  (.skip)))
  (.seq (.seq (.reg [⟨some 13, .mov (.t 6), none, none⟩])
  (.cond (.t 13)
  (.seq (.reg [⟨some 4, .mov (.c (.int .i64 1)), none, none⟩])
    (.ret))
  (.skip)))
  (.seq (.seq (.reg [⟨some 14, .mov (.t 0), none, none⟩,
      ⟨some 15, .mov (.t 1), none, none⟩,
      ⟨some 16, .bin .lss (.t 14) (.t 15), none, none⟩])
  (.cond (.t 16)
  (.seq (.reg [⟨some 4, .mov (.c (.int .i64 (-1))), none, none⟩])
    (.ret))
  (.skip)))
  (.seq (.seq (.reg [⟨some 17, .mov (.t 0), none, none⟩,
      ⟨some 18, .mov (.t 1), none, none⟩,
      ⟨some 19, .bin .gtr (.t 17) (.t 18), none, none⟩])
  (.cond (.t 19)
  (.seq (.reg [⟨some 4, .mov (.c (.int .i64 1)), none, none⟩])
    (.ret))
  (.skip)))
  (.seq (.reg [⟨some 4, .mov (.c (.int .i64 0)), none, none⟩])
  (.ret))))))))) }
def ir_edge_compare : IFn :=
  { params := 2, results := [.tmp 4], body :=
  (.seq (.reg [⟨some 2, .box (.t 0), none, none⟩,
      ⟨some 3, .box (.t 1), none, none⟩,
      ⟨some 4, .mov (.c (.int .i64 0)), none, none⟩])
  (.seq (.regD [0, 1, 2, 3, 4, 5, 6, 7, 8, 9, 10, 11, 12] [⟨some 5, .faddr 0 (.t 2), none, none⟩,
      ⟨some 6, .load 1 false (.t 5), none, none⟩,
      ⟨some 7, .faddr 0 (.t 3), none, none⟩,
      ⟨some 8, .load 1 false (.t 7), none, none⟩,
      ⟨some 9, .call fid_cmp_Compare_uint32 [(.t 6), (.t 8)], none, none⟩,
      ⟨some 10, .faddr 1 (.t 2), none, none⟩,
      ⟨some 11, .load 1 false (.t 10), none, some (0, 1)⟩,
      ⟨some 12, .faddr 1 (.t 3), none, none⟩,
      ⟨some 13, .load 1 false (.t 12), none, some (0, 1)⟩,
      ⟨some 14, .call fid_cmp_Compare_uint32 [(.t 11), (.t 13)], none, none⟩,
      ⟨some 15, .mkrow 1 2 [(.int .i64 0)] [(0, (.t 9)), (1, (.t 14))], none, none⟩,
      ⟨some 16, .call fid_cmp_Or_int [(.t 15)], none, none⟩,
      ⟨some 4, .mov (.t 16), none, none⟩])
  (.ret))) }
def ir_edge_Less : IFn :=
  { params := 2, results := [.tmp 4], body :=
  (.seq (.reg [⟨some 2, .box (.t 0), none, none⟩,
      ⟨some 3, .box (.t 1), none, none⟩,
      ⟨some 4, .mov (.c (.bool false)), none, none⟩])
  (.seq (.reg [⟨some 5, .load 2 true (.t 2), none, none⟩,
      ⟨some 6, .load 2 true (.t 3), none, none⟩,
      ⟨some 7, .call fid_edge_compare [(.t 5), (.t 6)], none, none⟩,
      ⟨some 8, .bin .lss (.t 7) (.c (.int .i64 0)), none, none⟩,
      ⟨some 4, .mov (.t 8), none, none⟩])
  (.ret))) }
def edge_Rising_b0 : IC :=
  (.seq (.reg [⟨some 7, .bin .lss (.t 6) (.t 5), none, none⟩])
  (.seq (.cond (.t 7)
  (.skip)
  (.exit 0))
  (.seq (.block 1
  (.seq (.reg [⟨some 8, .mov (.t 6), none, none⟩,
        ⟨some 3, .mov (.t 8), none, none⟩])
    (.seq (.regD [0, 1, 2, 3, 4, 5, 6, 7, 8, 9, 10, 11, 12, 13, 14] [⟨some 9, .mov (.t 3), none, none⟩,
        ⟨some 10, .bin .gtr (.t 9) (.c (.int .i64 0)), none, none⟩,
        ⟨some 11, .mov (.t 10), none, none⟩,
        ⟨some 12, .mov (.t 0), (some (11, true)), none⟩,
        ⟨some 13, .mov (.t 3), (some (11, true)), none⟩,
        ⟨some 14, .bin .sub (.t 13) (.c (.int .i64 1)), (some (11, true)), none⟩,
        ⟨some 15, .iaddr 2 (.t 12) (.t 14), (some (11, true)), none⟩,
        ⟨some 16, .load 2 true (.t 15), (some (11, true)), none⟩,
        ⟨some 17, .mov (.t 0), (some (11, true)), none⟩,
        ⟨some 18, .mov (.t 3), (some (11, true)), none⟩,
        ⟨some 19, .iaddr 2 (.t 17) (.t 18), (some (11, true)), none⟩,
        ⟨some 20, .load 2 true (.t 19), (some (11, true)), none⟩,
        ⟨some 21, .call fid_edge_Less [(.t 16), (.t 20)], (some (11, true)), none⟩,
        ⟨some 22, .un .not (.t 21), (some (11, true)), none⟩,
        ⟨some 23, .pick (.t 11) (.t 22) (.c (.bool false)), none, none⟩])
    (.cond (.t 23)
    (.seq (.reg [⟨some 2, .mov (.c (.bool false)), none, none⟩])
      (.ret))
    (.skip)))))
  (.reg [⟨some 24, .bin .add (.t 6) (.c (.int .i64 1)), none, none⟩,
      ⟨some 6, .mov (.t 24), none, none⟩]))))
def ir_edge_Rising : IFn :=
  { params := 1, results := [.tmp 2], body :=
  (.seq (.reg [⟨some 2, .mov (.c (.bool false)), none, none⟩])
  (.seq (.seq (.reg [⟨some 4, .mov (.t 0), none, none⟩,
      ⟨some 5, .len .sl (.t 4), none, none⟩,
      ⟨some 6, .mov (.c (.int .i64 0)), none, none⟩])
  (.block 0
  (.loop [0, 5, 6] edge_Rising_b0)))
  (.seq (.reg [⟨some 2, .mov (.c (.bool true)), none, none⟩])
  (.ret)))) }
def ir_cmp_isNaN_int64 : IFn :=
  { params := 1, results := [.tmp 2], body :=
  (.seq (.reg [⟨some 2, .mov (.c (.bool false)), none, none⟩])
  (.seq (.reg [⟨some 3, .mov (.t 0), none, none⟩,
      ⟨some 4, .mov (.t 0), none, none⟩,
      ⟨some 5, .bin .neq (.t 3) (.t 4), none, none⟩,
      ⟨some 2, .mov (.t 5), none, none⟩])
  (.ret))) }
def ir_cmp_Compare_int64 : IFn :=
  { params := 2, results := [.tmp 4], body :=
  (.seq (.reg [⟨some 4, .mov (.c (.int .i64 0)), none, none⟩])
  (.seq (.reg [⟨some 7, .mov (.t 0), none, none⟩,
      ⟨some 8, .call fid_cmp_isNaN_int64 [(.t 7)], none, none⟩,
      ⟨some 5, .mov (.t 8), none, none⟩])
  (.seq (.reg [⟨some 9, .mov (.t 1), none, none⟩,
      ⟨some 10, .call fid_cmp_isNaN_int64 [(.t 9)], none, none⟩,
      ⟨some 6, .mov (.t 10), none, none⟩])
  (.seq (.seq (.reg [⟨some 11, .mov (.t 5), none, none⟩])
  (.cond (.t 11)
  (.seq (.seq (.reg [⟨some 12, .mov (.t 6), none, none⟩])
    (.cond (.t 12)
    (.seq (.reg [⟨some 4, .mov (.c (.int .i64 0)), none, none⟩])
      (.ret))
    (.skip)))
    (.seq (.reg [⟨some 4, .mov (.c (.int .i64 (-1))), none, none⟩])
    (.ret)))
  (.skip)))
  (.seq (.seq (.reg [⟨some 13, .mov (.t 6), none, none⟩])
  (.cond (.t 13)
  (.seq (.reg [⟨some 4, .mov (.c (.int .i64 1)), none, none⟩])
    (.ret))
  (.skip)))
  (.seq (.seq (.reg [⟨some 14, .mov (.t 0), none, none⟩,
      ⟨some 15, .mov (.t 1), none, none⟩,
      ⟨some 16, .bin .lss (.t 14) (.t 15), none, none⟩])
  (.cond (.t 16)
  (.seq (.reg [⟨some 4, .mov (.c (.int .i64 (-1))), none, none⟩])
    (.ret))
  (.skip)))
  (.seq (.seq (.reg [⟨some 17, .mov (.t 0), none, none⟩,
      ⟨some 18, .mov (.t 1), none, none⟩,
      ⟨some 19, .bin .gtr (.t 17) (.t 18), none, none⟩])
  (.cond (.t 19)
  (.seq (.reg [⟨some 4, .mov (.c (.int .i64 1)), none, none⟩])
    (.ret))
  (.skip)))
  (.seq (.reg [⟨some 4, .mov (.c (.int .i64 0)), none, none⟩])
  (.ret))))))))) }
def ir_edge_Before : IFn :=
  { params := 2, results := [.tmp 4], body :=
  (.seq (.reg [⟨some 2, .box (.t 0), none, none⟩,
      ⟨some 3, .box (.t 1), none, none⟩,
      ⟨some 4, .mov (.c (.bool false)), none, none⟩])
  (.seq (.regD [0, 1, 2, 3, 4, 5, 6, 7, 8, 9, 10, 11, 12, 13] [⟨some 5, .faddr 0 (.t 2), none, none⟩,
      ⟨some 6, .load 1 false (.t 5), none, none⟩,
      ⟨some 7, .faddr 0 (.t 3), none, none⟩,
      ⟨some 8, .load 1 false (.t 7), none, none⟩,
      ⟨some 9, .call fid_cmp_Compare_int64 [(.t 6), (.t 8)], none, none⟩,
      ⟨some 10, .faddr 1 (.t 2), none, none⟩,
      ⟨some 11, .load 2 true (.t 10), none, some (0, 1)⟩,
      ⟨some 12, .faddr 1 (.t 3), none, none⟩,
      ⟨some 13, .load 2 true (.t 12), none, some (0, 1)⟩,
      ⟨some 14, .call fid_edge_compare [(.t 11), (.t 13)], none, none⟩,
      ⟨some 15, .mkrow 1 2 [(.int .i64 0)] [(0, (.t 9)), (1, (.t 14))], none, none⟩,
      ⟨some 16, .call fid_cmp_Or_int [(.t 15)], none, none⟩,
      ⟨some 17, .bin .lss (.t 16) (.c (.int .i64 0)), none, none⟩,
      ⟨some 4, .mov (.t 17), none, none⟩])
  (.ret))) }
def ir_archipelagolaw8_known : IFn :=
  { params := 0, results := [.tmp 0], body :=
  (.seq (.reg [⟨some 0, .mov (.c (.bool false)), none, none⟩])
  (.seq (.reg [⟨some 6, .call fid_edge_Of [(.c (.int .u32 3)), (.c (.int .u32 1))], none, none⟩,
      ⟨some 5, .mov (.t 6), none, none⟩,
      ⟨some 7, .extract (.t 5) 0, none, none⟩,
      ⟨some 8, .extract (.t 5) 1, none, none⟩,
      ⟨some 1, .box (.c (.agg [(.int .u32 0), (.int .u32 0)])), none, none⟩,
      ⟨none, .store 2 (.t 1) (.t 7), none, none⟩,
      ⟨some 2, .mov (.t 8), none, none⟩])
  (.seq (.reg [⟨some 10, .call fid_edge_Of [(.c (.int .u32 2)), (.c (.int .u32 2))], none, none⟩,
      ⟨some 9, .mov (.t 10), none, none⟩,
      ⟨some 11, .extract (.t 9) 0, none, none⟩,
      ⟨some 12, .extract (.t 9) 1, none, none⟩,
      ⟨some 3, .box (.c (.agg [(.int .u32 0), (.int .u32 0)])), none, none⟩,
      ⟨none, .store 2 (.t 3) (.t 11), none, none⟩,
      ⟨some 4, .mov (.t 12), none, none⟩])
  (.seq (.reg [⟨some 13, .mov (.t 2), none, none⟩,
      ⟨some 14, .mov (.t 13), none, none⟩,
      ⟨some 15, .load 2 true (.t 1), (some (14, true)), none⟩,
      ⟨some 16, .build [(.int .u32 0), (.int .u32 0)] [(0, 1, (.c (.int .u32 1))), (1, 1, (.c (.int .u32 3)))], (some (14, true)), none⟩,
      ⟨some 17, .eq (.struct [.int, .int]) false (.t 15) (.t 16), (some (14, true)), none⟩,
      ⟨some 18, .pick (.t 14) (.t 17) (.c (.bool false)), none, none⟩,
      ⟨some 19, .mov (.t 18), none, none⟩,
      ⟨some 20, .mov (.t 4), (some (19, true)), none⟩,
      ⟨some 21, .un .not (.t 20), (some (19, true)), none⟩,
      ⟨some 22, .pick (.t 19) (.t 21) (.c (.bool false)), none, none⟩,
      ⟨some 23, .mov (.t 22), none, none⟩,
      ⟨some 24, .load 2 true (.t 1), (some (23, true)), none⟩,
      ⟨some 25, .call fid_edge_Right [(.t 24), (.c (.int .u64 4))], (some (23, true)), none⟩,
      ⟨some 26, .pick (.t 23) (.t 25) (.c (.bool false)), none, none⟩,
      ⟨some 27, .mov (.t 26), none, none⟩,
      ⟨some 28, .load 2 true (.t 1), (some (27, true)), none⟩,
      ⟨some 29, .call fid_edge_Right [(.t 28), (.c (.int .u64 3))], (some (27, true)), none⟩,
      ⟨some 30, .un .not (.t 29), (some (27, true)), none⟩,
      ⟨some 31, .pick (.t 27) (.t 30) (.c (.bool false)), none, none⟩,
      ⟨some 32, .mov (.t 31), none, none⟩,
      ⟨some 33, .build [(.int .u32 0), (.int .u32 0)] [(0, 1, (.c (.int .u32 0))), (1, 1, (.c (.int .u32 9)))], (some (32, true)), none⟩,
      ⟨some 34, .load 2 true (.t 1), (some (32, true)), none⟩,
      ⟨some 35, .call fid_edge_Less [(.t 33), (.t 34)], (some (32, true)), none⟩,
      ⟨some 36, .pick (.t 32) (.t 35) (.c (.bool false)), none, none⟩,
      ⟨some 37, .mov (.t 36), none, none⟩,
      ⟨some 38, .build [(.int .u32 0), (.int .u32 0)] [(0, 1, (.c (.int .u32 0))), (1, 1, (.c (.int .u32 1)))], (some (37, true)), none⟩,
      ⟨some 39, .load 2 true (.t 1), (some (37, true)), none⟩,
      ⟨some 40, .mkrow 2 2 [(.int .u32 0), (.int .u32 0)] [(0, (.t 38)), (1, (.t 39))], (some (37, true)), none⟩,
      ⟨some 41, .call fid_edge_Rising [(.t 40)], (some (37, true)), none⟩,
      ⟨some 42, .pick (.t 37) (.t 41) (.c (.bool false)), none, none⟩,
      ⟨some 43, .mov (.t 42), none, none⟩,
      ⟨some 44, .load 2 true (.t 1), (some (43, true)), none⟩,
      ⟨some 45, .load 2 true (.t 1), (some (43, true)), none⟩,
      ⟨some 46, .mkrow 2 2 [(.int .u32 0), (.int .u32 0)] [(0, (.t 44)), (1, (.t 45))], (some (43, true)), none⟩,
      ⟨some 47, .call fid_edge_Rising [(.t 46)], (some (43, true)), none⟩,
      ⟨some 48, .un .not (.t 47), (some (43, true)), none⟩,
      ⟨some 49, .pick (.t 43) (.t 48) (.c (.bool false)), none, none⟩,
      ⟨some 50, .mov (.t 49), none, none⟩,
      ⟨some 51, .load 2 true (.t 1), (some (50, true)), none⟩,
      ⟨some 52, .build [(.int .i64 0), (.int .u32 0), (.int .u32 0), (.bool false)] [(0, 1, (.c (.int .i64 1))), (1, 2, (.t 51))], (some (50, true)), none⟩,
      ⟨some 53, .build [(.int .i64 0), (.int .u32 0), (.int .u32 0), (.bool false)] [(0, 1, (.c (.int .i64 2)))], (some (50, true)), none⟩,
      ⟨some 54, .call fid_edge_Before [(.t 52), (.t 53)], (some (50, true)), none⟩,
      ⟨some 55, .pick (.t 50) (.t 54) (.c (.bool false)), none, none⟩,
      ⟨some 0, .mov (.t 55), none, none⟩])
  (.ret))))) }
def ir_archipelagoref8_Right : IFn :=
  { params := 2, results := [.tmp 4], body :=
  (.seq (.reg [⟨some 2, .box (.t 0), none, none⟩,
      ⟨some 4, .mov (.c (.bool false)), none, none⟩])
  (.seq (.reg [⟨some 5, .faddr 0 (.t 2), none, none⟩,
      ⟨some 6, .load 1 false (.t 5), none, none⟩,
      ⟨some 7, .faddr 1 (.t 2), none, none⟩,
      ⟨some 8, .load 1 false (.t 7), none, none⟩,
      ⟨some 9, .bin .lss (.t 6) (.t 8), none, none⟩,
      ⟨some 10, .mov (.t 9), none, none⟩,
      ⟨some 11, .faddr 1 (.t 2), (some (10, true)), none⟩,
      ⟨some 12, .load 1 false (.t 11), (some (10, true)), none⟩,
      ⟨some 13, .conv .u64 (.t 12), (some (10, true)), none⟩,
      ⟨some 14, .mov (.t 1), (some (10, true)), none⟩,
      ⟨some 15, .bin .lss (.t 13) (.t 14), (some (10, true)), none⟩,
      ⟨some 16, .pick (.t 10) (.t 15) (.c (.bool false)), none, none⟩,
      ⟨some 4, .mov (.t 16), none, none⟩])
  (.ret))) }
def ir_archipelagoref8_Less : IFn :=
  { params := 2, results := [.tmp 4], body :=
  (.seq (.reg [⟨some 2, .box (.t 0), none, none⟩,
      ⟨some 3, .box (.t 1), none, none⟩,
      ⟨some 4, .mov (.c (.bool false)), none, none⟩])
  (.seq (.reg [⟨some 5, .faddr 0 (.t 2), none, none⟩,
      ⟨some 6, .load 1 false (.t 5), none, none⟩,
      ⟨some 7, .faddr 0 (.t 3), none, none⟩,
      ⟨some 8, .load 1 false (.t 7), none, none⟩,
      ⟨some 9, .bin .lss (.t 6) (.t 8), none, none⟩,
      ⟨some 10, .mov (.t 9), none, none⟩,
      ⟨some 11, .faddr 0 (.t 2), (some (10, false)), none⟩,
      ⟨some 12, .load 1 false (.t 11), (some (10, false)), none⟩,
      ⟨some 13, .faddr 0 (.t 3), (some (10, false)), none⟩,
      ⟨some 14, .load 1 false (.t 13), (some (10, false)), none⟩,
      ⟨some 15, .bin .eql (.t 12) (.t 14), (some (10, false)), none⟩,
      ⟨some 16, .mov (.t 15), (some (10, false)), none⟩,
      ⟨some 17, .faddr 1 (.t 2), (some (16, true)), none⟩,
      ⟨some 18, .load 1 false (.t 17), (some (16, true)), none⟩,
      ⟨some 19, .faddr 1 (.t 3), (some (16, true)), none⟩,
      ⟨some 20, .load 1 false (.t 19), (some (16, true)), none⟩,
      ⟨some 21, .bin .lss (.t 18) (.t 20), (some (16, true)), none⟩,
      ⟨some 22, .pick (.t 16) (.t 21) (.c (.bool false)), (some (10, false)), none⟩,
      ⟨some 23, .pick (.t 10) (.c (.bool true)) (.t 22), none, none⟩,
      ⟨some 4, .mov (.t 23), none, none⟩])
  (.ret))) }
def ir_archipelagolaw8_EdgeTells : IFn :=
  { params := 6, results := [.tmp 12], body :=
  (.seq (.reg [⟨some 12, .mov (.c (.bool false)), none, none⟩])
  (.seq (.seq (.reg [⟨some 19, .call fid_archipelagolaw8_known [], none, none⟩,
      ⟨some 20, .un .not (.t 19), none, none⟩])
  (.cond (.t 20)
  (.seq (.reg [⟨some 12, .mov (.c (.bool false)), none, none⟩])
    (.ret))
  (.skip)))
  (.seq (.seq (.reg [⟨some 21, .mov (.t 5), none, none⟩])
  (.cond (.t 21)
  (.reg [⟨some 22, .mov (.t 0), none, none⟩,
        ⟨some 23, .bin .rem (.t 22) (.c (.int .u32 4)), none, none⟩,
        ⟨some 24, .mov (.t 1), none, none⟩,
        ⟨some 25, .bin .rem (.t 24) (.c (.int .u32 4)), none, none⟩,
        ⟨some 26, .mov (.t 2), none, none⟩,
        ⟨some 27, .bin .rem (.t 26) (.c (.int .u32 4)), none, none⟩,
        ⟨some 28, .mov (.t 3), none, none⟩,
        ⟨some 29, .bin .rem (.t 28) (.c (.int .u32 4)), none, none⟩,
        ⟨some 30, .mov (.t 4), none, none⟩,
        ⟨some 31, .bin .rem (.t 30) (.c (.int .u64 6)), none, none⟩,
        ⟨some 0, .mov (.t 23), none, none⟩,
        ⟨some 1, .mov (.t 25), none, none⟩,
        ⟨some 2, .mov (.t 27), none, none⟩,
        ⟨some 3, .mov (.t 29), none, none⟩,
        ⟨some 4, .mov (.t 31), none, none⟩])
  (.skip)))
  (.seq (.reg [⟨some 33, .mov (.t 0), none, none⟩,
      ⟨some 34, .mov (.t 1), none, none⟩,
      ⟨some 35, .call fid_edge_Of [(.t 33), (.t 34)], none, none⟩,
      ⟨some 32, .mov (.t 35), none, none⟩,
      ⟨some 36, .extract (.t 32) 0, none, none⟩,
      ⟨some 37, .extract (.t 32) 1, none, none⟩,
      ⟨some 13, .box (.c (.agg [(.int .u32 0), (.int .u32 0)])), none, none⟩,
      ⟨none, .store 2 (.t 13) (.t 36), none, none⟩,
      ⟨some 14, .mov (.t 37), none, none⟩])
  (.seq (.reg [⟨some 39, .mov (.t 1), none, none⟩,
      ⟨some 40, .mov (.t 0), none, none⟩,
      ⟨some 41, .call fid_edge_Of [(.t 39), (.t 40)], none, none⟩,
      ⟨some 38, .mov (.t 41), none, none⟩,
      ⟨some 42, .extract (.t 38) 0, none, none⟩,
      ⟨some 43, .extract (.t 38) 1, none, none⟩,
      ⟨some 15, .box (.c (.agg [(.int .u32 0), (.int .u32 0)])), none, none⟩,
      ⟨none, .store 2 (.t 15) (.t 42), none, none⟩,
      ⟨some 16, .mov (.t 43), none, none⟩])
  (.seq (.reg [⟨some 44, .mov (.t 0), none, none⟩,
      ⟨some 45, .mov (.t 1), none, none⟩,
      ⟨some 46, .build [(.int .u32 0), (.int .u32 0)] [(0, 1, (.t 44)), (1, 1, (.t 45))], none, none⟩,
      ⟨some 47, .mov (.t 2), none, none⟩,
      ⟨some 48, .mov (.t 3), none, none⟩,
      ⟨some 49, .build [(.int .u32 0), (.int .u32 0)] [(0, 1, (.t 47)), (1, 1, (.t 48))], none, none⟩,
      ⟨some 17, .box (.c (.agg [(.int .u32 0), (.int .u32 0)])), none, none⟩,
      ⟨some 18, .box (.c (.agg [(.int .u32 0), (.int .u32 0)])), none, none⟩,
      ⟨none, .store 2 (.t 17) (.t 46), none, none⟩,
      ⟨none, .store 2 (.t 18) (.t 49), none, none⟩])
  (.seq (.seq (.reg [⟨some 50, .mov (.t 14), none, none⟩,
      ⟨some 51, .mov (.t 0), none, none⟩,
      ⟨some 52, .mov (.t 1), none, none⟩,
      ⟨some 53, .bin .neq (.t 51) (.t 52), none, none⟩,
      ⟨some 54, .eq .bool true (.t 50) (.t 53), none, none⟩,
      ⟨some 55, .mov (.t 54), none, none⟩,
      ⟨some 56, .mov (.t 16), (some (55, false)), none⟩,
      ⟨some 57, .mov (.t 14), (some (55, false)), none⟩,
      ⟨some 58, .eq .bool true (.t 56) (.t 57), (some (55, false)), none⟩,
      ⟨some 59, .pick (.t 55) (.c (.bool true)) (.t 58), none, none⟩,
      ⟨some 60, .mov (.t 59), none, none⟩,
      ⟨some 61, .load 2 true (.t 13), (some (60, false)), none⟩,
      ⟨some 62, .load 2 true (.t 15), (some (60, false)), none⟩,
      ⟨some 63, .eq (.struct [.int, .int]) true (.t 61) (.t 62), (some (60, false)), none⟩,
      ⟨some 64, .pick (.t 60) (.c (.bool true)) (.t 63), none, none⟩,
      ⟨some 65, .mov (.t 64), none, none⟩,
      ⟨some 66, .mov (.t 14), (some (65, false)), none⟩,
      ⟨some 67, .mov (.t 66), (some (65, false)), none⟩,
      ⟨some 68, .faddr 0 (.t 13), (some (67, true)), none⟩,
      ⟨some 69, .load 1 false (.t 68), (some (67, true)), none⟩,
      ⟨some 70, .mov (.t 0), (some (67, true)), none⟩,
      ⟨some 71, .mov (.t 1), (some (67, true)), none⟩,
      ⟨some 72, .minmax true [(.t 70), (.t 71)], (some (67, true)), none⟩,
      ⟨some 73, .bin .neq (.t 69) (.t 72), (some (67, true)), none⟩,
      ⟨some 74, .mov (.t 73), (some (67, true)), none⟩,
      ⟨some 75, .faddr 1 (.t 13), (some (74, false)), none⟩,
      ⟨some 76, .load 1 false (.t 75), (some (74, false)), none⟩,
      ⟨some 77, .mov (.t 0), (some (74, false)), none⟩,
      ⟨some 78, .mov (.t 1), (some (74, false)), none⟩,
      ⟨some 79, .minmax false [(.t 77), (.t 78)], (some (74, false)), none⟩,
      ⟨some 80, .bin .neq (.t 76) (.t 79), (some (74, false)), none⟩,
      ⟨some 81, .pick (.t 74) (.c (.bool true)) (.t 80), (some (67, true)), none⟩,
      ⟨some 82, .pick (.t 67) (.t 81) (.c (.bool false)), (some (65, false)), none⟩,
      ⟨some 83, .pick (.t 65) (.c (.bool true)) (.t 82), none, none⟩])
  (.cond (.t 83)
  (.seq (.reg [⟨some 12, .mov (.c (.bool false)), none, none⟩])
    (.ret))
  (.skip)))
  (.seq (.regD [0, 1, 2, 3, 4, 5, 6, 7, 8, 9, 10, 11, 12, 13, 14, 15, 16, 17, 18, 19, 20, 21, 22, 23, 24, 25, 26, 27, 28, 29, 30, 31, 32, 33, 34, 35, 36, 37, 38, 39, 40, 41, 42, 43, 44, 45, 46] [⟨some 84, .load 2 true (.t 17), none, none⟩,
      ⟨some 85, .mov (.t 4), none, none⟩,
      ⟨some 86, .call fid_edge_Right [(.t 84), (.t 85)], none, none⟩,
      ⟨some 87, .load 2 true (.t 17), none, some (0, 1)⟩,
      ⟨some 88, .mov (.t 4), none, none⟩,
      ⟨some 89, .call fid_archipelagoref8_Right [(.t 87), (.t 88)], none, none⟩,
      ⟨some 90, .eq .bool false (.t 86) (.t 89), none, none⟩,
      ⟨some 91, .mov (.t 90), none, none⟩,
      ⟨some 92, .load 2 true (.t 17), (some (91, true)), none⟩,
      ⟨some 93, .load 2 true (.t 18), (some (91, true)), none⟩,
      ⟨some 94, .call fid_edge_Less [(.t 92), (.t 93)], (some (91, true)), none⟩,
      ⟨some 95, .load 2 true (.t 17), (some (91, true)), some (2, 3)⟩,
      ⟨some 96, .load 2 true (.t 18), (some (91, true)), some (2, 3)⟩,
      ⟨some 97, .call fid_archipelagoref8_Less [(.t 95), (.t 96)], (some (91, true)), none⟩,
      ⟨some 98, .eq .bool false (.t 94) (.t 97), (some (91, true)), none⟩,
      ⟨some 99, .pick (.t 91) (.t 98) (.c (.bool false)), none, none⟩,
      ⟨some 100, .mov (.t 99), none, none⟩,
      ⟨some 101, .load 2 true (.t 17), (some (100, true)), none⟩,
      ⟨some 102, .load 2 true (.t 17), (some (100, true)), none⟩,
      ⟨some 103, .call fid_edge_Less [(.t 101), (.t 102)], (some (100, true)), none⟩,
      ⟨some 104, .eq .bool false (.t 103) (.c (.bool false)), (some (100, true)), none⟩,
      ⟨some 105, .pick (.t 100) (.t 104) (.c (.bool false)), none, none⟩,
      ⟨some 106, .mov (.t 105), none, none⟩,
      ⟨some 107, .load 2 true (.t 17), (some (106, true)), none⟩,
      ⟨some 108, .load 2 true (.t 18), (some (106, true)), none⟩,
      ⟨some 109, .call fid_edge_Less [(.t 107), (.t 108)], (some (106, true)), none⟩,
      ⟨some 110, .mov (.t 109), (some (106, true)), none⟩,
      ⟨some 111, .load 2 true (.t 18), (some (110, false)), none⟩,
      ⟨some 112, .load 2 true (.t 17), (some (110, false)), none⟩,
      ⟨some 113, .call fid_edge_Less [(.t 111), (.t 112)], (some (110, false)), none⟩,
      ⟨some 114, .pick (.t 110) (.c (.bool true)) (.t 113), (some (106, true)), none⟩,
      ⟨some 115, .load 2 true (.t 17), (some (106, true)), some (5, 7)⟩,
      ⟨some 116, .load 2 true (.t 18), (some (106, true)), some (5, 7)⟩,
      ⟨some 117, .eq (.struct [.int, .int]) true (.t 115) (.t 116), (some (106, true)), none⟩,
      ⟨some 118, .eq .bool false (.t 114) (.t 117), (some (106, true)), none⟩,
      ⟨some 119, .pick (.t 106) (.t 118) (.c (.bool false)), none, none⟩,
      ⟨some 120, .mov (.t 119), none, none⟩,
      ⟨some 121, .load 2 true (.t 17), (some (120, true)), none⟩,
      ⟨some 122, .load 2 true (.t 18), (some (120, true)), none⟩,
      ⟨some 123, .mkrow 2 2 [(.int .u32 0), (.int .u32 0)] [(0, (.t 121)), (1, (.t 122))], (some (120, true)), none⟩,
      ⟨some 124, .call fid_edge_Rising [(.t 123)], (some (120, true)), none⟩,
      ⟨some 125, .load 2 true (.t 17), (some (120, true)), some (7, 8)⟩,
      ⟨some 126, .load 2 true (.t 18), (some (120, true)), some (7, 8)⟩,
      ⟨some 127, .call fid_archipelagoref8_Less [(.t 125), (.t 126)], (some (120, true)), none⟩,
      ⟨some 128, .eq .bool false (.t 124) (.t 127), (some (120, true)), none⟩,
      ⟨some 129, .pick (.t 120) (.t 128) (.c (.bool false)), none, none⟩,
      ⟨some 12, .mov (.t 129), none, none⟩])
  (.ret))))))))) }
def archipelagoref8_Rising_b0 : IC :=
  (.seq (.seq (.reg [⟨some 4, .mov (.t 3), none, none⟩,
      ⟨some 5, .mov (.t 0), none, none⟩,
      ⟨some 6, .len .sl (.t 5), none, none⟩,
      ⟨some 7, .bin .lss (.t 4) (.t 6), none, none⟩])
  (.cond (.t 7)
  (.skip)
  (.exit 0)))
  (.seq (.block 1
  (.seq (.regD [0, 1, 2, 3, 4, 5, 6, 7, 8, 9, 10] [⟨some 10, .mov (.t 0), none, none⟩,
        ⟨some 11, .mov (.t 3), none, none⟩,
        ⟨some 12, .bin .sub (.t 11) (.c (.int .i64 1)), none, none⟩,
        ⟨some 13, .iaddr 2 (.t 10) (.t 12), none, none⟩,
        ⟨some 14, .load 2 true (.t 13), none, none⟩,
        ⟨some 15, .mov (.t 0), none, none⟩,
        ⟨some 16, .mov (.t 3), none, none⟩,
        ⟨some 17, .iaddr 2 (.t 15) (.t 16), none, none⟩,
        ⟨some 18, .load 2 true (.t 17), none, none⟩,
        ⟨some 19, .call fid_archipelagoref8_Less [(.t 14), (.t 18)], none, none⟩,
        ⟨some 20, .un .not (.t 19), none, none⟩])
    (.cond (.t 20)
    (.seq (.reg [⟨some 2, .mov (.c (.bool false)), none, none⟩])
      (.ret))
    (.skip))))
  (.reg [⟨some 8, .mov (.t 3), none, none⟩,
      ⟨some 9, .bin .add (.t 8) (.c (.int .i64 1)), none, none⟩,
      ⟨some 3, .mov (.t 9), none, none⟩])))
def ir_archipelagoref8_Rising : IFn :=
  { params := 1, results := [.tmp 2], body :=
  (.seq (.reg [⟨some 2, .mov (.c (.bool false)), none, none⟩])
  (.seq (.seq (.reg [⟨some 3, .mov (.c (.int .i64 1)), none, none⟩])
  (.block 0
  (.loop [0, 3] archipelagoref8_Rising_b0)))
  (.seq (.reg [⟨some 2, .mov (.c (.bool true)), none, none⟩])
  (.ret)))) }
def ir_archipelagoref8_Before : IFn :=
  { params := 2, results := [.tmp 4], body :=
  (.seq (.reg [⟨some 2, .box (.t 0), none, none⟩,
      ⟨some 3, .box (.t 1), none, none⟩,
      ⟨some 4, .mov (.c (.bool false)), none, none⟩])
  (.seq (.reg [⟨some 5, .faddr 0 (.t 2), none, none⟩,
      ⟨some 6, .load 1 false (.t 5), none, none⟩,
      ⟨some 7, .faddr 0 (.t 3), none, none⟩,
      ⟨some 8, .load 1 false (.t 7), none, none⟩,
      ⟨some 9, .bin .lss (.t 6) (.t 8), none, none⟩,
      ⟨some 10, .mov (.t 9), none, none⟩,
      ⟨some 11, .faddr 0 (.t 2), (some (10, false)), none⟩,
      ⟨some 12, .load 1 false (.t 11), (some (10, false)), none⟩,
      ⟨some 13, .faddr 0 (.t 3), (some (10, false)), none⟩,
      ⟨some 14, .load 1 false (.t 13), (some (10, false)), none⟩,
      ⟨some 15, .bin .eql (.t 12) (.t 14), (some (10, false)), none⟩,
      ⟨some 16, .mov (.t 15), (some (10, false)), none⟩,
      ⟨some 17, .faddr 1 (.t 2), (some (16, true)), none⟩,
      ⟨some 18, .load 2 true (.t 17), (some (16, true)), none⟩,
      ⟨some 19, .faddr 1 (.t 3), (some (16, true)), none⟩,
      ⟨some 20, .load 2 true (.t 19), (some (16, true)), none⟩,
      ⟨some 21, .call fid_archipelagoref8_Less [(.t 18), (.t 20)], (some (16, true)), none⟩,
      ⟨some 22, .pick (.t 16) (.t 21) (.c (.bool false)), (some (10, false)), none⟩,
      ⟨some 23, .pick (.t 10) (.c (.bool true)) (.t 22), none, none⟩,
      ⟨some 4, .mov (.t 23), none, none⟩])
  (.ret))) }
def archipelagolaw8_EdgeLists_b0 : IC :=
  (.seq (.seq (.reg [⟨some 17, .mov (.t 10), none, none⟩,
      ⟨some 18, .mov (.t 0), none, none⟩,
      ⟨some 19, .len .sl (.t 18), none, none⟩,
      ⟨some 20, .bin .lss (.t 17) (.t 19), none, none⟩])
  (.cond (.t 20)
  (.skip)
  (.exit 0)))
  (.seq (.block 1
  (.regD [0, 1, 2, 3, 4, 5, 6, 7, 8, 9, 10, 11, 12, 13, 14, 15, 16, 17, 18, 19, 20, 21, 22, 23, 24] [⟨some 23, .mov (.t 9), none, none⟩,
        ⟨some 24, .mov (.t 10), none, none⟩,
        ⟨some 25, .bin .quo (.t 24) (.c (.int .i64 3)), none, none⟩,
        ⟨some 26, .conv .u32 (.t 25), none, none⟩,
        ⟨some 27, .mov (.t 0), none, none⟩,
        ⟨some 28, .mov (.t 10), none, none⟩,
        ⟨some 29, .iaddr 2 (.t 27) (.t 28), none, none⟩,
        ⟨some 30, .faddr 0 (.t 29), none, none⟩,
        ⟨some 31, .load 1 false (.t 30), none, none⟩,
        ⟨some 32, .bin .rem (.t 31) (.c (.int .u32 2)), none, none⟩,
        ⟨some 33, .bin .add (.t 26) (.t 32), none, none⟩,
        ⟨some 34, .mov (.t 10), none, none⟩,
        ⟨some 35, .conv .u32 (.t 34), none, none⟩,
        ⟨some 36, .bin .add (.c (.int .u32 10)) (.t 35), none, none⟩,
        ⟨some 37, .mov (.t 0), none, none⟩,
        ⟨some 38, .mov (.t 10), none, none⟩,
        ⟨some 39, .iaddr 2 (.t 37) (.t 38), none, none⟩,
        ⟨some 40, .faddr 1 (.t 39), none, none⟩,
        ⟨some 41, .load 1 false (.t 40), none, none⟩,
        ⟨some 42, .bin .rem (.t 41) (.c (.int .u32 2)), none, none⟩,
        ⟨some 43, .bin .add (.t 36) (.t 42), none, none⟩,
        ⟨some 44, .build [(.int .u32 0), (.int .u32 0)] [(0, 1, (.t 33)), (1, 1, (.t 43))], none, none⟩,
        ⟨some 45, .mkrow 2 1 [(.int .u32 0), (.int .u32 0)] [(0, (.t 44))], none, none⟩,
        ⟨some 46, .append 2 8 (.t 23) (.t 45), none, none⟩,
        ⟨some 9, .mov (.t 46), none, none⟩]))
  (.reg [⟨some 21, .mov (.t 10), none, none⟩,
      ⟨some 22, .bin .add (.t 21) (.c (.int .i64 1)), none, none⟩,
      ⟨some 10, .mov (.t 22), none, none⟩])))
def ir_archipelagolaw8_EdgeLists : IFn :=
  { params := 4, results := [.tmp 8], body :=
  (.seq (.reg [⟨some 5, .box (.t 1), none, none⟩,
      ⟨some 6, .box (.t 2), none, none⟩,
      ⟨some 8, .mov (.c (.bool false)), none, none⟩])
  (.seq (.seq (.reg [⟨some 12, .call fid_archipelagolaw8_known [], none, none⟩,
      ⟨some 13, .un .not (.t 12), none, none⟩])
  (.cond (.t 13)
  (.seq (.reg [⟨some 8, .mov (.c (.bool false)), none, none⟩])
    (.ret))
  (.skip)))
  (.seq (.seq (.reg [⟨some 14, .mov (.t 0), none, none⟩,
      ⟨some 15, .len .sl (.t 14), none, none⟩,
      ⟨some 16, .bin .gtr (.t 15) (.c (.int .i64 30)), none, none⟩])
  (.cond (.t 16)
  (.seq (.reg [⟨some 8, .mov (.c (.bool true)), none, none⟩])
    (.ret))
  (.skip)))
  (.seq (.reg [⟨some 9, .mov (.c .nils), none, none⟩])
  (.seq (.seq (.reg [⟨some 10, .mov (.c (.int .i64 0)), none, none⟩])
  (.block 0
  (.loop [0, 3, 5, 6, 9, 10] archipelagolaw8_EdgeLists_b0)))
  (.seq (.reg [⟨some 47, .load 4 true (.t 5), none, none⟩,
      ⟨some 11, .box (.c (.agg [(.int .i64 0), (.int .u32 0), (.int .u32 0), (.bool false)])), none, none⟩,
      ⟨none, .store 4 (.t 11) (.t 47), none, none⟩])
  (.seq (.seq (.reg [⟨some 48, .mov (.t 3), none, none⟩,
      ⟨some 49, .bin .rem (.t 48) (.c (.int .u8 3)), none, none⟩])
  (.block 2
  (.seq (.reg [⟨some 51, .bin .eql (.t 49) (.c (.int .u8 0)), none, none⟩,
        ⟨some 50, .mov (.t 51), none, none⟩])
    (.cond (.t 50)
    (.reg [⟨some 52, .faddr 0 (.t 6), none, none⟩,
          ⟨some 53, .load 1 false (.t 52), none, none⟩,
          ⟨some 54, .faddr 0 (.t 11), none, none⟩,
          ⟨none, .store 1 (.t 54) (.t 53), none, none⟩])
    (.seq (.reg [⟨some 56, .bin .eql (.t 49) (.c (.int .u8 1)), none, none⟩,
          ⟨some 55, .mov (.t 56), none, none⟩])
      (.cond (.t 55)
      (.regD [0, 1, 4, 5, 2, 3, 6, 7] [⟨some 57, .faddr 0 (.t 6), none, none⟩,
            ⟨some 58, .load 1 false (.t 57), none, none⟩,
            ⟨some 61, .faddr 0 (.t 11), none, none⟩,
            ⟨none, .store 1 (.t 61) (.t 58), none, none⟩,
            ⟨some 59, .faddr 1 (.t 6), none, none⟩,
            ⟨some 60, .load 2 true (.t 59), none, some (0, 1)⟩,
            ⟨some 62, .faddr 1 (.t 11), none, none⟩,
            ⟨none, .store 2 (.t 62) (.t 60), none, none⟩])
      (.skip)))))))
  (.seq (.regD [0, 1, 2, 3, 4, 5, 6, 7, 8, 9, 10, 11, 12, 13, 14, 15, 16, 17, 18, 19, 20, 21, 22, 23, 24, 25, 26, 27, 28, 29, 30, 31, 32, 33, 34, 35, 36, 37, 38, 39, 40, 41, 42, 43, 44, 45] [⟨some 63, .mov (.t 0), none, none⟩,
      ⟨some 64, .call fid_edge_Rising [(.t 63)], none, none⟩,
      ⟨some 65, .mov (.t 0), none, none⟩,
      ⟨some 66, .call fid_archipelagoref8_Rising [(.t 65)], none, none⟩,
      ⟨some 67, .eq .bool false (.t 64) (.t 66), none, none⟩,
      ⟨some 68, .mov (.t 67), none, none⟩,
      ⟨some 69, .mov (.t 9), (some (68, true)), none⟩,
      ⟨some 70, .call fid_edge_Rising [(.t 69)], (some (68, true)), none⟩,
      ⟨some 71, .mov (.t 9), (some (68, true)), none⟩,
      ⟨some 72, .call fid_archipelagoref8_Rising [(.t 71)], (some (68, true)), none⟩,
      ⟨some 73, .eq .bool false (.t 70) (.t 72), (some (68, true)), none⟩,
      ⟨some 74, .pick (.t 68) (.t 73) (.c (.bool false)), none, none⟩,
      ⟨some 75, .mov (.t 74), none, none⟩,
      ⟨some 76, .load 4 true (.t 5), (some (75, true)), none⟩,
      ⟨some 77, .load 4 true (.t 6), (some (75, true)), none⟩,
      ⟨some 78, .call fid_edge_Before [(.t 76), (.t 77)], (some (75, true)), none⟩,
      ⟨some 79, .load 4 true (.t 5), (some (75, true)), some (4, 5)⟩,
      ⟨some 80, .load 4 true (.t 6), (some (75, true)), some (4, 5)⟩,
      ⟨some 81, .call fid_archipelagoref8_Before [(.t 79), (.t 80)], (some (75, true)), none⟩,
      ⟨some 82, .eq .bool false (.t 78) (.t 81), (some (75, true)), none⟩,
      ⟨some 83, .pick (.t 75) (.t 82) (.c (.bool false)), none, none⟩,
      ⟨some 84, .mov (.t 83), none, none⟩,
      ⟨some 85, .load 4 true (.t 11), (some (84, true)), none⟩,
      ⟨some 86, .load 4 true (.t 6), (some (84, true)), none⟩,
      ⟨some 87, .call fid_edge_Before [(.t 85), (.t 86)], (some (84, true)), none⟩,
      ⟨some 88, .load 4 true (.t 11), (some (84, true)), some (6, 7)⟩,
      ⟨some 89, .load 4 true (.t 6), (some (84, true)), some (6, 7)⟩,
      ⟨some 90, .call fid_archipelagoref8_Before [(.t 88), (.t 89)], (some (84, true)), none⟩,
      ⟨some 91, .eq .bool false (.t 87) (.t 90), (some (84, true)), none⟩,
      ⟨some 92, .pick (.t 84) (.t 91) (.c (.bool false)), none, none⟩,
      ⟨some 93, .mov (.t 92), none, none⟩,
      ⟨some 94, .load 4 true (.t 6), (some (93, true)), none⟩,
      ⟨some 95, .load 4 true (.t 11), (some (93, true)), none⟩,
      ⟨some 96, .call fid_edge_Before [(.t 94), (.t 95)], (some (93, true)), none⟩,
      ⟨some 97, .load 4 true (.t 6), (some (93, true)), some (8, 9)⟩,
      ⟨some 98, .load 4 true (.t 11), (some (93, true)), some (8, 9)⟩,
      ⟨some 99, .call fid_archipelagoref8_Before [(.t 97), (.t 98)], (some (93, true)), none⟩,
      ⟨some 100, .eq .bool false (.t 96) (.t 99), (some (93, true)), none⟩,
      ⟨some 101, .pick (.t 93) (.t 100) (.c (.bool false)), none, none⟩,
      ⟨some 102, .mov (.t 101), none, none⟩,
      ⟨some 103, .load 4 true (.t 5), (some (102, true)), none⟩,
      ⟨some 104, .load 4 true (.t 5), (some (102, true)), none⟩,
      ⟨some 105, .call fid_edge_Before [(.t 103), (.t 104)], (some (102, true)), none⟩,
      ⟨some 106, .un .not (.t 105), (some (102, true)), none⟩,
      ⟨some 107, .pick (.t 102) (.t 106) (.c (.bool false)), none, none⟩,
      ⟨some 8, .mov (.t 107), none, none⟩])
  (.ret))))))))) }
def ir_archipelagolaw8_few : IFn :=
  { params := 3, results := [.cell 6 4 true], body :=
  (.seq (.reg [⟨some 6, .box (.c (.agg [(.int .i64 0), (.int .u32 0), (.int .u32 0), (.bool false)])), none, none⟩])
  (.seq (.reg [⟨some 8, .mov (.t 2), none, none⟩,
      ⟨some 9, .conv .i64 (.t 8), none, none⟩,
      ⟨some 10, .mov (.t 0), none, none⟩,
      ⟨some 11, .len .sl (.t 10), none, none⟩,
      ⟨some 12, .bin .rem (.t 9) (.t 11), none, none⟩,
      ⟨some 7, .mov (.t 12), none, none⟩])
  (.seq (.regD [0, 1, 2, 3, 4, 5, 6, 7, 8, 9, 10, 11, 12, 13, 14, 15, 16, 17, 18, 19] [⟨some 13, .mov (.t 1), none, none⟩,
      ⟨some 14, .mov (.t 7), none, none⟩,
      ⟨some 15, .iaddr 1 (.t 13) (.t 14), none, none⟩,
      ⟨some 16, .load 1 false (.t 15), none, none⟩,
      ⟨some 17, .bin .rem (.t 16) (.c (.int .i64 3)), none, none⟩,
      ⟨some 18, .mov (.t 0), none, none⟩,
      ⟨some 19, .mov (.t 7), none, none⟩,
      ⟨some 20, .iaddr 2 (.t 18) (.t 19), none, none⟩,
      ⟨some 21, .faddr 0 (.t 20), none, none⟩,
      ⟨some 22, .load 1 false (.t 21), none, none⟩,
      ⟨some 23, .bin .rem (.t 22) (.c (.int .u32 3)), none, none⟩,
      ⟨some 24, .mov (.t 0), none, none⟩,
      ⟨some 25, .mov (.t 7), none, none⟩,
      ⟨some 26, .iaddr 2 (.t 24) (.t 25), none, none⟩,
      ⟨some 27, .faddr 1 (.t 26), none, none⟩,
      ⟨some 28, .load 1 false (.t 27), none, none⟩,
      ⟨some 29, .bin .rem (.t 28) (.c (.int .u32 3)), none, none⟩,
      ⟨some 30, .build [(.int .u32 0), (.int .u32 0)] [(0, 1, (.t 23)), (1, 1, (.t 29))], none, none⟩,
      ⟨some 31, .build [(.int .i64 0), (.int .u32 0), (.int .u32 0), (.bool false)] [(0, 1, (.t 17)), (1, 2, (.t 30))], none, none⟩,
      ⟨none, .store 4 (.t 6) (.t 31), none, none⟩])
  (.ret)))) }
def ir_archipelagolaw8_EdgeOrders : IFn :=
  { params := 5, results := [.tmp 10], body :=
  (.seq (.reg [⟨some 10, .mov (.c (.bool false)), none, none⟩])
  (.seq (.seq (.reg [⟨some 15, .call fid_archipelagolaw8_known [], none, none⟩,
      ⟨some 16, .un .not (.t 15), none, none⟩])
  (.cond (.t 16)
  (.seq (.reg [⟨some 10, .mov (.c (.bool false)), none, none⟩])
    (.ret))
  (.skip)))
  (.seq (.seq (.reg [⟨some 17, .mov (.t 0), none, none⟩,
      ⟨some 18, .len .sl (.t 17), none, none⟩,
      ⟨some 19, .bin .gtr (.t 18) (.c (.int .i64 20)), none, none⟩,
      ⟨some 20, .mov (.t 19), none, none⟩,
      ⟨some 21, .mov (.t 0), (some (20, false)), none⟩,
      ⟨some 22, .len .sl (.t 21), (some (20, false)), none⟩,
      ⟨some 23, .bin .eql (.t 22) (.c (.int .i64 0)), (some (20, false)), none⟩,
      ⟨some 24, .pick (.t 20) (.c (.bool true)) (.t 23), none, none⟩,
      ⟨some 25, .mov (.t 24), none, none⟩,
      ⟨some 26, .mov (.t 1), (some (25, false)), none⟩,
      ⟨some 27, .len .sl (.t 26), (some (25, false)), none⟩,
      ⟨some 28, .mov (.t 0), (some (25, false)), none⟩,
      ⟨some 29, .len .sl (.t 28), (some (25, false)), none⟩,
      ⟨some 30, .bin .lss (.t 27) (.t 29), (some (25, false)), none⟩,
      ⟨some 31, .pick (.t 25) (.c (.bool true)) (.t 30), none, none⟩])
  (.cond (.t 31)
  (.seq (.reg [⟨some 10, .mov (.c (.bool true)), none, none⟩])
    (.ret))
  (.skip)))
  (.seq (.reg [⟨some 32, .mov (.t 0), none, none⟩,
      ⟨some 33, .mov (.t 1), none, none⟩,
      ⟨some 34, .mov (.t 2), none, none⟩,
      ⟨some 35, .call fid_archipelagolaw8_few [(.t 32), (.t 33), (.t 34)], none, none⟩,
      ⟨some 36, .mov (.t 0), none, none⟩,
      ⟨some 37, .mov (.t 1), none, none⟩,
      ⟨some 38, .mov (.t 3), none, none⟩,
      ⟨some 39, .call fid_archipelagolaw8_few [(.t 36), (.t 37), (.t 38)], none, none⟩,
      ⟨some 40, .mov (.t 0), none, none⟩,
      ⟨some 41, .mov (.t 1), none, none⟩,
      ⟨some 42, .mov (.t 4), none, none⟩,
      ⟨some 43, .call fid_archipelagolaw8_few [(.t 40), (.t 41), (.t 42)], none, none⟩,
      ⟨some 11, .box (.c (.agg [(.int .i64 0), (.int .u32 0), (.int .u32 0), (.bool false)])), none, none⟩,
      ⟨some 12, .box (.c (.agg [(.int .i64 0), (.int .u32 0), (.int .u32 0), (.bool false)])), none, none⟩,
      ⟨some 13, .box (.c (.agg [(.int .i64 0), (.int .u32 0), (.int .u32 0), (.bool false)])), none, none⟩,
      ⟨none, .store 4 (.t 11) (.t 35), none, none⟩,
      ⟨none, .store 4 (.t 12) (.t 39), none, none⟩,
      ⟨none, .store 4 (.t 13) (.t 43), none, none⟩])
  (.seq (.reg [⟨some 44, .faddr 0 (.t 11), none, none⟩,
      ⟨some 45, .load 1 false (.t 44), none, none⟩,
      ⟨some 46, .faddr 0 (.t 12), none, none⟩,
      ⟨some 47, .load 1 false (.t 46), none, none⟩,
      ⟨some 48, .bin .eql (.t 45) (.t 47), none, none⟩,
      ⟨some 49, .mov (.t 48), none, none⟩,
      ⟨some 50, .faddr 1 (.t 11), (some (49, true)), none⟩,
      ⟨some 51, .load 2 true (.t 50), (some (49, true)), none⟩,
      ⟨some 52, .faddr 1 (.t 12), (some (49, true)), none⟩,
      ⟨some 53, .load 2 true (.t 52), (some (49, true)), none⟩,
      ⟨some 54, .eq (.struct [.int, .int]) false (.t 51) (.t 53), (some (49, true)), none⟩,
      ⟨some 55, .pick (.t 49) (.t 54) (.c (.bool false)), none, none⟩,
      ⟨some 14, .mov (.t 55), none, none⟩])
  (.seq (.reg [⟨some 56, .faddr 1 (.t 11), none, none⟩,
      ⟨some 57, .load 2 true (.t 56), none, none⟩,
      ⟨some 58, .faddr 1 (.t 12), none, none⟩,
      ⟨some 59, .load 2 true (.t 58), none, none⟩,
      ⟨some 60, .call fid_edge_Less [(.t 57), (.t 59)], none, none⟩,
      ⟨some 61, .un .not (.t 60), none, none⟩,
      ⟨some 62, .mov (.t 61), none, none⟩,
      ⟨some 63, .faddr 1 (.t 12), (some (62, false)), none⟩,
      ⟨some 64, .load 2 true (.t 63), (some (62, false)), none⟩,
      ⟨some 65, .faddr 1 (.t 13), (some (62, false)), none⟩,
      ⟨some 66, .load 2 true (.t 65), (some (62, false)), none⟩,
      ⟨some 67, .call fid_edge_Less [(.t 64), (.t 66)], (some (62, false)), none⟩,
      ⟨some 68, .un .not (.t 67), (some (62, false)), none⟩,
      ⟨some 69, .pick (.t 62) (.c (.bool true)) (.t 68), none, none⟩,
      ⟨some 70, .mov (.t 69), none, none⟩,
      ⟨some 71, .faddr 1 (.t 11), (some (70, false)), none⟩,
      ⟨some 72, .load 2 true (.t 71), (some (70, false)), none⟩,
      ⟨some 73, .faddr 1 (.t 13), (some (70, false)), none⟩,
      ⟨some 74, .load 2 true (.t 73), (some (70, false)), none⟩,
      ⟨some 75, .call fid_edge_Less [(.t 72), (.t 74)], (some (70, false)), none⟩,
      ⟨some 76, .pick (.t 70) (.c (.bool true)) (.t 75), none, none⟩,
      ⟨some 77, .mov (.t 76), none, none⟩,
      ⟨some 78, .load 4 true (.t 11), (some (77, true)), none⟩,
      ⟨some 79, .load 4 true (.t 12), (some (77, true)), none⟩,
      ⟨some 80, .call fid_edge_Before [(.t 78), (.t 79)], (some (77, true)), none⟩,
      ⟨some 81, .un .not (.t 80), (some (77, true)), none⟩,
      ⟨some 82, .mov (.t 81), (some (77, true)), none⟩,
      ⟨some 83, .load 4 true (.t 12), (some (82, false)), none⟩,
      ⟨some 84, .load 4 true (.t 13), (some (82, false)), none⟩,
      ⟨some 85, .call fid_edge_Before [(.t 83), (.t 84)], (some (82, false)), none⟩,
      ⟨some 86, .un .not (.t 85), (some (82, false)), none⟩,
      ⟨some 87, .pick (.t 82) (.c (.bool true)) (.t 86), (some (77, true)), none⟩,
      ⟨some 88, .mov (.t 87), (some (77, true)), none⟩,
      ⟨some 89, .load 4 true (.t 11), (some (88, false)), none⟩,
      ⟨some 90, .load 4 true (.t 13), (some (88, false)), none⟩,
      ⟨some 91, .call fid_edge_Before [(.t 89), (.t 90)], (some (88, false)), none⟩,
      ⟨some 92, .pick (.t 88) (.c (.bool true)) (.t 91), (some (77, true)), none⟩,
      ⟨some 93, .pick (.t 77) (.t 92) (.c (.bool false)), none, none⟩,
      ⟨some 94, .mov (.t 93), none, none⟩,
      ⟨some 95, .load 4 true (.t 11), (some (94, true)), none⟩,
      ⟨some 96, .load 4 true (.t 12), (some (94, true)), none⟩,
      ⟨some 97, .call fid_edge_Before [(.t 95), (.t 96)], (some (94, true)), none⟩,
      ⟨some 98, .mov (.t 97), (some (94, true)), none⟩,
      ⟨some 99, .load 4 true (.t 12), (some (98, false)), none⟩,
      ⟨some 100, .load 4 true (.t 11), (some (98, false)), none⟩,
      ⟨some 101, .call fid_edge_Before [(.t 99), (.t 100)], (some (98, false)), none⟩,
      ⟨some 102, .pick (.t 98) (.c (.bool true)) (.t 101), (some (94, true)), none⟩,
      ⟨some 103, .mov (.t 14), (some (94, true)), none⟩,
      ⟨some 104, .un .not (.t 103), (some (94, true)), none⟩,
      ⟨some 105, .eq .bool false (.t 102) (.t 104), (some (94, true)), none⟩,
      ⟨some 106, .pick (.t 94) (.t 105) (.c (.bool false)), none, none⟩,
      ⟨some 107, .mov (.t 106), none, none⟩,
      ⟨some 108, .load 4 true (.t 11), (some (107, true)), none⟩,
      ⟨some 109, .load 4 true (.t 12), (some (107, true)), none⟩,
      ⟨some 110, .call fid_edge_Before [(.t 108), (.t 109)], (some (107, true)), none⟩,
      ⟨some 111, .mov (.t 110), (some (107, true)), none⟩,
      ⟨some 112, .load 4 true (.t 12), (some (111, true)), none⟩,
      ⟨some 113, .load 4 true (.t 11), (some (111, true)), none⟩,
      ⟨some 114, .call fid_edge_Before [(.t 112), (.t 113)], (some (111, true)), none⟩,
      ⟨some 115, .pick (.t 111) (.t 114) (.c (.bool false)), (some (107, true)), none⟩,
      ⟨some 116, .un .not (.t 115), (some (107, true)), none⟩,
      ⟨some 117, .pick (.t 107) (.t 116) (.c (.bool false)), none, none⟩,
      ⟨some 10, .mov (.t 117), none, none⟩])
  (.ret))))))) }
def ir_archipelagolaw8_EdgeNames : IFn :=
  { params := 3, results := [.tmp 6], body :=
  (.seq (.reg [⟨some 6, .mov (.c (.bool false)), none, none⟩])
  (.seq (.seq (.reg [⟨some 12, .call fid_archipelagolaw8_known [], none, none⟩,
      ⟨some 13, .un .not (.t 12), none, none⟩])
  (.cond (.t 13)
  (.seq (.reg [⟨some 6, .mov (.c (.bool false)), none, none⟩])
    (.ret))
  (.skip)))
  (.seq (.reg [⟨some 15, .mov (.t 0), none, none⟩,
      ⟨some 16, .mov (.t 1), none, none⟩,
      ⟨some 17, .call fid_edge_Of [(.t 15), (.t 16)], none, none⟩,
      ⟨some 14, .mov (.t 17), none, none⟩,
      ⟨some 18, .extract (.t 14) 0, none, none⟩,
      ⟨some 19, .extract (.t 14) 1, none, none⟩,
      ⟨some 7, .box (.c (.agg [(.int .u32 0), (.int .u32 0)])), none, none⟩,
      ⟨none, .store 2 (.t 7) (.t 18), none, none⟩,
      ⟨some 8, .mov (.t 19), none, none⟩])
  (.seq (.reg [⟨some 21, .mov (.t 1), none, none⟩,
      ⟨some 22, .mov (.t 0), none, none⟩,
      ⟨some 23, .call fid_edge_Of [(.t 21), (.t 22)], none, none⟩,
      ⟨some 20, .mov (.t 23), none, none⟩,
      ⟨some 24, .extract (.t 20) 0, none, none⟩,
      ⟨some 25, .extract (.t 20) 1, none, none⟩,
      ⟨some 9, .box (.c (.agg [(.int .u32 0), (.int .u32 0)])), none, none⟩,
      ⟨none, .store 2 (.t 9) (.t 24), none, none⟩,
      ⟨some 10, .mov (.t 25), none, none⟩])
  (.seq (.seq (.reg [⟨some 26, .mov (.t 0), none, none⟩,
      ⟨some 27, .mov (.t 1), none, none⟩,
      ⟨some 28, .bin .eql (.t 26) (.t 27), none, none⟩])
  (.cond (.t 28)
  (.seq (.reg [⟨some 29, .mov (.t 8), none, none⟩,
        ⟨some 30, .un .not (.t 29), none, none⟩,
        ⟨some 31, .mov (.t 30), none, none⟩,
        ⟨some 32, .mov (.t 10), (some (31, true)), none⟩,
        ⟨some 33, .un .not (.t 32), (some (31, true)), none⟩,
        ⟨some 34, .pick (.t 31) (.t 33) (.c (.bool false)), none, none⟩,
        ⟨some 35, .mov (.t 34), none, none⟩,
        ⟨some 36, .load 2 true (.t 7), (some (35, true)), none⟩,
        ⟨some 37, .build [(.int .u32 0), (.int .u32 0)] [], (some (35, true)), none⟩,
        ⟨some 38, .eq (.struct [.int, .int]) false (.t 36) (.t 37), (some (35, true)), none⟩,
        ⟨some 39, .pick (.t 35) (.t 38) (.c (.bool false)), none, none⟩,
        ⟨some 40, .mov (.t 39), none, none⟩,
        ⟨some 41, .load 2 true (.t 9), (some (40, true)), none⟩,
        ⟨some 42, .load 2 true (.t 7), (some (40, true)), none⟩,
        ⟨some 43, .eq (.struct [.int, .int]) false (.t 41) (.t 42), (some (40, true)), none⟩,
        ⟨some 44, .pick (.t 40) (.t 43) (.c (.bool false)), none, none⟩,
        ⟨some 6, .mov (.t 44), none, none⟩])
    (.ret))
  (.skip)))
  (.seq (.reg [⟨some 45, .mov (.t 0), none, none⟩,
      ⟨some 46, .mov (.t 1), none, none⟩,
      ⟨some 47, .minmax false [(.t 45), (.t 46)], none, none⟩,
      ⟨some 48, .conv .u64 (.t 47), none, none⟩,
      ⟨some 11, .mov (.t 48), none, none⟩])
  (.seq (.reg [⟨some 49, .mov (.t 8), none, none⟩,
      ⟨some 50, .mov (.t 49), none, none⟩,
      ⟨some 51, .mov (.t 10), (some (50, true)), none⟩,
      ⟨some 52, .pick (.t 50) (.t 51) (.c (.bool false)), none, none⟩,
      ⟨some 53, .mov (.t 52), none, none⟩,
      ⟨some 54, .load 2 true (.t 7), (some (53, true)), none⟩,
      ⟨some 55, .load 2 true (.t 9), (some (53, true)), none⟩,
      ⟨some 56, .eq (.struct [.int, .int]) false (.t 54) (.t 55), (some (53, true)), none⟩,
      ⟨some 57, .pick (.t 53) (.t 56) (.c (.bool false)), none, none⟩,
      ⟨some 58, .mov (.t 57), none, none⟩,
      ⟨some 59, .load 2 true (.t 7), (some (58, true)), none⟩,
      ⟨some 60, .mov (.t 11), (some (58, true)), none⟩,
      ⟨some 61, .bin .add (.t 60) (.c (.int .u64 1)), (some (58, true)), none⟩,
      ⟨some 62, .call fid_edge_Right [(.t 59), (.t 61)], (some (58, true)), none⟩,
      ⟨some 63, .pick (.t 58) (.t 62) (.c (.bool false)), none, none⟩,
      ⟨some 64, .mov (.t 63), none, none⟩,
      ⟨some 65, .load 2 true (.t 7), (some (64, true)), none⟩,
      ⟨some 66, .mov (.t 11), (some (64, true)), none⟩,
      ⟨some 67, .call fid_edge_Right [(.t 65), (.t 66)], (some (64, true)), none⟩,
      ⟨some 68, .un .not (.t 67), (some (64, true)), none⟩,
      ⟨some 69, .pick (.t 64) (.t 68) (.c (.bool false)), none, none⟩,
      ⟨some 70, .mov (.t 69), none, none⟩,
      ⟨some 71, .load 2 true (.t 7), (some (70, true)), none⟩,
      ⟨some 72, .mov (.t 2), (some (70, true)), none⟩,
      ⟨some 73, .call fid_edge_Right [(.t 71), (.t 72)], (some (70, true)), none⟩,
      ⟨some 74, .mov (.t 2), (some (70, true)), none⟩,
      ⟨some 75, .mov (.t 11), (some (70, true)), none⟩,
      ⟨some 76, .bin .gtr (.t 74) (.t 75), (some (70, true)), none⟩,
      ⟨some 77, .eq .bool false (.t 73) (.t 76), (some (70, true)), none⟩,
      ⟨some 78, .pick (.t 70) (.t 77) (.c (.bool false)), none, none⟩,
      ⟨some 79, .mov (.t 78), none, none⟩,
      ⟨some 80, .faddr 1 (.t 7), (some (79, true)), none⟩,
      ⟨some 81, .load 1 false (.t 80), (some (79, true)), none⟩,
      ⟨some 82, .faddr 0 (.t 7), (some (79, true)), none⟩,
      ⟨some 83, .load 1 false (.t 82), (some (79, true)), none⟩,
      ⟨some 84, .build [(.int .u32 0), (.int .u32 0)] [(0, 1, (.t 81)), (1, 1, (.t 83))], (some (79, true)), none⟩,
      ⟨some 85, .call fid_edge_Right [(.t 84), (.c (.int .u64 8589934592))], (some (79, true)), none⟩,
      ⟨some 86, .un .not (.t 85), (some (79, true)), none⟩,
      ⟨some 87, .pick (.t 79) (.t 86) (.c (.bool false)), none, none⟩,
      ⟨some 88, .mov (.t 87), none, none⟩,
      ⟨some 89, .load 2 true (.t 7), (some (88, true)), none⟩,
      ⟨some 90, .load 2 true (.t 9), (some (88, true)), none⟩,
      ⟨some 91, .call fid_edge_Less [(.t 89), (.t 90)], (some (88, true)), none⟩,
      ⟨some 92, .un .not (.t 91), (some (88, true)), none⟩,
      ⟨some 93, .pick (.t 88) (.t 92) (.c (.bool false)), none, none⟩,
      ⟨some 6, .mov (.t 93), none, none⟩])
  (.ret)))))))) }
end Go.Ab
