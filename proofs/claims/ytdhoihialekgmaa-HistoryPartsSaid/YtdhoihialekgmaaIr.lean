/- The functions as the abstract machine has them (printed by wip/irgen.py). -/
import Derived.Test.YtdhoihialekgmaaAbs1
namespace Go.Ab
open Go
def fid_archipelagolaw9_HistoryTells : Nat := 3
def fid_archipelagolaw9_HistoryUpto : Nat := 4
def fid_archipelagolaw9_HistoryParts : Nat := 5
def fid_archipelagolaw9_HistoryCopies : Nat := 6
def fid_archipelagolaw9_known : Nat := 7
def fid_archipelagoseat_History : Nat := 8
def fid_archipelagoseat_Bent : Nat := 9
def fid_archipelagoseat_Late : Nat := 10
def fid_history_Check : Nat := 11
def fid_archipelagoref8_Check : Nat := 12
def fid_history_Same : Nat := 13
def fid_archipelagoref8_Same : Nat := 14
def fid_history_Copy : Nat := 15
def fid_history_Last : Nat := 16
def fid_archipelagoseat_Time : Nat := 17
def fid_history_Upto : Nat := 18
def fid_archipelagoref8_Upto : Nat := 19
def fid_archipelagoseat_Vertices : Nat := 20
def fid_archipelagoseat_Edge : Nat := 21
def fid_archipelagoseat_insert : Nat := 22
def fid_archipelagoref8_Has : Nat := 23
def fid_archipelagoref8_Turn : Nat := 24
def fid_edge_Right : Nat := 25
def fid_edge_Before : Nat := 26
def fid_archipelagoref8_Right : Nat := 27
def fid_archipelagoref8_Before : Nat := 28
def fid_slices_Equal_api_Event_api_Event : Nat := 29
def fid_archipelagoref8_SameEvents : Nat := 30
def fid_slices_Clone_api_Event_api_Event : Nat := 31
def fid_sort_Search : Nat := 32
def fid_history_Upto_1 : Nat := 33
def fid_archipelagoref8_Find : Nat := 34
def fid_archipelagoref8_Rising : Nat := 35
def fid_archipelagoref8_Less : Nat := 36
def fid_cmp_Or_int : Nat := 37
def fid_cmp_Compare_int64 : Nat := 38
def fid_edge_compare : Nat := 39
def fid_cmp_isNaN_int64 : Nat := 40
def fid_cmp_Compare_uint32 : Nat := 41
def fid_cmp_isNaN_uint32 : Nat := 42
def ir_edge_Right : IFn :=
  { params := 2, results := [.tmp 4], body :=
  (.seq (.reg [⟨some 2, .box (.t 0), none, none⟩,
      ⟨some 4, .mov (.c (.bool false)), none, none⟩])
  (.seq (.reg [⟨some 5, .faddr 0 (.t 2), none, none⟩,
      ⟨some 6, .load 1 false (.t 5), none, none⟩,
      ⟨some 7, .faddr 1 (.t 2), none, none⟩,
      ⟨some 8, .load 1 false (.t 7), none, none⟩,
      ⟨some 9, .bin .lss (.t 6) (.t 8), none, none⟩,
      ⟨some 10, .mov (.t 9), none, none⟩,
      ⟨some 11, .faddr 1 (.t 2), (some (10, true)), none⟩,
      ⟨some 12, .load 1 false (.t 11), (some (10, true)), none⟩,
      ⟨some 13, .conv .u64 (.t 12), (some (10, true)), none⟩,
      ⟨some 14, .mov (.t 1), (some (10, true)), none⟩,
      ⟨some 15, .bin .lss (.t 13) (.t 14), (some (10, true)), none⟩,
      ⟨some 16, .pick (.t 10) (.t 15) (.c (.bool false)), none, none⟩,
      ⟨some 4, .mov (.t 16), none, none⟩])
  (.ret))) }
def cmp_Or_int_b0 : IC :=
  (.seq (.reg [⟨some 9, .bin .lss (.t 8) (.t 7), none, none⟩])
  (.seq (.cond (.t 9)
  (.skip)
  (.exit 0))
  (.seq (.block 1
  (.seq (.reg [⟨some 10, .iaddr 1 (.t 6) (.t 8), none, none⟩,
        ⟨some 11, .load 1 false (.t 10), none, none⟩,
        ⟨some 5, .mov (.t 11), none, none⟩])
    (.seq (.reg [⟨some 12, .mov (.t 5), none, none⟩,
        ⟨some 13, .mov (.t 3), none, none⟩,
        ⟨some 14, .bin .neq (.t 12) (.t 13), none, none⟩])
    (.cond (.t 14)
    (.seq (.reg [⟨some 15, .mov (.t 5), none, none⟩,
          ⟨some 2, .mov (.t 15), none, none⟩])
      (.ret))
    (.skip)))))
  (.reg [⟨some 16, .bin .add (.t 8) (.c (.int .i64 1)), none, none⟩,
      ⟨some 8, .mov (.t 16), none, none⟩]))))
def ir_cmp_Or_int : IFn :=
  { params := 1, results := [.tmp 2], body :=
  (.seq (.reg [⟨some 2, .mov (.c (.int .i64 0)), none, none⟩])
  (.seq (.reg [⟨some 3, .mov (.c (.int .i64 0)), none, none⟩])
  (.seq (.seq (.reg [⟨some 6, .mov (.t 0), none, none⟩,
      ⟨some 7, .len .sl (.t 6), none, none⟩,
      ⟨some 8, .mov (.c (.int .i64 0)), none, none⟩])
  (.block 0
  (.loop [3, 6, 7, 8] cmp_Or_int_b0)))
  (.seq (.reg [⟨some 17, .mov (.t 3), none, none⟩,
      ⟨some 2, .mov (.t 17), none, none⟩])
  (.ret))))) }
def ir_cmp_isNaN_int64 : IFn :=
  { params := 1, results := [.tmp 2], body :=
  (.seq (.reg [⟨some 2, .mov (.c (.bool false)), none, none⟩])
  (.seq (.reg [⟨some 3, .mov (.t 0), none, none⟩,
      ⟨some 4, .mov (.t 0), none, none⟩,
      ⟨some 5, .bin .neq (.t 3) (.t 4), none, none⟩,
      ⟨some 2, .mov (.t 5), none, none⟩])
  (.ret))) }
def ir_cmp_Compare_int64 : IFn :=
  { params := 2, results := [.tmp 4], body :=
  (.seq (.reg [⟨some 4, .mov (.c (.int .i64 0)), none, none⟩])
  (.seq (.reg [⟨some 7, .mov (.t 0), none, none⟩,
      ⟨some 8, .call fid_cmp_isNaN_int64 [(.t 7)], none, none⟩,
      ⟨some 5, .mov (.t 8), none, none⟩])
  (.seq (.reg [⟨some 9, .mov (.t 1), none, none⟩,
      ⟨some 10, .call fid_cmp_isNaN_int64 [(.t 9)], none, none⟩,
      ⟨some 6, .mov (.t 10), none, none⟩])
  (.seq (.seq (.reg [⟨some 11, .mov (.t 5), none, none⟩])
  (.cond (.t 11)
  (.seq (.seq (.reg [⟨some 12, .mov (.t 6), none, none⟩])
    (.cond (.t 12)
    (.seq (.reg [⟨some 4, .mov (.c (.int .i64 0)), none, none⟩])
      (.ret))
    (.skip)))
    (.seq (.reg [⟨some 4, .mov (.c (.int .i64 (-1))), none, none⟩])
    (.ret)))
  (.skip)))
  (.seq (.seq (.reg [⟨some 13, .mov (.t 6), none, none⟩])
  (.cond (.t 13)
  (.seq (.reg [⟨some 4, .mov (.c (.int .i64 1)), none, none⟩])
    (.ret))
  (.skip)))
  (.seq (.seq (.reg [⟨some 14, .mov (.t 0), none, none⟩,
      ⟨some 15, .mov (.t 1), none, none⟩,
      ⟨some 16, .bin .lss (.t 14) (.t 15), none, none⟩])
  (.cond (.t 16)
  (.seq (.reg [⟨some 4, .mov (.c (.int .i64 (-1))), none, none⟩])
    (.ret))
  (.skip)))
  (.seq (.seq (.reg [⟨some 17, .mov (.t 0), none, none⟩,
      ⟨some 18, .mov (.t 1), none, none⟩,
      ⟨some 19, .bin .gtr (.t 17) (.t 18), none, none⟩])
  (.cond (.t 19)
  (.seq (.reg [⟨some 4, .mov (.c (.int .i64 1)), none, none⟩])
    (.ret))
  (.skip)))
  (.seq (.reg [⟨some 4, .mov (.c (.int .i64 0)), none, none⟩])
  (.ret))))))))) }
def ir_cmp_isNaN_uint32 : IFn :=
  { params := 1, results := [.tmp 2], body :=
  (.seq (.reg [⟨some 2, .mov (.c (.bool false)), none, none⟩])
  (.seq (.reg [⟨some 3, .mov (.t 0), none, none⟩,
      ⟨some 4, .mov (.t 0), none, none⟩,
      ⟨some 5, .bin .neq (.t 3) (.t 4), none, none⟩,
      ⟨some 2, .mov (.t 5), none, none⟩])
  (.ret))) }
def ir_cmp_Compare_uint32 : IFn :=
  { params := 2, results := [.tmp 4], body :=
  (.seq (.reg [⟨some 4, .mov (.c (.int .i64 0)), none, none⟩])
  (.seq (.reg [⟨some 7, .mov (.t 0), none, none⟩,
      ⟨some 8, .call fid_cmp_isNaN_uint32 [(.t 7)], none, none⟩,
      ⟨some 5, .mov (.t 8), none, none⟩])
  (.seq (.reg [⟨some 9, .mov (.t 1), none, none⟩,
      ⟨some 10, .call fid_cmp_isNaN_uint32 [(.t 9)], none, none⟩,
      ⟨some 6, .mov (.t 10), none, none⟩])
  (.seq (.seq (.reg [⟨some 11, .mov (.t 5), none, none⟩])
  (.cond (.t 11)
  (.seq (.seq (.reg [⟨some 12, .mov (.t 6), none, none⟩])
    (.cond (.t 12)
    (.seq (.reg [⟨some 4, .mov (.c (.int .i64 0)), none, none⟩])
      (.ret))
    (.skip)))
    (.seq (.reg [⟨some 4, .mov (.c (.int .i64 (-1))), none, none⟩])
    (.ret)))
  (.skip)))
  (.seq (.seq (.reg [⟨some 13, .mov (.t 6), none, none⟩])
  (.cond (.t 13)
  (.seq (.reg [⟨some 4, .mov (.c (.int .i64 1)), none, none⟩])
    (.ret))
  (.skip)))
  (.seq (.seq (.reg [⟨some 14, .mov (.t 0), none, none⟩,
      ⟨some 15, .mov (.t 1), none, none⟩,
      ⟨some 16, .bin .lss (.t 14) (.t 15), none, none⟩])
  (.cond (.t 16)
  (.seq (.reg [⟨some 4, .mov (.c (.int .i64 (-1))), none, none⟩])
    (.ret))
  (.skip)))
  (.seq (.seq (.reg [⟨some 17, .mov (.t 0), none, none⟩,
      ⟨some 18, .mov (.t 1), none, none⟩,
      ⟨some 19, .bin .gtr (.t 17) (.t 18), none, none⟩])
  (.cond (.t 19)
  (.seq (.reg [⟨some 4, .mov (.c (.int .i64 1)), none, none⟩])
    (.ret))
  (.skip)))
  (.seq (.reg [⟨some 4, .mov (.c (.int .i64 0)), none, none⟩])
  (.ret))))))))) }
def ir_edge_compare : IFn :=
  { params := 2, results := [.tmp 4], body :=
  (.seq (.reg [⟨some 2, .box (.t 0), none, none⟩,
      ⟨some 3, .box (.t 1), none, none⟩,
      ⟨some 4, .mov (.c (.int .i64 0)), none, none⟩])
  (.seq (.regD [0, 1, 2, 3, 4, 5, 6, 7, 8, 9, 10, 11, 12] [⟨some 5, .faddr 0 (.t 2), none, none⟩,
      ⟨some 6, .load 1 false (.t 5), none, none⟩,
      ⟨some 7, .faddr 0 (.t 3), none, none⟩,
      ⟨some 8, .load 1 false (.t 7), none, none⟩,
      ⟨some 9, .call fid_cmp_Compare_uint32 [(.t 6), (.t 8)], none, none⟩,
      ⟨some 10, .faddr 1 (.t 2), none, none⟩,
      ⟨some 11, .load 1 false (.t 10), none, some (0, 1)⟩,
      ⟨some 12, .faddr 1 (.t 3), none, none⟩,
      ⟨some 13, .load 1 false (.t 12), none, some (0, 1)⟩,
      ⟨some 14, .call fid_cmp_Compare_uint32 [(.t 11), (.t 13)], none, none⟩,
      ⟨some 15, .mkrow 1 2 [(.int .i64 0)] [(0, (.t 9)), (1, (.t 14))], none, none⟩,
      ⟨some 16, .call fid_cmp_Or_int [(.t 15)], none, none⟩,
      ⟨some 4, .mov (.t 16), none, none⟩])
  (.ret))) }
def ir_edge_Before : IFn :=
  { params := 2, results := [.tmp 4], body :=
  (.seq (.reg [⟨some 2, .box (.t 0), none, none⟩,
      ⟨some 3, .box (.t 1), none, none⟩,
      ⟨some 4, .mov (.c (.bool false)), none, none⟩])
  (.seq (.regD [0, 1, 2, 3, 4, 5, 6, 7, 8, 9, 10, 11, 12, 13] [⟨some 5, .faddr 0 (.t 2), none, none⟩,
      ⟨some 6, .load 1 false (.t 5), none, none⟩,
      ⟨some 7, .faddr 0 (.t 3), none, none⟩,
      ⟨some 8, .load 1 false (.t 7), none, none⟩,
      ⟨some 9, .call fid_cmp_Compare_int64 [(.t 6), (.t 8)], none, none⟩,
      ⟨some 10, .faddr 1 (.t 2), none, none⟩,
      ⟨some 11, .load 2 true (.t 10), none, some (0, 1)⟩,
      ⟨some 12, .faddr 1 (.t 3), none, none⟩,
      ⟨some 13, .load 2 true (.t 12), none, some (0, 1)⟩,
      ⟨some 14, .call fid_edge_compare [(.t 11), (.t 13)], none, none⟩,
      ⟨some 15, .mkrow 1 2 [(.int .i64 0)] [(0, (.t 9)), (1, (.t 14))], none, none⟩,
      ⟨some 16, .call fid_cmp_Or_int [(.t 15)], none, none⟩,
      ⟨some 17, .bin .lss (.t 16) (.c (.int .i64 0)), none, none⟩,
      ⟨some 4, .mov (.t 17), none, none⟩])
  (.ret))) }
def history_Check_b0 : IC :=
  (.seq (.reg [⟨some 21, .bin .lss (.t 20) (.t 19), none, none⟩])
  (.seq (.cond (.t 21)
  (.skip)
  (.exit 0))
  (.seq (.block 1
  (.seq (.reg [⟨some 22, .mov (.t 20), none, none⟩,
        ⟨some 23, .iaddr 4 (.t 18) (.t 20), none, none⟩,
        ⟨some 24, .load 4 true (.t 23), none, none⟩,
        ⟨some 6, .box (.c (.agg [(.int .i64 0), (.int .u32 0), (.int .u32 0), (.bool false)])), none, none⟩,
        ⟨some 5, .mov (.t 22), none, none⟩,
        ⟨none, .store 4 (.t 6) (.t 24), none, none⟩])
    (.seq (.block 2
    (.seq (.reg [⟨some 26, .faddr 0 (.t 6), none, none⟩,
          ⟨some 27, .load 1 false (.t 26), none, none⟩,
          ⟨some 28, .bin .lss (.t 27) (.c (.int .i64 0)), none, none⟩,
          ⟨some 29, .mov (.t 28), none, none⟩,
          ⟨some 30, .faddr 0 (.t 6), (some (29, false)), none⟩,
          ⟨some 31, .load 1 false (.t 30), (some (29, false)), none⟩,
          ⟨some 32, .bin .gtr (.t 31) (.c (.int .i64 4611686018427387903)), (some (29, false)), none⟩,
          ⟨some 33, .pick (.t 29) (.c (.bool true)) (.t 32), none, none⟩,
          ⟨some 25, .mov (.t 33), none, none⟩])
      (.cond (.t 25)
      (.seq (.reg [⟨some 34, .mov (.t 5), none, none⟩,
            ⟨some 2, .mov (.t 34), none, none⟩,
            ⟨some 3, .mov (.c (.int .i64 26)), none, none⟩])
        (.ret))
      (.seq (.reg [⟨some 36, .faddr 1 (.t 6), none, none⟩,
            ⟨some 37, .load 2 true (.t 36), none, none⟩,
            ⟨some 38, .faddr 0 (.t 1), none, none⟩,
            ⟨some 39, .load 1 false (.t 38), none, none⟩,
            ⟨some 40, .call fid_edge_Right [(.t 37), (.t 39)], none, none⟩,
            ⟨some 41, .un .not (.t 40), none, none⟩,
            ⟨some 35, .mov (.t 41), none, none⟩])
        (.cond (.t 35)
        (.seq (.reg [⟨some 42, .mov (.t 5), none, none⟩,
              ⟨some 2, .mov (.t 42), none, none⟩,
              ⟨some 3, .mov (.c (.int .i64 24)), none, none⟩])
          (.ret))
        (.seq (.regD [0, 1, 2, 3, 4, 5, 6, 7, 8, 9, 10, 11, 12, 13] [⟨some 44, .mov (.t 5), none, none⟩,
              ⟨some 45, .bin .gtr (.t 44) (.c (.int .i64 0)), none, none⟩,
              ⟨some 46, .mov (.t 45), none, none⟩,
              ⟨some 47, .faddr 1 (.t 1), (some (46, true)), none⟩,
              ⟨some 48, .load 1 false (.t 47), (some (46, true)), none⟩,
              ⟨some 49, .mov (.t 5), (some (46, true)), none⟩,
              ⟨some 50, .bin .sub (.t 49) (.c (.int .i64 1)), (some (46, true)), none⟩,
              ⟨some 51, .iaddr 4 (.t 48) (.t 50), (some (46, true)), none⟩,
              ⟨some 52, .load 4 true (.t 51), (some (46, true)), none⟩,
              ⟨some 53, .load 4 true (.t 6), (some (46, true)), none⟩,
              ⟨some 54, .call fid_edge_Before [(.t 52), (.t 53)], (some (46, true)), none⟩,
              ⟨some 55, .un .not (.t 54), (some (46, true)), none⟩,
              ⟨some 56, .pick (.t 46) (.t 55) (.c (.bool false)), none, none⟩,
              ⟨some 43, .mov (.t 56), none, none⟩])
          (.cond (.t 43)
          (.seq (.reg [⟨some 57, .mov (.t 5), none, none⟩,
                ⟨some 2, .mov (.t 57), none, none⟩,
                ⟨some 3, .mov (.c (.int .i64 23)), none, none⟩])
            (.ret))
          (.seq (.regD [0, 1, 2, 3, 4, 5, 6, 7] [⟨some 59, .mov (.t 4), none, none⟩,
                ⟨some 60, .faddr 1 (.t 6), none, none⟩,
                ⟨some 61, .load 2 true (.t 60), none, none⟩,
                ⟨some 62, .lookup (.struct [.int, .int]) (.bool false) (.t 59) (.t 61) false, none, none⟩,
                ⟨some 63, .faddr 3 (.t 6), none, none⟩,
                ⟨some 64, .load 1 false (.t 63), none, none⟩,
                ⟨some 65, .eq .bool false (.t 62) (.t 64), none, none⟩,
                ⟨some 58, .mov (.t 65), none, none⟩])
            (.cond (.t 58)
            (.seq (.reg [⟨some 66, .mov (.t 5), none, none⟩,
                  ⟨some 2, .mov (.t 66), none, none⟩,
                  ⟨some 3, .mov (.c (.int .i64 25)), none, none⟩])
              (.ret))
            (.skip))))))))))
    (.reg [⟨some 67, .mov (.t 4), none, none⟩,
        ⟨some 68, .faddr 1 (.t 6), none, none⟩,
        ⟨some 69, .load 2 true (.t 68), none, none⟩,
        ⟨some 70, .faddr 3 (.t 6), none, none⟩,
        ⟨some 71, .load 1 false (.t 70), none, none⟩,
        ⟨none, .mapset (.struct [.int, .int]) (.t 67) (.t 69) (.t 71), none, none⟩]))))
  (.reg [⟨some 72, .bin .add (.t 20) (.c (.int .i64 1)), none, none⟩,
      ⟨some 20, .mov (.t 72), none, none⟩]))))
def ir_history_Check : IFn :=
  { params := 1, results := [.tmp 2, .tmp 3], body :=
  (.seq (.reg [⟨some 1, .box (.t 0), none, none⟩,
      ⟨some 2, .mov (.c (.int .i64 0)), none, none⟩,
      ⟨some 3, .mov (.c (.int .i64 0)), none, none⟩])
  (.seq (.seq (.reg [⟨some 7, .faddr 0 (.t 1), none, none⟩,
      ⟨some 8, .load 1 false (.t 7), none, none⟩,
      ⟨some 9, .bin .gtr (.t 8) (.c (.int .u64 4294967296)), none, none⟩,
      ⟨some 10, .mov (.t 9), none, none⟩,
      ⟨some 11, .faddr 1 (.t 1), (some (10, false)), none⟩,
      ⟨some 12, .load 1 false (.t 11), (some (10, false)), none⟩,
      ⟨some 13, .len .sl (.t 12), (some (10, false)), none⟩,
      ⟨some 14, .bin .gtr (.t 13) (.c (.int .i64 2147483648)), (some (10, false)), none⟩,
      ⟨some 15, .pick (.t 10) (.c (.bool true)) (.t 14), none, none⟩])
  (.cond (.t 15)
  (.seq (.reg [⟨some 2, .mov (.c (.int .i64 0)), none, none⟩,
        ⟨some 3, .mov (.c (.int .i64 26)), none, none⟩])
    (.ret))
  (.skip)))
  (.seq (.reg [⟨some 16, .mkmap, none, none⟩,
      ⟨some 4, .mov (.t 16), none, none⟩])
  (.seq (.seq (.reg [⟨some 17, .faddr 1 (.t 1), none, none⟩,
      ⟨some 18, .load 1 false (.t 17), none, none⟩,
      ⟨some 19, .len .sl (.t 18), none, none⟩,
      ⟨some 20, .mov (.c (.int .i64 0)), none, none⟩])
  (.block 0
  (.loop [1, 4, 18, 19, 20] history_Check_b0)))
  (.seq (.reg [⟨some 2, .mov (.c (.int .i64 0)), none, none⟩,
      ⟨some 3, .mov (.c (.int .i64 0)), none, none⟩])
  (.ret)))))) }
def slices_Equal_api_Event_api_Event_b0 : IC :=
  (.seq (.reg [⟨some 14, .bin .lss (.t 13) (.t 12), none, none⟩])
  (.seq (.cond (.t 14)
  (.skip)
  (.exit 0))
  (.seq (.block 1
  (.seq (.reg [⟨some 15, .mov (.t 13), none, none⟩,
        ⟨some 5, .mov (.t 15), none, none⟩])
    (.seq (.regD [0, 1, 2, 3, 4, 5, 6, 7, 8] [⟨some 16, .mov (.t 0), none, none⟩,
        ⟨some 17, .mov (.t 5), none, none⟩,
        ⟨some 18, .iaddr 4 (.t 16) (.t 17), none, none⟩,
        ⟨some 19, .load 4 true (.t 18), none, none⟩,
        ⟨some 20, .mov (.t 1), none, none⟩,
        ⟨some 21, .mov (.t 5), none, none⟩,
        ⟨some 22, .iaddr 4 (.t 20) (.t 21), none, none⟩,
        ⟨some 23, .load 4 true (.t 22), none, none⟩,
        ⟨some 24, .eq (.struct [.int, .int, .int, .bool]) true (.t 19) (.t 23), none, none⟩])
    (.cond (.t 24)
    (.seq (.reg [⟨some 4, .mov (.c (.bool false)), none, none⟩])
      (.ret))
    (.skip)))))
  (.reg [⟨some 25, .bin .add (.t 13) (.c (.int .i64 1)), none, none⟩,
      ⟨some 13, .mov (.t 25), none, none⟩]))))
def ir_slices_Equal_api_Event_api_Event : IFn :=
  { params := 2, results := [.tmp 4], body :=
  (.seq (.reg [⟨some 4, .mov (.c (.bool false)), none, none⟩])
  (.seq (.seq (.reg [⟨some 6, .mov (.t 0), none, none⟩,
      ⟨some 7, .len .sl (.t 6), none, none⟩,
      ⟨some 8, .mov (.t 1), none, none⟩,
      ⟨some 9, .len .sl (.t 8), none, none⟩,
      ⟨some 10, .bin .neq (.t 7) (.t 9), none, none⟩])
  (.cond (.t 10)
  (.seq (.reg [⟨some 4, .mov (.c (.bool false)), none, none⟩])
    (.ret))
  (.skip)))
  (.seq (.seq (.reg [⟨some 11, .mov (.t 0), none, none⟩,
      ⟨some 12, .len .sl (.t 11), none, none⟩,
      ⟨some 13, .mov (.c (.int .i64 0)), none, none⟩])
  (.block 0
  (.loop [0, 1, 12, 13] slices_Equal_api_Event_api_Event_b0)))
  (.seq (.reg [⟨some 4, .mov (.c (.bool true)), none, none⟩])
  (.ret))))) }
def ir_history_Same : IFn :=
  { params := 2, results := [.tmp 4], body :=
  (.seq (.reg [⟨some 2, .box (.t 0), none, none⟩,
      ⟨some 3, .box (.t 1), none, none⟩,
      ⟨some 4, .mov (.c (.bool false)), none, none⟩])
  (.seq (.reg [⟨some 5, .faddr 0 (.t 2), none, none⟩,
      ⟨some 6, .load 1 false (.t 5), none, none⟩,
      ⟨some 7, .faddr 0 (.t 3), none, none⟩,
      ⟨some 8, .load 1 false (.t 7), none, none⟩,
      ⟨some 9, .bin .eql (.t 6) (.t 8), none, none⟩,
      ⟨some 10, .mov (.t 9), none, none⟩,
      ⟨some 11, .faddr 1 (.t 2), (some (10, true)), none⟩,
      ⟨some 12, .load 1 false (.t 11), (some (10, true)), none⟩,
      ⟨some 13, .faddr 1 (.t 3), (some (10, true)), none⟩,
      ⟨some 14, .load 1 false (.t 13), (some (10, true)), none⟩,
      ⟨some 15, .call fid_slices_Equal_api_Event_api_Event [(.t 12), (.t 14)], (some (10, true)), none⟩,
      ⟨some 16, .pick (.t 10) (.t 15) (.c (.bool false)), none, none⟩,
      ⟨some 4, .mov (.t 16), none, none⟩])
  (.ret))) }
def ir_slices_Clone_api_Event_api_Event : IFn :=
  { params := 1, results := [.tmp 2], body :=
  (.seq (.reg [⟨some 2, .mov (.c .nils), none, none⟩])
  (.seq (.seq (.reg [⟨some 3, .mov (.t 0), none, none⟩,
      ⟨some 4, .eq .slice false (.t 3) (.c .nils), none, none⟩])
  (.cond (.t 4)
  (.seq (.reg [⟨some 2, .mov (.c .nils), none, none⟩])
    (.ret))
  (.skip)))
  (.seq (.reg [⟨some 5, .mkrow 4 0 [(.int .i64 0), (.int .u32 0), (.int .u32 0), (.bool false)] [], none, none⟩,
      ⟨some 6, .mov (.t 0), none, none⟩,
      ⟨some 7, .append 4 24 (.t 5) (.t 6), none, none⟩,
      ⟨some 2, .mov (.t 7), none, none⟩])
  (.ret)))) }
def ir_history_Copy : IFn :=
  { params := 1, results := [.cell 2 2 true], body :=
  (.seq (.reg [⟨some 1, .box (.t 0), none, none⟩,
      ⟨some 2, .box (.c (.agg [(.int .u64 0), .nils])), none, none⟩])
  (.seq (.reg [⟨some 3, .faddr 1 (.t 1), none, none⟩,
      ⟨some 4, .load 1 false (.t 3), none, none⟩,
      ⟨some 5, .call fid_slices_Clone_api_Event_api_Event [(.t 4)], none, none⟩,
      ⟨some 6, .faddr 1 (.t 1), none, none⟩,
      ⟨none, .store 1 (.t 6) (.t 5), none, none⟩])
  (.seq (.reg [⟨some 7, .load 2 true (.t 1), none, none⟩,
      ⟨none, .store 2 (.t 2) (.t 7), none, none⟩])
  (.ret)))) }
def ir_history_Last : IFn :=
  { params := 1, results := [.tmp 2], body :=
  (.seq (.reg [⟨some 1, .box (.t 0), none, none⟩,
      ⟨some 2, .mov (.c (.int .i64 0)), none, none⟩])
  (.seq (.seq (.reg [⟨some 3, .faddr 1 (.t 1), none, none⟩,
      ⟨some 4, .load 1 false (.t 3), none, none⟩,
      ⟨some 5, .len .sl (.t 4), none, none⟩,
      ⟨some 6, .bin .eql (.t 5) (.c (.int .i64 0)), none, none⟩])
  (.cond (.t 6)
  (.seq (.reg [⟨some 2, .mov (.c (.int .i64 (-1))), none, none⟩])
    (.ret))
  (.skip)))
  (.seq (.reg [⟨some 7, .faddr 1 (.t 1), none, none⟩,
      ⟨some 8, .load 1 false (.t 7), none, none⟩,
      ⟨some 9, .faddr 1 (.t 1), none, none⟩,
      ⟨some 10, .load 1 false (.t 9), none, none⟩,
      ⟨some 11, .len .sl (.t 10), none, none⟩,
      ⟨some 12, .bin .sub (.t 11) (.c (.int .i64 1)), none, none⟩,
      ⟨some 13, .iaddr 4 (.t 8) (.t 12), none, none⟩,
      ⟨some 14, .faddr 0 (.t 13), none, none⟩,
      ⟨some 15, .load 1 false (.t 14), none, none⟩,
      ⟨some 2, .mov (.t 15), none, none⟩])
  (.ret)))) }
def sort_Search_b0 : IC :=
  (.seq (.seq (.reg [⟨some 9, .mov (.t 5), none, none⟩,
      ⟨some 10, .mov (.t 6), none, none⟩,
      ⟨some 11, .bin .lss (.t 9) (.t 10), none, none⟩])
  (.cond (.t 11)
  (.skip)
  (.exit 0)))
  (.block 1
  (.seq (.reg [⟨some 12, .mov (.t 5), none, none⟩,
        ⟨some 13, .mov (.t 6), none, none⟩,
        ⟨some 14, .bin .add (.t 12) (.t 13), none, none⟩,
        ⟨some 15, .conv .u64 (.t 14), none, none⟩,
        ⟨some 16, .bin .shr (.t 15) (.c (.int .u64 1)), none, none⟩,
        ⟨some 17, .conv .i64 (.t 16), none, none⟩,
        ⟨some 7, .mov (.t 17), none, none⟩])
    (.seq (.reg [⟨some 18, .mov (.t 1), none, none⟩,
        ⟨some 19, .mov (.t 7), none, none⟩,
        ⟨some 20, .callv (.t 18) [(.t 19)], none, none⟩,
        ⟨some 21, .un .not (.t 20), none, none⟩])
    (.cond (.t 21)
    (.reg [⟨some 22, .mov (.t 7), none, none⟩,
          ⟨some 23, .bin .add (.t 22) (.c (.int .i64 1)), none, none⟩,
          ⟨some 5, .mov (.t 23), none, none⟩])
    (.reg [⟨some 24, .mov (.t 7), none, none⟩,
          ⟨some 6, .mov (.t 24), none, none⟩]))))))
def ir_sort_Search : IFn :=
  { params := 2, results := [.tmp 4], body :=
  (.seq (.reg [⟨some 4, .mov (.c (.int .i64 0)), none, none⟩])
  (.seq (.reg [⟨some 8, .mov (.t 0), none, none⟩,
      ⟨some 5, .mov (.c (.int .i64 0)), none, none⟩,
      ⟨some 6, .mov (.t 8), none, none⟩])
  (.seq (.block 0
  (.loop [1, 5, 6] sort_Search_b0))
  (.seq (.reg [⟨some 25, .mov (.t 5), none, none⟩,
      ⟨some 4, .mov (.t 25), none, none⟩])
  (.ret))))) }
def ir_history_Upto_1 : IFn :=
  { params := 3, results := [.tmp 4], body :=
  (.seq (.reg [⟨some 4, .mov (.c (.bool false)), none, none⟩])
  (.seq (.regD [0, 1, 2, 3, 4, 5, 6, 7, 8] [⟨some 5, .faddr 1 (.t 1), none, none⟩,
      ⟨some 6, .load 1 false (.t 5), none, none⟩,
      ⟨some 7, .mov (.t 0), none, none⟩,
      ⟨some 8, .iaddr 4 (.t 6) (.t 7), none, none⟩,
      ⟨some 9, .faddr 0 (.t 8), none, none⟩,
      ⟨some 10, .load 1 false (.t 9), none, none⟩,
      ⟨some 11, .load 1 false (.t 2), none, none⟩,
      ⟨some 12, .bin .gtr (.t 10) (.t 11), none, none⟩,
      ⟨some 4, .mov (.t 12), none, none⟩])
  (.ret))) }
def ir_history_Upto : IFn :=
  { params := 2, results := [.tmp 4], body :=
  (.seq (.reg [⟨some 2, .box (.t 0), none, none⟩,
      ⟨some 3, .box (.t 1), none, none⟩,
      ⟨some 4, .mov (.c (.int .i64 0)), none, none⟩])
  (.seq (.reg [⟨some 5, .faddr 1 (.t 2), none, none⟩,
      ⟨some 6, .load 1 false (.t 5), none, none⟩,
      ⟨some 7, .len .sl (.t 6), none, none⟩,
      ⟨some 8, .mkfn (.func fid_history_Upto_1) [] [(.t 2), (.t 3)], none, none⟩,
      ⟨some 9, .call fid_sort_Search [(.t 7), (.t 8)], none, none⟩,
      ⟨some 4, .mov (.t 9), none, none⟩])
  (.ret))) }
def ir_archipelagolaw9_known : IFn :=
  { params := 0, results := [.tmp 0], body :=
  (.seq (.reg [⟨some 0, .mov (.c (.bool false)), none, none⟩])
  (.seq (.reg [⟨some 7, .build [(.int .u32 0), (.int .u32 0)] [(0, 1, (.c (.int .u32 0))), (1, 1, (.c (.int .u32 1)))], none, none⟩,
      ⟨some 8, .build [(.int .i64 0), (.int .u32 0), (.int .u32 0), (.bool false)] [(0, 1, (.c (.int .i64 1))), (1, 2, (.t 7)), (3, 1, (.c (.bool true)))], none, none⟩,
      ⟨some 9, .build [(.int .u32 0), (.int .u32 0)] [(0, 1, (.c (.int .u32 0))), (1, 1, (.c (.int .u32 1)))], none, none⟩,
      ⟨some 10, .build [(.int .i64 0), (.int .u32 0), (.int .u32 0), (.bool false)] [(0, 1, (.c (.int .i64 2))), (1, 2, (.t 9)), (3, 1, (.c (.bool true)))], none, none⟩,
      ⟨some 11, .mkrow 4 2 [(.int .i64 0), (.int .u32 0), (.int .u32 0), (.bool false)] [(0, (.t 8)), (1, (.t 10))], none, none⟩,
      ⟨some 12, .build [(.int .u64 0), .nils] [(0, 1, (.c (.int .u64 3))), (1, 1, (.t 11))], none, none⟩,
      ⟨some 1, .box (.c (.agg [(.int .u64 0), .nils])), none, none⟩,
      ⟨none, .store 2 (.t 1) (.t 12), none, none⟩])
  (.seq (.reg [⟨some 14, .load 2 true (.t 1), none, none⟩,
      ⟨some 15, .call fid_history_Check [(.t 14)], none, none⟩,
      ⟨some 13, .mov (.t 15), none, none⟩,
      ⟨some 16, .extract (.t 13) 0, none, none⟩,
      ⟨some 17, .extract (.t 13) 1, none, none⟩,
      ⟨some 2, .mov (.t 16), none, none⟩,
      ⟨some 3, .mov (.t 17), none, none⟩])
  (.seq (.reg [⟨some 18, .load 2 true (.t 1), none, none⟩,
      ⟨some 4, .box (.c (.agg [(.int .u64 0), .nils])), none, none⟩,
      ⟨none, .store 2 (.t 4) (.t 18), none, none⟩])
  (.seq (.reg [⟨some 19, .faddr 1 (.t 1), none, none⟩,
      ⟨some 20, .load 1 false (.t 19), none, none⟩,
      ⟨some 21, .slice false 4 (.t 20) none (some (.c (.int .i64 1))) none, none, none⟩,
      ⟨some 22, .faddr 1 (.t 4), none, none⟩,
      ⟨none, .store 1 (.t 22) (.t 21), none, none⟩])
  (.seq (.reg [⟨some 24, .load 2 true (.t 4), none, none⟩,
      ⟨some 25, .call fid_history_Check [(.t 24)], none, none⟩,
      ⟨some 23, .mov (.t 25), none, none⟩,
      ⟨some 26, .extract (.t 23) 0, none, none⟩,
      ⟨some 27, .extract (.t 23) 1, none, none⟩,
      ⟨some 5, .mov (.t 26), none, none⟩,
      ⟨some 6, .mov (.t 27), none, none⟩])
  (.seq (.regD [0, 1, 2, 3, 4, 5, 6, 7, 8, 9, 10, 11, 12, 13, 14, 15, 16, 17, 18, 19, 20, 21, 22, 23, 24, 25, 26, 27, 28, 29, 30, 31, 32, 33, 34, 35, 36, 37, 38, 39, 40, 41, 42, 43, 44, 45, 46, 47] [⟨some 28, .mov (.t 2), none, none⟩,
      ⟨some 29, .bin .eql (.t 28) (.c (.int .i64 1)), none, none⟩,
      ⟨some 30, .mov (.t 29), none, none⟩,
      ⟨some 31, .mov (.t 3), (some (30, true)), none⟩,
      ⟨some 32, .bin .eql (.t 31) (.c (.int .i64 25)), (some (30, true)), none⟩,
      ⟨some 33, .pick (.t 30) (.t 32) (.c (.bool false)), none, none⟩,
      ⟨some 34, .mov (.t 33), none, none⟩,
      ⟨some 35, .mov (.t 6), (some (34, true)), none⟩,
      ⟨some 36, .bin .eql (.t 35) (.c (.int .i64 0)), (some (34, true)), none⟩,
      ⟨some 37, .pick (.t 34) (.t 36) (.c (.bool false)), none, none⟩,
      ⟨some 38, .mov (.t 37), none, none⟩,
      ⟨some 39, .load 2 true (.t 4), (some (38, true)), none⟩,
      ⟨some 40, .load 2 true (.t 4), (some (38, true)), none⟩,
      ⟨some 41, .call fid_history_Same [(.t 39), (.t 40)], (some (38, true)), none⟩,
      ⟨some 42, .pick (.t 38) (.t 41) (.c (.bool false)), none, none⟩,
      ⟨some 43, .mov (.t 42), none, none⟩,
      ⟨some 44, .load 2 true (.t 4), (some (43, true)), none⟩,
      ⟨some 45, .load 2 true (.t 1), (some (43, true)), none⟩,
      ⟨some 46, .call fid_history_Same [(.t 44), (.t 45)], (some (43, true)), none⟩,
      ⟨some 47, .un .not (.t 46), (some (43, true)), none⟩,
      ⟨some 48, .pick (.t 43) (.t 47) (.c (.bool false)), none, none⟩,
      ⟨some 49, .mov (.t 48), none, none⟩,
      ⟨some 50, .load 2 true (.t 4), (some (49, true)), none⟩,
      ⟨some 51, .call fid_history_Upto [(.t 50), (.c (.int .i64 0))], (some (49, true)), none⟩,
      ⟨some 52, .bin .eql (.t 51) (.c (.int .i64 0)), (some (49, true)), none⟩,
      ⟨some 53, .pick (.t 49) (.t 52) (.c (.bool false)), none, none⟩,
      ⟨some 54, .mov (.t 53), none, none⟩,
      ⟨some 55, .load 2 true (.t 4), (some (54, true)), none⟩,
      ⟨some 56, .call fid_history_Upto [(.t 55), (.c (.int .i64 1))], (some (54, true)), none⟩,
      ⟨some 57, .bin .eql (.t 56) (.c (.int .i64 1)), (some (54, true)), none⟩,
      ⟨some 58, .pick (.t 54) (.t 57) (.c (.bool false)), none, none⟩,
      ⟨some 59, .mov (.t 58), none, none⟩,
      ⟨some 60, .load 2 true (.t 4), (some (59, true)), none⟩,
      ⟨some 61, .call fid_history_Last [(.t 60)], (some (59, true)), none⟩,
      ⟨some 62, .bin .eql (.t 61) (.c (.int .i64 1)), (some (59, true)), none⟩,
      ⟨some 63, .pick (.t 59) (.t 62) (.c (.bool false)), none, none⟩,
      ⟨some 64, .mov (.t 63), none, none⟩,
      ⟨some 65, .build [(.int .u64 0), .nils] [], (some (64, true)), none⟩,
      ⟨some 66, .call fid_history_Last [(.t 65)], (some (64, true)), none⟩,
      ⟨some 67, .bin .eql (.t 66) (.c (.int .i64 (-1))), (some (64, true)), none⟩,
      ⟨some 68, .pick (.t 64) (.t 67) (.c (.bool false)), none, none⟩,
      ⟨some 69, .mov (.t 68), none, none⟩,
      ⟨some 70, .load 2 true (.t 4), (some (69, true)), none⟩,
      ⟨some 71, .call fid_history_Copy [(.t 70)], (some (69, true)), none⟩,
      ⟨some 72, .load 2 true (.t 4), (some (69, true)), some (6, 7)⟩,
      ⟨some 73, .call fid_history_Same [(.t 71), (.t 72)], (some (69, true)), none⟩,
      ⟨some 74, .pick (.t 69) (.t 73) (.c (.bool false)), none, none⟩,
      ⟨some 0, .mov (.t 74), none, none⟩])
  (.ret)))))))) }
def ir_archipelagoseat_Vertices : IFn :=
  { params := 1, results := [.tmp 2], body :=
  (.seq (.reg [⟨some 2, .mov (.c (.int .u64 0)), none, none⟩])
  (.seq (.reg [⟨some 3, .mkrow 1 8 [(.int .u64 0)] [(0, (.c (.int .u64 8))), (1, (.c (.int .u64 5))), (2, (.c (.int .u64 2))), (3, (.c (.int .u64 4294967296))), (4, (.c (.int .u64 300))), (5, (.c (.int .u64 12))), (6, (.c (.int .u64 1048576))), (7, (.c (.int .u64 3)))], none, none⟩,
      ⟨some 4, .mov (.t 0), none, none⟩,
      ⟨some 5, .bin .rem (.t 4) (.c (.int .u8 8)), none, none⟩,
      ⟨some 6, .iaddr 1 (.t 3) (.t 5), none, none⟩,
      ⟨some 7, .load 1 false (.t 6), none, none⟩,
      ⟨some 2, .mov (.t 7), none, none⟩])
  (.ret))) }
def ir_archipelagoseat_Edge : IFn :=
  { params := 3, results := [.cell 6 2 true, .tmp 7], body :=
  (.seq (.reg [⟨some 6, .box (.c (.agg [(.int .u32 0), (.int .u32 0)])), none, none⟩,
      ⟨some 7, .mov (.c (.bool false)), none, none⟩])
  (.seq (.reg [⟨some 11, .mov (.t 2), none, none⟩,
      ⟨some 12, .minmax true [(.t 11), (.c (.int .u64 9))], none, none⟩,
      ⟨some 8, .mov (.t 12), none, none⟩])
  (.seq (.regD [0, 1, 2, 3, 4, 5, 6, 7, 8, 9] [⟨some 13, .mov (.t 0), none, none⟩,
      ⟨some 14, .conv .u64 (.t 13), none, none⟩,
      ⟨some 15, .mov (.t 8), none, none⟩,
      ⟨some 16, .bin .rem (.t 14) (.t 15), none, none⟩,
      ⟨some 17, .mov (.t 1), none, none⟩,
      ⟨some 18, .conv .u64 (.t 17), none, none⟩,
      ⟨some 19, .mov (.t 8), none, none⟩,
      ⟨some 20, .bin .rem (.t 18) (.t 19), none, none⟩,
      ⟨some 9, .mov (.t 16), none, none⟩,
      ⟨some 10, .mov (.t 20), none, none⟩])
  (.seq (.seq (.reg [⟨some 21, .mov (.t 0), none, none⟩,
      ⟨some 22, .bin .gtr (.t 21) (.c (.int .u8 230)), none, none⟩])
  (.cond (.t 22)
  (.reg [⟨some 23, .mov (.t 2), none, none⟩,
        ⟨some 24, .bin .sub (.t 23) (.c (.int .u64 1)), none, none⟩,
        ⟨some 25, .mov (.t 9), none, none⟩,
        ⟨some 26, .bin .sub (.t 24) (.t 25), none, none⟩,
        ⟨some 9, .mov (.t 26), none, none⟩])
  (.skip)))
  (.seq (.seq (.reg [⟨some 27, .mov (.t 1), none, none⟩,
      ⟨some 28, .bin .gtr (.t 27) (.c (.int .u8 240)), none, none⟩])
  (.cond (.t 28)
  (.reg [⟨some 29, .mov (.t 2), none, none⟩,
        ⟨some 30, .bin .sub (.t 29) (.c (.int .u64 1)), none, none⟩,
        ⟨some 31, .mov (.t 10), none, none⟩,
        ⟨some 32, .bin .sub (.t 30) (.t 31), none, none⟩,
        ⟨some 10, .mov (.t 32), none, none⟩])
  (.skip)))
  (.seq (.seq (.reg [⟨some 33, .mov (.t 9), none, none⟩,
      ⟨some 34, .mov (.t 10), none, none⟩,
      ⟨some 35, .bin .eql (.t 33) (.t 34), none, none⟩])
  (.cond (.t 35)
  (.seq (.reg [⟨some 36, .build [(.int .u32 0), (.int .u32 0)] [], none, none⟩,
        ⟨none, .store 2 (.t 6) (.t 36), none, none⟩,
        ⟨some 7, .mov (.c (.bool false)), none, none⟩])
    (.ret))
  (.skip)))
  (.seq (.reg [⟨some 37, .mov (.t 9), none, none⟩,
      ⟨some 38, .mov (.t 10), none, none⟩,
      ⟨some 39, .minmax true [(.t 37), (.t 38)], none, none⟩,
      ⟨some 40, .conv .u32 (.t 39), none, none⟩,
      ⟨some 41, .mov (.t 9), none, none⟩,
      ⟨some 42, .mov (.t 10), none, none⟩,
      ⟨some 43, .minmax false [(.t 41), (.t 42)], none, none⟩,
      ⟨some 44, .conv .u32 (.t 43), none, none⟩,
      ⟨some 45, .build [(.int .u32 0), (.int .u32 0)] [(0, 1, (.t 40)), (1, 1, (.t 44))], none, none⟩,
      ⟨none, .store 2 (.t 6) (.t 45), none, none⟩,
      ⟨some 7, .mov (.c (.bool true)), none, none⟩])
  (.ret)))))))) }
def ir_archipelagoref8_Less : IFn :=
  { params := 2, results := [.tmp 4], body :=
  (.seq (.reg [⟨some 2, .box (.t 0), none, none⟩,
      ⟨some 3, .box (.t 1), none, none⟩,
      ⟨some 4, .mov (.c (.bool false)), none, none⟩])
  (.seq (.reg [⟨some 5, .faddr 0 (.t 2), none, none⟩,
      ⟨some 6, .load 1 false (.t 5), none, none⟩,
      ⟨some 7, .faddr 0 (.t 3), none, none⟩,
      ⟨some 8, .load 1 false (.t 7), none, none⟩,
      ⟨some 9, .bin .lss (.t 6) (.t 8), none, none⟩,
      ⟨some 10, .mov (.t 9), none, none⟩,
      ⟨some 11, .faddr 0 (.t 2), (some (10, false)), none⟩,
      ⟨some 12, .load 1 false (.t 11), (some (10, false)), none⟩,
      ⟨some 13, .faddr 0 (.t 3), (some (10, false)), none⟩,
      ⟨some 14, .load 1 false (.t 13), (some (10, false)), none⟩,
      ⟨some 15, .bin .eql (.t 12) (.t 14), (some (10, false)), none⟩,
      ⟨some 16, .mov (.t 15), (some (10, false)), none⟩,
      ⟨some 17, .faddr 1 (.t 2), (some (16, true)), none⟩,
      ⟨some 18, .load 1 false (.t 17), (some (16, true)), none⟩,
      ⟨some 19, .faddr 1 (.t 3), (some (16, true)), none⟩,
      ⟨some 20, .load 1 false (.t 19), (some (16, true)), none⟩,
      ⟨some 21, .bin .lss (.t 18) (.t 20), (some (16, true)), none⟩,
      ⟨some 22, .pick (.t 16) (.t 21) (.c (.bool false)), (some (10, false)), none⟩,
      ⟨some 23, .pick (.t 10) (.c (.bool true)) (.t 22), none, none⟩,
      ⟨some 4, .mov (.t 23), none, none⟩])
  (.ret))) }
def ir_archipelagoref8_Before : IFn :=
  { params := 2, results := [.tmp 4], body :=
  (.seq (.reg [⟨some 2, .box (.t 0), none, none⟩,
      ⟨some 3, .box (.t 1), none, none⟩,
      ⟨some 4, .mov (.c (.bool false)), none, none⟩])
  (.seq (.reg [⟨some 5, .faddr 0 (.t 2), none, none⟩,
      ⟨some 6, .load 1 false (.t 5), none, none⟩,
      ⟨some 7, .faddr 0 (.t 3), none, none⟩,
      ⟨some 8, .load 1 false (.t 7), none, none⟩,
      ⟨some 9, .bin .lss (.t 6) (.t 8), none, none⟩,
      ⟨some 10, .mov (.t 9), none, none⟩,
      ⟨some 11, .faddr 0 (.t 2), (some (10, false)), none⟩,
      ⟨some 12, .load 1 false (.t 11), (some (10, false)), none⟩,
      ⟨some 13, .faddr 0 (.t 3), (some (10, false)), none⟩,
      ⟨some 14, .load 1 false (.t 13), (some (10, false)), none⟩,
      ⟨some 15, .bin .eql (.t 12) (.t 14), (some (10, false)), none⟩,
      ⟨some 16, .mov (.t 15), (some (10, false)), none⟩,
      ⟨some 17, .faddr 1 (.t 2), (some (16, true)), none⟩,
      ⟨some 18, .load 2 true (.t 17), (some (16, true)), none⟩,
      ⟨some 19, .faddr 1 (.t 3), (some (16, true)), none⟩,
      ⟨some 20, .load 2 true (.t 19), (some (16, true)), none⟩,
      ⟨some 21, .call fid_archipelagoref8_Less [(.t 18), (.t 20)], (some (16, true)), none⟩,
      ⟨some 22, .pick (.t 16) (.t 21) (.c (.bool false)), (some (10, false)), none⟩,
      ⟨some 23, .pick (.t 10) (.c (.bool true)) (.t 22), none, none⟩,
      ⟨some 4, .mov (.t 23), none, none⟩])
  (.ret))) }
def archipelagoseat_insert_b0 : IC :=
  (.seq (.seq (.regD [0, 1, 2, 3, 4, 5, 6, 7, 8, 9, 10] [⟨some 8, .mov (.t 5), none, none⟩,
      ⟨some 9, .bin .gtr (.t 8) (.c (.int .i64 0)), none, none⟩,
      ⟨some 10, .mov (.t 9), none, none⟩,
      ⟨some 11, .load 4 true (.t 3), (some (10, true)), none⟩,
      ⟨some 12, .mov (.t 0), (some (10, true)), none⟩,
      ⟨some 13, .mov (.t 5), (some (10, true)), none⟩,
      ⟨some 14, .bin .sub (.t 13) (.c (.int .i64 1)), (some (10, true)), none⟩,
      ⟨some 15, .iaddr 4 (.t 12) (.t 14), (some (10, true)), none⟩,
      ⟨some 16, .load 4 true (.t 15), (some (10, true)), none⟩,
      ⟨some 17, .call fid_archipelagoref8_Before [(.t 11), (.t 16)], (some (10, true)), none⟩,
      ⟨some 18, .pick (.t 10) (.t 17) (.c (.bool false)), none, none⟩])
  (.cond (.t 18)
  (.skip)
  (.exit 0)))
  (.block 1
  (.reg [⟨some 19, .mov (.t 5), none, none⟩,
        ⟨some 20, .bin .sub (.t 19) (.c (.int .i64 1)), none, none⟩,
        ⟨some 5, .mov (.t 20), none, none⟩])))
def ir_archipelagoseat_insert : IFn :=
  { params := 2, results := [.tmp 4], body :=
  (.seq (.reg [⟨some 3, .box (.t 1), none, none⟩,
      ⟨some 4, .mov (.c .nils), none, none⟩])
  (.seq (.reg [⟨some 6, .mov (.t 0), none, none⟩,
      ⟨some 7, .len .sl (.t 6), none, none⟩,
      ⟨some 5, .mov (.t 7), none, none⟩])
  (.seq (.block 0
  (.loop [0, 3, 5] archipelagoseat_insert_b0))
  (.seq (.seq (.regD [0, 1, 2, 3, 4, 5, 6, 7, 8, 9, 10, 11, 12, 13, 14, 15, 16, 17, 18, 19, 20, 21, 22, 23] [⟨some 21, .mov (.t 5), none, none⟩,
      ⟨some 22, .bin .gtr (.t 21) (.c (.int .i64 0)), none, none⟩,
      ⟨some 23, .mov (.t 22), none, none⟩,
      ⟨some 24, .mov (.t 0), (some (23, true)), none⟩,
      ⟨some 25, .mov (.t 5), (some (23, true)), none⟩,
      ⟨some 26, .bin .sub (.t 25) (.c (.int .i64 1)), (some (23, true)), none⟩,
      ⟨some 27, .iaddr 4 (.t 24) (.t 26), (some (23, true)), none⟩,
      ⟨some 28, .faddr 0 (.t 27), (some (23, true)), none⟩,
      ⟨some 29, .load 1 false (.t 28), (some (23, true)), none⟩,
      ⟨some 30, .faddr 0 (.t 3), (some (23, true)), none⟩,
      ⟨some 31, .load 1 false (.t 30), (some (23, true)), none⟩,
      ⟨some 32, .bin .eql (.t 29) (.t 31), (some (23, true)), none⟩,
      ⟨some 33, .pick (.t 23) (.t 32) (.c (.bool false)), none, none⟩,
      ⟨some 34, .mov (.t 33), none, none⟩,
      ⟨some 35, .mov (.t 0), (some (34, true)), none⟩,
      ⟨some 36, .mov (.t 5), (some (34, true)), none⟩,
      ⟨some 37, .bin .sub (.t 36) (.c (.int .i64 1)), (some (34, true)), none⟩,
      ⟨some 38, .iaddr 4 (.t 35) (.t 37), (some (34, true)), none⟩,
      ⟨some 39, .faddr 1 (.t 38), (some (34, true)), none⟩,
      ⟨some 40, .load 2 true (.t 39), (some (34, true)), none⟩,
      ⟨some 41, .faddr 1 (.t 3), (some (34, true)), none⟩,
      ⟨some 42, .load 2 true (.t 41), (some (34, true)), none⟩,
      ⟨some 43, .eq (.struct [.int, .int]) false (.t 40) (.t 42), (some (34, true)), none⟩,
      ⟨some 44, .pick (.t 34) (.t 43) (.c (.bool false)), none, none⟩])
  (.cond (.t 44)
  (.seq (.reg [⟨some 45, .mov (.t 0), none, none⟩,
        ⟨some 4, .mov (.t 45), none, none⟩])
    (.ret))
  (.skip)))
  (.seq (.regD [0, 1, 2, 3, 4, 5, 6, 7, 8, 9, 10, 11] [⟨some 46, .mov (.t 0), none, none⟩,
      ⟨some 47, .mov (.t 5), none, none⟩,
      ⟨some 48, .slice false 4 (.t 46) none (some (.t 47)) none, none, none⟩,
      ⟨some 49, .append 4 24 (.c .nils) (.t 48), none, none⟩,
      ⟨some 50, .load 4 true (.t 3), none, some (0, 1)⟩,
      ⟨some 51, .mkrow 4 1 [(.int .i64 0), (.int .u32 0), (.int .u32 0), (.bool false)] [(0, (.t 50))], none, none⟩,
      ⟨some 52, .append 4 24 (.t 49) (.t 51), none, none⟩,
      ⟨some 53, .mov (.t 0), none, none⟩,
      ⟨some 54, .mov (.t 5), none, none⟩,
      ⟨some 55, .slice false 4 (.t 53) (some (.t 54)) none none, none, none⟩,
      ⟨some 56, .append 4 24 (.t 52) (.t 55), none, none⟩,
      ⟨some 4, .mov (.t 56), none, none⟩])
  (.ret)))))) }
def archipelagoref8_Find_b0 : IC :=
  (.seq (.seq (.reg [⟨some 6, .mov (.t 5), none, none⟩,
      ⟨some 7, .mov (.t 0), none, none⟩,
      ⟨some 8, .len .sl (.t 7), none, none⟩,
      ⟨some 9, .bin .lss (.t 6) (.t 8), none, none⟩])
  (.cond (.t 9)
  (.skip)
  (.exit 0)))
  (.seq (.block 1
  (.seq (.regD [0, 1, 2, 3, 4, 5] [⟨some 12, .mov (.t 0), none, none⟩,
        ⟨some 13, .mov (.t 5), none, none⟩,
        ⟨some 14, .iaddr 2 (.t 12) (.t 13), none, none⟩,
        ⟨some 15, .load 2 true (.t 14), none, none⟩,
        ⟨some 16, .load 2 true (.t 3), none, none⟩,
        ⟨some 17, .eq (.struct [.int, .int]) false (.t 15) (.t 16), none, none⟩])
    (.cond (.t 17)
    (.seq (.reg [⟨some 18, .mov (.t 5), none, none⟩,
          ⟨some 4, .mov (.t 18), none, none⟩])
      (.ret))
    (.skip))))
  (.reg [⟨some 10, .mov (.t 5), none, none⟩,
      ⟨some 11, .bin .add (.t 10) (.c (.int .i64 1)), none, none⟩,
      ⟨some 5, .mov (.t 11), none, none⟩])))
def ir_archipelagoref8_Find : IFn :=
  { params := 2, results := [.tmp 4], body :=
  (.seq (.reg [⟨some 3, .box (.t 1), none, none⟩,
      ⟨some 4, .mov (.c (.int .i64 0)), none, none⟩])
  (.seq (.seq (.reg [⟨some 5, .mov (.c (.int .i64 0)), none, none⟩])
  (.block 0
  (.loop [0, 3, 5] archipelagoref8_Find_b0)))
  (.seq (.reg [⟨some 4, .mov (.c (.int .i64 (-1))), none, none⟩])
  (.ret)))) }
def ir_archipelagoref8_Has : IFn :=
  { params := 2, results := [.tmp 4], body :=
  (.seq (.reg [⟨some 3, .box (.t 1), none, none⟩,
      ⟨some 4, .mov (.c (.bool false)), none, none⟩])
  (.seq (.reg [⟨some 5, .mov (.t 0), none, none⟩,
      ⟨some 6, .load 2 true (.t 3), none, none⟩,
      ⟨some 7, .call fid_archipelagoref8_Find [(.t 5), (.t 6)], none, none⟩,
      ⟨some 8, .bin .geq (.t 7) (.c (.int .i64 0)), none, none⟩,
      ⟨some 4, .mov (.t 8), none, none⟩])
  (.ret))) }
def archipelagoref8_Rising_b0 : IC :=
  (.seq (.seq (.reg [⟨some 4, .mov (.t 3), none, none⟩,
      ⟨some 5, .mov (.t 0), none, none⟩,
      ⟨some 6, .len .sl (.t 5), none, none⟩,
      ⟨some 7, .bin .lss (.t 4) (.t 6), none, none⟩])
  (.cond (.t 7)
  (.skip)
  (.exit 0)))
  (.seq (.block 1
  (.seq (.regD [0, 1, 2, 3, 4, 5, 6, 7, 8, 9, 10] [⟨some 10, .mov (.t 0), none, none⟩,
        ⟨some 11, .mov (.t 3), none, none⟩,
        ⟨some 12, .bin .sub (.t 11) (.c (.int .i64 1)), none, none⟩,
        ⟨some 13, .iaddr 2 (.t 10) (.t 12), none, none⟩,
        ⟨some 14, .load 2 true (.t 13), none, none⟩,
        ⟨some 15, .mov (.t 0), none, none⟩,
        ⟨some 16, .mov (.t 3), none, none⟩,
        ⟨some 17, .iaddr 2 (.t 15) (.t 16), none, none⟩,
        ⟨some 18, .load 2 true (.t 17), none, none⟩,
        ⟨some 19, .call fid_archipelagoref8_Less [(.t 14), (.t 18)], none, none⟩,
        ⟨some 20, .un .not (.t 19), none, none⟩])
    (.cond (.t 20)
    (.seq (.reg [⟨some 2, .mov (.c (.bool false)), none, none⟩])
      (.ret))
    (.skip))))
  (.reg [⟨some 8, .mov (.t 3), none, none⟩,
      ⟨some 9, .bin .add (.t 8) (.c (.int .i64 1)), none, none⟩,
      ⟨some 3, .mov (.t 9), none, none⟩])))
def ir_archipelagoref8_Rising : IFn :=
  { params := 1, results := [.tmp 2], body :=
  (.seq (.reg [⟨some 2, .mov (.c (.bool false)), none, none⟩])
  (.seq (.seq (.reg [⟨some 3, .mov (.c (.int .i64 1)), none, none⟩])
  (.block 0
  (.loop [0, 3] archipelagoref8_Rising_b0)))
  (.seq (.reg [⟨some 2, .mov (.c (.bool true)), none, none⟩])
  (.ret)))) }
def archipelagoref8_Turn_b0 : IC :=
  (.seq (.seq (.regD [0, 1, 2, 3, 4, 5, 6, 7, 8, 9, 10, 11, 12] [⟨some 33, .mov (.t 6), none, none⟩,
      ⟨some 34, .mov (.t 0), none, none⟩,
      ⟨some 35, .len .sl (.t 34), none, none⟩,
      ⟨some 36, .bin .lss (.t 33) (.t 35), none, none⟩,
      ⟨some 37, .mov (.t 36), none, none⟩,
      ⟨some 38, .mov (.t 0), (some (37, true)), none⟩,
      ⟨some 39, .mov (.t 6), (some (37, true)), none⟩,
      ⟨some 40, .iaddr 2 (.t 38) (.t 39), (some (37, true)), none⟩,
      ⟨some 41, .load 2 true (.t 40), (some (37, true)), none⟩,
      ⟨some 42, .faddr 1 (.t 3), (some (37, true)), none⟩,
      ⟨some 43, .load 2 true (.t 42), (some (37, true)), none⟩,
      ⟨some 44, .call fid_archipelagoref8_Less [(.t 41), (.t 43)], (some (37, true)), none⟩,
      ⟨some 45, .pick (.t 37) (.t 44) (.c (.bool false)), none, none⟩])
  (.cond (.t 45)
  (.skip)
  (.exit 0)))
  (.block 1
  (.reg [⟨some 46, .mov (.t 6), none, none⟩,
        ⟨some 47, .bin .add (.t 46) (.c (.int .i64 1)), none, none⟩,
        ⟨some 6, .mov (.t 47), none, none⟩])))
def ir_archipelagoref8_Turn : IFn :=
  { params := 2, results := [.tmp 4, .tmp 5], body :=
  (.seq (.reg [⟨some 3, .box (.t 1), none, none⟩,
      ⟨some 4, .mov (.c .nils), none, none⟩,
      ⟨some 5, .mov (.c (.bool false)), none, none⟩])
  (.seq (.reg [⟨some 7, .mov (.t 0), none, none⟩,
      ⟨some 8, .faddr 1 (.t 3), none, none⟩,
      ⟨some 9, .load 2 true (.t 8), none, none⟩,
      ⟨some 10, .call fid_archipelagoref8_Find [(.t 7), (.t 9)], none, none⟩,
      ⟨some 6, .mov (.t 10), none, none⟩])
  (.seq (.seq (.reg [⟨some 11, .mov (.t 0), none, none⟩,
      ⟨some 12, .call fid_archipelagoref8_Rising [(.t 11)], none, none⟩,
      ⟨some 13, .un .not (.t 12), none, none⟩,
      ⟨some 14, .mov (.t 13), none, none⟩,
      ⟨some 15, .faddr 3 (.t 3), (some (14, false)), none⟩,
      ⟨some 16, .load 1 false (.t 15), (some (14, false)), none⟩,
      ⟨some 17, .mov (.t 6), (some (14, false)), none⟩,
      ⟨some 18, .bin .geq (.t 17) (.c (.int .i64 0)), (some (14, false)), none⟩,
      ⟨some 19, .eq .bool false (.t 16) (.t 18), (some (14, false)), none⟩,
      ⟨some 20, .pick (.t 14) (.c (.bool true)) (.t 19), none, none⟩])
  (.cond (.t 20)
  (.seq (.reg [⟨some 4, .mov (.c .nils), none, none⟩,
        ⟨some 5, .mov (.c (.bool false)), none, none⟩])
    (.ret))
  (.skip)))
  (.seq (.seq (.reg [⟨some 21, .faddr 3 (.t 3), none, none⟩,
      ⟨some 22, .load 1 false (.t 21), none, none⟩,
      ⟨some 23, .un .not (.t 22), none, none⟩])
  (.cond (.t 23)
  (.seq (.regD [0, 1, 2, 3, 4, 5, 6, 7, 8, 9, 10] [⟨some 24, .mov (.t 0), none, none⟩,
        ⟨some 25, .mov (.t 6), none, none⟩,
        ⟨some 26, .slice false 2 (.t 24) none (some (.t 25)) none, none, none⟩,
        ⟨some 27, .append 2 8 (.c .nils) (.t 26), none, none⟩,
        ⟨some 28, .mov (.t 0), none, none⟩,
        ⟨some 29, .mov (.t 6), none, none⟩,
        ⟨some 30, .bin .add (.t 29) (.c (.int .i64 1)), none, none⟩,
        ⟨some 31, .slice false 2 (.t 28) (some (.t 30)) none none, none, none⟩,
        ⟨some 32, .append 2 8 (.t 27) (.t 31), none, none⟩,
        ⟨some 4, .mov (.t 32), none, none⟩,
        ⟨some 5, .mov (.c (.bool true)), none, none⟩])
    (.ret))
  (.skip)))
  (.seq (.reg [⟨some 6, .mov (.c (.int .i64 0)), none, none⟩])
  (.seq (.block 0
  (.loop [0, 3, 6] archipelagoref8_Turn_b0))
  (.seq (.regD [0, 1, 2, 3, 4, 5, 6, 7, 8, 9, 10, 11, 12, 13] [⟨some 48, .mov (.t 0), none, none⟩,
      ⟨some 49, .mov (.t 6), none, none⟩,
      ⟨some 50, .slice false 2 (.t 48) none (some (.t 49)) none, none, none⟩,
      ⟨some 51, .append 2 8 (.c .nils) (.t 50), none, none⟩,
      ⟨some 52, .faddr 1 (.t 3), none, none⟩,
      ⟨some 53, .load 2 true (.t 52), none, some (0, 1)⟩,
      ⟨some 54, .mkrow 2 1 [(.int .u32 0), (.int .u32 0)] [(0, (.t 53))], none, none⟩,
      ⟨some 55, .append 2 8 (.t 51) (.t 54), none, none⟩,
      ⟨some 56, .mov (.t 0), none, none⟩,
      ⟨some 57, .mov (.t 6), none, none⟩,
      ⟨some 58, .slice false 2 (.t 56) (some (.t 57)) none none, none, none⟩,
      ⟨some 59, .append 2 8 (.t 55) (.t 58), none, none⟩,
      ⟨some 4, .mov (.t 59), none, none⟩,
      ⟨some 5, .mov (.c (.bool true)), none, none⟩])
  (.ret)))))))) }
def archipelagoseat_History_b0 : IC :=
  (.seq (.seq (.reg [⟨some 20, .mov (.t 8), none, none⟩,
      ⟨some 21, .bin .add (.t 20) (.c (.int .i64 2)), none, none⟩,
      ⟨some 22, .mov (.t 1), none, none⟩,
      ⟨some 23, .len .sl (.t 22), none, none⟩,
      ⟨some 24, .bin .lss (.t 21) (.t 23), none, none⟩,
      ⟨some 25, .mov (.t 24), none, none⟩,
      ⟨some 26, .mov (.t 7), (some (25, true)), none⟩,
      ⟨some 27, .len .sl (.t 26), (some (25, true)), none⟩,
      ⟨some 28, .bin .lss (.t 27) (.c (.int .i64 40)), (some (25, true)), none⟩,
      ⟨some 29, .pick (.t 25) (.t 28) (.c (.bool false)), none, none⟩])
  (.cond (.t 29)
  (.skip)
  (.exit 0)))
  (.seq (.block 1
  (.seq (.reg [⟨some 32, .mov (.t 6), none, none⟩,
        ⟨some 33, .mov (.t 1), none, none⟩,
        ⟨some 34, .mov (.t 8), none, none⟩,
        ⟨some 35, .iaddr 1 (.t 33) (.t 34), none, none⟩,
        ⟨some 36, .load 1 false (.t 35), none, none⟩,
        ⟨some 37, .bin .rem (.t 36) (.c (.int .u8 4)), none, none⟩,
        ⟨some 38, .conv .i64 (.t 37), none, none⟩,
        ⟨some 39, .bin .add (.t 32) (.t 38), none, none⟩,
        ⟨some 6, .mov (.t 39), none, none⟩])
    (.seq (.seq (.reg [⟨some 40, .mov (.t 1), none, none⟩,
        ⟨some 41, .mov (.t 8), none, none⟩,
        ⟨some 42, .iaddr 1 (.t 40) (.t 41), none, none⟩,
        ⟨some 43, .load 1 false (.t 42), none, none⟩,
        ⟨some 44, .bin .gtr (.t 43) (.c (.int .u8 240)), none, none⟩])
    (.cond (.t 44)
    (.reg [⟨some 45, .mov (.t 6), none, none⟩,
          ⟨some 46, .mov (.t 1), none, none⟩,
          ⟨some 47, .mov (.t 8), none, none⟩,
          ⟨some 48, .iaddr 1 (.t 46) (.t 47), none, none⟩,
          ⟨some 49, .load 1 false (.t 48), none, none⟩,
          ⟨some 50, .bin .rem (.t 49) (.c (.int .u8 40)), none, none⟩,
          ⟨some 51, .bin .shl (.c (.int .i64 1)) (.t 50), none, none⟩,
          ⟨some 52, .bin .add (.t 45) (.t 51), none, none⟩,
          ⟨some 6, .mov (.t 52), none, none⟩])
    (.skip)))
    (.seq (.regD [0, 1, 2, 3, 4, 5, 6, 7, 8, 9, 10, 11, 12, 13, 14, 16, 17, 15, 18] [⟨some 54, .mov (.t 1), none, none⟩,
        ⟨some 55, .mov (.t 8), none, none⟩,
        ⟨some 56, .bin .add (.t 55) (.c (.int .i64 1)), none, none⟩,
        ⟨some 57, .iaddr 1 (.t 54) (.t 56), none, none⟩,
        ⟨some 58, .load 1 false (.t 57), none, none⟩,
        ⟨some 59, .mov (.t 1), none, none⟩,
        ⟨some 60, .mov (.t 8), none, none⟩,
        ⟨some 61, .bin .add (.t 60) (.c (.int .i64 2)), none, none⟩,
        ⟨some 62, .iaddr 1 (.t 59) (.t 61), none, none⟩,
        ⟨some 63, .load 1 false (.t 62), none, none⟩,
        ⟨some 64, .faddr 0 (.t 5), none, none⟩,
        ⟨some 65, .load 1 false (.t 64), none, none⟩,
        ⟨some 66, .call fid_archipelagoseat_Edge [(.t 58), (.t 63), (.t 65)], none, none⟩,
        ⟨some 53, .mov (.t 66), none, none⟩,
        ⟨some 67, .extract (.t 53) 0, none, none⟩,
        ⟨some 9, .box (.c (.agg [(.int .u32 0), (.int .u32 0)])), none, none⟩,
        ⟨none, .store 2 (.t 9) (.t 67), none, none⟩,
        ⟨some 68, .extract (.t 53) 1, none, none⟩,
        ⟨some 10, .mov (.t 68), none, none⟩])
    (.seq (.reg [⟨some 69, .mov (.t 10), none, none⟩])
    (.cond (.t 69)
    (.reg [⟨some 70, .mov (.t 7), none, none⟩,
          ⟨some 71, .mov (.t 6), none, none⟩,
          ⟨some 72, .load 2 true (.t 9), none, none⟩,
          ⟨some 73, .build [(.int .i64 0), (.int .u32 0), (.int .u32 0), (.bool false)] [(0, 1, (.t 71)), (1, 2, (.t 72))], none, none⟩,
          ⟨some 74, .call fid_archipelagoseat_insert [(.t 70), (.t 73)], none, none⟩,
          ⟨some 7, .mov (.t 74), none, none⟩])
    (.skip)))))))
  (.reg [⟨some 30, .mov (.t 8), none, none⟩,
      ⟨some 31, .bin .add (.t 30) (.c (.int .i64 3)), none, none⟩,
      ⟨some 8, .mov (.t 31), none, none⟩])))
def archipelagoseat_History_b1 : IC :=
  (.seq (.seq (.reg [⟨some 75, .mov (.t 12), none, none⟩,
      ⟨some 76, .mov (.t 7), none, none⟩,
      ⟨some 77, .len .sl (.t 76), none, none⟩,
      ⟨some 78, .bin .lss (.t 75) (.t 77), none, none⟩])
  (.cond (.t 78)
  (.skip)
  (.exit 2)))
  (.seq (.block 3
  (.seq (.reg [⟨some 81, .mov (.t 7), none, none⟩,
        ⟨some 82, .mov (.t 12), none, none⟩,
        ⟨some 83, .iaddr 4 (.t 81) (.t 82), none, none⟩,
        ⟨some 84, .load 4 true (.t 83), none, none⟩,
        ⟨some 13, .box (.c (.agg [(.int .i64 0), (.int .u32 0), (.int .u32 0), (.bool false)])), none, none⟩,
        ⟨none, .store 4 (.t 13) (.t 84), none, none⟩])
    (.seq (.reg [⟨some 85, .mov (.t 11), none, none⟩,
        ⟨some 86, .faddr 1 (.t 13), none, none⟩,
        ⟨some 87, .load 2 true (.t 86), none, none⟩,
        ⟨some 88, .call fid_archipelagoref8_Has [(.t 85), (.t 87)], none, none⟩,
        ⟨some 89, .un .not (.t 88), none, none⟩,
        ⟨some 90, .faddr 3 (.t 13), none, none⟩,
        ⟨none, .store 1 (.t 90) (.t 89), none, none⟩])
    (.seq (.reg [⟨some 92, .mov (.t 11), none, none⟩,
        ⟨some 93, .load 4 true (.t 13), none, none⟩,
        ⟨some 94, .call fid_archipelagoref8_Turn [(.t 92), (.t 93)], none, none⟩,
        ⟨some 91, .mov (.t 94), none, none⟩,
        ⟨some 95, .extract (.t 91) 0, none, none⟩,
        ⟨some 96, .extract (.t 91) 1, none, none⟩,
        ⟨some 11, .mov (.t 95), none, none⟩])
    (.reg [⟨some 97, .faddr 1 (.t 5), none, none⟩,
        ⟨some 98, .load 1 false (.t 97), none, none⟩,
        ⟨some 99, .load 4 true (.t 13), none, none⟩,
        ⟨some 100, .mkrow 4 1 [(.int .i64 0), (.int .u32 0), (.int .u32 0), (.bool false)] [(0, (.t 99))], none, none⟩,
        ⟨some 101, .append 4 24 (.t 98) (.t 100), none, none⟩,
        ⟨some 102, .faddr 1 (.t 5), none, none⟩,
        ⟨none, .store 1 (.t 102) (.t 101), none, none⟩])))))
  (.reg [⟨some 79, .mov (.t 12), none, none⟩,
      ⟨some 80, .bin .add (.t 79) (.c (.int .i64 1)), none, none⟩,
      ⟨some 12, .mov (.t 80), none, none⟩])))
def ir_archipelagoseat_History : IFn :=
  { params := 2, results := [.cell 4 2 true], body :=
  (.seq (.reg [⟨some 4, .box (.c (.agg [(.int .u64 0), .nils])), none, none⟩])
  (.seq (.reg [⟨some 14, .mov (.t 0), none, none⟩,
      ⟨some 15, .call fid_archipelagoseat_Vertices [(.t 14)], none, none⟩,
      ⟨some 16, .build [(.int .u64 0), .nils] [(0, 1, (.t 15))], none, none⟩,
      ⟨some 5, .box (.c (.agg [(.int .u64 0), .nils])), none, none⟩,
      ⟨none, .store 2 (.t 5) (.t 16), none, none⟩])
  (.seq (.reg [⟨some 17, .mov (.t 0), none, none⟩,
      ⟨some 18, .bin .rem (.t 17) (.c (.int .u8 3)), none, none⟩,
      ⟨some 19, .conv .i64 (.t 18), none, none⟩,
      ⟨some 6, .mov (.t 19), none, none⟩])
  (.seq (.reg [⟨some 7, .mov (.c .nils), none, none⟩])
  (.seq (.seq (.reg [⟨some 8, .mov (.c (.int .i64 0)), none, none⟩])
  (.block 0
  (.loop [1, 4, 5, 6, 7, 8] archipelagoseat_History_b0)))
  (.seq (.reg [⟨some 11, .mov (.c .nils), none, none⟩])
  (.seq (.seq (.reg [⟨some 12, .mov (.c (.int .i64 0)), none, none⟩])
  (.block 2
  (.loop [4, 5, 7, 11, 12] archipelagoseat_History_b1)))
  (.seq (.reg [⟨some 103, .load 2 true (.t 5), none, none⟩,
      ⟨none, .store 2 (.t 4) (.t 103), none, none⟩])
  (.ret))))))))) }
def ir_archipelagoseat_Bent : IFn :=
  { params := 4, results := [.cell 8 2 true], body :=
  (.seq (.reg [⟨some 4, .box (.t 0), none, none⟩,
      ⟨some 8, .box (.c (.agg [(.int .u64 0), .nils])), none, none⟩])
  (.seq (.reg [⟨some 12, .faddr 1 (.t 4), none, none⟩,
      ⟨some 13, .load 1 false (.t 12), none, none⟩,
      ⟨some 14, .append 4 24 (.c .nils) (.t 13), none, none⟩,
      ⟨some 9, .mov (.t 14), none, none⟩])
  (.seq (.reg [⟨some 15, .faddr 0 (.t 4), none, none⟩,
      ⟨some 16, .load 1 false (.t 15), none, none⟩,
      ⟨some 17, .mov (.t 9), none, none⟩,
      ⟨some 18, .build [(.int .u64 0), .nils] [(0, 1, (.t 16)), (1, 1, (.t 17))], none, none⟩,
      ⟨some 10, .box (.c (.agg [(.int .u64 0), .nils])), none, none⟩,
      ⟨none, .store 2 (.t 10) (.t 18), none, none⟩])
  (.seq (.seq (.reg [⟨some 19, .mov (.t 9), none, none⟩,
      ⟨some 20, .len .sl (.t 19), none, none⟩,
      ⟨some 21, .bin .eql (.t 20) (.c (.int .i64 0)), none, none⟩])
  (.cond (.t 21)
  (.seq (.reg [⟨some 22, .mov (.t 3), none, none⟩,
        ⟨some 23, .conv .u64 (.t 22), none, none⟩,
        ⟨some 24, .faddr 0 (.t 10), none, none⟩,
        ⟨none, .store 1 (.t 24) (.t 23), none, none⟩])
    (.seq (.reg [⟨some 25, .load 2 true (.t 10), none, none⟩,
        ⟨none, .store 2 (.t 8) (.t 25), none, none⟩])
    (.ret)))
  (.skip)))
  (.seq (.reg [⟨some 26, .mov (.t 2), none, none⟩,
      ⟨some 27, .conv .i64 (.t 26), none, none⟩,
      ⟨some 28, .mov (.t 9), none, none⟩,
      ⟨some 29, .len .sl (.t 28), none, none⟩,
      ⟨some 30, .bin .rem (.t 27) (.t 29), none, none⟩,
      ⟨some 11, .mov (.t 30), none, none⟩])
  (.seq (.seq (.reg [⟨some 31, .mov (.t 1), none, none⟩,
      ⟨some 32, .bin .rem (.t 31) (.c (.int .u8 8)), none, none⟩])
  (.block 0
  (.seq (.reg [⟨some 42, .bin .eql (.t 32) (.c (.int .u8 0)), none, none⟩,
        ⟨some 41, .mov (.t 42), none, none⟩])
    (.cond (.t 41)
    (.reg [⟨some 43, .mov (.t 3), none, none⟩,
          ⟨some 44, .conv .u64 (.t 43), none, none⟩,
          ⟨some 45, .faddr 0 (.t 10), none, none⟩,
          ⟨none, .store 1 (.t 45) (.t 44), none, none⟩])
    (.seq (.reg [⟨some 47, .bin .eql (.t 32) (.c (.int .u8 1)), none, none⟩,
          ⟨some 46, .mov (.t 47), none, none⟩])
      (.cond (.t 46)
      (.reg [⟨some 48, .mov (.t 9), none, none⟩,
            ⟨some 49, .mov (.t 11), none, none⟩,
            ⟨some 50, .mov (.t 3), none, none⟩,
            ⟨some 51, .iaddr 4 (.t 48) (.t 49), none, none⟩,
            ⟨some 52, .faddr 0 (.t 51), none, none⟩,
            ⟨none, .store 1 (.t 52) (.t 50), none, none⟩])
      (.seq (.reg [⟨some 54, .bin .eql (.t 32) (.c (.int .u8 2)), none, none⟩,
            ⟨some 53, .mov (.t 54), none, none⟩])
        (.cond (.t 53)
        (.reg [⟨some 55, .mov (.t 9), none, none⟩,
              ⟨some 56, .mov (.t 11), none, none⟩,
              ⟨some 57, .mov (.t 3), none, none⟩,
              ⟨some 58, .conv .u32 (.t 57), none, none⟩,
              ⟨some 59, .iaddr 4 (.t 55) (.t 56), none, none⟩,
              ⟨some 60, .faddr 1 (.t 59), none, none⟩,
              ⟨some 61, .faddr 0 (.t 60), none, none⟩,
              ⟨none, .store 1 (.t 61) (.t 58), none, none⟩])
        (.seq (.reg [⟨some 63, .bin .eql (.t 32) (.c (.int .u8 3)), none, none⟩,
              ⟨some 62, .mov (.t 63), none, none⟩])
          (.cond (.t 62)
          (.reg [⟨some 64, .mov (.t 9), none, none⟩,
                ⟨some 65, .mov (.t 11), none, none⟩,
                ⟨some 66, .mov (.t 3), none, none⟩,
                ⟨some 67, .conv .u32 (.t 66), none, none⟩,
                ⟨some 68, .iaddr 4 (.t 64) (.t 65), none, none⟩,
                ⟨some 69, .faddr 1 (.t 68), none, none⟩,
                ⟨some 70, .faddr 1 (.t 69), none, none⟩,
                ⟨none, .store 1 (.t 70) (.t 67), none, none⟩])
          (.seq (.reg [⟨some 72, .bin .eql (.t 32) (.c (.int .u8 4)), none, none⟩,
                ⟨some 71, .mov (.t 72), none, none⟩])
            (.cond (.t 71)
            (.reg [⟨some 73, .mov (.t 9), none, none⟩,
                  ⟨some 74, .mov (.t 11), none, none⟩,
                  ⟨some 75, .mov (.t 9), none, none⟩,
                  ⟨some 76, .mov (.t 11), none, none⟩,
                  ⟨some 77, .iaddr 4 (.t 75) (.t 76), none, none⟩,
                  ⟨some 78, .faddr 3 (.t 77), none, none⟩,
                  ⟨some 79, .load 1 false (.t 78), none, none⟩,
                  ⟨some 80, .un .not (.t 79), none, none⟩,
                  ⟨some 81, .iaddr 4 (.t 73) (.t 74), none, none⟩,
                  ⟨some 82, .faddr 3 (.t 81), none, none⟩,
                  ⟨none, .store 1 (.t 82) (.t 80), none, none⟩])
            (.seq (.reg [⟨some 84, .bin .eql (.t 32) (.c (.int .u8 5)), none, none⟩,
                  ⟨some 83, .mov (.t 84), none, none⟩])
              (.cond (.t 83)
              (.regD [0, 1, 3, 4, 5, 6, 7, 8, 9, 10, 11, 2, 12, 13] [⟨some 85, .mov (.t 9), none, none⟩,
                    ⟨some 86, .mov (.t 11), none, none⟩,
                    ⟨some 88, .mov (.t 9), none, none⟩,
                    ⟨some 89, .iaddr 4 (.t 88) (.c (.int .i64 0)), none, none⟩,
                    ⟨some 90, .load 4 true (.t 89), none, none⟩,
                    ⟨some 91, .mov (.t 9), none, none⟩,
                    ⟨some 92, .mov (.t 11), none, none⟩,
                    ⟨some 93, .iaddr 4 (.t 91) (.t 92), none, none⟩,
                    ⟨some 94, .load 4 true (.t 93), none, none⟩,
                    ⟨some 95, .iaddr 4 (.t 85) (.t 86), none, none⟩,
                    ⟨none, .store 4 (.t 95) (.t 90), none, none⟩,
                    ⟨some 87, .mov (.t 9), none, none⟩,
                    ⟨some 96, .iaddr 4 (.t 87) (.c (.int .i64 0)), none, none⟩,
                    ⟨none, .store 4 (.t 96) (.t 94), none, none⟩])
              (.seq (.reg [⟨some 98, .bin .eql (.t 32) (.c (.int .u8 6)), none, none⟩,
                    ⟨some 97, .mov (.t 98), none, none⟩])
                (.cond (.t 97)
                (.regD [0, 1, 2, 3, 4, 5, 6, 7, 8, 9] [⟨some 99, .mov (.t 9), none, none⟩,
                      ⟨some 100, .mov (.t 11), none, none⟩,
                      ⟨some 101, .slice false 4 (.t 99) none (some (.t 100)) none, none, none⟩,
                      ⟨some 102, .mov (.t 9), none, none⟩,
                      ⟨some 103, .mov (.t 11), none, none⟩,
                      ⟨some 104, .bin .add (.t 103) (.c (.int .i64 1)), none, none⟩,
                      ⟨some 105, .slice false 4 (.t 102) (some (.t 104)) none none, none, none⟩,
                      ⟨some 106, .append 4 24 (.t 101) (.t 105), none, none⟩,
                      ⟨some 107, .faddr 1 (.t 10), none, none⟩,
                      ⟨none, .store 1 (.t 107) (.t 106), none, none⟩])
                (.reg [⟨some 33, .mov (.t 9), none, none⟩,
                      ⟨some 34, .mov (.t 11), none, none⟩,
                      ⟨some 35, .iaddr 4 (.t 33) (.t 34), none, none⟩,
                      ⟨some 36, .faddr 1 (.t 35), none, none⟩,
                      ⟨some 37, .faddr 1 (.t 36), none, none⟩,
                      ⟨some 38, .load 1 false (.t 37), none, none⟩,
                      ⟨some 39, .conv .u64 (.t 38), none, none⟩,
                      ⟨some 40, .faddr 0 (.t 10), none, none⟩,
                      ⟨none, .store 1 (.t 40) (.t 39), none, none⟩])))))))))))))))))
  (.seq (.reg [⟨some 108, .load 2 true (.t 10), none, none⟩,
      ⟨none, .store 2 (.t 8) (.t 108), none, none⟩])
  (.ret)))))))) }
def archipelagoseat_Late_b0 : IC :=
  (.seq (.seq (.reg [⟨some 25, .mov (.t 6), none, none⟩,
      ⟨some 26, .mov (.t 3), none, none⟩,
      ⟨some 27, .bin .lss (.t 25) (.t 26), none, none⟩])
  (.cond (.t 27)
  (.skip)
  (.exit 0)))
  (.seq (.block 1
  (.seq (.reg [⟨some 30, .faddr 1 (.t 1), none, none⟩,
        ⟨some 31, .load 1 false (.t 30), none, none⟩,
        ⟨some 32, .mov (.t 6), none, none⟩,
        ⟨some 33, .iaddr 4 (.t 31) (.t 32), none, none⟩,
        ⟨some 34, .load 4 true (.t 33), none, none⟩,
        ⟨some 7, .box (.c (.agg [(.int .i64 0), (.int .u32 0), (.int .u32 0), (.bool false)])), none, none⟩,
        ⟨none, .store 4 (.t 7) (.t 34), none, none⟩])
    (.seq (.reg [⟨some 35, .faddr 0 (.t 7), none, none⟩,
        ⟨some 36, .load 1 false (.t 35), none, none⟩,
        ⟨some 37, .mov (.t 4), none, none⟩,
        ⟨some 38, .bin .add (.t 36) (.t 37), none, none⟩,
        ⟨some 39, .faddr 0 (.t 7), none, none⟩,
        ⟨none, .store 1 (.t 39) (.t 38), none, none⟩])
    (.reg [⟨some 40, .faddr 1 (.t 5), none, none⟩,
        ⟨some 41, .load 1 false (.t 40), none, none⟩,
        ⟨some 42, .load 4 true (.t 7), none, none⟩,
        ⟨some 43, .mkrow 4 1 [(.int .i64 0), (.int .u32 0), (.int .u32 0), (.bool false)] [(0, (.t 42))], none, none⟩,
        ⟨some 44, .append 4 24 (.t 41) (.t 43), none, none⟩,
        ⟨some 45, .faddr 1 (.t 5), none, none⟩,
        ⟨none, .store 1 (.t 45) (.t 44), none, none⟩]))))
  (.reg [⟨some 28, .mov (.t 6), none, none⟩,
      ⟨some 29, .bin .add (.t 28) (.c (.int .i64 1)), none, none⟩,
      ⟨some 6, .mov (.t 29), none, none⟩])))
def ir_archipelagoseat_Late : IFn :=
  { params := 1, results := [.cell 2 2 true], body :=
  (.seq (.reg [⟨some 1, .box (.t 0), none, none⟩,
      ⟨some 2, .box (.c (.agg [(.int .u64 0), .nils])), none, none⟩])
  (.seq (.reg [⟨some 8, .faddr 1 (.t 1), none, none⟩,
      ⟨some 9, .load 1 false (.t 8), none, none⟩,
      ⟨some 10, .len .sl (.t 9), none, none⟩,
      ⟨some 3, .mov (.t 10), none, none⟩])
  (.seq (.seq (.reg [⟨some 11, .mov (.t 3), none, none⟩,
      ⟨some 12, .bin .eql (.t 11) (.c (.int .i64 0)), none, none⟩])
  (.cond (.t 12)
  (.seq (.reg [⟨some 13, .load 2 true (.t 1), none, none⟩,
        ⟨none, .store 2 (.t 2) (.t 13), none, none⟩])
    (.ret))
  (.skip)))
  (.seq (.reg [⟨some 14, .faddr 1 (.t 1), none, none⟩,
      ⟨some 15, .load 1 false (.t 14), none, none⟩,
      ⟨some 16, .mov (.t 3), none, none⟩,
      ⟨some 17, .bin .sub (.t 16) (.c (.int .i64 1)), none, none⟩,
      ⟨some 18, .iaddr 4 (.t 15) (.t 17), none, none⟩,
      ⟨some 19, .faddr 0 (.t 18), none, none⟩,
      ⟨some 20, .load 1 false (.t 19), none, none⟩,
      ⟨some 21, .bin .sub (.c (.int .i64 4611686018427387903)) (.t 20), none, none⟩,
      ⟨some 4, .mov (.t 21), none, none⟩])
  (.seq (.reg [⟨some 22, .faddr 0 (.t 1), none, none⟩,
      ⟨some 23, .load 1 false (.t 22), none, none⟩,
      ⟨some 24, .build [(.int .u64 0), .nils] [(0, 1, (.t 23))], none, none⟩,
      ⟨some 5, .box (.c (.agg [(.int .u64 0), .nils])), none, none⟩,
      ⟨none, .store 2 (.t 5) (.t 24), none, none⟩])
  (.seq (.seq (.reg [⟨some 6, .mov (.c (.int .i64 0)), none, none⟩])
  (.block 0
  (.loop [1, 2, 3, 4, 5, 6] archipelagoseat_Late_b0)))
  (.seq (.reg [⟨some 46, .load 2 true (.t 5), none, none⟩,
      ⟨none, .store 2 (.t 2) (.t 46), none, none⟩])
  (.ret)))))))) }
def ir_archipelagoref8_Right : IFn :=
  { params := 2, results := [.tmp 4], body :=
  (.seq (.reg [⟨some 2, .box (.t 0), none, none⟩,
      ⟨some 4, .mov (.c (.bool false)), none, none⟩])
  (.seq (.reg [⟨some 5, .faddr 0 (.t 2), none, none⟩,
      ⟨some 6, .load 1 false (.t 5), none, none⟩,
      ⟨some 7, .faddr 1 (.t 2), none, none⟩,
      ⟨some 8, .load 1 false (.t 7), none, none⟩,
      ⟨some 9, .bin .lss (.t 6) (.t 8), none, none⟩,
      ⟨some 10, .mov (.t 9), none, none⟩,
      ⟨some 11, .faddr 1 (.t 2), (some (10, true)), none⟩,
      ⟨some 12, .load 1 false (.t 11), (some (10, true)), none⟩,
      ⟨some 13, .conv .u64 (.t 12), (some (10, true)), none⟩,
      ⟨some 14, .mov (.t 1), (some (10, true)), none⟩,
      ⟨some 15, .bin .lss (.t 13) (.t 14), (some (10, true)), none⟩,
      ⟨some 16, .pick (.t 10) (.t 15) (.c (.bool false)), none, none⟩,
      ⟨some 4, .mov (.t 16), none, none⟩])
  (.ret))) }
def archipelagoref8_Check_b0 : IC :=
  (.seq (.seq (.reg [⟨some 18, .mov (.t 5), none, none⟩,
      ⟨some 19, .faddr 1 (.t 1), none, none⟩,
      ⟨some 20, .load 1 false (.t 19), none, none⟩,
      ⟨some 21, .len .sl (.t 20), none, none⟩,
      ⟨some 22, .bin .lss (.t 18) (.t 21), none, none⟩])
  (.cond (.t 22)
  (.skip)
  (.exit 0)))
  (.seq (.block 1
  (.seq (.reg [⟨some 25, .faddr 1 (.t 1), none, none⟩,
        ⟨some 26, .load 1 false (.t 25), none, none⟩,
        ⟨some 27, .mov (.t 5), none, none⟩,
        ⟨some 28, .iaddr 4 (.t 26) (.t 27), none, none⟩,
        ⟨some 29, .load 4 true (.t 28), none, none⟩,
        ⟨some 6, .box (.c (.agg [(.int .i64 0), (.int .u32 0), (.int .u32 0), (.bool false)])), none, none⟩,
        ⟨none, .store 4 (.t 6) (.t 29), none, none⟩])
    (.seq (.block 2
    (.seq (.reg [⟨some 31, .faddr 0 (.t 6), none, none⟩,
          ⟨some 32, .load 1 false (.t 31), none, none⟩,
          ⟨some 33, .bin .lss (.t 32) (.c (.int .i64 0)), none, none⟩,
          ⟨some 34, .mov (.t 33), none, none⟩,
          ⟨some 35, .faddr 0 (.t 6), (some (34, false)), none⟩,
          ⟨some 36, .load 1 false (.t 35), (some (34, false)), none⟩,
          ⟨some 37, .bin .gtr (.t 36) (.c (.int .i64 4611686018427387903)), (some (34, false)), none⟩,
          ⟨some 38, .pick (.t 34) (.c (.bool true)) (.t 37), none, none⟩,
          ⟨some 30, .mov (.t 38), none, none⟩])
      (.cond (.t 30)
      (.seq (.reg [⟨some 39, .mov (.t 5), none, none⟩,
            ⟨some 2, .mov (.t 39), none, none⟩,
            ⟨some 3, .mov (.c (.int .i64 26)), none, none⟩])
        (.ret))
      (.seq (.reg [⟨some 41, .faddr 1 (.t 6), none, none⟩,
            ⟨some 42, .load 2 true (.t 41), none, none⟩,
            ⟨some 43, .faddr 0 (.t 1), none, none⟩,
            ⟨some 44, .load 1 false (.t 43), none, none⟩,
            ⟨some 45, .call fid_archipelagoref8_Right [(.t 42), (.t 44)], none, none⟩,
            ⟨some 46, .un .not (.t 45), none, none⟩,
            ⟨some 40, .mov (.t 46), none, none⟩])
        (.cond (.t 40)
        (.seq (.reg [⟨some 47, .mov (.t 5), none, none⟩,
              ⟨some 2, .mov (.t 47), none, none⟩,
              ⟨some 3, .mov (.c (.int .i64 24)), none, none⟩])
          (.ret))
        (.seq (.regD [0, 1, 2, 3, 4, 5, 6, 7, 8, 9, 10, 11, 12, 13] [⟨some 49, .mov (.t 5), none, none⟩,
              ⟨some 50, .bin .gtr (.t 49) (.c (.int .i64 0)), none, none⟩,
              ⟨some 51, .mov (.t 50), none, none⟩,
              ⟨some 52, .faddr 1 (.t 1), (some (51, true)), none⟩,
              ⟨some 53, .load 1 false (.t 52), (some (51, true)), none⟩,
              ⟨some 54, .mov (.t 5), (some (51, true)), none⟩,
              ⟨some 55, .bin .sub (.t 54) (.c (.int .i64 1)), (some (51, true)), none⟩,
              ⟨some 56, .iaddr 4 (.t 53) (.t 55), (some (51, true)), none⟩,
              ⟨some 57, .load 4 true (.t 56), (some (51, true)), none⟩,
              ⟨some 58, .load 4 true (.t 6), (some (51, true)), none⟩,
              ⟨some 59, .call fid_archipelagoref8_Before [(.t 57), (.t 58)], (some (51, true)), none⟩,
              ⟨some 60, .un .not (.t 59), (some (51, true)), none⟩,
              ⟨some 61, .pick (.t 51) (.t 60) (.c (.bool false)), none, none⟩,
              ⟨some 48, .mov (.t 61), none, none⟩])
          (.cond (.t 48)
          (.seq (.reg [⟨some 62, .mov (.t 5), none, none⟩,
                ⟨some 2, .mov (.t 62), none, none⟩,
                ⟨some 3, .mov (.c (.int .i64 23)), none, none⟩])
            (.ret))
          (.skip))))))))
    (.seq (.reg [⟨some 64, .mov (.t 4), none, none⟩,
        ⟨some 65, .load 4 true (.t 6), none, none⟩,
        ⟨some 66, .call fid_archipelagoref8_Turn [(.t 64), (.t 65)], none, none⟩,
        ⟨some 63, .mov (.t 66), none, none⟩,
        ⟨some 67, .extract (.t 63) 0, none, none⟩,
        ⟨some 68, .extract (.t 63) 1, none, none⟩,
        ⟨some 7, .mov (.t 67), none, none⟩,
        ⟨some 8, .mov (.t 68), none, none⟩])
    (.seq (.seq (.reg [⟨some 69, .mov (.t 8), none, none⟩,
        ⟨some 70, .un .not (.t 69), none, none⟩])
    (.cond (.t 70)
    (.seq (.reg [⟨some 71, .mov (.t 5), none, none⟩,
          ⟨some 2, .mov (.t 71), none, none⟩,
          ⟨some 3, .mov (.c (.int .i64 25)), none, none⟩])
      (.ret))
    (.skip)))
    (.reg [⟨some 72, .mov (.t 7), none, none⟩,
        ⟨some 4, .mov (.t 72), none, none⟩]))))))
  (.reg [⟨some 23, .mov (.t 5), none, none⟩,
      ⟨some 24, .bin .add (.t 23) (.c (.int .i64 1)), none, none⟩,
      ⟨some 5, .mov (.t 24), none, none⟩])))
def ir_archipelagoref8_Check : IFn :=
  { params := 1, results := [.tmp 2, .tmp 3], body :=
  (.seq (.reg [⟨some 1, .box (.t 0), none, none⟩,
      ⟨some 2, .mov (.c (.int .i64 0)), none, none⟩,
      ⟨some 3, .mov (.c (.int .i64 0)), none, none⟩])
  (.seq (.seq (.reg [⟨some 9, .faddr 0 (.t 1), none, none⟩,
      ⟨some 10, .load 1 false (.t 9), none, none⟩,
      ⟨some 11, .bin .gtr (.t 10) (.c (.int .u64 4294967296)), none, none⟩,
      ⟨some 12, .mov (.t 11), none, none⟩,
      ⟨some 13, .faddr 1 (.t 1), (some (12, false)), none⟩,
      ⟨some 14, .load 1 false (.t 13), (some (12, false)), none⟩,
      ⟨some 15, .len .sl (.t 14), (some (12, false)), none⟩,
      ⟨some 16, .bin .gtr (.t 15) (.c (.int .i64 2147483648)), (some (12, false)), none⟩,
      ⟨some 17, .pick (.t 12) (.c (.bool true)) (.t 16), none, none⟩])
  (.cond (.t 17)
  (.seq (.reg [⟨some 2, .mov (.c (.int .i64 0)), none, none⟩,
        ⟨some 3, .mov (.c (.int .i64 26)), none, none⟩])
    (.ret))
  (.skip)))
  (.seq (.reg [⟨some 4, .mov (.c .nils), none, none⟩])
  (.seq (.seq (.reg [⟨some 5, .mov (.c (.int .i64 0)), none, none⟩])
  (.block 0
  (.loop [1, 4, 5] archipelagoref8_Check_b0)))
  (.seq (.reg [⟨some 2, .mov (.c (.int .i64 0)), none, none⟩,
      ⟨some 3, .mov (.c (.int .i64 0)), none, none⟩])
  (.ret)))))) }
def archipelagoref8_SameEvents_b0 : IC :=
  (.seq (.seq (.reg [⟨some 11, .mov (.t 5), none, none⟩,
      ⟨some 12, .mov (.t 0), none, none⟩,
      ⟨some 13, .len .sl (.t 12), none, none⟩,
      ⟨some 14, .bin .lss (.t 11) (.t 13), none, none⟩])
  (.cond (.t 14)
  (.skip)
  (.exit 0)))
  (.seq (.block 1
  (.seq (.regD [0, 1, 2, 3, 4, 5, 6, 7, 8] [⟨some 17, .mov (.t 0), none, none⟩,
        ⟨some 18, .mov (.t 5), none, none⟩,
        ⟨some 19, .iaddr 4 (.t 17) (.t 18), none, none⟩,
        ⟨some 20, .load 4 true (.t 19), none, none⟩,
        ⟨some 21, .mov (.t 1), none, none⟩,
        ⟨some 22, .mov (.t 5), none, none⟩,
        ⟨some 23, .iaddr 4 (.t 21) (.t 22), none, none⟩,
        ⟨some 24, .load 4 true (.t 23), none, none⟩,
        ⟨some 25, .eq (.struct [.int, .int, .int, .bool]) true (.t 20) (.t 24), none, none⟩])
    (.cond (.t 25)
    (.seq (.reg [⟨some 4, .mov (.c (.bool false)), none, none⟩])
      (.ret))
    (.skip))))
  (.reg [⟨some 15, .mov (.t 5), none, none⟩,
      ⟨some 16, .bin .add (.t 15) (.c (.int .i64 1)), none, none⟩,
      ⟨some 5, .mov (.t 16), none, none⟩])))
def ir_archipelagoref8_SameEvents : IFn :=
  { params := 2, results := [.tmp 4], body :=
  (.seq (.reg [⟨some 4, .mov (.c (.bool false)), none, none⟩])
  (.seq (.seq (.reg [⟨some 6, .mov (.t 0), none, none⟩,
      ⟨some 7, .len .sl (.t 6), none, none⟩,
      ⟨some 8, .mov (.t 1), none, none⟩,
      ⟨some 9, .len .sl (.t 8), none, none⟩,
      ⟨some 10, .bin .neq (.t 7) (.t 9), none, none⟩])
  (.cond (.t 10)
  (.seq (.reg [⟨some 4, .mov (.c (.bool false)), none, none⟩])
    (.ret))
  (.skip)))
  (.seq (.seq (.reg [⟨some 5, .mov (.c (.int .i64 0)), none, none⟩])
  (.block 0
  (.loop [0, 1, 5] archipelagoref8_SameEvents_b0)))
  (.seq (.reg [⟨some 4, .mov (.c (.bool true)), none, none⟩])
  (.ret))))) }
def ir_archipelagoref8_Same : IFn :=
  { params := 2, results := [.tmp 4], body :=
  (.seq (.reg [⟨some 2, .box (.t 0), none, none⟩,
      ⟨some 3, .box (.t 1), none, none⟩,
      ⟨some 4, .mov (.c (.bool false)), none, none⟩])
  (.seq (.reg [⟨some 5, .faddr 0 (.t 2), none, none⟩,
      ⟨some 6, .load 1 false (.t 5), none, none⟩,
      ⟨some 7, .faddr 0 (.t 3), none, none⟩,
      ⟨some 8, .load 1 false (.t 7), none, none⟩,
      ⟨some 9, .bin .eql (.t 6) (.t 8), none, none⟩,
      ⟨some 10, .mov (.t 9), none, none⟩,
      ⟨some 11, .faddr 1 (.t 2), (some (10, true)), none⟩,
      ⟨some 12, .load 1 false (.t 11), (some (10, true)), none⟩,
      ⟨some 13, .faddr 1 (.t 3), (some (10, true)), none⟩,
      ⟨some 14, .load 1 false (.t 13), (some (10, true)), none⟩,
      ⟨some 15, .call fid_archipelagoref8_SameEvents [(.t 12), (.t 14)], (some (10, true)), none⟩,
      ⟨some 16, .pick (.t 10) (.t 15) (.c (.bool false)), none, none⟩,
      ⟨some 4, .mov (.t 16), none, none⟩])
  (.ret))) }
def archipelagolaw9_HistoryTells_b0 : IC :=
  (.seq (.reg [⟨some 72, .bin .lss (.t 71) (.t 70), none, none⟩])
  (.seq (.cond (.t 72)
  (.skip)
  (.exit 0))
  (.seq (.block 1
  (.seq (.reg [⟨some 73, .iaddr 2 (.t 69) (.t 71), none, none⟩,
        ⟨some 74, .load 2 true (.t 73), none, none⟩,
        ⟨some 20, .box (.c (.agg [(.int .u64 0), .nils])), none, none⟩,
        ⟨none, .store 2 (.t 20) (.t 74), none, none⟩])
    (.seq (.reg [⟨some 76, .load 2 true (.t 20), none, none⟩,
        ⟨some 77, .call fid_history_Check [(.t 76)], none, none⟩,
        ⟨some 75, .mov (.t 77), none, none⟩,
        ⟨some 78, .extract (.t 75) 0, none, none⟩,
        ⟨some 79, .extract (.t 75) 1, none, none⟩,
        ⟨some 21, .mov (.t 78), none, none⟩,
        ⟨some 22, .mov (.t 79), none, none⟩])
    (.seq (.reg [⟨some 81, .load 2 true (.t 20), none, none⟩,
        ⟨some 82, .call fid_archipelagoref8_Check [(.t 81)], none, none⟩,
        ⟨some 80, .mov (.t 82), none, none⟩,
        ⟨some 83, .extract (.t 80) 0, none, none⟩,
        ⟨some 84, .extract (.t 80) 1, none, none⟩,
        ⟨some 23, .mov (.t 83), none, none⟩,
        ⟨some 24, .mov (.t 84), none, none⟩])
    (.seq (.seq (.regD [0, 1, 2, 3, 4, 5, 6, 7, 8, 9, 10, 11, 12, 13, 14, 15, 16, 17, 18, 19, 20, 21, 22, 23] [⟨some 85, .mov (.t 21), none, none⟩,
        ⟨some 86, .mov (.t 23), none, none⟩,
        ⟨some 87, .bin .neq (.t 85) (.t 86), none, none⟩,
        ⟨some 88, .mov (.t 87), none, none⟩,
        ⟨some 89, .mov (.t 22), (some (88, false)), none⟩,
        ⟨some 90, .mov (.t 24), (some (88, false)), none⟩,
        ⟨some 91, .bin .neq (.t 89) (.t 90), (some (88, false)), none⟩,
        ⟨some 92, .pick (.t 88) (.c (.bool true)) (.t 91), none, none⟩,
        ⟨some 93, .mov (.t 92), none, none⟩,
        ⟨some 94, .load 2 true (.t 20), (some (93, false)), none⟩,
        ⟨some 95, .load 2 true (.t 17), (some (93, false)), none⟩,
        ⟨some 96, .call fid_history_Same [(.t 94), (.t 95)], (some (93, false)), none⟩,
        ⟨some 97, .load 2 true (.t 20), (some (93, false)), some (0, 1)⟩,
        ⟨some 98, .load 2 true (.t 17), (some (93, false)), some (0, 1)⟩,
        ⟨some 99, .call fid_archipelagoref8_Same [(.t 97), (.t 98)], (some (93, false)), none⟩,
        ⟨some 100, .eq .bool true (.t 96) (.t 99), (some (93, false)), none⟩,
        ⟨some 101, .pick (.t 93) (.c (.bool true)) (.t 100), none, none⟩,
        ⟨some 102, .mov (.t 101), none, none⟩,
        ⟨some 103, .load 2 true (.t 20), (some (102, false)), none⟩,
        ⟨some 104, .call fid_history_Copy [(.t 103)], (some (102, false)), none⟩,
        ⟨some 105, .load 2 true (.t 20), (some (102, false)), some (2, 3)⟩,
        ⟨some 106, .call fid_archipelagoref8_Same [(.t 104), (.t 105)], (some (102, false)), none⟩,
        ⟨some 107, .un .not (.t 106), (some (102, false)), none⟩,
        ⟨some 108, .pick (.t 102) (.c (.bool true)) (.t 107), none, none⟩])
    (.cond (.t 108)
    (.seq (.reg [⟨some 16, .mov (.c (.bool false)), none, none⟩])
      (.ret))
    (.skip)))
    (.seq (.reg [⟨some 25, .mov (.c (.int .i64 (-1))), none, none⟩])
    (.seq (.seq (.reg [⟨some 109, .faddr 1 (.t 20), none, none⟩,
        ⟨some 110, .load 1 false (.t 109), none, none⟩,
        ⟨some 111, .len .sl (.t 110), none, none⟩,
        ⟨some 26, .mov (.t 111), none, none⟩])
    (.seq (.reg [⟨some 112, .mov (.t 26), none, none⟩,
        ⟨some 113, .bin .gtr (.t 112) (.c (.int .i64 0)), none, none⟩])
    (.cond (.t 113)
    (.reg [⟨some 114, .faddr 1 (.t 20), none, none⟩,
          ⟨some 115, .load 1 false (.t 114), none, none⟩,
          ⟨some 116, .mov (.t 26), none, none⟩,
          ⟨some 117, .bin .sub (.t 116) (.c (.int .i64 1)), none, none⟩,
          ⟨some 118, .iaddr 4 (.t 115) (.t 117), none, none⟩,
          ⟨some 119, .faddr 0 (.t 118), none, none⟩,
          ⟨some 120, .load 1 false (.t 119), none, none⟩,
          ⟨some 25, .mov (.t 120), none, none⟩])
    (.skip))))
    (.seq (.reg [⟨some 121, .load 2 true (.t 20), none, none⟩,
        ⟨some 122, .call fid_history_Last [(.t 121)], none, none⟩,
        ⟨some 123, .mov (.t 25), none, none⟩,
        ⟨some 124, .bin .neq (.t 122) (.t 123), none, none⟩])
    (.cond (.t 124)
    (.seq (.reg [⟨some 16, .mov (.c (.bool false)), none, none⟩])
      (.ret))
    (.skip))))))))))
  (.reg [⟨some 125, .bin .add (.t 71) (.c (.int .i64 1)), none, none⟩,
      ⟨some 71, .mov (.t 125), none, none⟩]))))
def ir_archipelagolaw9_HistoryTells : IFn :=
  { params := 8, results := [.tmp 16], body :=
  (.seq (.reg [⟨some 8, .box (.t 0), none, none⟩,
      ⟨some 16, .mov (.c (.bool false)), none, none⟩])
  (.seq (.seq (.reg [⟨some 29, .call fid_archipelagolaw9_known [], none, none⟩,
      ⟨some 30, .un .not (.t 29), none, none⟩])
  (.cond (.t 30)
  (.seq (.reg [⟨some 16, .mov (.c (.bool false)), none, none⟩])
    (.ret))
  (.skip)))
  (.seq (.seq (.reg [⟨some 31, .faddr 1 (.t 8), none, none⟩,
      ⟨some 32, .load 1 false (.t 31), none, none⟩,
      ⟨some 33, .len .sl (.t 32), none, none⟩,
      ⟨some 34, .bin .gtr (.t 33) (.c (.int .i64 20)), none, none⟩,
      ⟨some 35, .mov (.t 34), none, none⟩,
      ⟨some 36, .mov (.t 2), (some (35, false)), none⟩,
      ⟨some 37, .len .sl (.t 36), (some (35, false)), none⟩,
      ⟨some 38, .bin .gtr (.t 37) (.c (.int .i64 60)), (some (35, false)), none⟩,
      ⟨some 39, .pick (.t 35) (.c (.bool true)) (.t 38), none, none⟩])
  (.cond (.t 39)
  (.seq (.reg [⟨some 16, .mov (.c (.bool true)), none, none⟩])
    (.ret))
  (.skip)))
  (.seq (.reg [⟨some 40, .mov (.t 1), none, none⟩,
      ⟨some 41, .mov (.t 2), none, none⟩,
      ⟨some 42, .call fid_archipelagoseat_History [(.t 40), (.t 41)], none, none⟩,
      ⟨some 17, .box (.c (.agg [(.int .u64 0), .nils])), none, none⟩,
      ⟨none, .store 2 (.t 17) (.t 42), none, none⟩])
  (.seq (.reg [⟨some 43, .load 2 true (.t 17), none, none⟩,
      ⟨some 44, .mov (.t 3), none, none⟩,
      ⟨some 45, .mov (.t 4), none, none⟩,
      ⟨some 46, .mov (.t 5), none, none⟩,
      ⟨some 47, .call fid_archipelagoseat_Bent [(.t 43), (.t 44), (.t 45), (.t 46)], none, none⟩,
      ⟨some 18, .box (.c (.agg [(.int .u64 0), .nils])), none, none⟩,
      ⟨none, .store 2 (.t 18) (.t 47), none, none⟩])
  (.seq (.seq (.regD [3, 4, 5, 6, 7, 8, 9, 10, 11, 12, 13, 14, 15, 16, 17, 18, 19, 20, 0, 1, 2, 21, 22, 23] [⟨some 51, .load 2 true (.t 18), none, none⟩,
      ⟨some 52, .mov (.t 6), none, none⟩,
      ⟨some 53, .mov (.t 4), none, none⟩,
      ⟨some 54, .bin .quo (.t 53) (.c (.int .u8 2)), none, none⟩,
      ⟨some 55, .mov (.t 7), none, none⟩,
      ⟨some 56, .call fid_archipelagoseat_Bent [(.t 51), (.t 52), (.t 54), (.t 55)], none, none⟩,
      ⟨some 57, .load 2 true (.t 17), none, some (0, 1)⟩,
      ⟨some 58, .mov (.t 3), none, none⟩,
      ⟨some 59, .mov (.t 4), none, none⟩,
      ⟨some 60, .mov (.t 5), none, none⟩,
      ⟨some 61, .bin .and (.t 60) (.c (.int .i64 15)), none, none⟩,
      ⟨some 62, .call fid_archipelagoseat_Bent [(.t 57), (.t 58), (.t 59), (.t 61)], none, none⟩,
      ⟨some 63, .load 2 true (.t 17), none, some (0, 2)⟩,
      ⟨some 64, .call fid_archipelagoseat_Late [(.t 63)], none, none⟩,
      ⟨some 65, .load 2 true (.t 17), none, some (0, 3)⟩,
      ⟨some 66, .call fid_archipelagoseat_Late [(.t 65)], none, none⟩,
      ⟨some 67, .mov (.t 5), none, none⟩,
      ⟨some 68, .call fid_archipelagoseat_Bent [(.t 66), (.c (.int .u8 1)), (.c (.int .u8 255)), (.t 67)], none, none⟩,
      ⟨some 48, .load 2 true (.t 8), none, some (0, 5)⟩,
      ⟨some 49, .load 2 true (.t 17), none, some (0, 5)⟩,
      ⟨some 50, .load 2 true (.t 18), none, some (0, 5)⟩,
      ⟨some 69, .mkrow 2 7 [(.int .u64 0), .nils] [(0, (.t 48)), (1, (.t 49)), (2, (.t 50)), (3, (.t 56)), (4, (.t 62)), (5, (.t 64)), (6, (.t 68))], none, none⟩,
      ⟨some 70, .len .sl (.t 69), none, none⟩,
      ⟨some 71, .mov (.c (.int .i64 0)), none, none⟩])
  (.block 0
  (.loop [17, 69, 70, 71] archipelagolaw9_HistoryTells_b0)))
  (.seq (.reg [⟨some 127, .load 2 true (.t 17), none, none⟩,
      ⟨some 128, .call fid_history_Check [(.t 127)], none, none⟩,
      ⟨some 126, .mov (.t 128), none, none⟩,
      ⟨some 129, .extract (.t 126) 0, none, none⟩,
      ⟨some 130, .extract (.t 126) 1, none, none⟩,
      ⟨some 27, .mov (.t 129), none, none⟩,
      ⟨some 28, .mov (.t 130), none, none⟩])
  (.seq (.reg [⟨some 131, .mov (.t 28), none, none⟩,
      ⟨some 132, .bin .eql (.t 131) (.c (.int .i64 0)), none, none⟩,
      ⟨some 16, .mov (.t 132), none, none⟩])
  (.ret))))))))) }
def ir_archipelagoseat_Time : IFn :=
  { params := 2, results := [.tmp 4], body :=
  (.seq (.reg [⟨some 2, .box (.t 0), none, none⟩,
      ⟨some 4, .mov (.c (.int .i64 0)), none, none⟩])
  (.seq (.seq (.reg [⟨some 5, .faddr 1 (.t 2), none, none⟩,
      ⟨some 6, .load 1 false (.t 5), none, none⟩,
      ⟨some 7, .len .sl (.t 6), none, none⟩,
      ⟨some 8, .bin .eql (.t 7) (.c (.int .i64 0)), none, none⟩,
      ⟨some 9, .mov (.t 8), none, none⟩,
      ⟨some 10, .mov (.t 1), (some (9, false)), none⟩,
      ⟨some 11, .bin .gtr (.t 10) (.c (.int .u8 245)), (some (9, false)), none⟩,
      ⟨some 12, .pick (.t 9) (.c (.bool true)) (.t 11), none, none⟩])
  (.cond (.t 12)
  (.seq (.reg [⟨some 13, .mkrow 1 6 [(.int .i64 0)] [(0, (.c (.int .i64 0))), (1, (.c (.int .i64 5))), (2, (.c (.int .i64 4611686018427387903))), (3, (.c (.int .i64 9223372036854775807))), (4, (.c (.int .i64 (-1)))), (5, (.c (.int .i64 (-9223372036854775808))))], none, none⟩,
        ⟨some 14, .mov (.t 1), none, none⟩,
        ⟨some 15, .bin .rem (.t 14) (.c (.int .u8 6)), none, none⟩,
        ⟨some 16, .iaddr 1 (.t 13) (.t 15), none, none⟩,
        ⟨some 17, .load 1 false (.t 16), none, none⟩,
        ⟨some 4, .mov (.t 17), none, none⟩])
    (.ret))
  (.skip)))
  (.seq (.regD [0, 1, 2, 3, 4, 5, 6, 7, 8, 9, 10, 11, 12, 13, 14, 15, 16, 17] [⟨some 18, .faddr 1 (.t 2), none, none⟩,
      ⟨some 19, .load 1 false (.t 18), none, none⟩,
      ⟨some 20, .mov (.t 1), none, none⟩,
      ⟨some 21, .bin .quo (.t 20) (.c (.int .u8 3)), none, none⟩,
      ⟨some 22, .conv .i64 (.t 21), none, none⟩,
      ⟨some 23, .faddr 1 (.t 2), none, none⟩,
      ⟨some 24, .load 1 false (.t 23), none, none⟩,
      ⟨some 25, .len .sl (.t 24), none, none⟩,
      ⟨some 26, .bin .rem (.t 22) (.t 25), none, none⟩,
      ⟨some 27, .iaddr 4 (.t 19) (.t 26), none, none⟩,
      ⟨some 28, .faddr 0 (.t 27), none, none⟩,
      ⟨some 29, .load 1 false (.t 28), none, none⟩,
      ⟨some 30, .mov (.t 1), none, none⟩,
      ⟨some 31, .bin .rem (.t 30) (.c (.int .u8 3)), none, none⟩,
      ⟨some 32, .conv .i64 (.t 31), none, none⟩,
      ⟨some 33, .bin .add (.t 29) (.t 32), none, none⟩,
      ⟨some 34, .bin .sub (.t 33) (.c (.int .i64 1)), none, none⟩,
      ⟨some 4, .mov (.t 34), none, none⟩])
  (.ret)))) }
def archipelagoref8_Upto_b0 : IC :=
  (.seq (.seq (.reg [⟨some 6, .mov (.t 5), none, none⟩,
      ⟨some 7, .faddr 1 (.t 2), none, none⟩,
      ⟨some 8, .load 1 false (.t 7), none, none⟩,
      ⟨some 9, .len .sl (.t 8), none, none⟩,
      ⟨some 10, .bin .lss (.t 6) (.t 9), none, none⟩,
      ⟨some 11, .mov (.t 10), none, none⟩,
      ⟨some 12, .faddr 1 (.t 2), (some (11, true)), none⟩,
      ⟨some 13, .load 1 false (.t 12), (some (11, true)), none⟩,
      ⟨some 14, .mov (.t 5), (some (11, true)), none⟩,
      ⟨some 15, .iaddr 4 (.t 13) (.t 14), (some (11, true)), none⟩,
      ⟨some 16, .faddr 0 (.t 15), (some (11, true)), none⟩,
      ⟨some 17, .load 1 false (.t 16), (some (11, true)), none⟩,
      ⟨some 18, .mov (.t 1), (some (11, true)), none⟩,
      ⟨some 19, .bin .leq (.t 17) (.t 18), (some (11, true)), none⟩,
      ⟨some 20, .pick (.t 11) (.t 19) (.c (.bool false)), none, none⟩])
  (.cond (.t 20)
  (.skip)
  (.exit 0)))
  (.block 1
  (.reg [⟨some 21, .mov (.t 5), none, none⟩,
        ⟨some 22, .bin .add (.t 21) (.c (.int .i64 1)), none, none⟩,
        ⟨some 5, .mov (.t 22), none, none⟩])))
def ir_archipelagoref8_Upto : IFn :=
  { params := 2, results := [.tmp 4], body :=
  (.seq (.reg [⟨some 2, .box (.t 0), none, none⟩,
      ⟨some 4, .mov (.c (.int .i64 0)), none, none⟩])
  (.seq (.reg [⟨some 5, .mov (.c (.int .i64 0)), none, none⟩])
  (.seq (.block 0
  (.loop [1, 2, 5] archipelagoref8_Upto_b0))
  (.seq (.reg [⟨some 23, .mov (.t 5), none, none⟩,
      ⟨some 4, .mov (.t 23), none, none⟩])
  (.ret))))) }
def archipelagolaw9_HistoryUpto_b0 : IC :=
  (.seq (.reg [⟨some 32, .bin .lss (.t 31) (.t 30), none, none⟩])
  (.seq (.cond (.t 32)
  (.skip)
  (.exit 0))
  (.seq (.block 1
  (.seq (.reg [⟨some 33, .iaddr 1 (.t 29) (.t 31), none, none⟩,
        ⟨some 34, .load 1 false (.t 33), none, none⟩,
        ⟨some 11, .mov (.t 34), none, none⟩])
    (.seq (.reg [⟨some 35, .load 2 true (.t 9), none, none⟩,
        ⟨some 36, .mov (.t 11), none, none⟩,
        ⟨some 37, .call fid_history_Upto [(.t 35), (.t 36)], none, none⟩,
        ⟨some 12, .mov (.t 37), none, none⟩])
    (.seq (.reg [⟨some 38, .mov (.t 12), none, none⟩,
        ⟨some 39, .load 2 true (.t 9), none, none⟩,
        ⟨some 40, .mov (.t 11), none, none⟩,
        ⟨some 41, .call fid_archipelagoref8_Upto [(.t 39), (.t 40)], none, none⟩,
        ⟨some 42, .bin .neq (.t 38) (.t 41), none, none⟩,
        ⟨some 43, .mov (.t 42), none, none⟩,
        ⟨some 44, .mov (.t 12), (some (43, false)), none⟩,
        ⟨some 45, .bin .lss (.t 44) (.c (.int .i64 0)), (some (43, false)), none⟩,
        ⟨some 46, .pick (.t 43) (.c (.bool true)) (.t 45), none, none⟩,
        ⟨some 47, .mov (.t 46), none, none⟩,
        ⟨some 48, .mov (.t 12), (some (47, false)), none⟩,
        ⟨some 49, .faddr 1 (.t 9), (some (47, false)), none⟩,
        ⟨some 50, .load 1 false (.t 49), (some (47, false)), none⟩,
        ⟨some 51, .len .sl (.t 50), (some (47, false)), none⟩,
        ⟨some 52, .bin .gtr (.t 48) (.t 51), (some (47, false)), none⟩,
        ⟨some 53, .pick (.t 47) (.c (.bool true)) (.t 52), none, none⟩,
        ⟨some 54, .mov (.t 53), none, none⟩,
        ⟨some 55, .mov (.t 12), (some (54, false)), none⟩,
        ⟨some 56, .bin .gtr (.t 55) (.c (.int .i64 0)), (some (54, false)), none⟩,
        ⟨some 57, .mov (.t 56), (some (54, false)), none⟩,
        ⟨some 58, .faddr 1 (.t 9), (some (57, true)), none⟩,
        ⟨some 59, .load 1 false (.t 58), (some (57, true)), none⟩,
        ⟨some 60, .mov (.t 12), (some (57, true)), none⟩,
        ⟨some 61, .bin .sub (.t 60) (.c (.int .i64 1)), (some (57, true)), none⟩,
        ⟨some 62, .iaddr 4 (.t 59) (.t 61), (some (57, true)), none⟩,
        ⟨some 63, .faddr 0 (.t 62), (some (57, true)), none⟩,
        ⟨some 64, .load 1 false (.t 63), (some (57, true)), none⟩,
        ⟨some 65, .mov (.t 11), (some (57, true)), none⟩,
        ⟨some 66, .bin .gtr (.t 64) (.t 65), (some (57, true)), none⟩,
        ⟨some 67, .pick (.t 57) (.t 66) (.c (.bool false)), (some (54, false)), none⟩,
        ⟨some 68, .pick (.t 54) (.c (.bool true)) (.t 67), none, none⟩,
        ⟨some 69, .mov (.t 68), none, none⟩,
        ⟨some 70, .mov (.t 12), (some (69, false)), none⟩,
        ⟨some 71, .faddr 1 (.t 9), (some (69, false)), none⟩,
        ⟨some 72, .load 1 false (.t 71), (some (69, false)), none⟩,
        ⟨some 73, .len .sl (.t 72), (some (69, false)), none⟩,
        ⟨some 74, .bin .lss (.t 70) (.t 73), (some (69, false)), none⟩,
        ⟨some 75, .mov (.t 74), (some (69, false)), none⟩,
        ⟨some 76, .faddr 1 (.t 9), (some (75, true)), none⟩,
        ⟨some 77, .load 1 false (.t 76), (some (75, true)), none⟩,
        ⟨some 78, .mov (.t 12), (some (75, true)), none⟩,
        ⟨some 79, .iaddr 4 (.t 77) (.t 78), (some (75, true)), none⟩,
        ⟨some 80, .faddr 0 (.t 79), (some (75, true)), none⟩,
        ⟨some 81, .load 1 false (.t 80), (some (75, true)), none⟩,
        ⟨some 82, .mov (.t 11), (some (75, true)), none⟩,
        ⟨some 83, .bin .leq (.t 81) (.t 82), (some (75, true)), none⟩,
        ⟨some 84, .pick (.t 75) (.t 83) (.c (.bool false)), (some (69, false)), none⟩,
        ⟨some 85, .pick (.t 69) (.c (.bool true)) (.t 84), none, none⟩])
    (.cond (.t 85)
    (.seq (.reg [⟨some 8, .mov (.c (.bool false)), none, none⟩])
      (.ret))
    (.skip))))))
  (.reg [⟨some 86, .bin .add (.t 31) (.c (.int .i64 1)), none, none⟩,
      ⟨some 31, .mov (.t 86), none, none⟩]))))
def ir_archipelagolaw9_HistoryUpto : IFn :=
  { params := 4, results := [.tmp 8], body :=
  (.seq (.reg [⟨some 8, .mov (.c (.bool false)), none, none⟩])
  (.seq (.seq (.reg [⟨some 13, .call fid_archipelagolaw9_known [], none, none⟩,
      ⟨some 14, .un .not (.t 13), none, none⟩])
  (.cond (.t 14)
  (.seq (.reg [⟨some 8, .mov (.c (.bool false)), none, none⟩])
    (.ret))
  (.skip)))
  (.seq (.seq (.reg [⟨some 15, .mov (.t 1), none, none⟩,
      ⟨some 16, .len .sl (.t 15), none, none⟩,
      ⟨some 17, .bin .gtr (.t 16) (.c (.int .i64 60)), none, none⟩])
  (.cond (.t 17)
  (.seq (.reg [⟨some 8, .mov (.c (.bool true)), none, none⟩])
    (.ret))
  (.skip)))
  (.seq (.reg [⟨some 18, .mov (.t 0), none, none⟩,
      ⟨some 19, .mov (.t 1), none, none⟩,
      ⟨some 20, .call fid_archipelagoseat_History [(.t 18), (.t 19)], none, none⟩,
      ⟨some 9, .box (.c (.agg [(.int .u64 0), .nils])), none, none⟩,
      ⟨none, .store 2 (.t 9) (.t 20), none, none⟩])
  (.seq (.seq (.regD [1, 2, 3, 4, 5, 6, 7, 0, 8, 9, 10] [⟨some 22, .load 2 true (.t 9), none, none⟩,
      ⟨some 23, .mov (.t 3), none, none⟩,
      ⟨some 24, .call fid_archipelagoseat_Time [(.t 22), (.t 23)], none, none⟩,
      ⟨some 25, .load 2 true (.t 9), none, some (0, 1)⟩,
      ⟨some 26, .mov (.t 3), none, none⟩,
      ⟨some 27, .bin .quo (.t 26) (.c (.int .u8 2)), none, none⟩,
      ⟨some 28, .call fid_archipelagoseat_Time [(.t 25), (.t 27)], none, none⟩,
      ⟨some 21, .mov (.t 2), none, none⟩,
      ⟨some 29, .mkrow 1 3 [(.int .i64 0)] [(0, (.t 21)), (1, (.t 24)), (2, (.t 28))], none, none⟩,
      ⟨some 30, .len .sl (.t 29), none, none⟩,
      ⟨some 31, .mov (.c (.int .i64 0)), none, none⟩])
  (.block 0
  (.loop [9, 29, 30, 31] archipelagolaw9_HistoryUpto_b0)))
  (.seq (.regD [0, 1, 2, 3, 4, 5, 6] [⟨some 87, .load 2 true (.t 9), none, none⟩,
      ⟨some 88, .call fid_history_Upto [(.t 87), (.c (.int .i64 4611686018427387903))], none, none⟩,
      ⟨some 89, .faddr 1 (.t 9), none, none⟩,
      ⟨some 90, .load 1 false (.t 89), none, some (0, 1)⟩,
      ⟨some 91, .len .sl (.t 90), none, some (0, 1)⟩,
      ⟨some 92, .bin .eql (.t 88) (.t 91), none, none⟩,
      ⟨some 8, .mov (.t 92), none, none⟩])
  (.ret))))))) }
def ir_archipelagolaw9_HistoryParts : IFn :=
  { params := 7, results := [.tmp 14], body :=
  (.seq (.reg [⟨some 14, .mov (.c (.bool false)), none, none⟩])
  (.seq (.seq (.reg [⟨some 24, .call fid_archipelagolaw9_known [], none, none⟩,
      ⟨some 25, .un .not (.t 24), none, none⟩])
  (.cond (.t 25)
  (.seq (.reg [⟨some 14, .mov (.c (.bool false)), none, none⟩])
    (.ret))
  (.skip)))
  (.seq (.seq (.reg [⟨some 26, .mov (.t 1), none, none⟩,
      ⟨some 27, .len .sl (.t 26), none, none⟩,
      ⟨some 28, .bin .gtr (.t 27) (.c (.int .i64 60)), none, none⟩,
      ⟨some 29, .mov (.t 28), none, none⟩,
      ⟨some 30, .mov (.t 6), (some (29, false)), none⟩,
      ⟨some 31, .len .sl (.t 30), (some (29, false)), none⟩,
      ⟨some 32, .bin .gtr (.t 31) (.c (.int .i64 10)), (some (29, false)), none⟩,
      ⟨some 33, .pick (.t 29) (.c (.bool true)) (.t 32), none, none⟩])
  (.cond (.t 33)
  (.seq (.reg [⟨some 14, .mov (.c (.bool true)), none, none⟩])
    (.ret))
  (.skip)))
  (.seq (.reg [⟨some 34, .mov (.t 0), none, none⟩,
      ⟨some 35, .mov (.t 1), none, none⟩,
      ⟨some 36, .call fid_archipelagoseat_History [(.t 34), (.t 35)], none, none⟩,
      ⟨some 15, .box (.c (.agg [(.int .u64 0), .nils])), none, none⟩,
      ⟨none, .store 2 (.t 15) (.t 36), none, none⟩])
  (.seq (.seq (.reg [⟨some 37, .faddr 1 (.t 15), none, none⟩,
      ⟨some 38, .load 1 false (.t 37), none, none⟩,
      ⟨some 39, .len .sl (.t 38), none, none⟩,
      ⟨some 40, .bin .gtr (.t 39) (.c (.int .i64 0)), none, none⟩])
  (.cond (.t 40)
  (.seq (.reg [⟨some 41, .load 2 true (.t 15), none, none⟩,
        ⟨some 16, .box (.c (.agg [(.int .u64 0), .nils])), none, none⟩,
        ⟨none, .store 2 (.t 16) (.t 41), none, none⟩])
    (.seq (.regD [0, 1, 2, 3, 4, 5, 6, 7, 8, 9, 10] [⟨some 42, .faddr 1 (.t 15), none, none⟩,
        ⟨some 43, .load 1 false (.t 42), none, none⟩,
        ⟨some 44, .mov (.t 2), none, none⟩,
        ⟨some 45, .conv .i64 (.t 44), none, none⟩,
        ⟨some 46, .faddr 1 (.t 15), none, none⟩,
        ⟨some 47, .load 1 false (.t 46), none, none⟩,
        ⟨some 48, .len .sl (.t 47), none, none⟩,
        ⟨some 49, .bin .rem (.t 45) (.t 48), none, none⟩,
        ⟨some 50, .slice false 4 (.t 43) none (some (.t 49)) none, none, none⟩,
        ⟨some 51, .faddr 1 (.t 16), none, none⟩,
        ⟨none, .store 1 (.t 51) (.t 50), none, none⟩])
    (.seq (.reg [⟨some 53, .load 2 true (.t 16), none, none⟩,
        ⟨some 54, .call fid_history_Check [(.t 53)], none, none⟩,
        ⟨some 52, .mov (.t 54), none, none⟩,
        ⟨some 55, .extract (.t 52) 0, none, none⟩,
        ⟨some 56, .extract (.t 52) 1, none, none⟩,
        ⟨some 17, .mov (.t 55), none, none⟩,
        ⟨some 18, .mov (.t 56), none, none⟩])
    (.seq (.reg [⟨some 57, .mov (.t 18), none, none⟩,
        ⟨some 58, .bin .neq (.t 57) (.c (.int .i64 0)), none, none⟩])
    (.cond (.t 58)
    (.seq (.reg [⟨some 14, .mov (.c (.bool false)), none, none⟩])
      (.ret))
    (.skip))))))
  (.skip)))
  (.seq (.reg [⟨some 59, .load 2 true (.t 15), none, none⟩,
      ⟨some 60, .mov (.t 3), none, none⟩,
      ⟨some 61, .mov (.t 4), none, none⟩,
      ⟨some 62, .mov (.t 5), none, none⟩,
      ⟨some 63, .call fid_archipelagoseat_Bent [(.t 59), (.t 60), (.t 61), (.t 62)], none, none⟩,
      ⟨some 19, .box (.c (.agg [(.int .u64 0), .nils])), none, none⟩,
      ⟨none, .store 2 (.t 19) (.t 63), none, none⟩])
  (.seq (.reg [⟨some 65, .load 2 true (.t 19), none, none⟩,
      ⟨some 66, .call fid_history_Check [(.t 65)], none, none⟩,
      ⟨some 64, .mov (.t 66), none, none⟩,
      ⟨some 67, .extract (.t 64) 0, none, none⟩,
      ⟨some 68, .extract (.t 64) 1, none, none⟩,
      ⟨some 20, .mov (.t 67), none, none⟩,
      ⟨some 21, .mov (.t 68), none, none⟩])
  (.seq (.seq (.reg [⟨some 69, .mov (.t 21), none, none⟩,
      ⟨some 70, .bin .eql (.t 69) (.c (.int .i64 0)), none, none⟩])
  (.cond (.t 70)
  (.seq (.reg [⟨some 71, .mov (.t 20), none, none⟩,
        ⟨some 72, .bin .eql (.t 71) (.c (.int .i64 0)), none, none⟩,
        ⟨some 14, .mov (.t 72), none, none⟩])
    (.ret))
  (.skip)))
  (.seq (.reg [⟨some 73, .faddr 1 (.t 19), none, none⟩,
      ⟨some 74, .load 1 false (.t 73), none, none⟩,
      ⟨some 75, .append 4 24 (.c .nils) (.t 74), none, none⟩,
      ⟨some 76, .mov (.t 6), none, none⟩,
      ⟨some 77, .append 4 24 (.t 75) (.t 76), none, none⟩,
      ⟨some 78, .faddr 1 (.t 19), none, none⟩,
      ⟨none, .store 1 (.t 78) (.t 77), none, none⟩])
  (.seq (.reg [⟨some 80, .load 2 true (.t 19), none, none⟩,
      ⟨some 81, .call fid_history_Check [(.t 80)], none, none⟩,
      ⟨some 79, .mov (.t 81), none, none⟩,
      ⟨some 82, .extract (.t 79) 0, none, none⟩,
      ⟨some 83, .extract (.t 79) 1, none, none⟩,
      ⟨some 22, .mov (.t 82), none, none⟩,
      ⟨some 23, .mov (.t 83), none, none⟩])
  (.seq (.reg [⟨some 84, .mov (.t 20), none, none⟩,
      ⟨some 85, .mov (.t 22), none, none⟩,
      ⟨some 86, .bin .eql (.t 84) (.t 85), none, none⟩,
      ⟨some 87, .mov (.t 86), none, none⟩,
      ⟨some 88, .mov (.t 21), (some (87, true)), none⟩,
      ⟨some 89, .mov (.t 23), (some (87, true)), none⟩,
      ⟨some 90, .bin .eql (.t 88) (.t 89), (some (87, true)), none⟩,
      ⟨some 91, .pick (.t 87) (.t 90) (.c (.bool false)), none, none⟩,
      ⟨some 14, .mov (.t 91), none, none⟩])
  (.ret)))))))))))) }
def archipelagolaw9_HistoryCopies_b0 : IC :=
  (.seq (.seq (.reg [⟨some 36, .mov (.t 10), none, none⟩,
      ⟨some 37, .faddr 1 (.t 9), none, none⟩,
      ⟨some 38, .load 1 false (.t 37), none, none⟩,
      ⟨some 39, .len .sl (.t 38), none, none⟩,
      ⟨some 40, .bin .lss (.t 36) (.t 39), none, none⟩])
  (.cond (.t 40)
  (.skip)
  (.exit 0)))
  (.seq (.block 1
  (.seq (.reg [⟨some 43, .faddr 1 (.t 9), none, none⟩,
        ⟨some 44, .load 1 false (.t 43), none, none⟩,
        ⟨some 45, .mov (.t 10), none, none⟩,
        ⟨some 46, .mov (.t 2), none, none⟩,
        ⟨some 47, .iaddr 4 (.t 44) (.t 45), none, none⟩,
        ⟨some 48, .faddr 0 (.t 47), none, none⟩,
        ⟨none, .store 1 (.t 48) (.t 46), none, none⟩])
    (.regD [0, 1, 2, 3, 4, 5, 6, 7, 8, 9, 10, 11, 12] [⟨some 49, .faddr 1 (.t 9), none, none⟩,
        ⟨some 50, .load 1 false (.t 49), none, none⟩,
        ⟨some 51, .mov (.t 10), none, none⟩,
        ⟨some 52, .faddr 1 (.t 9), none, none⟩,
        ⟨some 53, .load 1 false (.t 52), none, none⟩,
        ⟨some 54, .mov (.t 10), none, none⟩,
        ⟨some 55, .iaddr 4 (.t 53) (.t 54), none, none⟩,
        ⟨some 56, .faddr 3 (.t 55), none, none⟩,
        ⟨some 57, .load 1 false (.t 56), none, none⟩,
        ⟨some 58, .un .not (.t 57), none, none⟩,
        ⟨some 59, .iaddr 4 (.t 50) (.t 51), none, none⟩,
        ⟨some 60, .faddr 3 (.t 59), none, none⟩,
        ⟨none, .store 1 (.t 60) (.t 58), none, none⟩])))
  (.reg [⟨some 41, .mov (.t 10), none, none⟩,
      ⟨some 42, .bin .add (.t 41) (.c (.int .i64 1)), none, none⟩,
      ⟨some 10, .mov (.t 42), none, none⟩])))
def ir_archipelagolaw9_HistoryCopies : IFn :=
  { params := 3, results := [.tmp 6], body :=
  (.seq (.reg [⟨some 6, .mov (.c (.bool false)), none, none⟩])
  (.seq (.seq (.reg [⟨some 11, .call fid_archipelagolaw9_known [], none, none⟩,
      ⟨some 12, .un .not (.t 11), none, none⟩])
  (.cond (.t 12)
  (.seq (.reg [⟨some 6, .mov (.c (.bool false)), none, none⟩])
    (.ret))
  (.skip)))
  (.seq (.seq (.reg [⟨some 13, .mov (.t 1), none, none⟩,
      ⟨some 14, .len .sl (.t 13), none, none⟩,
      ⟨some 15, .bin .gtr (.t 14) (.c (.int .i64 60)), none, none⟩])
  (.cond (.t 15)
  (.seq (.reg [⟨some 6, .mov (.c (.bool true)), none, none⟩])
    (.ret))
  (.skip)))
  (.seq (.reg [⟨some 16, .mov (.t 0), none, none⟩,
      ⟨some 17, .mov (.t 1), none, none⟩,
      ⟨some 18, .call fid_archipelagoseat_History [(.t 16), (.t 17)], none, none⟩,
      ⟨some 7, .box (.c (.agg [(.int .u64 0), .nils])), none, none⟩,
      ⟨none, .store 2 (.t 7) (.t 18), none, none⟩])
  (.seq (.reg [⟨some 19, .load 2 true (.t 7), none, none⟩,
      ⟨some 20, .call fid_history_Copy [(.t 19)], none, none⟩,
      ⟨some 8, .box (.c (.agg [(.int .u64 0), .nils])), none, none⟩,
      ⟨none, .store 2 (.t 8) (.t 20), none, none⟩])
  (.seq (.reg [⟨some 21, .load 2 true (.t 8), none, none⟩,
      ⟨some 22, .call fid_history_Copy [(.t 21)], none, none⟩,
      ⟨some 9, .box (.c (.agg [(.int .u64 0), .nils])), none, none⟩,
      ⟨none, .store 2 (.t 9) (.t 22), none, none⟩])
  (.seq (.seq (.reg [⟨some 23, .load 2 true (.t 8), none, none⟩,
      ⟨some 24, .load 2 true (.t 7), none, none⟩,
      ⟨some 25, .call fid_history_Same [(.t 23), (.t 24)], none, none⟩,
      ⟨some 26, .un .not (.t 25), none, none⟩,
      ⟨some 27, .mov (.t 26), none, none⟩,
      ⟨some 28, .faddr 1 (.t 9), (some (27, false)), none⟩,
      ⟨some 29, .load 1 false (.t 28), (some (27, false)), none⟩,
      ⟨some 30, .len .sl (.t 29), (some (27, false)), none⟩,
      ⟨some 31, .faddr 1 (.t 7), (some (27, false)), none⟩,
      ⟨some 32, .load 1 false (.t 31), (some (27, false)), none⟩,
      ⟨some 33, .len .sl (.t 32), (some (27, false)), none⟩,
      ⟨some 34, .bin .neq (.t 30) (.t 33), (some (27, false)), none⟩,
      ⟨some 35, .pick (.t 27) (.c (.bool true)) (.t 34), none, none⟩])
  (.cond (.t 35)
  (.seq (.reg [⟨some 6, .mov (.c (.bool false)), none, none⟩])
    (.ret))
  (.skip)))
  (.seq (.seq (.reg [⟨some 10, .mov (.c (.int .i64 0)), none, none⟩])
  (.block 0
  (.loop [2, 7, 8, 9, 10] archipelagolaw9_HistoryCopies_b0)))
  (.seq (.regD [0, 1, 2, 3, 4, 5, 6, 7, 8, 9, 10, 11, 12, 13, 14, 15, 16, 17, 18, 19, 20, 21, 22] [⟨some 61, .load 2 true (.t 8), none, none⟩,
      ⟨some 62, .load 2 true (.t 7), none, none⟩,
      ⟨some 63, .call fid_history_Same [(.t 61), (.t 62)], none, none⟩,
      ⟨some 64, .mov (.t 63), none, none⟩,
      ⟨some 65, .faddr 1 (.t 7), (some (64, true)), none⟩,
      ⟨some 66, .load 1 false (.t 65), (some (64, true)), none⟩,
      ⟨some 67, .len .sl (.t 66), (some (64, true)), none⟩,
      ⟨some 68, .bin .eql (.t 67) (.c (.int .i64 0)), (some (64, true)), none⟩,
      ⟨some 69, .mov (.t 68), (some (64, true)), none⟩,
      ⟨some 70, .load 2 true (.t 8), (some (69, false)), none⟩,
      ⟨some 71, .load 2 true (.t 9), (some (69, false)), none⟩,
      ⟨some 72, .call fid_history_Same [(.t 70), (.t 71)], (some (69, false)), none⟩,
      ⟨some 73, .un .not (.t 72), (some (69, false)), none⟩,
      ⟨some 74, .pick (.t 69) (.c (.bool true)) (.t 73), (some (64, true)), none⟩,
      ⟨some 75, .pick (.t 64) (.t 74) (.c (.bool false)), none, none⟩,
      ⟨some 76, .mov (.t 75), none, none⟩,
      ⟨some 77, .load 2 true (.t 8), (some (76, true)), none⟩,
      ⟨some 78, .call fid_history_Last [(.t 77)], (some (76, true)), none⟩,
      ⟨some 79, .load 2 true (.t 7), (some (76, true)), some (2, 3)⟩,
      ⟨some 80, .call fid_history_Last [(.t 79)], (some (76, true)), none⟩,
      ⟨some 81, .bin .eql (.t 78) (.t 80), (some (76, true)), none⟩,
      ⟨some 82, .pick (.t 76) (.t 81) (.c (.bool false)), none, none⟩,
      ⟨some 6, .mov (.t 82), none, none⟩])
  (.ret)))))))))) }
end Go.Ab
