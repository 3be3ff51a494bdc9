/- The functions as the abstract machine has them (printed by wip/irgen.py). -/
import Derived.Test.YtdhoihialekgmaaAbs1
namespace Go.Ab
open Go
def fid_archipelagolaw9_HistoryTells : Nat := 3
def fid_archipelagolaw9_HistoryUpto : Nat := 4
def fid_archipelagolaw9_HistoryParts : Nat := 5
def fid_archipelagolaw9_HistoryCopies : Nat := 6
def fid_archipelagolaw9_known : Nat := 7
def fid_archipelagoseat_History : Nat := 8
def fid_archipelagoseat_Bent : Nat := 9
def fid_archipelagoseat_Late : Nat := 10
def fid_history_Check : Nat := 11
def fid_archipelagoref8_Check : Nat := 12
def fid_history_Same : Nat := 13
def fid_archipelagoref8_Same : Nat := 14
def fid_history_Copy : Nat := 15
def fid_history_Last : Nat := 16
def fid_archipelagoseat_Time : Nat := 17
def fid_history_Upto : Nat := 18
def fid_archipelagoref8_Upto : Nat := 19
def fid_archipelagoseat_Vertices : Nat := 20
def fid_archipelagoseat_Edge : Nat := 21
def fid_archipelagoseat_insert : Nat := 22
def fid_archipelagoref8_Has : Nat := 23
def fid_archipelagoref8_Turn : Nat := 24
def fid_edge_Right : Nat := 25
def fid_edge_Before : Nat := 26
def fid_archipelagoref8_Right : Nat := 27
def fid_archipelagoref8_Before : Nat := 28
def fid_slices_Equal_api_Event_api_Event : Nat := 29
def fid_archipelagoref8_SameEvents : Nat := 30
def fid_slices_Clone_api_Event_api_Event : Nat := 31
def fid_sort_Search : Nat := 32
def fid_history_Upto_1 : Nat := 33
def fid_archipelagoref8_Find : Nat := 34
def fid_archipelagoref8_Rising : Nat := 35
def fid_archipelagoref8_Less : Nat := 36
def fid_cmp_Or_int : Nat := 37
def fid_cmp_Compare_int64 : Nat := 38
def fid_edge_compare : Nat := 39
def fid_cmp_isNaN_int64 : Nat := 40
def fid_cmp_Compare_uint32 : Nat := 41
def fid_cmp_isNaN_uint32 : Nat := 42
def ir_edge_Right : IFn :=
  { params := 2, results := [.tmp 4], body :=
  (.seq (.reg [zi 2 (.box (.t 0)),
 zi 4 (.mov (.c (.bool false)))])
 (.seq (.reg [zi 5 (.faddr 0 (.t 2)),
 zi 6 (.load 1 false (.t 5)),
 zi 7 (.faddr 1 (.t 2)),
 zi 8 (.load 1 false (.t 7)),
 zi 9 (.bin .lss (.t 6) (.t 8)),
 zi 10 (.mov (.t 9)),
 zg 11 10 true (.faddr 1 (.t 2)),
 zg 12 10 true (.load 1 false (.t 11)),
 zg 13 10 true (.conv .u64 (.t 12)),
 zg 14 10 true (.mov (.t 1)),
 zg 15 10 true (.bin .lss (.t 13) (.t 14)),
 zi 16 (.pick (.t 10) (.t 15) (.c (.bool false))),
 zi 4 (.mov (.t 16))])
 (.ret))) }
def cmp_Or_int_b0 : IC :=
  (.seq (.reg [zi 9 (.bin .lss (.t 8) (.t 7))])
 (.seq (.cond (.t 9)
 (.skip)
 (.exit 0))
 (.seq (.block 1
 (.seq (.reg [zi 10 (.iaddr 1 (.t 6) (.t 8)),
 zi 11 (.load 1 false (.t 10)),
 zi 5 (.mov (.t 11))])
 (.seq (.reg [zi 12 (.mov (.t 5)),
 zi 13 (.mov (.t 3)),
 zi 14 (.bin .neq (.t 12) (.t 13))])
 (.cond (.t 14)
 (.seq (.reg [zi 15 (.mov (.t 5)),
 zi 2 (.mov (.t 15))])
 (.ret))
 (.skip)))))
 (.reg [zi 16 (.bin .add (.t 8) (.c (.int .i64 1))),
 zi 8 (.mov (.t 16))]))))
def ir_cmp_Or_int : IFn :=
  { params := 1, results := [.tmp 2], body :=
  (.seq (.reg [zi 2 (.mov (.c (.int .i64 0)))])
 (.seq (.reg [zi 3 (.mov (.c (.int .i64 0)))])
 (.seq (.seq (.reg [zi 6 (.mov (.t 0)),
 zi 7 (.len .sl (.t 6)),
 zi 8 (.mov (.c (.int .i64 0)))])
 (.block 0
 (.loop [3, 6, 7, 8] cmp_Or_int_b0)))
 (.seq (.reg [zi 17 (.mov (.t 3)),
 zi 2 (.mov (.t 17))])
 (.ret))))) }
def ir_cmp_isNaN_int64 : IFn :=
  { params := 1, results := [.tmp 2], body :=
  (.seq (.reg [zi 2 (.mov (.c (.bool false)))])
 (.seq (.reg [zi 3 (.mov (.t 0)),
 zi 4 (.mov (.t 0)),
 zi 5 (.bin .neq (.t 3) (.t 4)),
 zi 2 (.mov (.t 5))])
 (.ret))) }
def ir_cmp_Compare_int64 : IFn :=
  { params := 2, results := [.tmp 4], body :=
  (.seq (.reg [zi 4 (.mov (.c (.int .i64 0)))])
 (.seq (.reg [zi 7 (.mov (.t 0)),
 zi 8 (.call fid_cmp_isNaN_int64 [(.t 7)]),
 zi 5 (.mov (.t 8))])
 (.seq (.reg [zi 9 (.mov (.t 1)),
 zi 10 (.call fid_cmp_isNaN_int64 [(.t 9)]),
 zi 6 (.mov (.t 10))])
 (.seq (.seq (.reg [zi 11 (.mov (.t 5))])
 (.cond (.t 11)
 (.seq (.seq (.reg [zi 12 (.mov (.t 6))])
 (.cond (.t 12)
 (.seq (.reg [zi 4 (.mov (.c (.int .i64 0)))])
 (.ret))
 (.skip)))
 (.seq (.reg [zi 4 (.mov (.c (.int .i64 (-1))))])
 (.ret)))
 (.skip)))
 (.seq (.seq (.reg [zi 13 (.mov (.t 6))])
 (.cond (.t 13)
 (.seq (.reg [zi 4 (.mov (.c (.int .i64 1)))])
 (.ret))
 (.skip)))
 (.seq (.seq (.reg [zi 14 (.mov (.t 0)),
 zi 15 (.mov (.t 1)),
 zi 16 (.bin .lss (.t 14) (.t 15))])
 (.cond (.t 16)
 (.seq (.reg [zi 4 (.mov (.c (.int .i64 (-1))))])
 (.ret))
 (.skip)))
 (.seq (.seq (.reg [zi 17 (.mov (.t 0)),
 zi 18 (.mov (.t 1)),
 zi 19 (.bin .gtr (.t 17) (.t 18))])
 (.cond (.t 19)
 (.seq (.reg [zi 4 (.mov (.c (.int .i64 1)))])
 (.ret))
 (.skip)))
 (.seq (.reg [zi 4 (.mov (.c (.int .i64 0)))])
 (.ret))))))))) }
def ir_cmp_isNaN_uint32 : IFn :=
  { params := 1, results := [.tmp 2], body :=
  (.seq (.reg [zi 2 (.mov (.c (.bool false)))])
 (.seq (.reg [zi 3 (.mov (.t 0)),
 zi 4 (.mov (.t 0)),
 zi 5 (.bin .neq (.t 3) (.t 4)),
 zi 2 (.mov (.t 5))])
 (.ret))) }
def ir_cmp_Compare_uint32 : IFn :=
  { params := 2, results := [.tmp 4], body :=
  (.seq (.reg [zi 4 (.mov (.c (.int .i64 0)))])
 (.seq (.reg [zi 7 (.mov (.t 0)),
 zi 8 (.call fid_cmp_isNaN_uint32 [(.t 7)]),
 zi 5 (.mov (.t 8))])
 (.seq (.reg [zi 9 (.mov (.t 1)),
 zi 10 (.call fid_cmp_isNaN_uint32 [(.t 9)]),
 zi 6 (.mov (.t 10))])
 (.seq (.seq (.reg [zi 11 (.mov (.t 5))])
 (.cond (.t 11)
 (.seq (.seq (.reg [zi 12 (.mov (.t 6))])
 (.cond (.t 12)
 (.seq (.reg [zi 4 (.mov (.c (.int .i64 0)))])
 (.ret))
 (.skip)))
 (.seq (.reg [zi 4 (.mov (.c (.int .i64 (-1))))])
 (.ret)))
 (.skip)))
 (.seq (.seq (.reg [zi 13 (.mov (.t 6))])
 (.cond (.t 13)
 (.seq (.reg [zi 4 (.mov (.c (.int .i64 1)))])
 (.ret))
 (.skip)))
 (.seq (.seq (.reg [zi 14 (.mov (.t 0)),
 zi 15 (.mov (.t 1)),
 zi 16 (.bin .lss (.t 14) (.t 15))])
 (.cond (.t 16)
 (.seq (.reg [zi 4 (.mov (.c (.int .i64 (-1))))])
 (.ret))
 (.skip)))
 (.seq (.seq (.reg [zi 17 (.mov (.t 0)),
 zi 18 (.mov (.t 1)),
 zi 19 (.bin .gtr (.t 17) (.t 18))])
 (.cond (.t 19)
 (.seq (.reg [zi 4 (.mov (.c (.int .i64 1)))])
 (.ret))
 (.skip)))
 (.seq (.reg [zi 4 (.mov (.c (.int .i64 0)))])
 (.ret))))))))) }
def ir_edge_compare : IFn :=
  { params := 2, results := [.tmp 4], body :=
  (.seq (.reg [zi 2 (.box (.t 0)),
 zi 3 (.box (.t 1)),
 zi 4 (.mov (.c (.int .i64 0)))])
 (.seq (.regD [0, 1, 2, 3, 4, 5, 6, 7, 8, 9, 10, 11, 12] [zi 5 (.faddr 0 (.t 2)),
 zi 6 (.load 1 false (.t 5)),
 zi 7 (.faddr 0 (.t 3)),
 zi 8 (.load 1 false (.t 7)),
 zi 9 (.call fid_cmp_Compare_uint32 [(.t 6), (.t 8)]),
 zi 10 (.faddr 1 (.t 2)),
 ⟨some 11, .load 1 false (.t 10), none, some (0, 1)⟩,
 zi 12 (.faddr 1 (.t 3)),
 ⟨some 13, .load 1 false (.t 12), none, some (0, 1)⟩,
 zi 14 (.call fid_cmp_Compare_uint32 [(.t 11), (.t 13)]),
 zi 15 (.mkrow 1 2 [(.int .i64 0)] [(0, (.t 9)), (1, (.t 14))]),
 zi 16 (.call fid_cmp_Or_int [(.t 15)]),
 zi 4 (.mov (.t 16))])
 (.ret))) }
def ir_edge_Before : IFn :=
  { params := 2, results := [.tmp 4], body :=
  (.seq (.reg [zi 2 (.box (.t 0)),
 zi 3 (.box (.t 1)),
 zi 4 (.mov (.c (.bool false)))])
 (.seq (.regD [0, 1, 2, 3, 4, 5, 6, 7, 8, 9, 10, 11, 12, 13] [zi 5 (.faddr 0 (.t 2)),
 zi 6 (.load 1 false (.t 5)),
 zi 7 (.faddr 0 (.t 3)),
 zi 8 (.load 1 false (.t 7)),
 zi 9 (.call fid_cmp_Compare_int64 [(.t 6), (.t 8)]),
 zi 10 (.faddr 1 (.t 2)),
 ⟨some 11, .load 2 true (.t 10), none, some (0, 1)⟩,
 zi 12 (.faddr 1 (.t 3)),
 ⟨some 13, .load 2 true (.t 12), none, some (0, 1)⟩,
 zi 14 (.call fid_edge_compare [(.t 11), (.t 13)]),
 zi 15 (.mkrow 1 2 [(.int .i64 0)] [(0, (.t 9)), (1, (.t 14))]),
 zi 16 (.call fid_cmp_Or_int [(.t 15)]),
 zi 17 (.bin .lss (.t 16) (.c (.int .i64 0))),
 zi 4 (.mov (.t 17))])
 (.ret))) }
def history_Check_b0 : IC :=
  (.seq (.reg [zi 21 (.bin .lss (.t 20) (.t 19))])
 (.seq (.cond (.t 21)
 (.skip)
 (.exit 0))
 (.seq (.block 1
 (.seq (.reg [zi 22 (.mov (.t 20)),
 zi 23 (.iaddr 4 (.t 18) (.t 20)),
 zi 24 (.load 4 true (.t 23)),
 zi 6 (.box (.c (.agg [(.int .i64 0), (.int .u32 0), (.int .u32 0), (.bool false)]))),
 zi 5 (.mov (.t 22)),
 zn (.store 4 (.t 6) (.t 24))])
 (.seq (.block 2
 (.seq (.reg [zi 26 (.faddr 0 (.t 6)),
 zi 27 (.load 1 false (.t 26)),
 zi 28 (.bin .lss (.t 27) (.c (.int .i64 0))),
 zi 29 (.mov (.t 28)),
 zg 30 29 false (.faddr 0 (.t 6)),
 zg 31 29 false (.load 1 false (.t 30)),
 zg 32 29 false (.bin .gtr (.t 31) (.c (.int .i64 4611686018427387903))),
 zi 33 (.pick (.t 29) (.c (.bool true)) (.t 32)),
 zi 25 (.mov (.t 33))])
 (.cond (.t 25)
 (.seq (.reg [zi 34 (.mov (.t 5)),
 zi 2 (.mov (.t 34)),
 zi 3 (.mov (.c (.int .i64 26)))])
 (.ret))
 (.seq (.reg [zi 36 (.faddr 1 (.t 6)),
 zi 37 (.load 2 true (.t 36)),
 zi 38 (.faddr 0 (.t 1)),
 zi 39 (.load 1 false (.t 38)),
 zi 40 (.call fid_edge_Right [(.t 37), (.t 39)]),
 zi 41 (.un .not (.t 40)),
 zi 35 (.mov (.t 41))])
 (.cond (.t 35)
 (.seq (.reg [zi 42 (.mov (.t 5)),
 zi 2 (.mov (.t 42)),
 zi 3 (.mov (.c (.int .i64 24)))])
 (.ret))
 (.seq (.regD [0, 1, 2, 3, 4, 5, 6, 7, 8, 9, 10, 11, 12, 13] [zi 44 (.mov (.t 5)),
 zi 45 (.bin .gtr (.t 44) (.c (.int .i64 0))),
 zi 46 (.mov (.t 45)),
 zg 47 46 true (.faddr 1 (.t 1)),
 zg 48 46 true (.load 1 false (.t 47)),
 zg 49 46 true (.mov (.t 5)),
 zg 50 46 true (.bin .sub (.t 49) (.c (.int .i64 1))),
 zg 51 46 true (.iaddr 4 (.t 48) (.t 50)),
 zg 52 46 true (.load 4 true (.t 51)),
 zg 53 46 true (.load 4 true (.t 6)),
 zg 54 46 true (.call fid_edge_Before [(.t 52), (.t 53)]),
 zg 55 46 true (.un .not (.t 54)),
 zi 56 (.pick (.t 46) (.t 55) (.c (.bool false))),
 zi 43 (.mov (.t 56))])
 (.cond (.t 43)
 (.seq (.reg [zi 57 (.mov (.t 5)),
 zi 2 (.mov (.t 57)),
 zi 3 (.mov (.c (.int .i64 23)))])
 (.ret))
 (.seq (.regD [0, 1, 2, 3, 4, 5, 6, 7] [zi 59 (.mov (.t 4)),
 zi 60 (.faddr 1 (.t 6)),
 zi 61 (.load 2 true (.t 60)),
 zi 62 (.lookup (.struct [.int, .int]) (.bool false) (.t 59) (.t 61) false),
 zi 63 (.faddr 3 (.t 6)),
 zi 64 (.load 1 false (.t 63)),
 zi 65 (.eq .bool false (.t 62) (.t 64)),
 zi 58 (.mov (.t 65))])
 (.cond (.t 58)
 (.seq (.reg [zi 66 (.mov (.t 5)),
 zi 2 (.mov (.t 66)),
 zi 3 (.mov (.c (.int .i64 25)))])
 (.ret))
 (.skip))))))))))
 (.reg [zi 67 (.mov (.t 4)),
 zi 68 (.faddr 1 (.t 6)),
 zi 69 (.load 2 true (.t 68)),
 zi 70 (.faddr 3 (.t 6)),
 zi 71 (.load 1 false (.t 70)),
 zn (.mapset (.struct [.int, .int]) (.t 67) (.t 69) (.t 71))]))))
 (.reg [zi 72 (.bin .add (.t 20) (.c (.int .i64 1))),
 zi 20 (.mov (.t 72))]))))
def ir_history_Check : IFn :=
  { params := 1, results := [.tmp 2, .tmp 3], body :=
  (.seq (.reg [zi 1 (.box (.t 0)),
 zi 2 (.mov (.c (.int .i64 0))),
 zi 3 (.mov (.c (.int .i64 0)))])
 (.seq (.seq (.reg [zi 7 (.faddr 0 (.t 1)),
 zi 8 (.load 1 false (.t 7)),
 zi 9 (.bin .gtr (.t 8) (.c (.int .u64 4294967296))),
 zi 10 (.mov (.t 9)),
 zg 11 10 false (.faddr 1 (.t 1)),
 zg 12 10 false (.load 1 false (.t 11)),
 zg 13 10 false (.len .sl (.t 12)),
 zg 14 10 false (.bin .gtr (.t 13) (.c (.int .i64 2147483648))),
 zi 15 (.pick (.t 10) (.c (.bool true)) (.t 14))])
 (.cond (.t 15)
 (.seq (.reg [zi 2 (.mov (.c (.int .i64 0))),
 zi 3 (.mov (.c (.int .i64 26)))])
 (.ret))
 (.skip)))
 (.seq (.reg [zi 16 (.mkmap),
 zi 4 (.mov (.t 16))])
 (.seq (.seq (.reg [zi 17 (.faddr 1 (.t 1)),
 zi 18 (.load 1 false (.t 17)),
 zi 19 (.len .sl (.t 18)),
 zi 20 (.mov (.c (.int .i64 0)))])
 (.block 0
 (.loop [1, 4, 18, 19, 20] history_Check_b0)))
 (.seq (.reg [zi 2 (.mov (.c (.int .i64 0))),
 zi 3 (.mov (.c (.int .i64 0)))])
 (.ret)))))) }
def slices_Equal_api_Event_api_Event_b0 : IC :=
  (.seq (.reg [zi 14 (.bin .lss (.t 13) (.t 12))])
 (.seq (.cond (.t 14)
 (.skip)
 (.exit 0))
 (.seq (.block 1
 (.seq (.reg [zi 15 (.mov (.t 13)),
 zi 5 (.mov (.t 15))])
 (.seq (.regD [0, 1, 2, 3, 4, 5, 6, 7, 8] [zi 16 (.mov (.t 0)),
 zi 17 (.mov (.t 5)),
 zi 18 (.iaddr 4 (.t 16) (.t 17)),
 zi 19 (.load 4 true (.t 18)),
 zi 20 (.mov (.t 1)),
 zi 21 (.mov (.t 5)),
 zi 22 (.iaddr 4 (.t 20) (.t 21)),
 zi 23 (.load 4 true (.t 22)),
 zi 24 (.eq (.struct [.int, .int, .int, .bool]) true (.t 19) (.t 23))])
 (.cond (.t 24)
 (.seq (.reg [zi 4 (.mov (.c (.bool false)))])
 (.ret))
 (.skip)))))
 (.reg [zi 25 (.bin .add (.t 13) (.c (.int .i64 1))),
 zi 13 (.mov (.t 25))]))))
def ir_slices_Equal_api_Event_api_Event : IFn :=
  { params := 2, results := [.tmp 4], body :=
  (.seq (.reg [zi 4 (.mov (.c (.bool false)))])
 (.seq (.seq (.reg [zi 6 (.mov (.t 0)),
 zi 7 (.len .sl (.t 6)),
 zi 8 (.mov (.t 1)),
 zi 9 (.len .sl (.t 8)),
 zi 10 (.bin .neq (.t 7) (.t 9))])
 (.cond (.t 10)
 (.seq (.reg [zi 4 (.mov (.c (.bool false)))])
 (.ret))
 (.skip)))
 (.seq (.seq (.reg [zi 11 (.mov (.t 0)),
 zi 12 (.len .sl (.t 11)),
 zi 13 (.mov (.c (.int .i64 0)))])
 (.block 0
 (.loop [0, 1, 12, 13] slices_Equal_api_Event_api_Event_b0)))
 (.seq (.reg [zi 4 (.mov (.c (.bool true)))])
 (.ret))))) }
def ir_history_Same : IFn :=
  { params := 2, results := [.tmp 4], body :=
  (.seq (.reg [zi 2 (.box (.t 0)),
 zi 3 (.box (.t 1)),
 zi 4 (.mov (.c (.bool false)))])
 (.seq (.reg [zi 5 (.faddr 0 (.t 2)),
 zi 6 (.load 1 false (.t 5)),
 zi 7 (.faddr 0 (.t 3)),
 zi 8 (.load 1 false (.t 7)),
 zi 9 (.bin .eql (.t 6) (.t 8)),
 zi 10 (.mov (.t 9)),
 zg 11 10 true (.faddr 1 (.t 2)),
 zg 12 10 true (.load 1 false (.t 11)),
 zg 13 10 true (.faddr 1 (.t 3)),
 zg 14 10 true (.load 1 false (.t 13)),
 zg 15 10 true (.call fid_slices_Equal_api_Event_api_Event [(.t 12), (.t 14)]),
 zi 16 (.pick (.t 10) (.t 15) (.c (.bool false))),
 zi 4 (.mov (.t 16))])
 (.ret))) }
def ir_slices_Clone_api_Event_api_Event : IFn :=
  { params := 1, results := [.tmp 2], body :=
  (.seq (.reg [zi 2 (.mov (.c .nils))])
 (.seq (.seq (.reg [zi 3 (.mov (.t 0)),
 zi 4 (.eq .slice false (.t 3) (.c .nils))])
 (.cond (.t 4)
 (.seq (.reg [zi 2 (.mov (.c .nils))])
 (.ret))
 (.skip)))
 (.seq (.reg [zi 5 (.mkrow 4 0 [(.int .i64 0), (.int .u32 0), (.int .u32 0), (.bool false)] []),
 zi 6 (.mov (.t 0)),
 zi 7 (.append 4 24 (.t 5) (.t 6)),
 zi 2 (.mov (.t 7))])
 (.ret)))) }
def ir_history_Copy : IFn :=
  { params := 1, results := [.cell 2 2 true], body :=
  (.seq (.reg [zi 1 (.box (.t 0)),
 zi 2 (.box (.c (.agg [(.int .u64 0), .nils])))])
 (.seq (.reg [zi 3 (.faddr 1 (.t 1)),
 zi 4 (.load 1 false (.t 3)),
 zi 5 (.call fid_slices_Clone_api_Event_api_Event [(.t 4)]),
 zi 6 (.faddr 1 (.t 1)),
 zn (.store 1 (.t 6) (.t 5))])
 (.seq (.reg [zi 7 (.load 2 true (.t 1)),
 zn (.store 2 (.t 2) (.t 7))])
 (.ret)))) }
def ir_history_Last : IFn :=
  { params := 1, results := [.tmp 2], body :=
  (.seq (.reg [zi 1 (.box (.t 0)),
 zi 2 (.mov (.c (.int .i64 0)))])
 (.seq (.seq (.reg [zi 3 (.faddr 1 (.t 1)),
 zi 4 (.load 1 false (.t 3)),
 zi 5 (.len .sl (.t 4)),
 zi 6 (.bin .eql (.t 5) (.c (.int .i64 0)))])
 (.cond (.t 6)
 (.seq (.reg [zi 2 (.mov (.c (.int .i64 (-1))))])
 (.ret))
 (.skip)))
 (.seq (.reg [zi 7 (.faddr 1 (.t 1)),
 zi 8 (.load 1 false (.t 7)),
 zi 9 (.faddr 1 (.t 1)),
 zi 10 (.load 1 false (.t 9)),
 zi 11 (.len .sl (.t 10)),
 zi 12 (.bin .sub (.t 11) (.c (.int .i64 1))),
 zi 13 (.iaddr 4 (.t 8) (.t 12)),
 zi 14 (.faddr 0 (.t 13)),
 zi 15 (.load 1 false (.t 14)),
 zi 2 (.mov (.t 15))])
 (.ret)))) }
def sort_Search_b0 : IC :=
  (.seq (.seq (.reg [zi 9 (.mov (.t 5)),
 zi 10 (.mov (.t 6)),
 zi 11 (.bin .lss (.t 9) (.t 10))])
 (.cond (.t 11)
 (.skip)
 (.exit 0)))
 (.block 1
 (.seq (.reg [zi 12 (.mov (.t 5)),
 zi 13 (.mov (.t 6)),
 zi 14 (.bin .add (.t 12) (.t 13)),
 zi 15 (.conv .u64 (.t 14)),
 zi 16 (.bin .shr (.t 15) (.c (.int .u64 1))),
 zi 17 (.conv .i64 (.t 16)),
 zi 7 (.mov (.t 17))])
 (.seq (.reg [zi 18 (.mov (.t 1)),
 zi 19 (.mov (.t 7)),
 zi 20 (.callv (.t 18) [(.t 19)]),
 zi 21 (.un .not (.t 20))])
 (.cond (.t 21)
 (.reg [zi 22 (.mov (.t 7)),
 zi 23 (.bin .add (.t 22) (.c (.int .i64 1))),
 zi 5 (.mov (.t 23))])
 (.reg [zi 24 (.mov (.t 7)),
 zi 6 (.mov (.t 24))]))))))
def ir_sort_Search : IFn :=
  { params := 2, results := [.tmp 4], body :=
  (.seq (.reg [zi 4 (.mov (.c (.int .i64 0)))])
 (.seq (.reg [zi 8 (.mov (.t 0)),
 zi 5 (.mov (.c (.int .i64 0))),
 zi 6 (.mov (.t 8))])
 (.seq (.block 0
 (.loop [1, 5, 6] sort_Search_b0))
 (.seq (.reg [zi 25 (.mov (.t 5)),
 zi 4 (.mov (.t 25))])
 (.ret))))) }
def ir_history_Upto_1 : IFn :=
  { params := 3, results := [.tmp 4], body :=
  (.seq (.reg [zi 4 (.mov (.c (.bool false)))])
 (.seq (.regD [0, 1, 2, 3, 4, 5, 6, 7, 8] [zi 5 (.faddr 1 (.t 1)),
 zi 6 (.load 1 false (.t 5)),
 zi 7 (.mov (.t 0)),
 zi 8 (.iaddr 4 (.t 6) (.t 7)),
 zi 9 (.faddr 0 (.t 8)),
 zi 10 (.load 1 false (.t 9)),
 zi 11 (.load 1 false (.t 2)),
 zi 12 (.bin .gtr (.t 10) (.t 11)),
 zi 4 (.mov (.t 12))])
 (.ret))) }
def ir_history_Upto : IFn :=
  { params := 2, results := [.tmp 4], body :=
  (.seq (.reg [zi 2 (.box (.t 0)),
 zi 3 (.box (.t 1)),
 zi 4 (.mov (.c (.int .i64 0)))])
 (.seq (.reg [zi 5 (.faddr 1 (.t 2)),
 zi 6 (.load 1 false (.t 5)),
 zi 7 (.len .sl (.t 6)),
 zi 8 (.mkfn (.func fid_history_Upto_1) [] [(.t 2), (.t 3)]),
 zi 9 (.call fid_sort_Search [(.t 7), (.t 8)]),
 zi 4 (.mov (.t 9))])
 (.ret))) }
def ir_archipelagolaw9_known : IFn :=
  { params := 0, results := [.tmp 0], body :=
  (.seq (.reg [zi 0 (.mov (.c (.bool false)))])
 (.seq (.reg [zi 7 (.build [(.int .u32 0), (.int .u32 0)] [(0, 1, (.c (.int .u32 0))), (1, 1, (.c (.int .u32 1)))]),
 zi 8 (.build [(.int .i64 0), (.int .u32 0), (.int .u32 0), (.bool false)] [(0, 1, (.c (.int .i64 1))), (1, 2, (.t 7)), (3, 1, (.c (.bool true)))]),
 zi 9 (.build [(.int .u32 0), (.int .u32 0)] [(0, 1, (.c (.int .u32 0))), (1, 1, (.c (.int .u32 1)))]),
 zi 10 (.build [(.int .i64 0), (.int .u32 0), (.int .u32 0), (.bool false)] [(0, 1, (.c (.int .i64 2))), (1, 2, (.t 9)), (3, 1, (.c (.bool true)))]),
 zi 11 (.mkrow 4 2 [(.int .i64 0), (.int .u32 0), (.int .u32 0), (.bool false)] [(0, (.t 8)), (1, (.t 10))]),
 zi 12 (.build [(.int .u64 0), .nils] [(0, 1, (.c (.int .u64 3))), (1, 1, (.t 11))]),
 zi 1 (.box (.c (.agg [(.int .u64 0), .nils]))),
 zn (.store 2 (.t 1) (.t 12))])
 (.seq (.reg [zi 14 (.load 2 true (.t 1)),
 zi 15 (.call fid_history_Check [(.t 14)]),
 zi 13 (.mov (.t 15)),
 zi 16 (.extract (.t 13) 0),
 zi 17 (.extract (.t 13) 1),
 zi 2 (.mov (.t 16)),
 zi 3 (.mov (.t 17))])
 (.seq (.reg [zi 18 (.load 2 true (.t 1)),
 zi 4 (.box (.c (.agg [(.int .u64 0), .nils]))),
 zn (.store 2 (.t 4) (.t 18))])
 (.seq (.reg [zi 19 (.faddr 1 (.t 1)),
 zi 20 (.load 1 false (.t 19)),
 zi 21 (.slice false 4 (.t 20) none (some (.c (.int .i64 1))) none),
 zi 22 (.faddr 1 (.t 4)),
 zn (.store 1 (.t 22) (.t 21))])
 (.seq (.reg [zi 24 (.load 2 true (.t 4)),
 zi 25 (.call fid_history_Check [(.t 24)]),
 zi 23 (.mov (.t 25)),
 zi 26 (.extract (.t 23) 0),
 zi 27 (.extract (.t 23) 1),
 zi 5 (.mov (.t 26)),
 zi 6 (.mov (.t 27))])
 (.seq (.regD [0, 1, 2, 3, 4, 5, 6, 7, 8, 9, 10, 11, 12, 13, 14, 15, 16, 17, 18, 19, 20, 21, 22, 23, 24, 25, 26, 27, 28, 29, 30, 31, 32, 33, 34, 35, 36, 37, 38, 39, 40, 41, 42, 43, 44, 45, 46, 47] [zi 28 (.mov (.t 2)),
 zi 29 (.bin .eql (.t 28) (.c (.int .i64 1))),
 zi 30 (.mov (.t 29)),
 zg 31 30 true (.mov (.t 3)),
 zg 32 30 true (.bin .eql (.t 31) (.c (.int .i64 25))),
 zi 33 (.pick (.t 30) (.t 32) (.c (.bool false))),
 zi 34 (.mov (.t 33)),
 zg 35 34 true (.mov (.t 6)),
 zg 36 34 true (.bin .eql (.t 35) (.c (.int .i64 0))),
 zi 37 (.pick (.t 34) (.t 36) (.c (.bool false))),
 zi 38 (.mov (.t 37)),
 zg 39 38 true (.load 2 true (.t 4)),
 zg 40 38 true (.load 2 true (.t 4)),
 zg 41 38 true (.call fid_history_Same [(.t 39), (.t 40)]),
 zi 42 (.pick (.t 38) (.t 41) (.c (.bool false))),
 zi 43 (.mov (.t 42)),
 zg 44 43 true (.load 2 true (.t 4)),
 zg 45 43 true (.load 2 true (.t 1)),
 zg 46 43 true (.call fid_history_Same [(.t 44), (.t 45)]),
 zg 47 43 true (.un .not (.t 46)),
 zi 48 (.pick (.t 43) (.t 47) (.c (.bool false))),
 zi 49 (.mov (.t 48)),
 zg 50 49 true (.load 2 true (.t 4)),
 zg 51 49 true (.call fid_history_Upto [(.t 50), (.c (.int .i64 0))]),
 zg 52 49 true (.bin .eql (.t 51) (.c (.int .i64 0))),
 zi 53 (.pick (.t 49) (.t 52) (.c (.bool false))),
 zi 54 (.mov (.t 53)),
 zg 55 54 true (.load 2 true (.t 4)),
 zg 56 54 true (.call fid_history_Upto [(.t 55), (.c (.int .i64 1))]),
 zg 57 54 true (.bin .eql (.t 56) (.c (.int .i64 1))),
 zi 58 (.pick (.t 54) (.t 57) (.c (.bool false))),
 zi 59 (.mov (.t 58)),
 zg 60 59 true (.load 2 true (.t 4)),
 zg 61 59 true (.call fid_history_Last [(.t 60)]),
 zg 62 59 true (.bin .eql (.t 61) (.c (.int .i64 1))),
 zi 63 (.pick (.t 59) (.t 62) (.c (.bool false))),
 zi 64 (.mov (.t 63)),
 zg 65 64 true (.build [(.int .u64 0), .nils] []),
 zg 66 64 true (.call fid_history_Last [(.t 65)]),
 zg 67 64 true (.bin .eql (.t 66) (.c (.int .i64 (-1)))),
 zi 68 (.pick (.t 64) (.t 67) (.c (.bool false))),
 zi 69 (.mov (.t 68)),
 zg 70 69 true (.load 2 true (.t 4)),
 zg 71 69 true (.call fid_history_Copy [(.t 70)]),
 ⟨some 72, .load 2 true (.t 4), (some (69, true)), some (6, 7)⟩,
 zg 73 69 true (.call fid_history_Same [(.t 71), (.t 72)]),
 zi 74 (.pick (.t 69) (.t 73) (.c (.bool false))),
 zi 0 (.mov (.t 74))])
 (.ret)))))))) }
def ir_archipelagoseat_Vertices : IFn :=
  { params := 1, results := [.tmp 2], body :=
  (.seq (.reg [zi 2 (.mov (.c (.int .u64 0)))])
 (.seq (.reg [zi 3 (.mkrow 1 8 [(.int .u64 0)] [(0, (.c (.int .u64 8))), (1, (.c (.int .u64 5))), (2, (.c (.int .u64 2))), (3, (.c (.int .u64 4294967296))), (4, (.c (.int .u64 300))), (5, (.c (.int .u64 12))), (6, (.c (.int .u64 1048576))), (7, (.c (.int .u64 3)))]),
 zi 4 (.mov (.t 0)),
 zi 5 (.bin .rem (.t 4) (.c (.int .u8 8))),
 zi 6 (.iaddr 1 (.t 3) (.t 5)),
 zi 7 (.load 1 false (.t 6)),
 zi 2 (.mov (.t 7))])
 (.ret))) }
def ir_archipelagoseat_Edge : IFn :=
  { params := 3, results := [.cell 6 2 true, .tmp 7], body :=
  (.seq (.reg [zi 6 (.box (.c (.agg [(.int .u32 0), (.int .u32 0)]))),
 zi 7 (.mov (.c (.bool false)))])
 (.seq (.reg [zi 11 (.mov (.t 2)),
 zi 12 (.minmax true [(.t 11), (.c (.int .u64 9))]),
 zi 8 (.mov (.t 12))])
 (.seq (.regD [0, 1, 2, 3, 4, 5, 6, 7, 8, 9] [zi 13 (.mov (.t 0)),
 zi 14 (.conv .u64 (.t 13)),
 zi 15 (.mov (.t 8)),
 zi 16 (.bin .rem (.t 14) (.t 15)),
 zi 17 (.mov (.t 1)),
 zi 18 (.conv .u64 (.t 17)),
 zi 19 (.mov (.t 8)),
 zi 20 (.bin .rem (.t 18) (.t 19)),
 zi 9 (.mov (.t 16)),
 zi 10 (.mov (.t 20))])
 (.seq (.seq (.reg [zi 21 (.mov (.t 0)),
 zi 22 (.bin .gtr (.t 21) (.c (.int .u8 230)))])
 (.cond (.t 22)
 (.reg [zi 23 (.mov (.t 2)),
 zi 24 (.bin .sub (.t 23) (.c (.int .u64 1))),
 zi 25 (.mov (.t 9)),
 zi 26 (.bin .sub (.t 24) (.t 25)),
 zi 9 (.mov (.t 26))])
 (.skip)))
 (.seq (.seq (.reg [zi 27 (.mov (.t 1)),
 zi 28 (.bin .gtr (.t 27) (.c (.int .u8 240)))])
 (.cond (.t 28)
 (.reg [zi 29 (.mov (.t 2)),
 zi 30 (.bin .sub (.t 29) (.c (.int .u64 1))),
 zi 31 (.mov (.t 10)),
 zi 32 (.bin .sub (.t 30) (.t 31)),
 zi 10 (.mov (.t 32))])
 (.skip)))
 (.seq (.seq (.reg [zi 33 (.mov (.t 9)),
 zi 34 (.mov (.t 10)),
 zi 35 (.bin .eql (.t 33) (.t 34))])
 (.cond (.t 35)
 (.seq (.reg [zi 36 (.build [(.int .u32 0), (.int .u32 0)] []),
 zn (.store 2 (.t 6) (.t 36)),
 zi 7 (.mov (.c (.bool false)))])
 (.ret))
 (.skip)))
 (.seq (.reg [zi 37 (.mov (.t 9)),
 zi 38 (.mov (.t 10)),
 zi 39 (.minmax true [(.t 37), (.t 38)]),
 zi 40 (.conv .u32 (.t 39)),
 zi 41 (.mov (.t 9)),
 zi 42 (.mov (.t 10)),
 zi 43 (.minmax false [(.t 41), (.t 42)]),
 zi 44 (.conv .u32 (.t 43)),
 zi 45 (.build [(.int .u32 0), (.int .u32 0)] [(0, 1, (.t 40)), (1, 1, (.t 44))]),
 zn (.store 2 (.t 6) (.t 45)),
 zi 7 (.mov (.c (.bool true)))])
 (.ret)))))))) }
def ir_archipelagoref8_Less : IFn :=
  { params := 2, results := [.tmp 4], body :=
  (.seq (.reg [zi 2 (.box (.t 0)),
 zi 3 (.box (.t 1)),
 zi 4 (.mov (.c (.bool false)))])
 (.seq (.reg [zi 5 (.faddr 0 (.t 2)),
 zi 6 (.load 1 false (.t 5)),
 zi 7 (.faddr 0 (.t 3)),
 zi 8 (.load 1 false (.t 7)),
 zi 9 (.bin .lss (.t 6) (.t 8)),
 zi 10 (.mov (.t 9)),
 zg 11 10 false (.faddr 0 (.t 2)),
 zg 12 10 false (.load 1 false (.t 11)),
 zg 13 10 false (.faddr 0 (.t 3)),
 zg 14 10 false (.load 1 false (.t 13)),
 zg 15 10 false (.bin .eql (.t 12) (.t 14)),
 zg 16 10 false (.mov (.t 15)),
 zg 17 16 true (.faddr 1 (.t 2)),
 zg 18 16 true (.load 1 false (.t 17)),
 zg 19 16 true (.faddr 1 (.t 3)),
 zg 20 16 true (.load 1 false (.t 19)),
 zg 21 16 true (.bin .lss (.t 18) (.t 20)),
 zg 22 10 false (.pick (.t 16) (.t 21) (.c (.bool false))),
 zi 23 (.pick (.t 10) (.c (.bool true)) (.t 22)),
 zi 4 (.mov (.t 23))])
 (.ret))) }
def ir_archipelagoref8_Before : IFn :=
  { params := 2, results := [.tmp 4], body :=
  (.seq (.reg [zi 2 (.box (.t 0)),
 zi 3 (.box (.t 1)),
 zi 4 (.mov (.c (.bool false)))])
 (.seq (.reg [zi 5 (.faddr 0 (.t 2)),
 zi 6 (.load 1 false (.t 5)),
 zi 7 (.faddr 0 (.t 3)),
 zi 8 (.load 1 false (.t 7)),
 zi 9 (.bin .lss (.t 6) (.t 8)),
 zi 10 (.mov (.t 9)),
 zg 11 10 false (.faddr 0 (.t 2)),
 zg 12 10 false (.load 1 false (.t 11)),
 zg 13 10 false (.faddr 0 (.t 3)),
 zg 14 10 false (.load 1 false (.t 13)),
 zg 15 10 false (.bin .eql (.t 12) (.t 14)),
 zg 16 10 false (.mov (.t 15)),
 zg 17 16 true (.faddr 1 (.t 2)),
 zg 18 16 true (.load 2 true (.t 17)),
 zg 19 16 true (.faddr 1 (.t 3)),
 zg 20 16 true (.load 2 true (.t 19)),
 zg 21 16 true (.call fid_archipelagoref8_Less [(.t 18), (.t 20)]),
 zg 22 10 false (.pick (.t 16) (.t 21) (.c (.bool false))),
 zi 23 (.pick (.t 10) (.c (.bool true)) (.t 22)),
 zi 4 (.mov (.t 23))])
 (.ret))) }
def archipelagoseat_insert_b0 : IC :=
  (.seq (.seq (.regD [0, 1, 2, 3, 4, 5, 6, 7, 8, 9, 10] [zi 8 (.mov (.t 5)),
 zi 9 (.bin .gtr (.t 8) (.c (.int .i64 0))),
 zi 10 (.mov (.t 9)),
 zg 11 10 true (.load 4 true (.t 3)),
 zg 12 10 true (.mov (.t 0)),
 zg 13 10 true (.mov (.t 5)),
 zg 14 10 true (.bin .sub (.t 13) (.c (.int .i64 1))),
 zg 15 10 true (.iaddr 4 (.t 12) (.t 14)),
 zg 16 10 true (.load 4 true (.t 15)),
 zg 17 10 true (.call fid_archipelagoref8_Before [(.t 11), (.t 16)]),
 zi 18 (.pick (.t 10) (.t 17) (.c (.bool false)))])
 (.cond (.t 18)
 (.skip)
 (.exit 0)))
 (.block 1
 (.reg [zi 19 (.mov (.t 5)),
 zi 20 (.bin .sub (.t 19) (.c (.int .i64 1))),
 zi 5 (.mov (.t 20))])))
def ir_archipelagoseat_insert : IFn :=
  { params := 2, results := [.tmp 4], body :=
  (.seq (.reg [zi 3 (.box (.t 1)),
 zi 4 (.mov (.c .nils))])
 (.seq (.reg [zi 6 (.mov (.t 0)),
 zi 7 (.len .sl (.t 6)),
 zi 5 (.mov (.t 7))])
 (.seq (.block 0
 (.loop [0, 3, 5] archipelagoseat_insert_b0))
 (.seq (.seq (.regD [0, 1, 2, 3, 4, 5, 6, 7, 8, 9, 10, 11, 12, 13, 14, 15, 16, 17, 18, 19, 20, 21, 22, 23] [zi 21 (.mov (.t 5)),
 zi 22 (.bin .gtr (.t 21) (.c (.int .i64 0))),
 zi 23 (.mov (.t 22)),
 zg 24 23 true (.mov (.t 0)),
 zg 25 23 true (.mov (.t 5)),
 zg 26 23 true (.bin .sub (.t 25) (.c (.int .i64 1))),
 zg 27 23 true (.iaddr 4 (.t 24) (.t 26)),
 zg 28 23 true (.faddr 0 (.t 27)),
 zg 29 23 true (.load 1 false (.t 28)),
 zg 30 23 true (.faddr 0 (.t 3)),
 zg 31 23 true (.load 1 false (.t 30)),
 zg 32 23 true (.bin .eql (.t 29) (.t 31)),
 zi 33 (.pick (.t 23) (.t 32) (.c (.bool false))),
 zi 34 (.mov (.t 33)),
 zg 35 34 true (.mov (.t 0)),
 zg 36 34 true (.mov (.t 5)),
 zg 37 34 true (.bin .sub (.t 36) (.c (.int .i64 1))),
 zg 38 34 true (.iaddr 4 (.t 35) (.t 37)),
 zg 39 34 true (.faddr 1 (.t 38)),
 zg 40 34 true (.load 2 true (.t 39)),
 zg 41 34 true (.faddr 1 (.t 3)),
 zg 42 34 true (.load 2 true (.t 41)),
 zg 43 34 true (.eq (.struct [.int, .int]) false (.t 40) (.t 42)),
 zi 44 (.pick (.t 34) (.t 43) (.c (.bool false)))])
 (.cond (.t 44)
 (.seq (.reg [zi 45 (.mov (.t 0)),
 zi 4 (.mov (.t 45))])
 (.ret))
 (.skip)))
 (.seq (.regD [0, 1, 2, 3, 4, 5, 6, 7, 8, 9, 10, 11] [zi 46 (.mov (.t 0)),
 zi 47 (.mov (.t 5)),
 zi 48 (.slice false 4 (.t 46) none (some (.t 47)) none),
 zi 49 (.append 4 24 (.c .nils) (.t 48)),
 ⟨some 50, .load 4 true (.t 3), none, some (0, 1)⟩,
 zi 51 (.mkrow 4 1 [(.int .i64 0), (.int .u32 0), (.int .u32 0), (.bool false)] [(0, (.t 50))]),
 zi 52 (.append 4 24 (.t 49) (.t 51)),
 zi 53 (.mov (.t 0)),
 zi 54 (.mov (.t 5)),
 zi 55 (.slice false 4 (.t 53) (some (.t 54)) none none),
 zi 56 (.append 4 24 (.t 52) (.t 55)),
 zi 4 (.mov (.t 56))])
 (.ret)))))) }
def archipelagoref8_Find_b0 : IC :=
  (.seq (.seq (.reg [zi 6 (.mov (.t 5)),
 zi 7 (.mov (.t 0)),
 zi 8 (.len .sl (.t 7)),
 zi 9 (.bin .lss (.t 6) (.t 8))])
 (.cond (.t 9)
 (.skip)
 (.exit 0)))
 (.seq (.block 1
 (.seq (.regD [0, 1, 2, 3, 4, 5] [zi 12 (.mov (.t 0)),
 zi 13 (.mov (.t 5)),
 zi 14 (.iaddr 2 (.t 12) (.t 13)),
 zi 15 (.load 2 true (.t 14)),
 zi 16 (.load 2 true (.t 3)),
 zi 17 (.eq (.struct [.int, .int]) false (.t 15) (.t 16))])
 (.cond (.t 17)
 (.seq (.reg [zi 18 (.mov (.t 5)),
 zi 4 (.mov (.t 18))])
 (.ret))
 (.skip))))
 (.reg [zi 10 (.mov (.t 5)),
 zi 11 (.bin .add (.t 10) (.c (.int .i64 1))),
 zi 5 (.mov (.t 11))])))
def ir_archipelagoref8_Find : IFn :=
  { params := 2, results := [.tmp 4], body :=
  (.seq (.reg [zi 3 (.box (.t 1)),
 zi 4 (.mov (.c (.int .i64 0)))])
 (.seq (.seq (.reg [zi 5 (.mov (.c (.int .i64 0)))])
 (.block 0
 (.loop [0, 3, 5] archipelagoref8_Find_b0)))
 (.seq (.reg [zi 4 (.mov (.c (.int .i64 (-1))))])
 (.ret)))) }
def ir_archipelagoref8_Has : IFn :=
  { params := 2, results := [.tmp 4], body :=
  (.seq (.reg [zi 3 (.box (.t 1)),
 zi 4 (.mov (.c (.bool false)))])
 (.seq (.reg [zi 5 (.mov (.t 0)),
 zi 6 (.load 2 true (.t 3)),
 zi 7 (.call fid_archipelagoref8_Find [(.t 5), (.t 6)]),
 zi 8 (.bin .geq (.t 7) (.c (.int .i64 0))),
 zi 4 (.mov (.t 8))])
 (.ret))) }
def archipelagoref8_Rising_b0 : IC :=
  (.seq (.seq (.reg [zi 4 (.mov (.t 3)),
 zi 5 (.mov (.t 0)),
 zi 6 (.len .sl (.t 5)),
 zi 7 (.bin .lss (.t 4) (.t 6))])
 (.cond (.t 7)
 (.skip)
 (.exit 0)))
 (.seq (.block 1
 (.seq (.regD [0, 1, 2, 3, 4, 5, 6, 7, 8, 9, 10] [zi 10 (.mov (.t 0)),
 zi 11 (.mov (.t 3)),
 zi 12 (.bin .sub (.t 11) (.c (.int .i64 1))),
 zi 13 (.iaddr 2 (.t 10) (.t 12)),
 zi 14 (.load 2 true (.t 13)),
 zi 15 (.mov (.t 0)),
 zi 16 (.mov (.t 3)),
 zi 17 (.iaddr 2 (.t 15) (.t 16)),
 zi 18 (.load 2 true (.t 17)),
 zi 19 (.call fid_archipelagoref8_Less [(.t 14), (.t 18)]),
 zi 20 (.un .not (.t 19))])
 (.cond (.t 20)
 (.seq (.reg [zi 2 (.mov (.c (.bool false)))])
 (.ret))
 (.skip))))
 (.reg [zi 8 (.mov (.t 3)),
 zi 9 (.bin .add (.t 8) (.c (.int .i64 1))),
 zi 3 (.mov (.t 9))])))
def ir_archipelagoref8_Rising : IFn :=
  { params := 1, results := [.tmp 2], body :=
  (.seq (.reg [zi 2 (.mov (.c (.bool false)))])
 (.seq (.seq (.reg [zi 3 (.mov (.c (.int .i64 1)))])
 (.block 0
 (.loop [0, 3] archipelagoref8_Rising_b0)))
 (.seq (.reg [zi 2 (.mov (.c (.bool true)))])
 (.ret)))) }
def archipelagoref8_Turn_b0 : IC :=
  (.seq (.seq (.regD [0, 1, 2, 3, 4, 5, 6, 7, 8, 9, 10, 11, 12] [zi 33 (.mov (.t 6)),
 zi 34 (.mov (.t 0)),
 zi 35 (.len .sl (.t 34)),
 zi 36 (.bin .lss (.t 33) (.t 35)),
 zi 37 (.mov (.t 36)),
 zg 38 37 true (.mov (.t 0)),
 zg 39 37 true (.mov (.t 6)),
 zg 40 37 true (.iaddr 2 (.t 38) (.t 39)),
 zg 41 37 true (.load 2 true (.t 40)),
 zg 42 37 true (.faddr 1 (.t 3)),
 zg 43 37 true (.load 2 true (.t 42)),
 zg 44 37 true (.call fid_archipelagoref8_Less [(.t 41), (.t 43)]),
 zi 45 (.pick (.t 37) (.t 44) (.c (.bool false)))])
 (.cond (.t 45)
 (.skip)
 (.exit 0)))
 (.block 1
 (.reg [zi 46 (.mov (.t 6)),
 zi 47 (.bin .add (.t 46) (.c (.int .i64 1))),
 zi 6 (.mov (.t 47))])))
def ir_archipelagoref8_Turn : IFn :=
  { params := 2, results := [.tmp 4, .tmp 5], body :=
  (.seq (.reg [zi 3 (.box (.t 1)),
 zi 4 (.mov (.c .nils)),
 zi 5 (.mov (.c (.bool false)))])
 (.seq (.reg [zi 7 (.mov (.t 0)),
 zi 8 (.faddr 1 (.t 3)),
 zi 9 (.load 2 true (.t 8)),
 zi 10 (.call fid_archipelagoref8_Find [(.t 7), (.t 9)]),
 zi 6 (.mov (.t 10))])
 (.seq (.seq (.reg [zi 11 (.mov (.t 0)),
 zi 12 (.call fid_archipelagoref8_Rising [(.t 11)]),
 zi 13 (.un .not (.t 12)),
 zi 14 (.mov (.t 13)),
 zg 15 14 false (.faddr 3 (.t 3)),
 zg 16 14 false (.load 1 false (.t 15)),
 zg 17 14 false (.mov (.t 6)),
 zg 18 14 false (.bin .geq (.t 17) (.c (.int .i64 0))),
 zg 19 14 false (.eq .bool false (.t 16) (.t 18)),
 zi 20 (.pick (.t 14) (.c (.bool true)) (.t 19))])
 (.cond (.t 20)
 (.seq (.reg [zi 4 (.mov (.c .nils)),
 zi 5 (.mov (.c (.bool false)))])
 (.ret))
 (.skip)))
 (.seq (.seq (.reg [zi 21 (.faddr 3 (.t 3)),
 zi 22 (.load 1 false (.t 21)),
 zi 23 (.un .not (.t 22))])
 (.cond (.t 23)
 (.seq (.regD [0, 1, 2, 3, 4, 5, 6, 7, 8, 9, 10] [zi 24 (.mov (.t 0)),
 zi 25 (.mov (.t 6)),
 zi 26 (.slice false 2 (.t 24) none (some (.t 25)) none),
 zi 27 (.append 2 8 (.c .nils) (.t 26)),
 zi 28 (.mov (.t 0)),
 zi 29 (.mov (.t 6)),
 zi 30 (.bin .add (.t 29) (.c (.int .i64 1))),
 zi 31 (.slice false 2 (.t 28) (some (.t 30)) none none),
 zi 32 (.append 2 8 (.t 27) (.t 31)),
 zi 4 (.mov (.t 32)),
 zi 5 (.mov (.c (.bool true)))])
 (.ret))
 (.skip)))
 (.seq (.reg [zi 6 (.mov (.c (.int .i64 0)))])
 (.seq (.block 0
 (.loop [0, 3, 6] archipelagoref8_Turn_b0))
 (.seq (.regD [0, 1, 2, 3, 4, 5, 6, 7, 8, 9, 10, 11, 12, 13] [zi 48 (.mov (.t 0)),
 zi 49 (.mov (.t 6)),
 zi 50 (.slice false 2 (.t 48) none (some (.t 49)) none),
 zi 51 (.append 2 8 (.c .nils) (.t 50)),
 zi 52 (.faddr 1 (.t 3)),
 ⟨some 53, .load 2 true (.t 52), none, some (0, 1)⟩,
 zi 54 (.mkrow 2 1 [(.int .u32 0), (.int .u32 0)] [(0, (.t 53))]),
 zi 55 (.append 2 8 (.t 51) (.t 54)),
 zi 56 (.mov (.t 0)),
 zi 57 (.mov (.t 6)),
 zi 58 (.slice false 2 (.t 56) (some (.t 57)) none none),
 zi 59 (.append 2 8 (.t 55) (.t 58)),
 zi 4 (.mov (.t 59)),
 zi 5 (.mov (.c (.bool true)))])
 (.ret)))))))) }
def archipelagoseat_History_b0 : IC :=
  (.seq (.seq (.reg [zi 20 (.mov (.t 8)),
 zi 21 (.bin .add (.t 20) (.c (.int .i64 2))),
 zi 22 (.mov (.t 1)),
 zi 23 (.len .sl (.t 22)),
 zi 24 (.bin .lss (.t 21) (.t 23)),
 zi 25 (.mov (.t 24)),
 zg 26 25 true (.mov (.t 7)),
 zg 27 25 true (.len .sl (.t 26)),
 zg 28 25 true (.bin .lss (.t 27) (.c (.int .i64 40))),
 zi 29 (.pick (.t 25) (.t 28) (.c (.bool false)))])
 (.cond (.t 29)
 (.skip)
 (.exit 0)))
 (.seq (.block 1
 (.seq (.reg [zi 32 (.mov (.t 6)),
 zi 33 (.mov (.t 1)),
 zi 34 (.mov (.t 8)),
 zi 35 (.iaddr 1 (.t 33) (.t 34)),
 zi 36 (.load 1 false (.t 35)),
 zi 37 (.bin .rem (.t 36) (.c (.int .u8 4))),
 zi 38 (.conv .i64 (.t 37)),
 zi 39 (.bin .add (.t 32) (.t 38)),
 zi 6 (.mov (.t 39))])
 (.seq (.seq (.reg [zi 40 (.mov (.t 1)),
 zi 41 (.mov (.t 8)),
 zi 42 (.iaddr 1 (.t 40) (.t 41)),
 zi 43 (.load 1 false (.t 42)),
 zi 44 (.bin .gtr (.t 43) (.c (.int .u8 240)))])
 (.cond (.t 44)
 (.reg [zi 45 (.mov (.t 6)),
 zi 46 (.mov (.t 1)),
 zi 47 (.mov (.t 8)),
 zi 48 (.iaddr 1 (.t 46) (.t 47)),
 zi 49 (.load 1 false (.t 48)),
 zi 50 (.bin .rem (.t 49) (.c (.int .u8 40))),
 zi 51 (.bin .shl (.c (.int .i64 1)) (.t 50)),
 zi 52 (.bin .add (.t 45) (.t 51)),
 zi 6 (.mov (.t 52))])
 (.skip)))
 (.seq (.regD [0, 1, 2, 3, 4, 5, 6, 7, 8, 9, 10, 11, 12, 13, 14, 16, 17, 15, 18] [zi 54 (.mov (.t 1)),
 zi 55 (.mov (.t 8)),
 zi 56 (.bin .add (.t 55) (.c (.int .i64 1))),
 zi 57 (.iaddr 1 (.t 54) (.t 56)),
 zi 58 (.load 1 false (.t 57)),
 zi 59 (.mov (.t 1)),
 zi 60 (.mov (.t 8)),
 zi 61 (.bin .add (.t 60) (.c (.int .i64 2))),
 zi 62 (.iaddr 1 (.t 59) (.t 61)),
 zi 63 (.load 1 false (.t 62)),
 zi 64 (.faddr 0 (.t 5)),
 zi 65 (.load 1 false (.t 64)),
 zi 66 (.call fid_archipelagoseat_Edge [(.t 58), (.t 63), (.t 65)]),
 zi 53 (.mov (.t 66)),
 zi 67 (.extract (.t 53) 0),
 zi 9 (.box (.c (.agg [(.int .u32 0), (.int .u32 0)]))),
 zn (.store 2 (.t 9) (.t 67)),
 zi 68 (.extract (.t 53) 1),
 zi 10 (.mov (.t 68))])
 (.seq (.reg [zi 69 (.mov (.t 10))])
 (.cond (.t 69)
 (.reg [zi 70 (.mov (.t 7)),
 zi 71 (.mov (.t 6)),
 zi 72 (.load 2 true (.t 9)),
 zi 73 (.build [(.int .i64 0), (.int .u32 0), (.int .u32 0), (.bool false)] [(0, 1, (.t 71)), (1, 2, (.t 72))]),
 zi 74 (.call fid_archipelagoseat_insert [(.t 70), (.t 73)]),
 zi 7 (.mov (.t 74))])
 (.skip)))))))
 (.reg [zi 30 (.mov (.t 8)),
 zi 31 (.bin .add (.t 30) (.c (.int .i64 3))),
 zi 8 (.mov (.t 31))])))
def archipelagoseat_History_b1 : IC :=
  (.seq (.seq (.reg [zi 75 (.mov (.t 12)),
 zi 76 (.mov (.t 7)),
 zi 77 (.len .sl (.t 76)),
 zi 78 (.bin .lss (.t 75) (.t 77))])
 (.cond (.t 78)
 (.skip)
 (.exit 2)))
 (.seq (.block 3
 (.seq (.reg [zi 81 (.mov (.t 7)),
 zi 82 (.mov (.t 12)),
 zi 83 (.iaddr 4 (.t 81) (.t 82)),
 zi 84 (.load 4 true (.t 83)),
 zi 13 (.box (.c (.agg [(.int .i64 0), (.int .u32 0), (.int .u32 0), (.bool false)]))),
 zn (.store 4 (.t 13) (.t 84))])
 (.seq (.reg [zi 85 (.mov (.t 11)),
 zi 86 (.faddr 1 (.t 13)),
 zi 87 (.load 2 true (.t 86)),
 zi 88 (.call fid_archipelagoref8_Has [(.t 85), (.t 87)]),
 zi 89 (.un .not (.t 88)),
 zi 90 (.faddr 3 (.t 13)),
 zn (.store 1 (.t 90) (.t 89))])
 (.seq (.reg [zi 92 (.mov (.t 11)),
 zi 93 (.load 4 true (.t 13)),
 zi 94 (.call fid_archipelagoref8_Turn [(.t 92), (.t 93)]),
 zi 91 (.mov (.t 94)),
 zi 95 (.extract (.t 91) 0),
 zi 96 (.extract (.t 91) 1),
 zi 11 (.mov (.t 95))])
 (.reg [zi 97 (.faddr 1 (.t 5)),
 zi 98 (.load 1 false (.t 97)),
 zi 99 (.load 4 true (.t 13)),
 zi 100 (.mkrow 4 1 [(.int .i64 0), (.int .u32 0), (.int .u32 0), (.bool false)] [(0, (.t 99))]),
 zi 101 (.append 4 24 (.t 98) (.t 100)),
 zi 102 (.faddr 1 (.t 5)),
 zn (.store 1 (.t 102) (.t 101))])))))
 (.reg [zi 79 (.mov (.t 12)),
 zi 80 (.bin .add (.t 79) (.c (.int .i64 1))),
 zi 12 (.mov (.t 80))])))
def ir_archipelagoseat_History : IFn :=
  { params := 2, results := [.cell 4 2 true], body :=
  (.seq (.reg [zi 4 (.box (.c (.agg [(.int .u64 0), .nils])))])
 (.seq (.reg [zi 14 (.mov (.t 0)),
 zi 15 (.call fid_archipelagoseat_Vertices [(.t 14)]),
 zi 16 (.build [(.int .u64 0), .nils] [(0, 1, (.t 15))]),
 zi 5 (.box (.c (.agg [(.int .u64 0), .nils]))),
 zn (.store 2 (.t 5) (.t 16))])
 (.seq (.reg [zi 17 (.mov (.t 0)),
 zi 18 (.bin .rem (.t 17) (.c (.int .u8 3))),
 zi 19 (.conv .i64 (.t 18)),
 zi 6 (.mov (.t 19))])
 (.seq (.reg [zi 7 (.mov (.c .nils))])
 (.seq (.seq (.reg [zi 8 (.mov (.c (.int .i64 0)))])
 (.block 0
 (.loop [1, 4, 5, 6, 7, 8] archipelagoseat_History_b0)))
 (.seq (.reg [zi 11 (.mov (.c .nils))])
 (.seq (.seq (.reg [zi 12 (.mov (.c (.int .i64 0)))])
 (.block 2
 (.loop [4, 5, 7, 11, 12] archipelagoseat_History_b1)))
 (.seq (.reg [zi 103 (.load 2 true (.t 5)),
 zn (.store 2 (.t 4) (.t 103))])
 (.ret))))))))) }
def ir_archipelagoseat_Bent : IFn :=
  { params := 4, results := [.cell 8 2 true], body :=
  (.seq (.reg [zi 4 (.box (.t 0)),
 zi 8 (.box (.c (.agg [(.int .u64 0), .nils])))])
 (.seq (.reg [zi 12 (.faddr 1 (.t 4)),
 zi 13 (.load 1 false (.t 12)),
 zi 14 (.append 4 24 (.c .nils) (.t 13)),
 zi 9 (.mov (.t 14))])
 (.seq (.reg [zi 15 (.faddr 0 (.t 4)),
 zi 16 (.load 1 false (.t 15)),
 zi 17 (.mov (.t 9)),
 zi 18 (.build [(.int .u64 0), .nils] [(0, 1, (.t 16)), (1, 1, (.t 17))]),
 zi 10 (.box (.c (.agg [(.int .u64 0), .nils]))),
 zn (.store 2 (.t 10) (.t 18))])
 (.seq (.seq (.reg [zi 19 (.mov (.t 9)),
 zi 20 (.len .sl (.t 19)),
 zi 21 (.bin .eql (.t 20) (.c (.int .i64 0)))])
 (.cond (.t 21)
 (.seq (.reg [zi 22 (.mov (.t 3)),
 zi 23 (.conv .u64 (.t 22)),
 zi 24 (.faddr 0 (.t 10)),
 zn (.store 1 (.t 24) (.t 23))])
 (.seq (.reg [zi 25 (.load 2 true (.t 10)),
 zn (.store 2 (.t 8) (.t 25))])
 (.ret)))
 (.skip)))
 (.seq (.reg [zi 26 (.mov (.t 2)),
 zi 27 (.conv .i64 (.t 26)),
 zi 28 (.mov (.t 9)),
 zi 29 (.len .sl (.t 28)),
 zi 30 (.bin .rem (.t 27) (.t 29)),
 zi 11 (.mov (.t 30))])
 (.seq (.seq (.reg [zi 31 (.mov (.t 1)),
 zi 32 (.bin .rem (.t 31) (.c (.int .u8 8)))])
 (.block 0
 (.seq (.reg [zi 42 (.bin .eql (.t 32) (.c (.int .u8 0))),
 zi 41 (.mov (.t 42))])
 (.cond (.t 41)
 (.reg [zi 43 (.mov (.t 3)),
 zi 44 (.conv .u64 (.t 43)),
 zi 45 (.faddr 0 (.t 10)),
 zn (.store 1 (.t 45) (.t 44))])
 (.seq (.reg [zi 47 (.bin .eql (.t 32) (.c (.int .u8 1))),
 zi 46 (.mov (.t 47))])
 (.cond (.t 46)
 (.reg [zi 48 (.mov (.t 9)),
 zi 49 (.mov (.t 11)),
 zi 50 (.mov (.t 3)),
 zi 51 (.iaddr 4 (.t 48) (.t 49)),
 zi 52 (.faddr 0 (.t 51)),
 zn (.store 1 (.t 52) (.t 50))])
 (.seq (.reg [zi 54 (.bin .eql (.t 32) (.c (.int .u8 2))),
 zi 53 (.mov (.t 54))])
 (.cond (.t 53)
 (.reg [zi 55 (.mov (.t 9)),
 zi 56 (.mov (.t 11)),
 zi 57 (.mov (.t 3)),
 zi 58 (.conv .u32 (.t 57)),
 zi 59 (.iaddr 4 (.t 55) (.t 56)),
 zi 60 (.faddr 1 (.t 59)),
 zi 61 (.faddr 0 (.t 60)),
 zn (.store 1 (.t 61) (.t 58))])
 (.seq (.reg [zi 63 (.bin .eql (.t 32) (.c (.int .u8 3))),
 zi 62 (.mov (.t 63))])
 (.cond (.t 62)
 (.reg [zi 64 (.mov (.t 9)),
 zi 65 (.mov (.t 11)),
 zi 66 (.mov (.t 3)),
 zi 67 (.conv .u32 (.t 66)),
 zi 68 (.iaddr 4 (.t 64) (.t 65)),
 zi 69 (.faddr 1 (.t 68)),
 zi 70 (.faddr 1 (.t 69)),
 zn (.store 1 (.t 70) (.t 67))])
 (.seq (.reg [zi 72 (.bin .eql (.t 32) (.c (.int .u8 4))),
 zi 71 (.mov (.t 72))])
 (.cond (.t 71)
 (.reg [zi 73 (.mov (.t 9)),
 zi 74 (.mov (.t 11)),
 zi 75 (.mov (.t 9)),
 zi 76 (.mov (.t 11)),
 zi 77 (.iaddr 4 (.t 75) (.t 76)),
 zi 78 (.faddr 3 (.t 77)),
 zi 79 (.load 1 false (.t 78)),
 zi 80 (.un .not (.t 79)),
 zi 81 (.iaddr 4 (.t 73) (.t 74)),
 zi 82 (.faddr 3 (.t 81)),
 zn (.store 1 (.t 82) (.t 80))])
 (.seq (.reg [zi 84 (.bin .eql (.t 32) (.c (.int .u8 5))),
 zi 83 (.mov (.t 84))])
 (.cond (.t 83)
 (.regD [0, 1, 3, 4, 5, 6, 7, 8, 9, 10, 11, 2, 12, 13] [zi 85 (.mov (.t 9)),
 zi 86 (.mov (.t 11)),
 zi 88 (.mov (.t 9)),
 zi 89 (.iaddr 4 (.t 88) (.c (.int .i64 0))),
 zi 90 (.load 4 true (.t 89)),
 zi 91 (.mov (.t 9)),
 zi 92 (.mov (.t 11)),
 zi 93 (.iaddr 4 (.t 91) (.t 92)),
 zi 94 (.load 4 true (.t 93)),
 zi 95 (.iaddr 4 (.t 85) (.t 86)),
 zn (.store 4 (.t 95) (.t 90)),
 zi 87 (.mov (.t 9)),
 zi 96 (.iaddr 4 (.t 87) (.c (.int .i64 0))),
 zn (.store 4 (.t 96) (.t 94))])
 (.seq (.reg [zi 98 (.bin .eql (.t 32) (.c (.int .u8 6))),
 zi 97 (.mov (.t 98))])
 (.cond (.t 97)
 (.regD [0, 1, 2, 3, 4, 5, 6, 7, 8, 9] [zi 99 (.mov (.t 9)),
 zi 100 (.mov (.t 11)),
 zi 101 (.slice false 4 (.t 99) none (some (.t 100)) none),
 zi 102 (.mov (.t 9)),
 zi 103 (.mov (.t 11)),
 zi 104 (.bin .add (.t 103) (.c (.int .i64 1))),
 zi 105 (.slice false 4 (.t 102) (some (.t 104)) none none),
 zi 106 (.append 4 24 (.t 101) (.t 105)),
 zi 107 (.faddr 1 (.t 10)),
 zn (.store 1 (.t 107) (.t 106))])
 (.reg [zi 33 (.mov (.t 9)),
 zi 34 (.mov (.t 11)),
 zi 35 (.iaddr 4 (.t 33) (.t 34)),
 zi 36 (.faddr 1 (.t 35)),
 zi 37 (.faddr 1 (.t 36)),
 zi 38 (.load 1 false (.t 37)),
 zi 39 (.conv .u64 (.t 38)),
 zi 40 (.faddr 0 (.t 10)),
 zn (.store 1 (.t 40) (.t 39))])))))))))))))))))
 (.seq (.reg [zi 108 (.load 2 true (.t 10)),
 zn (.store 2 (.t 8) (.t 108))])
 (.ret)))))))) }
def archipelagoseat_Late_b0 : IC :=
  (.seq (.seq (.reg [zi 25 (.mov (.t 6)),
 zi 26 (.mov (.t 3)),
 zi 27 (.bin .lss (.t 25) (.t 26))])
 (.cond (.t 27)
 (.skip)
 (.exit 0)))
 (.seq (.block 1
 (.seq (.reg [zi 30 (.faddr 1 (.t 1)),
 zi 31 (.load 1 false (.t 30)),
 zi 32 (.mov (.t 6)),
 zi 33 (.iaddr 4 (.t 31) (.t 32)),
 zi 34 (.load 4 true (.t 33)),
 zi 7 (.box (.c (.agg [(.int .i64 0), (.int .u32 0), (.int .u32 0), (.bool false)]))),
 zn (.store 4 (.t 7) (.t 34))])
 (.seq (.reg [zi 35 (.faddr 0 (.t 7)),
 zi 36 (.load 1 false (.t 35)),
 zi 37 (.mov (.t 4)),
 zi 38 (.bin .add (.t 36) (.t 37)),
 zi 39 (.faddr 0 (.t 7)),
 zn (.store 1 (.t 39) (.t 38))])
 (.reg [zi 40 (.faddr 1 (.t 5)),
 zi 41 (.load 1 false (.t 40)),
 zi 42 (.load 4 true (.t 7)),
 zi 43 (.mkrow 4 1 [(.int .i64 0), (.int .u32 0), (.int .u32 0), (.bool false)] [(0, (.t 42))]),
 zi 44 (.append 4 24 (.t 41) (.t 43)),
 zi 45 (.faddr 1 (.t 5)),
 zn (.store 1 (.t 45) (.t 44))]))))
 (.reg [zi 28 (.mov (.t 6)),
 zi 29 (.bin .add (.t 28) (.c (.int .i64 1))),
 zi 6 (.mov (.t 29))])))
def ir_archipelagoseat_Late : IFn :=
  { params := 1, results := [.cell 2 2 true], body :=
  (.seq (.reg [zi 1 (.box (.t 0)),
 zi 2 (.box (.c (.agg [(.int .u64 0), .nils])))])
 (.seq (.reg [zi 8 (.faddr 1 (.t 1)),
 zi 9 (.load 1 false (.t 8)),
 zi 10 (.len .sl (.t 9)),
 zi 3 (.mov (.t 10))])
 (.seq (.seq (.reg [zi 11 (.mov (.t 3)),
 zi 12 (.bin .eql (.t 11) (.c (.int .i64 0)))])
 (.cond (.t 12)
 (.seq (.reg [zi 13 (.load 2 true (.t 1)),
 zn (.store 2 (.t 2) (.t 13))])
 (.ret))
 (.skip)))
 (.seq (.reg [zi 14 (.faddr 1 (.t 1)),
 zi 15 (.load 1 false (.t 14)),
 zi 16 (.mov (.t 3)),
 zi 17 (.bin .sub (.t 16) (.c (.int .i64 1))),
 zi 18 (.iaddr 4 (.t 15) (.t 17)),
 zi 19 (.faddr 0 (.t 18)),
 zi 20 (.load 1 false (.t 19)),
 zi 21 (.bin .sub (.c (.int .i64 4611686018427387903)) (.t 20)),
 zi 4 (.mov (.t 21))])
 (.seq (.reg [zi 22 (.faddr 0 (.t 1)),
 zi 23 (.load 1 false (.t 22)),
 zi 24 (.build [(.int .u64 0), .nils] [(0, 1, (.t 23))]),
 zi 5 (.box (.c (.agg [(.int .u64 0), .nils]))),
 zn (.store 2 (.t 5) (.t 24))])
 (.seq (.seq (.reg [zi 6 (.mov (.c (.int .i64 0)))])
 (.block 0
 (.loop [1, 2, 3, 4, 5, 6] archipelagoseat_Late_b0)))
 (.seq (.reg [zi 46 (.load 2 true (.t 5)),
 zn (.store 2 (.t 2) (.t 46))])
 (.ret)))))))) }
def ir_archipelagoref8_Right : IFn :=
  { params := 2, results := [.tmp 4], body :=
  (.seq (.reg [zi 2 (.box (.t 0)),
 zi 4 (.mov (.c (.bool false)))])
 (.seq (.reg [zi 5 (.faddr 0 (.t 2)),
 zi 6 (.load 1 false (.t 5)),
 zi 7 (.faddr 1 (.t 2)),
 zi 8 (.load 1 false (.t 7)),
 zi 9 (.bin .lss (.t 6) (.t 8)),
 zi 10 (.mov (.t 9)),
 zg 11 10 true (.faddr 1 (.t 2)),
 zg 12 10 true (.load 1 false (.t 11)),
 zg 13 10 true (.conv .u64 (.t 12)),
 zg 14 10 true (.mov (.t 1)),
 zg 15 10 true (.bin .lss (.t 13) (.t 14)),
 zi 16 (.pick (.t 10) (.t 15) (.c (.bool false))),
 zi 4 (.mov (.t 16))])
 (.ret))) }
def archipelagoref8_Check_b0 : IC :=
  (.seq (.seq (.reg [zi 18 (.mov (.t 5)),
 zi 19 (.faddr 1 (.t 1)),
 zi 20 (.load 1 false (.t 19)),
 zi 21 (.len .sl (.t 20)),
 zi 22 (.bin .lss (.t 18) (.t 21))])
 (.cond (.t 22)
 (.skip)
 (.exit 0)))
 (.seq (.block 1
 (.seq (.reg [zi 25 (.faddr 1 (.t 1)),
 zi 26 (.load 1 false (.t 25)),
 zi 27 (.mov (.t 5)),
 zi 28 (.iaddr 4 (.t 26) (.t 27)),
 zi 29 (.load 4 true (.t 28)),
 zi 6 (.box (.c (.agg [(.int .i64 0), (.int .u32 0), (.int .u32 0), (.bool false)]))),
 zn (.store 4 (.t 6) (.t 29))])
 (.seq (.block 2
 (.seq (.reg [zi 31 (.faddr 0 (.t 6)),
 zi 32 (.load 1 false (.t 31)),
 zi 33 (.bin .lss (.t 32) (.c (.int .i64 0))),
 zi 34 (.mov (.t 33)),
 zg 35 34 false (.faddr 0 (.t 6)),
 zg 36 34 false (.load 1 false (.t 35)),
 zg 37 34 false (.bin .gtr (.t 36) (.c (.int .i64 4611686018427387903))),
 zi 38 (.pick (.t 34) (.c (.bool true)) (.t 37)),
 zi 30 (.mov (.t 38))])
 (.cond (.t 30)
 (.seq (.reg [zi 39 (.mov (.t 5)),
 zi 2 (.mov (.t 39)),
 zi 3 (.mov (.c (.int .i64 26)))])
 (.ret))
 (.seq (.reg [zi 41 (.faddr 1 (.t 6)),
 zi 42 (.load 2 true (.t 41)),
 zi 43 (.faddr 0 (.t 1)),
 zi 44 (.load 1 false (.t 43)),
 zi 45 (.call fid_archipelagoref8_Right [(.t 42), (.t 44)]),
 zi 46 (.un .not (.t 45)),
 zi 40 (.mov (.t 46))])
 (.cond (.t 40)
 (.seq (.reg [zi 47 (.mov (.t 5)),
 zi 2 (.mov (.t 47)),
 zi 3 (.mov (.c (.int .i64 24)))])
 (.ret))
 (.seq (.regD [0, 1, 2, 3, 4, 5, 6, 7, 8, 9, 10, 11, 12, 13] [zi 49 (.mov (.t 5)),
 zi 50 (.bin .gtr (.t 49) (.c (.int .i64 0))),
 zi 51 (.mov (.t 50)),
 zg 52 51 true (.faddr 1 (.t 1)),
 zg 53 51 true (.load 1 false (.t 52)),
 zg 54 51 true (.mov (.t 5)),
 zg 55 51 true (.bin .sub (.t 54) (.c (.int .i64 1))),
 zg 56 51 true (.iaddr 4 (.t 53) (.t 55)),
 zg 57 51 true (.load 4 true (.t 56)),
 zg 58 51 true (.load 4 true (.t 6)),
 zg 59 51 true (.call fid_archipelagoref8_Before [(.t 57), (.t 58)]),
 zg 60 51 true (.un .not (.t 59)),
 zi 61 (.pick (.t 51) (.t 60) (.c (.bool false))),
 zi 48 (.mov (.t 61))])
 (.cond (.t 48)
 (.seq (.reg [zi 62 (.mov (.t 5)),
 zi 2 (.mov (.t 62)),
 zi 3 (.mov (.c (.int .i64 23)))])
 (.ret))
 (.skip))))))))
 (.seq (.reg [zi 64 (.mov (.t 4)),
 zi 65 (.load 4 true (.t 6)),
 zi 66 (.call fid_archipelagoref8_Turn [(.t 64), (.t 65)]),
 zi 63 (.mov (.t 66)),
 zi 67 (.extract (.t 63) 0),
 zi 68 (.extract (.t 63) 1),
 zi 7 (.mov (.t 67)),
 zi 8 (.mov (.t 68))])
 (.seq (.seq (.reg [zi 69 (.mov (.t 8)),
 zi 70 (.un .not (.t 69))])
 (.cond (.t 70)
 (.seq (.reg [zi 71 (.mov (.t 5)),
 zi 2 (.mov (.t 71)),
 zi 3 (.mov (.c (.int .i64 25)))])
 (.ret))
 (.skip)))
 (.reg [zi 72 (.mov (.t 7)),
 zi 4 (.mov (.t 72))]))))))
 (.reg [zi 23 (.mov (.t 5)),
 zi 24 (.bin .add (.t 23) (.c (.int .i64 1))),
 zi 5 (.mov (.t 24))])))
def ir_archipelagoref8_Check : IFn :=
  { params := 1, results := [.tmp 2, .tmp 3], body :=
  (.seq (.reg [zi 1 (.box (.t 0)),
 zi 2 (.mov (.c (.int .i64 0))),
 zi 3 (.mov (.c (.int .i64 0)))])
 (.seq (.seq (.reg [zi 9 (.faddr 0 (.t 1)),
 zi 10 (.load 1 false (.t 9)),
 zi 11 (.bin .gtr (.t 10) (.c (.int .u64 4294967296))),
 zi 12 (.mov (.t 11)),
 zg 13 12 false (.faddr 1 (.t 1)),
 zg 14 12 false (.load 1 false (.t 13)),
 zg 15 12 false (.len .sl (.t 14)),
 zg 16 12 false (.bin .gtr (.t 15) (.c (.int .i64 2147483648))),
 zi 17 (.pick (.t 12) (.c (.bool true)) (.t 16))])
 (.cond (.t 17)
 (.seq (.reg [zi 2 (.mov (.c (.int .i64 0))),
 zi 3 (.mov (.c (.int .i64 26)))])
 (.ret))
 (.skip)))
 (.seq (.reg [zi 4 (.mov (.c .nils))])
 (.seq (.seq (.reg [zi 5 (.mov (.c (.int .i64 0)))])
 (.block 0
 (.loop [1, 4, 5] archipelagoref8_Check_b0)))
 (.seq (.reg [zi 2 (.mov (.c (.int .i64 0))),
 zi 3 (.mov (.c (.int .i64 0)))])
 (.ret)))))) }
def archipelagoref8_SameEvents_b0 : IC :=
  (.seq (.seq (.reg [zi 11 (.mov (.t 5)),
 zi 12 (.mov (.t 0)),
 zi 13 (.len .sl (.t 12)),
 zi 14 (.bin .lss (.t 11) (.t 13))])
 (.cond (.t 14)
 (.skip)
 (.exit 0)))
 (.seq (.block 1
 (.seq (.regD [0, 1, 2, 3, 4, 5, 6, 7, 8] [zi 17 (.mov (.t 0)),
 zi 18 (.mov (.t 5)),
 zi 19 (.iaddr 4 (.t 17) (.t 18)),
 zi 20 (.load 4 true (.t 19)),
 zi 21 (.mov (.t 1)),
 zi 22 (.mov (.t 5)),
 zi 23 (.iaddr 4 (.t 21) (.t 22)),
 zi 24 (.load 4 true (.t 23)),
 zi 25 (.eq (.struct [.int, .int, .int, .bool]) true (.t 20) (.t 24))])
 (.cond (.t 25)
 (.seq (.reg [zi 4 (.mov (.c (.bool false)))])
 (.ret))
 (.skip))))
 (.reg [zi 15 (.mov (.t 5)),
 zi 16 (.bin .add (.t 15) (.c (.int .i64 1))),
 zi 5 (.mov (.t 16))])))
def ir_archipelagoref8_SameEvents : IFn :=
  { params := 2, results := [.tmp 4], body :=
  (.seq (.reg [zi 4 (.mov (.c (.bool false)))])
 (.seq (.seq (.reg [zi 6 (.mov (.t 0)),
 zi 7 (.len .sl (.t 6)),
 zi 8 (.mov (.t 1)),
 zi 9 (.len .sl (.t 8)),
 zi 10 (.bin .neq (.t 7) (.t 9))])
 (.cond (.t 10)
 (.seq (.reg [zi 4 (.mov (.c (.bool false)))])
 (.ret))
 (.skip)))
 (.seq (.seq (.reg [zi 5 (.mov (.c (.int .i64 0)))])
 (.block 0
 (.loop [0, 1, 5] archipelagoref8_SameEvents_b0)))
 (.seq (.reg [zi 4 (.mov (.c (.bool true)))])
 (.ret))))) }
def ir_archipelagoref8_Same : IFn :=
  { params := 2, results := [.tmp 4], body :=
  (.seq (.reg [zi 2 (.box (.t 0)),
 zi 3 (.box (.t 1)),
 zi 4 (.mov (.c (.bool false)))])
 (.seq (.reg [zi 5 (.faddr 0 (.t 2)),
 zi 6 (.load 1 false (.t 5)),
 zi 7 (.faddr 0 (.t 3)),
 zi 8 (.load 1 false (.t 7)),
 zi 9 (.bin .eql (.t 6) (.t 8)),
 zi 10 (.mov (.t 9)),
 zg 11 10 true (.faddr 1 (.t 2)),
 zg 12 10 true (.load 1 false (.t 11)),
 zg 13 10 true (.faddr 1 (.t 3)),
 zg 14 10 true (.load 1 false (.t 13)),
 zg 15 10 true (.call fid_archipelagoref8_SameEvents [(.t 12), (.t 14)]),
 zi 16 (.pick (.t 10) (.t 15) (.c (.bool false))),
 zi 4 (.mov (.t 16))])
 (.ret))) }
def archipelagolaw9_HistoryTells_b0 : IC :=
  (.seq (.reg [zi 72 (.bin .lss (.t 71) (.t 70))])
 (.seq (.cond (.t 72)
 (.skip)
 (.exit 0))
 (.seq (.block 1
 (.seq (.reg [zi 73 (.iaddr 2 (.t 69) (.t 71)),
 zi 74 (.load 2 true (.t 73)),
 zi 20 (.box (.c (.agg [(.int .u64 0), .nils]))),
 zn (.store 2 (.t 20) (.t 74))])
 (.seq (.reg [zi 76 (.load 2 true (.t 20)),
 zi 77 (.call fid_history_Check [(.t 76)]),
 zi 75 (.mov (.t 77)),
 zi 78 (.extract (.t 75) 0),
 zi 79 (.extract (.t 75) 1),
 zi 21 (.mov (.t 78)),
 zi 22 (.mov (.t 79))])
 (.seq (.reg [zi 81 (.load 2 true (.t 20)),
 zi 82 (.call fid_archipelagoref8_Check [(.t 81)]),
 zi 80 (.mov (.t 82)),
 zi 83 (.extract (.t 80) 0),
 zi 84 (.extract (.t 80) 1),
 zi 23 (.mov (.t 83)),
 zi 24 (.mov (.t 84))])
 (.seq (.seq (.regD [0, 1, 2, 3, 4, 5, 6, 7, 8, 9, 10, 11, 12, 13, 14, 15, 16, 17, 18, 19, 20, 21, 22, 23] [zi 85 (.mov (.t 21)),
 zi 86 (.mov (.t 23)),
 zi 87 (.bin .neq (.t 85) (.t 86)),
 zi 88 (.mov (.t 87)),
 zg 89 88 false (.mov (.t 22)),
 zg 90 88 false (.mov (.t 24)),
 zg 91 88 false (.bin .neq (.t 89) (.t 90)),
 zi 92 (.pick (.t 88) (.c (.bool true)) (.t 91)),
 zi 93 (.mov (.t 92)),
 zg 94 93 false (.load 2 true (.t 20)),
 zg 95 93 false (.load 2 true (.t 17)),
 zg 96 93 false (.call fid_history_Same [(.t 94), (.t 95)]),
 ⟨some 97, .load 2 true (.t 20), (some (93, false)), some (0, 1)⟩,
 ⟨some 98, .load 2 true (.t 17), (some (93, false)), some (0, 1)⟩,
 zg 99 93 false (.call fid_archipelagoref8_Same [(.t 97), (.t 98)]),
 zg 100 93 false (.eq .bool true (.t 96) (.t 99)),
 zi 101 (.pick (.t 93) (.c (.bool true)) (.t 100)),
 zi 102 (.mov (.t 101)),
 zg 103 102 false (.load 2 true (.t 20)),
 zg 104 102 false (.call fid_history_Copy [(.t 103)]),
 ⟨some 105, .load 2 true (.t 20), (some (102, false)), some (2, 3)⟩,
 zg 106 102 false (.call fid_archipelagoref8_Same [(.t 104), (.t 105)]),
 zg 107 102 false (.un .not (.t 106)),
 zi 108 (.pick (.t 102) (.c (.bool true)) (.t 107))])
 (.cond (.t 108)
 (.seq (.reg [zi 16 (.mov (.c (.bool false)))])
 (.ret))
 (.skip)))
 (.seq (.reg [zi 25 (.mov (.c (.int .i64 (-1))))])
 (.seq (.seq (.reg [zi 109 (.faddr 1 (.t 20)),
 zi 110 (.load 1 false (.t 109)),
 zi 111 (.len .sl (.t 110)),
 zi 26 (.mov (.t 111))])
 (.seq (.reg [zi 112 (.mov (.t 26)),
 zi 113 (.bin .gtr (.t 112) (.c (.int .i64 0)))])
 (.cond (.t 113)
 (.reg [zi 114 (.faddr 1 (.t 20)),
 zi 115 (.load 1 false (.t 114)),
 zi 116 (.mov (.t 26)),
 zi 117 (.bin .sub (.t 116) (.c (.int .i64 1))),
 zi 118 (.iaddr 4 (.t 115) (.t 117)),
 zi 119 (.faddr 0 (.t 118)),
 zi 120 (.load 1 false (.t 119)),
 zi 25 (.mov (.t 120))])
 (.skip))))
 (.seq (.reg [zi 121 (.load 2 true (.t 20)),
 zi 122 (.call fid_history_Last [(.t 121)]),
 zi 123 (.mov (.t 25)),
 zi 124 (.bin .neq (.t 122) (.t 123))])
 (.cond (.t 124)
 (.seq (.reg [zi 16 (.mov (.c (.bool false)))])
 (.ret))
 (.skip))))))))))
 (.reg [zi 125 (.bin .add (.t 71) (.c (.int .i64 1))),
 zi 71 (.mov (.t 125))]))))
def ir_archipelagolaw9_HistoryTells : IFn :=
  { params := 8, results := [.tmp 16], body :=
  (.seq (.reg [zi 8 (.box (.t 0)),
 zi 16 (.mov (.c (.bool false)))])
 (.seq (.seq (.reg [zi 29 (.call fid_archipelagolaw9_known []),
 zi 30 (.un .not (.t 29))])
 (.cond (.t 30)
 (.seq (.reg [zi 16 (.mov (.c (.bool false)))])
 (.ret))
 (.skip)))
 (.seq (.seq (.reg [zi 31 (.faddr 1 (.t 8)),
 zi 32 (.load 1 false (.t 31)),
 zi 33 (.len .sl (.t 32)),
 zi 34 (.bin .gtr (.t 33) (.c (.int .i64 20))),
 zi 35 (.mov (.t 34)),
 zg 36 35 false (.mov (.t 2)),
 zg 37 35 false (.len .sl (.t 36)),
 zg 38 35 false (.bin .gtr (.t 37) (.c (.int .i64 60))),
 zi 39 (.pick (.t 35) (.c (.bool true)) (.t 38))])
 (.cond (.t 39)
 (.seq (.reg [zi 16 (.mov (.c (.bool true)))])
 (.ret))
 (.skip)))
 (.seq (.reg [zi 40 (.mov (.t 1)),
 zi 41 (.mov (.t 2)),
 zi 42 (.call fid_archipelagoseat_History [(.t 40), (.t 41)]),
 zi 17 (.box (.c (.agg [(.int .u64 0), .nils]))),
 zn (.store 2 (.t 17) (.t 42))])
 (.seq (.reg [zi 43 (.load 2 true (.t 17)),
 zi 44 (.mov (.t 3)),
 zi 45 (.mov (.t 4)),
 zi 46 (.mov (.t 5)),
 zi 47 (.call fid_archipelagoseat_Bent [(.t 43), (.t 44), (.t 45), (.t 46)]),
 zi 18 (.box (.c (.agg [(.int .u64 0), .nils]))),
 zn (.store 2 (.t 18) (.t 47))])
 (.seq (.seq (.regD [3, 4, 5, 6, 7, 8, 9, 10, 11, 12, 13, 14, 15, 16, 17, 18, 19, 20, 0, 1, 2, 21, 22, 23] [zi 51 (.load 2 true (.t 18)),
 zi 52 (.mov (.t 6)),
 zi 53 (.mov (.t 4)),
 zi 54 (.bin .quo (.t 53) (.c (.int .u8 2))),
 zi 55 (.mov (.t 7)),
 zi 56 (.call fid_archipelagoseat_Bent [(.t 51), (.t 52), (.t 54), (.t 55)]),
 ⟨some 57, .load 2 true (.t 17), none, some (0, 1)⟩,
 zi 58 (.mov (.t 3)),
 zi 59 (.mov (.t 4)),
 zi 60 (.mov (.t 5)),
 zi 61 (.bin .and (.t 60) (.c (.int .i64 15))),
 zi 62 (.call fid_archipelagoseat_Bent [(.t 57), (.t 58), (.t 59), (.t 61)]),
 ⟨some 63, .load 2 true (.t 17), none, some (0, 2)⟩,
 zi 64 (.call fid_archipelagoseat_Late [(.t 63)]),
 ⟨some 65, .load 2 true (.t 17), none, some (0, 3)⟩,
 zi 66 (.call fid_archipelagoseat_Late [(.t 65)]),
 zi 67 (.mov (.t 5)),
 zi 68 (.call fid_archipelagoseat_Bent [(.t 66), (.c (.int .u8 1)), (.c (.int .u8 255)), (.t 67)]),
 ⟨some 48, .load 2 true (.t 8), none, some (0, 5)⟩,
 ⟨some 49, .load 2 true (.t 17), none, some (0, 5)⟩,
 ⟨some 50, .load 2 true (.t 18), none, some (0, 5)⟩,
 zi 69 (.mkrow 2 7 [(.int .u64 0), .nils] [(0, (.t 48)), (1, (.t 49)), (2, (.t 50)), (3, (.t 56)), (4, (.t 62)), (5, (.t 64)), (6, (.t 68))]),
 zi 70 (.len .sl (.t 69)),
 zi 71 (.mov (.c (.int .i64 0)))])
 (.block 0
 (.loop [17, 69, 70, 71] archipelagolaw9_HistoryTells_b0)))
 (.seq (.reg [zi 127 (.load 2 true (.t 17)),
 zi 128 (.call fid_history_Check [(.t 127)]),
 zi 126 (.mov (.t 128)),
 zi 129 (.extract (.t 126) 0),
 zi 130 (.extract (.t 126) 1),
 zi 27 (.mov (.t 129)),
 zi 28 (.mov (.t 130))])
 (.seq (.reg [zi 131 (.mov (.t 28)),
 zi 132 (.bin .eql (.t 131) (.c (.int .i64 0))),
 zi 16 (.mov (.t 132))])
 (.ret))))))))) }
def ir_archipelagoseat_Time : IFn :=
  { params := 2, results := [.tmp 4], body :=
  (.seq (.reg [zi 2 (.box (.t 0)),
 zi 4 (.mov (.c (.int .i64 0)))])
 (.seq (.seq (.reg [zi 5 (.faddr 1 (.t 2)),
 zi 6 (.load 1 false (.t 5)),
 zi 7 (.len .sl (.t 6)),
 zi 8 (.bin .eql (.t 7) (.c (.int .i64 0))),
 zi 9 (.mov (.t 8)),
 zg 10 9 false (.mov (.t 1)),
 zg 11 9 false (.bin .gtr (.t 10) (.c (.int .u8 245))),
 zi 12 (.pick (.t 9) (.c (.bool true)) (.t 11))])
 (.cond (.t 12)
 (.seq (.reg [zi 13 (.mkrow 1 6 [(.int .i64 0)] [(0, (.c (.int .i64 0))), (1, (.c (.int .i64 5))), (2, (.c (.int .i64 4611686018427387903))), (3, (.c (.int .i64 9223372036854775807))), (4, (.c (.int .i64 (-1)))), (5, (.c (.int .i64 (-9223372036854775808))))]),
 zi 14 (.mov (.t 1)),
 zi 15 (.bin .rem (.t 14) (.c (.int .u8 6))),
 zi 16 (.iaddr 1 (.t 13) (.t 15)),
 zi 17 (.load 1 false (.t 16)),
 zi 4 (.mov (.t 17))])
 (.ret))
 (.skip)))
 (.seq (.regD [0, 1, 2, 3, 4, 5, 6, 7, 8, 9, 10, 11, 12, 13, 14, 15, 16, 17] [zi 18 (.faddr 1 (.t 2)),
 zi 19 (.load 1 false (.t 18)),
 zi 20 (.mov (.t 1)),
 zi 21 (.bin .quo (.t 20) (.c (.int .u8 3))),
 zi 22 (.conv .i64 (.t 21)),
 zi 23 (.faddr 1 (.t 2)),
 zi 24 (.load 1 false (.t 23)),
 zi 25 (.len .sl (.t 24)),
 zi 26 (.bin .rem (.t 22) (.t 25)),
 zi 27 (.iaddr 4 (.t 19) (.t 26)),
 zi 28 (.faddr 0 (.t 27)),
 zi 29 (.load 1 false (.t 28)),
 zi 30 (.mov (.t 1)),
 zi 31 (.bin .rem (.t 30) (.c (.int .u8 3))),
 zi 32 (.conv .i64 (.t 31)),
 zi 33 (.bin .add (.t 29) (.t 32)),
 zi 34 (.bin .sub (.t 33) (.c (.int .i64 1))),
 zi 4 (.mov (.t 34))])
 (.ret)))) }
def archipelagoref8_Upto_b0 : IC :=
  (.seq (.seq (.reg [zi 6 (.mov (.t 5)),
 zi 7 (.faddr 1 (.t 2)),
 zi 8 (.load 1 false (.t 7)),
 zi 9 (.len .sl (.t 8)),
 zi 10 (.bin .lss (.t 6) (.t 9)),
 zi 11 (.mov (.t 10)),
 zg 12 11 true (.faddr 1 (.t 2)),
 zg 13 11 true (.load 1 false (.t 12)),
 zg 14 11 true (.mov (.t 5)),
 zg 15 11 true (.iaddr 4 (.t 13) (.t 14)),
 zg 16 11 true (.faddr 0 (.t 15)),
 zg 17 11 true (.load 1 false (.t 16)),
 zg 18 11 true (.mov (.t 1)),
 zg 19 11 true (.bin .leq (.t 17) (.t 18)),
 zi 20 (.pick (.t 11) (.t 19) (.c (.bool false)))])
 (.cond (.t 20)
 (.skip)
 (.exit 0)))
 (.block 1
 (.reg [zi 21 (.mov (.t 5)),
 zi 22 (.bin .add (.t 21) (.c (.int .i64 1))),
 zi 5 (.mov (.t 22))])))
def ir_archipelagoref8_Upto : IFn :=
  { params := 2, results := [.tmp 4], body :=
  (.seq (.reg [zi 2 (.box (.t 0)),
 zi 4 (.mov (.c (.int .i64 0)))])
 (.seq (.reg [zi 5 (.mov (.c (.int .i64 0)))])
 (.seq (.block 0
 (.loop [1, 2, 5] archipelagoref8_Upto_b0))
 (.seq (.reg [zi 23 (.mov (.t 5)),
 zi 4 (.mov (.t 23))])
 (.ret))))) }
def archipelagolaw9_HistoryUpto_b0 : IC :=
  (.seq (.reg [zi 32 (.bin .lss (.t 31) (.t 30))])
 (.seq (.cond (.t 32)
 (.skip)
 (.exit 0))
 (.seq (.block 1
 (.seq (.reg [zi 33 (.iaddr 1 (.t 29) (.t 31)),
 zi 34 (.load 1 false (.t 33)),
 zi 11 (.mov (.t 34))])
 (.seq (.reg [zi 35 (.load 2 true (.t 9)),
 zi 36 (.mov (.t 11)),
 zi 37 (.call fid_history_Upto [(.t 35), (.t 36)]),
 zi 12 (.mov (.t 37))])
 (.seq (.reg [zi 38 (.mov (.t 12)),
 zi 39 (.load 2 true (.t 9)),
 zi 40 (.mov (.t 11)),
 zi 41 (.call fid_archipelagoref8_Upto [(.t 39), (.t 40)]),
 zi 42 (.bin .neq (.t 38) (.t 41)),
 zi 43 (.mov (.t 42)),
 zg 44 43 false (.mov (.t 12)),
 zg 45 43 false (.bin .lss (.t 44) (.c (.int .i64 0))),
 zi 46 (.pick (.t 43) (.c (.bool true)) (.t 45)),
 zi 47 (.mov (.t 46)),
 zg 48 47 false (.mov (.t 12)),
 zg 49 47 false (.faddr 1 (.t 9)),
 zg 50 47 false (.load 1 false (.t 49)),
 zg 51 47 false (.len .sl (.t 50)),
 zg 52 47 false (.bin .gtr (.t 48) (.t 51)),
 zi 53 (.pick (.t 47) (.c (.bool true)) (.t 52)),
 zi 54 (.mov (.t 53)),
 zg 55 54 false (.mov (.t 12)),
 zg 56 54 false (.bin .gtr (.t 55) (.c (.int .i64 0))),
 zg 57 54 false (.mov (.t 56)),
 zg 58 57 true (.faddr 1 (.t 9)),
 zg 59 57 true (.load 1 false (.t 58)),
 zg 60 57 true (.mov (.t 12)),
 zg 61 57 true (.bin .sub (.t 60) (.c (.int .i64 1))),
 zg 62 57 true (.iaddr 4 (.t 59) (.t 61)),
 zg 63 57 true (.faddr 0 (.t 62)),
 zg 64 57 true (.load 1 false (.t 63)),
 zg 65 57 true (.mov (.t 11)),
 zg 66 57 true (.bin .gtr (.t 64) (.t 65)),
 zg 67 54 false (.pick (.t 57) (.t 66) (.c (.bool false))),
 zi 68 (.pick (.t 54) (.c (.bool true)) (.t 67)),
 zi 69 (.mov (.t 68)),
 zg 70 69 false (.mov (.t 12)),
 zg 71 69 false (.faddr 1 (.t 9)),
 zg 72 69 false (.load 1 false (.t 71)),
 zg 73 69 false (.len .sl (.t 72)),
 zg 74 69 false (.bin .lss (.t 70) (.t 73)),
 zg 75 69 false (.mov (.t 74)),
 zg 76 75 true (.faddr 1 (.t 9)),
 zg 77 75 true (.load 1 false (.t 76)),
 zg 78 75 true (.mov (.t 12)),
 zg 79 75 true (.iaddr 4 (.t 77) (.t 78)),
 zg 80 75 true (.faddr 0 (.t 79)),
 zg 81 75 true (.load 1 false (.t 80)),
 zg 82 75 true (.mov (.t 11)),
 zg 83 75 true (.bin .leq (.t 81) (.t 82)),
 zg 84 69 false (.pick (.t 75) (.t 83) (.c (.bool false))),
 zi 85 (.pick (.t 69) (.c (.bool true)) (.t 84))])
 (.cond (.t 85)
 (.seq (.reg [zi 8 (.mov (.c (.bool false)))])
 (.ret))
 (.skip))))))
 (.reg [zi 86 (.bin .add (.t 31) (.c (.int .i64 1))),
 zi 31 (.mov (.t 86))]))))
def ir_archipelagolaw9_HistoryUpto : IFn :=
  { params := 4, results := [.tmp 8], body :=
  (.seq (.reg [zi 8 (.mov (.c (.bool false)))])
 (.seq (.seq (.reg [zi 13 (.call fid_archipelagolaw9_known []),
 zi 14 (.un .not (.t 13))])
 (.cond (.t 14)
 (.seq (.reg [zi 8 (.mov (.c (.bool false)))])
 (.ret))
 (.skip)))
 (.seq (.seq (.reg [zi 15 (.mov (.t 1)),
 zi 16 (.len .sl (.t 15)),
 zi 17 (.bin .gtr (.t 16) (.c (.int .i64 60)))])
 (.cond (.t 17)
 (.seq (.reg [zi 8 (.mov (.c (.bool true)))])
 (.ret))
 (.skip)))
 (.seq (.reg [zi 18 (.mov (.t 0)),
 zi 19 (.mov (.t 1)),
 zi 20 (.call fid_archipelagoseat_History [(.t 18), (.t 19)]),
 zi 9 (.box (.c (.agg [(.int .u64 0), .nils]))),
 zn (.store 2 (.t 9) (.t 20))])
 (.seq (.seq (.regD [1, 2, 3, 4, 5, 6, 7, 0, 8, 9, 10] [zi 22 (.load 2 true (.t 9)),
 zi 23 (.mov (.t 3)),
 zi 24 (.call fid_archipelagoseat_Time [(.t 22), (.t 23)]),
 ⟨some 25, .load 2 true (.t 9), none, some (0, 1)⟩,
 zi 26 (.mov (.t 3)),
 zi 27 (.bin .quo (.t 26) (.c (.int .u8 2))),
 zi 28 (.call fid_archipelagoseat_Time [(.t 25), (.t 27)]),
 zi 21 (.mov (.t 2)),
 zi 29 (.mkrow 1 3 [(.int .i64 0)] [(0, (.t 21)), (1, (.t 24)), (2, (.t 28))]),
 zi 30 (.len .sl (.t 29)),
 zi 31 (.mov (.c (.int .i64 0)))])
 (.block 0
 (.loop [9, 29, 30, 31] archipelagolaw9_HistoryUpto_b0)))
 (.seq (.regD [0, 1, 2, 3, 4, 5, 6] [zi 87 (.load 2 true (.t 9)),
 zi 88 (.call fid_history_Upto [(.t 87), (.c (.int .i64 4611686018427387903))]),
 zi 89 (.faddr 1 (.t 9)),
 ⟨some 90, .load 1 false (.t 89), none, some (0, 1)⟩,
 ⟨some 91, .len .sl (.t 90), none, some (0, 1)⟩,
 zi 92 (.bin .eql (.t 88) (.t 91)),
 zi 8 (.mov (.t 92))])
 (.ret))))))) }
def ir_archipelagolaw9_HistoryParts : IFn :=
  { params := 7, results := [.tmp 14], body :=
  (.seq (.reg [zi 14 (.mov (.c (.bool false)))])
 (.seq (.seq (.reg [zi 24 (.call fid_archipelagolaw9_known []),
 zi 25 (.un .not (.t 24))])
 (.cond (.t 25)
 (.seq (.reg [zi 14 (.mov (.c (.bool false)))])
 (.ret))
 (.skip)))
 (.seq (.seq (.reg [zi 26 (.mov (.t 1)),
 zi 27 (.len .sl (.t 26)),
 zi 28 (.bin .gtr (.t 27) (.c (.int .i64 60))),
 zi 29 (.mov (.t 28)),
 zg 30 29 false (.mov (.t 6)),
 zg 31 29 false (.len .sl (.t 30)),
 zg 32 29 false (.bin .gtr (.t 31) (.c (.int .i64 10))),
 zi 33 (.pick (.t 29) (.c (.bool true)) (.t 32))])
 (.cond (.t 33)
 (.seq (.reg [zi 14 (.mov (.c (.bool true)))])
 (.ret))
 (.skip)))
 (.seq (.reg [zi 34 (.mov (.t 0)),
 zi 35 (.mov (.t 1)),
 zi 36 (.call fid_archipelagoseat_History [(.t 34), (.t 35)]),
 zi 15 (.box (.c (.agg [(.int .u64 0), .nils]))),
 zn (.store 2 (.t 15) (.t 36))])
 (.seq (.seq (.reg [zi 37 (.faddr 1 (.t 15)),
 zi 38 (.load 1 false (.t 37)),
 zi 39 (.len .sl (.t 38)),
 zi 40 (.bin .gtr (.t 39) (.c (.int .i64 0)))])
 (.cond (.t 40)
 (.seq (.reg [zi 41 (.load 2 true (.t 15)),
 zi 16 (.box (.c (.agg [(.int .u64 0), .nils]))),
 zn (.store 2 (.t 16) (.t 41))])
 (.seq (.regD [0, 1, 2, 3, 4, 5, 6, 7, 8, 9, 10] [zi 42 (.faddr 1 (.t 15)),
 zi 43 (.load 1 false (.t 42)),
 zi 44 (.mov (.t 2)),
 zi 45 (.conv .i64 (.t 44)),
 zi 46 (.faddr 1 (.t 15)),
 zi 47 (.load 1 false (.t 46)),
 zi 48 (.len .sl (.t 47)),
 zi 49 (.bin .rem (.t 45) (.t 48)),
 zi 50 (.slice false 4 (.t 43) none (some (.t 49)) none),
 zi 51 (.faddr 1 (.t 16)),
 zn (.store 1 (.t 51) (.t 50))])
 (.seq (.reg [zi 53 (.load 2 true (.t 16)),
 zi 54 (.call fid_history_Check [(.t 53)]),
 zi 52 (.mov (.t 54)),
 zi 55 (.extract (.t 52) 0),
 zi 56 (.extract (.t 52) 1),
 zi 17 (.mov (.t 55)),
 zi 18 (.mov (.t 56))])
 (.seq (.reg [zi 57 (.mov (.t 18)),
 zi 58 (.bin .neq (.t 57) (.c (.int .i64 0)))])
 (.cond (.t 58)
 (.seq (.reg [zi 14 (.mov (.c (.bool false)))])
 (.ret))
 (.skip))))))
 (.skip)))
 (.seq (.reg [zi 59 (.load 2 true (.t 15)),
 zi 60 (.mov (.t 3)),
 zi 61 (.mov (.t 4)),
 zi 62 (.mov (.t 5)),
 zi 63 (.call fid_archipelagoseat_Bent [(.t 59), (.t 60), (.t 61), (.t 62)]),
 zi 19 (.box (.c (.agg [(.int .u64 0), .nils]))),
 zn (.store 2 (.t 19) (.t 63))])
 (.seq (.reg [zi 65 (.load 2 true (.t 19)),
 zi 66 (.call fid_history_Check [(.t 65)]),
 zi 64 (.mov (.t 66)),
 zi 67 (.extract (.t 64) 0),
 zi 68 (.extract (.t 64) 1),
 zi 20 (.mov (.t 67)),
 zi 21 (.mov (.t 68))])
 (.seq (.seq (.reg [zi 69 (.mov (.t 21)),
 zi 70 (.bin .eql (.t 69) (.c (.int .i64 0)))])
 (.cond (.t 70)
 (.seq (.reg [zi 71 (.mov (.t 20)),
 zi 72 (.bin .eql (.t 71) (.c (.int .i64 0))),
 zi 14 (.mov (.t 72))])
 (.ret))
 (.skip)))
 (.seq (.reg [zi 73 (.faddr 1 (.t 19)),
 zi 74 (.load 1 false (.t 73)),
 zi 75 (.append 4 24 (.c .nils) (.t 74)),
 zi 76 (.mov (.t 6)),
 zi 77 (.append 4 24 (.t 75) (.t 76)),
 zi 78 (.faddr 1 (.t 19)),
 zn (.store 1 (.t 78) (.t 77))])
 (.seq (.reg [zi 80 (.load 2 true (.t 19)),
 zi 81 (.call fid_history_Check [(.t 80)]),
 zi 79 (.mov (.t 81)),
 zi 82 (.extract (.t 79) 0),
 zi 83 (.extract (.t 79) 1),
 zi 22 (.mov (.t 82)),
 zi 23 (.mov (.t 83))])
 (.seq (.reg [zi 84 (.mov (.t 20)),
 zi 85 (.mov (.t 22)),
 zi 86 (.bin .eql (.t 84) (.t 85)),
 zi 87 (.mov (.t 86)),
 zg 88 87 true (.mov (.t 21)),
 zg 89 87 true (.mov (.t 23)),
 zg 90 87 true (.bin .eql (.t 88) (.t 89)),
 zi 91 (.pick (.t 87) (.t 90) (.c (.bool false))),
 zi 14 (.mov (.t 91))])
 (.ret)))))))))))) }
def archipelagolaw9_HistoryCopies_b0 : IC :=
  (.seq (.seq (.reg [zi 36 (.mov (.t 10)),
 zi 37 (.faddr 1 (.t 9)),
 zi 38 (.load 1 false (.t 37)),
 zi 39 (.len .sl (.t 38)),
 zi 40 (.bin .lss (.t 36) (.t 39))])
 (.cond (.t 40)
 (.skip)
 (.exit 0)))
 (.seq (.block 1
 (.seq (.reg [zi 43 (.faddr 1 (.t 9)),
 zi 44 (.load 1 false (.t 43)),
 zi 45 (.mov (.t 10)),
 zi 46 (.mov (.t 2)),
 zi 47 (.iaddr 4 (.t 44) (.t 45)),
 zi 48 (.faddr 0 (.t 47)),
 zn (.store 1 (.t 48) (.t 46))])
 (.regD [0, 1, 2, 3, 4, 5, 6, 7, 8, 9, 10, 11, 12] [zi 49 (.faddr 1 (.t 9)),
 zi 50 (.load 1 false (.t 49)),
 zi 51 (.mov (.t 10)),
 zi 52 (.faddr 1 (.t 9)),
 zi 53 (.load 1 false (.t 52)),
 zi 54 (.mov (.t 10)),
 zi 55 (.iaddr 4 (.t 53) (.t 54)),
 zi 56 (.faddr 3 (.t 55)),
 zi 57 (.load 1 false (.t 56)),
 zi 58 (.un .not (.t 57)),
 zi 59 (.iaddr 4 (.t 50) (.t 51)),
 zi 60 (.faddr 3 (.t 59)),
 zn (.store 1 (.t 60) (.t 58))])))
 (.reg [zi 41 (.mov (.t 10)),
 zi 42 (.bin .add (.t 41) (.c (.int .i64 1))),
 zi 10 (.mov (.t 42))])))
def ir_archipelagolaw9_HistoryCopies : IFn :=
  { params := 3, results := [.tmp 6], body :=
  (.seq (.reg [zi 6 (.mov (.c (.bool false)))])
 (.seq (.seq (.reg [zi 11 (.call fid_archipelagolaw9_known []),
 zi 12 (.un .not (.t 11))])
 (.cond (.t 12)
 (.seq (.reg [zi 6 (.mov (.c (.bool false)))])
 (.ret))
 (.skip)))
 (.seq (.seq (.reg [zi 13 (.mov (.t 1)),
 zi 14 (.len .sl (.t 13)),
 zi 15 (.bin .gtr (.t 14) (.c (.int .i64 60)))])
 (.cond (.t 15)
 (.seq (.reg [zi 6 (.mov (.c (.bool true)))])
 (.ret))
 (.skip)))
 (.seq (.reg [zi 16 (.mov (.t 0)),
 zi 17 (.mov (.t 1)),
 zi 18 (.call fid_archipelagoseat_History [(.t 16), (.t 17)]),
 zi 7 (.box (.c (.agg [(.int .u64 0), .nils]))),
 zn (.store 2 (.t 7) (.t 18))])
 (.seq (.reg [zi 19 (.load 2 true (.t 7)),
 zi 20 (.call fid_history_Copy [(.t 19)]),
 zi 8 (.box (.c (.agg [(.int .u64 0), .nils]))),
 zn (.store 2 (.t 8) (.t 20))])
 (.seq (.reg [zi 21 (.load 2 true (.t 8)),
 zi 22 (.call fid_history_Copy [(.t 21)]),
 zi 9 (.box (.c (.agg [(.int .u64 0), .nils]))),
 zn (.store 2 (.t 9) (.t 22))])
 (.seq (.seq (.reg [zi 23 (.load 2 true (.t 8)),
 zi 24 (.load 2 true (.t 7)),
 zi 25 (.call fid_history_Same [(.t 23), (.t 24)]),
 zi 26 (.un .not (.t 25)),
 zi 27 (.mov (.t 26)),
 zg 28 27 false (.faddr 1 (.t 9)),
 zg 29 27 false (.load 1 false (.t 28)),
 zg 30 27 false (.len .sl (.t 29)),
 zg 31 27 false (.faddr 1 (.t 7)),
 zg 32 27 false (.load 1 false (.t 31)),
 zg 33 27 false (.len .sl (.t 32)),
 zg 34 27 false (.bin .neq (.t 30) (.t 33)),
 zi 35 (.pick (.t 27) (.c (.bool true)) (.t 34))])
 (.cond (.t 35)
 (.seq (.reg [zi 6 (.mov (.c (.bool false)))])
 (.ret))
 (.skip)))
 (.seq (.seq (.reg [zi 10 (.mov (.c (.int .i64 0)))])
 (.block 0
 (.loop [2, 7, 8, 9, 10] archipelagolaw9_HistoryCopies_b0)))
 (.seq (.regD [0, 1, 2, 3, 4, 5, 6, 7, 8, 9, 10, 11, 12, 13, 14, 15, 16, 17, 18, 19, 20, 21, 22] [zi 61 (.load 2 true (.t 8)),
 zi 62 (.load 2 true (.t 7)),
 zi 63 (.call fid_history_Same [(.t 61), (.t 62)]),
 zi 64 (.mov (.t 63)),
 zg 65 64 true (.faddr 1 (.t 7)),
 zg 66 64 true (.load 1 false (.t 65)),
 zg 67 64 true (.len .sl (.t 66)),
 zg 68 64 true (.bin .eql (.t 67) (.c (.int .i64 0))),
 zg 69 64 true (.mov (.t 68)),
 zg 70 69 false (.load 2 true (.t 8)),
 zg 71 69 false (.load 2 true (.t 9)),
 zg 72 69 false (.call fid_history_Same [(.t 70), (.t 71)]),
 zg 73 69 false (.un .not (.t 72)),
 zg 74 64 true (.pick (.t 69) (.c (.bool true)) (.t 73)),
 zi 75 (.pick (.t 64) (.t 74) (.c (.bool false))),
 zi 76 (.mov (.t 75)),
 zg 77 76 true (.load 2 true (.t 8)),
 zg 78 76 true (.call fid_history_Last [(.t 77)]),
 ⟨some 79, .load 2 true (.t 7), (some (76, true)), some (2, 3)⟩,
 zg 80 76 true (.call fid_history_Last [(.t 79)]),
 zg 81 76 true (.bin .eql (.t 78) (.t 80)),
 zi 82 (.pick (.t 76) (.t 81) (.c (.bool false))),
 zi 6 (.mov (.t 82))])
 (.ret)))))))))) }
end Go.Ab
