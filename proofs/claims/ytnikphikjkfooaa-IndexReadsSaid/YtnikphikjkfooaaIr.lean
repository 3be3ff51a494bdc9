/- The functions as the abstract machine has them (printed by wip/irgen.py). -/
import Derived.Test.YtnikphikjkfooaaAbs1
namespace Go.Ab
open Go
def fid_archipelagolaw19_IndexReads : Nat := 4
def fid_archipelagolaw19_known : Nat := 7
def fid_archipelagolaw19_rows : Nat := 8
def fid_archipelagolaw19_bent : Nat := 9
def fid_index_Put : Nat := 10
def fid_archipelagoref18_RowsPut : Nat := 11
def fid_index_Right : Nat := 12
def fid_archipelagoref18_RowsRight : Nat := 13
def fid_index_Find : Nat := 14
def fid_index_Offset : Nat := 16
def fid_archipelagoref18_Put : Nat := 18
def fid_archipelagoref1_Fixed : Nat := 19
def fid_archipelagoref1_Seal : Nat := 20
def fid_archipelagoseat_Change : Nat := 21
def fid_archipelagoseat_Mend : Nat := 22
def fid_index_Read : Nat := 23
def fid_archipelagoref18_RowsRead : Nat := 24
def fid_archipelagoref18_SameRows : Nat := 25
def fid_index_put : Nat := 27
def fid_crc_Seal : Nat := 28
def fid_sort_Search : Nat := 29
def fid_index_Find_1 : Nat := 30
def fid_archipelagoref18_Right : Nat := 31
def fid_archipelagoref1_Sum : Nat := 32
def fid_archipelagoref18_Read : Nat := 33
def fid_archipelagoref18_Blocks : Nat := 34
def fid_archipelagoref1_Number : Nat := 35
def fid_head_Blocks : Nat := 36
def fid_crc_Open : Nat := 37
def fid_index_take : Nat := 38
def fid_archipelagoref1_Open : Nat := 39
def fid_slices_Clone_byte_byte : Nat := 40
def fid_crc_Sum : Nat := 41
def fid_archipelagoref1_Next : Nat := 42
def fid_head_Right : Nat := 43
def fid_slices_Equal_byte_byte : Nat := 44
def fid_crc_step : Nat := 45
def index_Right_b0 : IC :=
  (.seq (.reg [zi 9 (.bin .lss (.t 8) (.t 7))])
 (.seq (.cond (.t 9)
 (.skip)
 (.exit 0))
 (.seq (.block 1
 (.seq (.reg [zi 10 (.iaddr 3 (.t 6) (.t 8)),
 zi 11 (.load 3 true (.t 10)),
 zi 5 (.box (.c (.agg [(.int .i64 0), (.int .i64 0), (.int .u32 0)]))),
 zn (.store 3 (.t 5) (.t 11))])
 (.seq (.seq (.reg [zi 12 (.faddr 0 (.t 5)),
 zi 13 (.load 1 false (.t 12)),
 zi 14 (.bin .lss (.t 13) (.c (.int .i64 1))),
 zi 15 (.mov (.t 14)),
 zg 16 15 false (.faddr 0 (.t 5)),
 zg 17 15 false (.load 1 false (.t 16)),
 zg 18 15 false (.bin .gtr (.t 17) (.c (.int .i64 4294967295))),
 zi 19 (.pick (.t 15) (.c (.bool true)) (.t 18)),
 zi 20 (.mov (.t 19)),
 zg 21 20 false (.faddr 1 (.t 5)),
 zg 22 20 false (.load 1 false (.t 21)),
 zg 23 20 false (.mov (.t 3)),
 zg 24 20 false (.bin .lss (.t 22) (.t 23)),
 zi 25 (.pick (.t 20) (.c (.bool true)) (.t 24)),
 zi 26 (.mov (.t 25)),
 zg 27 26 false (.faddr 1 (.t 5)),
 zg 28 26 false (.load 1 false (.t 27)),
 zg 29 26 false (.bin .gtr (.t 28) (.c (.int .i64 4611686018427387903))),
 zi 30 (.pick (.t 26) (.c (.bool true)) (.t 29))])
 (.cond (.t 30)
 (.seq (.reg [zi 2 (.mov (.c (.bool false)))])
 (.ret))
 (.skip)))
 (.reg [zi 31 (.faddr 1 (.t 5)),
 zi 32 (.load 1 false (.t 31)),
 zi 3 (.mov (.t 32))]))))
 (.reg [zi 33 (.bin .add (.t 8) (.c (.int .i64 1))),
 zi 8 (.mov (.t 33))]))))
def ir_index_Right : IFn :=
  { params := 1, results := [.tmp 2], body :=
  (.seq (.reg [zi 2 (.mov (.c (.bool false)))])
 (.seq (.reg [zi 3 (.mov (.c (.int .i64 0)))])
 (.seq (.seq (.reg [zi 6 (.mov (.t 0)),
 zi 7 (.len .sl (.t 6)),
 zi 8 (.mov (.c (.int .i64 0)))])
 (.block 0
 (.loop [3, 6, 7, 8] index_Right_b0)))
 (.seq (.reg [zi 2 (.mov (.c (.bool true)))])
 (.ret))))) }
def index_put_b0 : IC :=
  (.seq (.reg [zi 8 (.bin .lss (.t 7) (.t 6))])
 (.seq (.cond (.t 8)
 (.skip)
 (.exit 0))
 (.seq (.block 1
 (.seq (.reg [zi 9 (.mov (.t 5)),
 zi 10 (.mov (.t 0)),
 zi 11 (.conv .u8 (.t 10)),
 zi 12 (.mkrow 1 1 [(.int .u8 0)] [(0, (.t 11))]),
 zi 13 (.append 1 1 (.t 9) (.t 12)),
 zi 5 (.mov (.t 13))])
 (.reg [zi 14 (.mov (.t 0)),
 zi 15 (.bin .shr (.t 14) (.c (.int .u64 8))),
 zi 0 (.mov (.t 15))])))
 (.reg [zi 16 (.bin .add (.t 7) (.c (.int .i64 1))),
 zi 7 (.mov (.t 16))]))))
def ir_index_put : IFn :=
  { params := 2, results := [.tmp 4], body :=
  (.seq (.reg [zi 4 (.mov (.c .nils))])
 (.seq (.reg [zi 5 (.mov (.c .nils))])
 (.seq (.seq (.reg [zi 6 (.mov (.t 1)),
 zi 7 (.mov (.c (.int .i64 0)))])
 (.block 0
 (.loop [0, 5, 6, 7] index_put_b0)))
 (.seq (.reg [zi 17 (.mov (.t 5)),
 zi 4 (.mov (.t 17))])
 (.ret))))) }
def ir_slices_Clone_byte_byte : IFn :=
  { params := 1, results := [.tmp 2], body :=
  (.seq (.reg [zi 2 (.mov (.c .nils))])
 (.seq (.seq (.reg [zi 3 (.mov (.t 0)),
 zi 4 (.eq .slice false (.t 3) (.c .nils))])
 (.cond (.t 4)
 (.seq (.reg [zi 2 (.mov (.c .nils))])
 (.ret))
 (.skip)))
 (.seq (.reg [zi 5 (.mkrow 1 0 [(.int .u8 0)] []),
 zi 6 (.mov (.t 0)),
 zi 7 (.append 1 1 (.t 5) (.t 6)),
 zi 2 (.mov (.t 7))])
 (.ret)))) }
def crc_step_b0 : IC :=
  (.seq (.reg [zi 10 (.bin .lss (.t 9) (.c (.int .i64 8)))])
 (.seq (.cond (.t 10)
 (.skip)
 (.exit 0))
 (.seq (.block 1
 (.seq (.reg [zi 11 (.mov (.t 0)),
 zi 12 (.bin .and (.t 11) (.c (.int .u32 1))),
 zi 13 (.bin .eql (.t 12) (.c (.int .u32 1)))])
 (.cond (.t 13)
 (.reg [zi 14 (.mov (.t 0)),
 zi 15 (.bin .shr (.t 14) (.c (.int .u64 1))),
 zi 16 (.bin .xor (.t 15) (.c (.int .u32 3988292384))),
 zi 0 (.mov (.t 16))])
 (.reg [zi 17 (.mov (.t 0)),
 zi 18 (.bin .shr (.t 17) (.c (.int .u64 1))),
 zi 0 (.mov (.t 18))]))))
 (.reg [zi 19 (.bin .add (.t 9) (.c (.int .i64 1))),
 zi 9 (.mov (.t 19))]))))
def ir_crc_step : IFn :=
  { params := 2, results := [.tmp 4], body :=
  (.seq (.reg [zi 4 (.mov (.c (.int .u32 0)))])
 (.seq (.reg [zi 5 (.mov (.t 0)),
 zi 6 (.mov (.t 1)),
 zi 7 (.conv .u32 (.t 6)),
 zi 8 (.bin .xor (.t 5) (.t 7)),
 zi 0 (.mov (.t 8))])
 (.seq (.seq (.reg [zi 9 (.mov (.c (.int .i64 0)))])
 (.block 0
 (.loop [0, 9] crc_step_b0)))
 (.seq (.reg [zi 20 (.mov (.t 0)),
 zi 4 (.mov (.t 20))])
 (.ret))))) }
def crc_Sum_b0 : IC :=
  (.seq (.reg [zi 17 (.bin .lss (.t 16) (.t 15))])
 (.seq (.cond (.t 17)
 (.skip)
 (.exit 2))
 (.seq (.block 3
 (.seq (.reg [zi 18 (.iaddr 1 (.t 14) (.t 16)),
 zi 19 (.load 1 false (.t 18)),
 zi 7 (.mov (.t 19))])
 (.reg [zi 20 (.mov (.t 3)),
 zi 21 (.mov (.t 7)),
 zi 22 (.call fid_crc_step [(.t 20), (.t 21)]),
 zi 3 (.mov (.t 22))])))
 (.reg [zi 23 (.bin .add (.t 16) (.c (.int .i64 1))),
 zi 16 (.mov (.t 23))]))))
def crc_Sum_b1 : IC :=
  (.seq (.reg [zi 11 (.bin .lss (.t 10) (.t 9))])
 (.seq (.cond (.t 11)
 (.skip)
 (.exit 0))
 (.seq (.block 1
 (.seq (.reg [zi 12 (.iaddr 1 (.t 8) (.t 10)),
 zi 13 (.load 1 false (.t 12)),
 zi 5 (.mov (.t 13))])
 (.seq (.reg [zi 14 (.mov (.t 5)),
 zi 15 (.len .sl (.t 14)),
 zi 16 (.mov (.c (.int .i64 0)))])
 (.block 2
 (.loop [3, 8, 9, 10, 14, 15, 16] crc_Sum_b0)))))
 (.reg [zi 24 (.bin .add (.t 10) (.c (.int .i64 1))),
 zi 10 (.mov (.t 24))]))))
def ir_crc_Sum : IFn :=
  { params := 1, results := [.tmp 2], body :=
  (.seq (.reg [zi 2 (.mov (.c (.int .u32 0)))])
 (.seq (.reg [zi 3 (.mov (.c (.int .u32 4294967295)))])
 (.seq (.seq (.reg [zi 8 (.mov (.t 0)),
 zi 9 (.len .sl (.t 8)),
 zi 10 (.mov (.c (.int .i64 0)))])
 (.block 0
 (.loop [3, 8, 9, 10] crc_Sum_b1)))
 (.seq (.reg [zi 25 (.mov (.t 3)),
 zi 26 (.un .xor (.t 25)),
 zi 2 (.mov (.t 26))])
 (.ret))))) }
def crc_Seal_b0 : IC :=
  (.seq (.reg [zi 11 (.bin .lss (.t 10) (.c (.int .i64 4)))])
 (.seq (.cond (.t 11)
 (.skip)
 (.exit 0))
 (.seq (.block 1
 (.seq (.reg [zi 12 (.mov (.t 3)),
 zi 13 (.mov (.t 4)),
 zi 14 (.conv .u8 (.t 13)),
 zi 15 (.mkrow 1 1 [(.int .u8 0)] [(0, (.t 14))]),
 zi 16 (.append 1 1 (.t 12) (.t 15)),
 zi 3 (.mov (.t 16))])
 (.reg [zi 17 (.mov (.t 4)),
 zi 18 (.bin .shr (.t 17) (.c (.int .u64 8))),
 zi 4 (.mov (.t 18))])))
 (.reg [zi 19 (.bin .add (.t 10) (.c (.int .i64 1))),
 zi 10 (.mov (.t 19))]))))
def ir_crc_Seal : IFn :=
  { params := 1, results := [.tmp 2], body :=
  (.seq (.reg [zi 2 (.mov (.c .nils))])
 (.seq (.reg [zi 5 (.mov (.t 0)),
 zi 6 (.call fid_slices_Clone_byte_byte [(.t 5)]),
 zi 7 (.mov (.t 0)),
 zi 8 (.mkrow 1 1 [.nils] [(0, (.t 7))]),
 zi 9 (.call fid_crc_Sum [(.t 8)]),
 zi 3 (.mov (.t 6)),
 zi 4 (.mov (.t 9))])
 (.seq (.seq (.reg [zi 10 (.mov (.c (.int .i64 0)))])
 (.block 0
 (.loop [3, 4, 10] crc_Seal_b0)))
 (.seq (.reg [zi 20 (.mov (.t 3)),
 zi 2 (.mov (.t 20))])
 (.ret))))) }
def index_Put_b0 : IC :=
  (.seq (.reg [zi 13 (.bin .lss (.t 12) (.t 11))])
 (.seq (.cond (.t 13)
 (.skip)
 (.exit 0))
 (.seq (.block 1
 (.seq (.reg [zi 14 (.iaddr 3 (.t 10) (.t 12)),
 zi 15 (.load 3 true (.t 14)),
 zi 6 (.box (.c (.agg [(.int .i64 0), (.int .i64 0), (.int .u32 0)]))),
 zn (.store 3 (.t 6) (.t 15))])
 (.seq (.reg [zi 16 (.mov (.t 4)),
 zi 17 (.faddr 0 (.t 6)),
 zi 18 (.load 1 false (.t 17)),
 zi 19 (.conv .u64 (.t 18)),
 zi 20 (.call fid_index_put [(.t 19), (.c (.int .i64 4))]),
 zi 21 (.append 1 1 (.t 16) (.t 20)),
 zi 4 (.mov (.t 21))])
 (.seq (.reg [zi 22 (.mov (.t 4)),
 zi 23 (.faddr 1 (.t 6)),
 zi 24 (.load 1 false (.t 23)),
 zi 25 (.conv .u64 (.t 24)),
 zi 26 (.call fid_index_put [(.t 25), (.c (.int .i64 8))]),
 zi 27 (.append 1 1 (.t 22) (.t 26)),
 zi 4 (.mov (.t 27))])
 (.reg [zi 28 (.mov (.t 4)),
 zi 29 (.faddr 2 (.t 6)),
 zi 30 (.load 1 false (.t 29)),
 zi 31 (.conv .u64 (.t 30)),
 zi 32 (.call fid_index_put [(.t 31), (.c (.int .i64 4))]),
 zi 33 (.append 1 1 (.t 28) (.t 32)),
 zi 4 (.mov (.t 33))])))))
 (.reg [zi 34 (.bin .add (.t 12) (.c (.int .i64 1))),
 zi 12 (.mov (.t 34))]))))
def ir_index_Put : IFn :=
  { params := 1, results := [.tmp 2, .tmp 3], body :=
  (.seq (.reg [zi 2 (.mov (.c .nils)),
 zi 3 (.mov (.c (.bool false)))])
 (.seq (.seq (.reg [zi 7 (.mov (.t 0)),
 zi 8 (.call fid_index_Right [(.t 7)]),
 zi 9 (.un .not (.t 8))])
 (.cond (.t 9)
 (.seq (.reg [zi 2 (.mov (.c .nils)),
 zi 3 (.mov (.c (.bool false)))])
 (.ret))
 (.skip)))
 (.seq (.reg [zi 4 (.mov (.c .nils))])
 (.seq (.seq (.reg [zi 10 (.mov (.t 0)),
 zi 11 (.len .sl (.t 10)),
 zi 12 (.mov (.c (.int .i64 0)))])
 (.block 0
 (.loop [4, 10, 11, 12] index_Put_b0)))
 (.seq (.reg [zi 35 (.mov (.t 4)),
 zi 36 (.append 1 1 (.t 35) (.c (.str [88, 71, 84, 49]))),
 zi 37 (.call fid_crc_Seal [(.t 36)]),
 zi 2 (.mov (.t 37)),
 zi 3 (.mov (.c (.bool true)))])
 (.ret)))))) }
def sort_Search_b0 : IC :=
  (.seq (.seq (.reg [zi 9 (.mov (.t 5)),
 zi 10 (.mov (.t 6)),
 zi 11 (.bin .lss (.t 9) (.t 10))])
 (.cond (.t 11)
 (.skip)
 (.exit 0)))
 (.block 1
 (.seq (.reg [zi 12 (.mov (.t 5)),
 zi 13 (.mov (.t 6)),
 zi 14 (.bin .add (.t 12) (.t 13)),
 zi 15 (.conv .u64 (.t 14)),
 zi 16 (.bin .shr (.t 15) (.c (.int .u64 1))),
 zi 17 (.conv .i64 (.t 16)),
 zi 7 (.mov (.t 17))])
 (.seq (.reg [zi 18 (.mov (.t 1)),
 zi 19 (.mov (.t 7)),
 zi 20 (.callv (.t 18) [(.t 19)]),
 zi 21 (.un .not (.t 20))])
 (.cond (.t 21)
 (.reg [zi 22 (.mov (.t 7)),
 zi 23 (.bin .add (.t 22) (.c (.int .i64 1))),
 zi 5 (.mov (.t 23))])
 (.reg [zi 24 (.mov (.t 7)),
 zi 6 (.mov (.t 24))]))))))
def ir_sort_Search : IFn :=
  { params := 2, results := [.tmp 4], body :=
  (.seq (.reg [zi 4 (.mov (.c (.int .i64 0)))])
 (.seq (.reg [zi 8 (.mov (.t 0)),
 zi 5 (.mov (.c (.int .i64 0))),
 zi 6 (.mov (.t 8))])
 (.seq (.block 0
 (.loop [1, 5, 6] sort_Search_b0))
 (.seq (.reg [zi 25 (.mov (.t 5)),
 zi 4 (.mov (.t 25))])
 (.ret))))) }
def ir_index_Find_1 : IFn :=
  { params := 3, results := [.tmp 4], body :=
  (.seq (.reg [zi 4 (.mov (.c (.bool false)))])
 (.seq (.regD [0, 1, 2, 3, 4, 5, 6, 7] [zi 5 (.load 1 false (.t 1)),
 zi 6 (.mov (.t 0)),
 zi 7 (.iaddr 3 (.t 5) (.t 6)),
 zi 8 (.faddr 1 (.t 7)),
 zi 9 (.load 1 false (.t 8)),
 zi 10 (.load 1 false (.t 2)),
 zi 11 (.bin .gtr (.t 9) (.t 10)),
 zi 4 (.mov (.t 11))])
 (.ret))) }
def ir_index_Find : IFn :=
  { params := 2, results := [.tmp 4], body :=
  (.seq (.reg [zi 2 (.box (.t 0)),
 zi 3 (.box (.t 1)),
 zi 4 (.mov (.c (.int .i64 0)))])
 (.seq (.seq (.reg [zi 5 (.load 1 false (.t 2)),
 zi 6 (.call fid_index_Right [(.t 5)]),
 zi 7 (.un .not (.t 6))])
 (.cond (.t 7)
 (.seq (.reg [zi 4 (.mov (.c (.int .i64 (-1))))])
 (.ret))
 (.skip)))
 (.seq (.reg [zi 8 (.load 1 false (.t 2)),
 zi 9 (.len .sl (.t 8)),
 zi 10 (.mkfn (.func fid_index_Find_1) [] [(.t 2), (.t 3)]),
 zi 11 (.call fid_sort_Search [(.t 9), (.t 10)]),
 zi 12 (.bin .sub (.t 11) (.c (.int .i64 1))),
 zi 4 (.mov (.t 12))])
 (.ret)))) }
def index_Offset_b0 : IC :=
  (.seq (.reg [zi 26 (.bin .lss (.t 25) (.t 24))])
 (.seq (.cond (.t 26)
 (.skip)
 (.exit 0))
 (.seq (.block 1
 (.seq (.reg [zi 27 (.iaddr 3 (.t 23) (.t 25)),
 zi 28 (.load 3 true (.t 27)),
 zi 7 (.box (.c (.agg [(.int .i64 0), (.int .i64 0), (.int .u32 0)]))),
 zn (.store 3 (.t 7) (.t 28))])
 (.reg [zi 29 (.mov (.t 5)),
 zi 30 (.faddr 0 (.t 7)),
 zi 31 (.load 1 false (.t 30)),
 zi 32 (.bin .add (.t 29) (.t 31)),
 zi 5 (.mov (.t 32))])))
 (.reg [zi 33 (.bin .add (.t 25) (.c (.int .i64 1))),
 zi 25 (.mov (.t 33))]))))
def ir_index_Offset : IFn :=
  { params := 2, results := [.tmp 4], body :=
  (.seq (.reg [zi 4 (.mov (.c (.int .i64 0)))])
 (.seq (.seq (.reg [zi 8 (.mov (.t 1)),
 zi 9 (.bin .lss (.t 8) (.c (.int .i64 0))),
 zi 10 (.mov (.t 9)),
 zg 11 10 false (.mov (.t 1)),
 zg 12 10 false (.mov (.t 0)),
 zg 13 10 false (.len .sl (.t 12)),
 zg 14 10 false (.bin .geq (.t 11) (.t 13)),
 zi 15 (.pick (.t 10) (.c (.bool true)) (.t 14)),
 zi 16 (.mov (.t 15)),
 zg 17 16 false (.mov (.t 0)),
 zg 18 16 false (.call fid_index_Right [(.t 17)]),
 zg 19 16 false (.un .not (.t 18)),
 zi 20 (.pick (.t 16) (.c (.bool true)) (.t 19))])
 (.cond (.t 20)
 (.seq (.reg [zi 4 (.mov (.c (.int .i64 0)))])
 (.ret))
 (.skip)))
 (.seq (.reg [zi 5 (.mov (.c (.int .i64 24)))])
 (.seq (.seq (.reg [zi 21 (.mov (.t 0)),
 zi 22 (.mov (.t 1)),
 zi 23 (.slice false 3 (.t 21) none (some (.t 22)) none),
 zi 24 (.len .sl (.t 23)),
 zi 25 (.mov (.c (.int .i64 0)))])
 (.block 0
 (.loop [5, 23, 24, 25] index_Offset_b0)))
 (.seq (.reg [zi 34 (.mov (.t 5)),
 zi 4 (.mov (.t 34))])
 (.ret)))))) }
def archipelagoref1_Fixed_b0 : IC :=
  (.seq (.seq (.reg [zi 7 (.mov (.t 6)),
 zi 8 (.mov (.t 1)),
 zi 9 (.bin .lss (.t 7) (.t 8))])
 (.cond (.t 9)
 (.skip)
 (.exit 0)))
 (.seq (.block 1
 (.reg [zi 12 (.mov (.t 5)),
 zi 13 (.mov (.t 0)),
 zi 14 (.mov (.t 6)),
 zi 15 (.bin .mul (.c (.int .i64 8)) (.t 14)),
 zi 16 (.bin .shr (.t 13) (.t 15)),
 zi 17 (.conv .u8 (.t 16)),
 zi 18 (.mkrow 1 1 [(.int .u8 0)] [(0, (.t 17))]),
 zi 19 (.append 1 1 (.t 12) (.t 18)),
 zi 5 (.mov (.t 19))]))
 (.reg [zi 10 (.mov (.t 6)),
 zi 11 (.bin .add (.t 10) (.c (.int .i64 1))),
 zi 6 (.mov (.t 11))])))
def ir_archipelagoref1_Fixed : IFn :=
  { params := 2, results := [.tmp 4], body :=
  (.seq (.reg [zi 4 (.mov (.c .nils))])
 (.seq (.reg [zi 5 (.mov (.c .nils))])
 (.seq (.seq (.reg [zi 6 (.mov (.c (.int .i64 0)))])
 (.block 0
 (.loop [0, 1, 5, 6] archipelagoref1_Fixed_b0)))
 (.seq (.reg [zi 20 (.mov (.t 5)),
 zi 4 (.mov (.t 20))])
 (.ret))))) }
def archipelagoref1_Next_b0 : IC :=
  (.seq (.seq (.reg [zi 12 (.mov (.t 6)),
 zi 13 (.bin .lss (.t 12) (.c (.int .i64 8)))])
 (.cond (.t 13)
 (.skip)
 (.exit 0)))
 (.seq (.block 1
 (.seq (.reg [zi 16 (.mov (.t 5)),
 zi 17 (.bin .and (.t 16) (.c (.int .u32 1))),
 zi 18 (.bin .eql (.t 17) (.c (.int .u32 1)))])
 (.cond (.t 18)
 (.reg [zi 19 (.mov (.t 5)),
 zi 20 (.bin .shr (.t 19) (.c (.int .u64 1))),
 zi 21 (.bin .xor (.t 20) (.c (.int .u32 3988292384))),
 zi 5 (.mov (.t 21))])
 (.reg [zi 22 (.mov (.t 5)),
 zi 23 (.bin .shr (.t 22) (.c (.int .u64 1))),
 zi 5 (.mov (.t 23))]))))
 (.reg [zi 14 (.mov (.t 6)),
 zi 15 (.bin .add (.t 14) (.c (.int .i64 1))),
 zi 6 (.mov (.t 15))])))
def ir_archipelagoref1_Next : IFn :=
  { params := 2, results := [.tmp 4], body :=
  (.seq (.reg [zi 4 (.mov (.c (.int .u32 0)))])
 (.seq (.reg [zi 7 (.mov (.t 0)),
 zi 8 (.un .xor (.t 7)),
 zi 9 (.mov (.t 1)),
 zi 10 (.conv .u32 (.t 9)),
 zi 11 (.bin .xor (.t 8) (.t 10)),
 zi 5 (.mov (.t 11))])
 (.seq (.seq (.reg [zi 6 (.mov (.c (.int .i64 0)))])
 (.block 0
 (.loop [5, 6] archipelagoref1_Next_b0)))
 (.seq (.reg [zi 24 (.mov (.t 5)),
 zi 25 (.un .xor (.t 24)),
 zi 4 (.mov (.t 25))])
 (.ret))))) }
def archipelagoref1_Sum_b0 : IC :=
  (.seq (.seq (.reg [zi 12 (.mov (.t 5)),
 zi 13 (.mov (.t 0)),
 zi 14 (.mov (.t 4)),
 zi 15 (.iaddr 1 (.t 13) (.t 14)),
 zi 16 (.load 1 false (.t 15)),
 zi 17 (.len .sl (.t 16)),
 zi 18 (.bin .lss (.t 12) (.t 17))])
 (.cond (.t 18)
 (.skip)
 (.exit 2)))
 (.seq (.block 3
 (.reg [zi 21 (.mov (.t 3)),
 zi 22 (.mov (.t 0)),
 zi 23 (.mov (.t 4)),
 zi 24 (.iaddr 1 (.t 22) (.t 23)),
 zi 25 (.load 1 false (.t 24)),
 zi 26 (.mov (.t 5)),
 zi 27 (.iaddr 1 (.t 25) (.t 26)),
 zi 28 (.load 1 false (.t 27)),
 zi 29 (.call fid_archipelagoref1_Next [(.t 21), (.t 28)]),
 zi 3 (.mov (.t 29))]))
 (.reg [zi 19 (.mov (.t 5)),
 zi 20 (.bin .add (.t 19) (.c (.int .i64 1))),
 zi 5 (.mov (.t 20))])))
def archipelagoref1_Sum_b1 : IC :=
  (.seq (.seq (.reg [zi 6 (.mov (.t 4)),
 zi 7 (.mov (.t 0)),
 zi 8 (.len .sl (.t 7)),
 zi 9 (.bin .lss (.t 6) (.t 8))])
 (.cond (.t 9)
 (.skip)
 (.exit 0)))
 (.seq (.block 1
 (.seq (.reg [zi 5 (.mov (.c (.int .i64 0)))])
 (.block 2
 (.loop [0, 3, 4, 5] archipelagoref1_Sum_b0))))
 (.reg [zi 10 (.mov (.t 4)),
 zi 11 (.bin .add (.t 10) (.c (.int .i64 1))),
 zi 4 (.mov (.t 11))])))
def ir_archipelagoref1_Sum : IFn :=
  { params := 1, results := [.tmp 2], body :=
  (.seq (.reg [zi 2 (.mov (.c (.int .u32 0)))])
 (.seq (.reg [zi 3 (.mov (.c (.int .u32 0)))])
 (.seq (.seq (.reg [zi 4 (.mov (.c (.int .i64 0)))])
 (.block 0
 (.loop [0, 3, 4] archipelagoref1_Sum_b1)))
 (.seq (.reg [zi 30 (.mov (.t 3)),
 zi 2 (.mov (.t 30))])
 (.ret))))) }
def ir_archipelagoref1_Seal : IFn :=
  { params := 1, results := [.tmp 2], body :=
  (.seq (.reg [zi 2 (.mov (.c .nils))])
 (.seq (.reg [zi 3 (.mov (.t 0)),
 zi 4 (.append 1 1 (.c .nils) (.t 3)),
 zi 5 (.mov (.t 0)),
 zi 6 (.mkrow 1 1 [.nils] [(0, (.t 5))]),
 zi 7 (.call fid_archipelagoref1_Sum [(.t 6)]),
 zi 8 (.conv .u64 (.t 7)),
 zi 9 (.call fid_archipelagoref1_Fixed [(.t 8), (.c (.int .i64 4))]),
 zi 10 (.append 1 1 (.t 4) (.t 9)),
 zi 2 (.mov (.t 10))])
 (.ret))) }
def ir_archipelagoref18_Right : IFn :=
  { params := 1, results := [.tmp 2], body :=
  (.seq (.reg [zi 1 (.box (.t 0)),
 zi 2 (.mov (.c (.bool false)))])
 (.seq (.reg [zi 3 (.faddr 0 (.t 1)),
 zi 4 (.load 1 false (.t 3)),
 zi 5 (.bin .leq (.t 4) (.c (.int .u64 4294967296))),
 zi 6 (.mov (.t 5)),
 zg 7 6 true (.faddr 1 (.t 1)),
 zg 8 6 true (.load 1 false (.t 7)),
 zg 9 6 true (.bin .geq (.t 8) (.c (.int .i64 1))),
 zi 10 (.pick (.t 6) (.t 9) (.c (.bool false))),
 zi 11 (.mov (.t 10)),
 zg 12 11 true (.faddr 1 (.t 1)),
 zg 13 11 true (.load 1 false (.t 12)),
 zg 14 11 true (.bin .leq (.t 13) (.c (.int .i64 1048576))),
 zi 15 (.pick (.t 11) (.t 14) (.c (.bool false))),
 zi 16 (.mov (.t 15)),
 zg 17 16 true (.faddr 2 (.t 1)),
 zg 18 16 true (.load 1 false (.t 17)),
 zg 19 16 true (.bin .geq (.t 18) (.c (.int .i64 0))),
 zi 20 (.pick (.t 16) (.t 19) (.c (.bool false))),
 zi 21 (.mov (.t 20)),
 zg 22 21 true (.faddr 2 (.t 1)),
 zg 23 21 true (.load 1 false (.t 22)),
 zg 24 21 true (.bin .leq (.t 23) (.c (.int .i64 2147483648))),
 zi 25 (.pick (.t 21) (.t 24) (.c (.bool false))),
 zi 2 (.mov (.t 25))])
 (.ret))) }
def ir_archipelagoref18_Put : IFn :=
  { params := 1, results := [.tmp 2], body :=
  (.seq (.reg [zi 1 (.box (.t 0)),
 zi 2 (.mov (.c .nils))])
 (.seq (.seq (.reg [zi 4 (.load 3 true (.t 1)),
 zi 5 (.call fid_archipelagoref18_Right [(.t 4)]),
 zi 6 (.un .not (.t 5))])
 (.cond (.t 6)
 (.seq (.reg [zi 2 (.mov (.c .nils))])
 (.ret))
 (.skip)))
 (.seq (.reg [zi 7 (.mkrow 1 4 [(.int .u8 0)] [(0, (.c (.int .u8 84))), (1, (.c (.int .u8 71))), (2, (.c (.int .u8 88))), (3, (.c (.int .u8 49)))]),
 zi 8 (.cvs (.t 7)),
 zi 9 (.faddr 0 (.t 1)),
 zi 10 (.load 1 false (.t 9)),
 zi 11 (.call fid_archipelagoref1_Fixed [(.t 10), (.c (.int .i64 8))]),
 zi 12 (.append 1 1 (.t 8) (.t 11)),
 zi 3 (.mov (.t 12))])
 (.seq (.regD [1, 2, 3, 4, 0, 5, 6, 7, 8, 9, 10, 11] [zi 14 (.faddr 1 (.t 1)),
 zi 15 (.load 1 false (.t 14)),
 zi 16 (.conv .u64 (.t 15)),
 zi 17 (.call fid_archipelagoref1_Fixed [(.t 16), (.c (.int .i64 4))]),
 zi 13 (.mov (.t 3)),
 zi 18 (.append 1 1 (.t 13) (.t 17)),
 zi 19 (.faddr 2 (.t 1)),
 ⟨some 20, .load 1 false (.t 19), none, some (0, 2)⟩,
 zi 21 (.conv .u64 (.t 20)),
 zi 22 (.call fid_archipelagoref1_Fixed [(.t 21), (.c (.int .i64 4))]),
 zi 23 (.append 1 1 (.t 18) (.t 22)),
 zi 3 (.mov (.t 23))])
 (.seq (.reg [zi 24 (.mov (.t 3)),
 zi 25 (.call fid_archipelagoref1_Seal [(.t 24)]),
 zi 2 (.mov (.t 25))])
 (.ret)))))) }
def ir_head_Right : IFn :=
  { params := 1, results := [.tmp 2], body :=
  (.seq (.reg [zi 1 (.box (.t 0)),
 zi 2 (.mov (.c (.bool false)))])
 (.seq (.reg [zi 3 (.faddr 0 (.t 1)),
 zi 4 (.load 1 false (.t 3)),
 zi 5 (.bin .leq (.t 4) (.c (.int .u64 4294967296))),
 zi 6 (.mov (.t 5)),
 zg 7 6 true (.faddr 1 (.t 1)),
 zg 8 6 true (.load 1 false (.t 7)),
 zg 9 6 true (.bin .geq (.t 8) (.c (.int .i64 1))),
 zi 10 (.pick (.t 6) (.t 9) (.c (.bool false))),
 zi 11 (.mov (.t 10)),
 zg 12 11 true (.faddr 1 (.t 1)),
 zg 13 11 true (.load 1 false (.t 12)),
 zg 14 11 true (.bin .leq (.t 13) (.c (.int .i64 1048576))),
 zi 15 (.pick (.t 11) (.t 14) (.c (.bool false))),
 zi 16 (.mov (.t 15)),
 zg 17 16 true (.faddr 2 (.t 1)),
 zg 18 16 true (.load 1 false (.t 17)),
 zg 19 16 true (.bin .geq (.t 18) (.c (.int .i64 0))),
 zi 20 (.pick (.t 16) (.t 19) (.c (.bool false))),
 zi 21 (.mov (.t 20)),
 zg 22 21 true (.faddr 2 (.t 1)),
 zg 23 21 true (.load 1 false (.t 22)),
 zg 24 21 true (.bin .leq (.t 23) (.c (.int .i64 2147483648))),
 zi 25 (.pick (.t 21) (.t 24) (.c (.bool false))),
 zi 2 (.mov (.t 25))])
 (.ret))) }
def ir_head_Blocks : IFn :=
  { params := 1, results := [.tmp 2], body :=
  (.seq (.reg [zi 1 (.box (.t 0)),
 zi 2 (.mov (.c (.int .i64 0)))])
 (.seq (.seq (.reg [zi 3 (.load 3 true (.t 1)),
 zi 4 (.call fid_head_Right [(.t 3)]),
 zi 5 (.un .not (.t 4))])
 (.cond (.t 5)
 (.seq (.reg [zi 2 (.mov (.c (.int .i64 0)))])
 (.ret))
 (.skip)))
 (.seq (.reg [zi 6 (.faddr 2 (.t 1)),
 zi 7 (.load 1 false (.t 6)),
 zi 8 (.faddr 1 (.t 1)),
 zi 9 (.load 1 false (.t 8)),
 zi 10 (.bin .add (.t 7) (.t 9)),
 zi 11 (.bin .sub (.t 10) (.c (.int .i64 1))),
 zi 12 (.faddr 1 (.t 1)),
 zi 13 (.load 1 false (.t 12)),
 zi 14 (.bin .quo (.t 11) (.t 13)),
 zi 2 (.mov (.t 14))])
 (.ret)))) }
def slices_Equal_byte_byte_b0 : IC :=
  (.seq (.reg [zi 14 (.bin .lss (.t 13) (.t 12))])
 (.seq (.cond (.t 14)
 (.skip)
 (.exit 0))
 (.seq (.block 1
 (.seq (.reg [zi 15 (.mov (.t 13)),
 zi 5 (.mov (.t 15))])
 (.seq (.regD [0, 1, 2, 3, 4, 5, 6, 7, 8] [zi 16 (.mov (.t 0)),
 zi 17 (.mov (.t 5)),
 zi 18 (.iaddr 1 (.t 16) (.t 17)),
 zi 19 (.load 1 false (.t 18)),
 zi 20 (.mov (.t 1)),
 zi 21 (.mov (.t 5)),
 zi 22 (.iaddr 1 (.t 20) (.t 21)),
 zi 23 (.load 1 false (.t 22)),
 zi 24 (.bin .neq (.t 19) (.t 23))])
 (.cond (.t 24)
 (.seq (.reg [zi 4 (.mov (.c (.bool false)))])
 (.ret))
 (.skip)))))
 (.reg [zi 25 (.bin .add (.t 13) (.c (.int .i64 1))),
 zi 13 (.mov (.t 25))]))))
def ir_slices_Equal_byte_byte : IFn :=
  { params := 2, results := [.tmp 4], body :=
  (.seq (.reg [zi 4 (.mov (.c (.bool false)))])
 (.seq (.seq (.reg [zi 6 (.mov (.t 0)),
 zi 7 (.len .sl (.t 6)),
 zi 8 (.mov (.t 1)),
 zi 9 (.len .sl (.t 8)),
 zi 10 (.bin .neq (.t 7) (.t 9))])
 (.cond (.t 10)
 (.seq (.reg [zi 4 (.mov (.c (.bool false)))])
 (.ret))
 (.skip)))
 (.seq (.seq (.reg [zi 11 (.mov (.t 0)),
 zi 12 (.len .sl (.t 11)),
 zi 13 (.mov (.c (.int .i64 0)))])
 (.block 0
 (.loop [0, 1, 12, 13] slices_Equal_byte_byte_b0)))
 (.seq (.reg [zi 4 (.mov (.c (.bool true)))])
 (.ret))))) }
def ir_crc_Open : IFn :=
  { params := 1, results := [.tmp 2, .tmp 3], body :=
  (.seq (.reg [zi 2 (.mov (.c .nils)),
 zi 3 (.mov (.c (.bool false)))])
 (.seq (.reg [zi 5 (.mov (.t 0)),
 zi 6 (.len .sl (.t 5)),
 zi 7 (.bin .sub (.t 6) (.c (.int .i64 4))),
 zi 4 (.mov (.t 7))])
 (.seq (.seq (.reg [zi 8 (.mov (.t 4)),
 zi 9 (.bin .lss (.t 8) (.c (.int .i64 0))),
 zi 10 (.mov (.t 9)),
 zg 11 10 false (.mov (.t 0)),
 zg 12 10 false (.mov (.t 4)),
 zg 13 10 false (.slice false 1 (.t 11) none (some (.t 12)) none),
 zg 14 10 false (.call fid_crc_Seal [(.t 13)]),
 zg 15 10 false (.mov (.t 0)),
 zg 16 10 false (.call fid_slices_Equal_byte_byte [(.t 14), (.t 15)]),
 zg 17 10 false (.un .not (.t 16)),
 zi 18 (.pick (.t 10) (.c (.bool true)) (.t 17))])
 (.cond (.t 18)
 (.seq (.reg [zi 2 (.mov (.c .nils)),
 zi 3 (.mov (.c (.bool false)))])
 (.ret))
 (.skip)))
 (.seq (.reg [zi 19 (.mov (.t 0)),
 zi 20 (.mov (.t 4)),
 zi 21 (.slice false 1 (.t 19) none (some (.t 20)) none),
 zi 22 (.call fid_slices_Clone_byte_byte [(.t 21)]),
 zi 2 (.mov (.t 22)),
 zi 3 (.mov (.c (.bool true)))])
 (.ret))))) }
def index_take_b0 : IC :=
  (.seq (.reg [zi 9 (.bin .lss (.t 8) (.t 7))])
 (.seq (.cond (.t 9)
 (.skip)
 (.exit 0))
 (.seq (.block 1
 (.seq (.reg [zi 10 (.mov (.t 8)),
 zi 11 (.iaddr 1 (.t 6) (.t 8)),
 zi 12 (.load 1 false (.t 11)),
 zi 4 (.mov (.t 10)),
 zi 5 (.mov (.t 12))])
 (.reg [zi 13 (.mov (.t 3)),
 zi 14 (.mov (.t 5)),
 zi 15 (.conv .u64 (.t 14)),
 zi 16 (.mov (.t 4)),
 zi 17 (.bin .mul (.c (.int .i64 8)) (.t 16)),
 zi 18 (.bin .shl (.t 15) (.t 17)),
 zi 19 (.bin .or (.t 13) (.t 18)),
 zi 3 (.mov (.t 19))])))
 (.reg [zi 20 (.bin .add (.t 8) (.c (.int .i64 1))),
 zi 8 (.mov (.t 20))]))))
def ir_index_take : IFn :=
  { params := 1, results := [.tmp 2], body :=
  (.seq (.reg [zi 2 (.mov (.c (.int .u64 0)))])
 (.seq (.reg [zi 3 (.mov (.c (.int .u64 0)))])
 (.seq (.seq (.reg [zi 6 (.mov (.t 0)),
 zi 7 (.len .sl (.t 6)),
 zi 8 (.mov (.c (.int .i64 0)))])
 (.block 0
 (.loop [3, 6, 7, 8] index_take_b0)))
 (.seq (.reg [zi 21 (.mov (.t 3)),
 zi 2 (.mov (.t 21))])
 (.ret))))) }
def index_Read_b0 : IC :=
  (.seq (.seq (.reg [zi 51 (.mov (.t 12)),
 zi 52 (.len .sl (.t 51)),
 zi 53 (.bin .gtr (.t 52) (.c (.int .i64 0)))])
 (.cond (.t 53)
 (.skip)
 (.exit 0)))
 (.seq (.block 1
 (.seq (.regD [0, 1, 2, 4, 5, 6, 8, 9, 10, 3, 7, 11, 12, 13, 14] [zi 56 (.mov (.t 12)),
 zi 57 (.slice false 1 (.t 56) none (some (.c (.int .i64 4))) none),
 zi 58 (.call fid_index_take [(.t 57)]),
 zi 60 (.mov (.t 12)),
 zi 61 (.slice false 1 (.t 60) (some (.c (.int .i64 4))) (some (.c (.int .i64 12))) none),
 zi 62 (.call fid_index_take [(.t 61)]),
 zi 64 (.mov (.t 12)),
 zi 65 (.slice false 1 (.t 64) (some (.c (.int .i64 12))) (some (.c (.int .i64 16))) none),
 zi 66 (.call fid_index_take [(.t 65)]),
 zi 59 (.conv .i64 (.t 58)),
 zi 63 (.conv .i64 (.t 62)),
 zi 67 (.conv .u32 (.t 66)),
 zi 68 (.build [(.int .i64 0), (.int .i64 0), (.int .u32 0)] [(0, 1, (.t 59)), (1, 1, (.t 63)), (2, 1, (.t 67))]),
 zi 13 (.box (.c (.agg [(.int .i64 0), (.int .i64 0), (.int .u32 0)]))),
 zn (.store 3 (.t 13) (.t 68))])
 (.regD [0, 1, 2, 3, 4, 5, 6, 7, 8, 9] [zi 69 (.mov (.t 10)),
 zi 70 (.load 3 true (.t 13)),
 zi 71 (.mkrow 3 1 [(.int .i64 0), (.int .i64 0), (.int .u32 0)] [(0, (.t 70))]),
 zi 72 (.append 3 24 (.t 69) (.t 71)),
 zi 73 (.mov (.t 11)),
 zi 74 (.faddr 0 (.t 13)),
 ⟨some 75, .load 1 false (.t 74), none, some (0, 1)⟩,
 zi 76 (.bin .sub (.t 73) (.t 75)),
 zi 10 (.mov (.t 72)),
 zi 11 (.mov (.t 76))])))
 (.reg [zi 54 (.mov (.t 12)),
 zi 55 (.slice false 1 (.t 54) (some (.c (.int .i64 16))) none none),
 zi 12 (.mov (.t 55))])))
def ir_index_Read : IFn :=
  { params := 2, results := [.tmp 4, .tmp 5], body :=
  (.seq (.reg [zi 3 (.box (.t 1)),
 zi 4 (.mov (.c .nils)),
 zi 5 (.mov (.c (.int .i64 0)))])
 (.seq (.reg [zi 14 (.load 3 true (.t 3)),
 zi 15 (.call fid_head_Blocks [(.t 14)]),
 zi 16 (.bin .mul (.t 15) (.c (.int .i64 16))),
 zi 17 (.bin .add (.t 16) (.c (.int .i64 8))),
 zi 6 (.mov (.t 17))])
 (.seq (.seq (.reg [zi 18 (.mov (.t 0)),
 zi 19 (.len .sl (.t 18)),
 zi 20 (.bin .sub (.t 19) (.c (.int .i64 24))),
 zi 21 (.mov (.t 6)),
 zi 22 (.bin .lss (.t 20) (.t 21))])
 (.cond (.t 22)
 (.seq (.reg [zi 4 (.mov (.c .nils)),
 zi 5 (.mov (.c (.int .i64 20)))])
 (.ret))
 (.skip)))
 (.seq (.reg [zi 24 (.mov (.t 0)),
 zi 25 (.mov (.t 0)),
 zi 26 (.len .sl (.t 25)),
 zi 27 (.mov (.t 6)),
 zi 28 (.bin .sub (.t 26) (.t 27)),
 zi 29 (.slice false 1 (.t 24) (some (.t 28)) none none),
 zi 30 (.call fid_crc_Open [(.t 29)]),
 zi 23 (.mov (.t 30)),
 zi 31 (.extract (.t 23) 0),
 zi 32 (.extract (.t 23) 1),
 zi 7 (.mov (.t 31)),
 zi 8 (.mov (.t 32))])
 (.seq (.seq (.reg [zi 33 (.mov (.t 8)),
 zi 34 (.un .not (.t 33))])
 (.cond (.t 34)
 (.seq (.reg [zi 4 (.mov (.c .nils)),
 zi 5 (.mov (.c (.int .i64 28)))])
 (.ret))
 (.skip)))
 (.seq (.reg [zi 35 (.mov (.t 7)),
 zi 36 (.len .sl (.t 35)),
 zi 37 (.bin .sub (.t 36) (.c (.int .i64 4))),
 zi 9 (.mov (.t 37))])
 (.seq (.seq (.reg [zi 38 (.mov (.t 7)),
 zi 39 (.mov (.t 9)),
 zi 40 (.slice false 1 (.t 38) (some (.t 39)) none none),
 zi 41 (.toStr (.t 40)),
 zi 42 (.bin .neq (.t 41) (.c (.str [88, 71, 84, 49])))])
 (.cond (.t 42)
 (.seq (.reg [zi 4 (.mov (.c .nils)),
 zi 5 (.mov (.c (.int .i64 27)))])
 (.ret))
 (.skip)))
 (.seq (.reg [zi 10 (.mov (.c .nils))])
 (.seq (.reg [zi 43 (.mov (.t 0)),
 zi 44 (.len .sl (.t 43)),
 zi 45 (.bin .sub (.t 44) (.c (.int .i64 24))),
 zi 46 (.mov (.t 6)),
 zi 47 (.bin .sub (.t 45) (.t 46)),
 zi 11 (.mov (.t 47))])
 (.seq (.seq (.reg [zi 48 (.mov (.t 7)),
 zi 49 (.mov (.t 9)),
 zi 50 (.slice false 1 (.t 48) none (some (.t 49)) none),
 zi 12 (.mov (.t 50))])
 (.block 0
 (.loop [10, 11, 12] index_Read_b0)))
 (.seq (.seq (.reg [zi 77 (.mov (.t 10)),
 zi 78 (.call fid_index_Right [(.t 77)]),
 zi 79 (.un .not (.t 78)),
 zi 80 (.mov (.t 79)),
 zg 81 80 false (.mov (.t 11)),
 zg 82 80 false (.bin .neq (.t 81) (.c (.int .i64 0))),
 zi 83 (.pick (.t 80) (.c (.bool true)) (.t 82))])
 (.cond (.t 83)
 (.seq (.reg [zi 4 (.mov (.c .nils)),
 zi 5 (.mov (.c (.int .i64 21)))])
 (.ret))
 (.skip)))
 (.seq (.reg [zi 84 (.mov (.t 10)),
 zi 4 (.mov (.t 84)),
 zi 5 (.mov (.c (.int .i64 0)))])
 (.ret))))))))))))) }
def archipelagoref18_SameRows_b0 : IC :=
  (.seq (.seq (.reg [zi 11 (.mov (.t 5)),
 zi 12 (.mov (.t 0)),
 zi 13 (.len .sl (.t 12)),
 zi 14 (.bin .lss (.t 11) (.t 13))])
 (.cond (.t 14)
 (.skip)
 (.exit 0)))
 (.seq (.block 1
 (.seq (.regD [0, 1, 2, 3, 4, 5, 6, 7, 8] [zi 17 (.mov (.t 0)),
 zi 18 (.mov (.t 5)),
 zi 19 (.iaddr 3 (.t 17) (.t 18)),
 zi 20 (.load 3 true (.t 19)),
 zi 21 (.mov (.t 1)),
 zi 22 (.mov (.t 5)),
 zi 23 (.iaddr 3 (.t 21) (.t 22)),
 zi 24 (.load 3 true (.t 23)),
 zi 25 (.eq (.struct [.int, .int, .int]) true (.t 20) (.t 24))])
 (.cond (.t 25)
 (.seq (.reg [zi 4 (.mov (.c (.bool false)))])
 (.ret))
 (.skip))))
 (.reg [zi 15 (.mov (.t 5)),
 zi 16 (.bin .add (.t 15) (.c (.int .i64 1))),
 zi 5 (.mov (.t 16))])))
def ir_archipelagoref18_SameRows : IFn :=
  { params := 2, results := [.tmp 4], body :=
  (.seq (.reg [zi 4 (.mov (.c (.bool false)))])
 (.seq (.seq (.reg [zi 6 (.mov (.t 0)),
 zi 7 (.len .sl (.t 6)),
 zi 8 (.mov (.t 1)),
 zi 9 (.len .sl (.t 8)),
 zi 10 (.bin .neq (.t 7) (.t 9))])
 (.cond (.t 10)
 (.seq (.reg [zi 4 (.mov (.c (.bool false)))])
 (.ret))
 (.skip)))
 (.seq (.seq (.reg [zi 5 (.mov (.c (.int .i64 0)))])
 (.block 0
 (.loop [0, 1, 5] archipelagoref18_SameRows_b0)))
 (.seq (.reg [zi 4 (.mov (.c (.bool true)))])
 (.ret))))) }
def ir_archipelagolaw19_known : IFn :=
  { params := 0, results := [.tmp 0], body :=
  (.seq (.reg [zi 0 (.mov (.c (.bool false)))])
 (.seq (.reg [zi 12 (.build [(.int .i64 0), (.int .i64 0), (.int .u32 0)] [(0, 1, (.c (.int .i64 2))), (1, 1, (.c (.int .i64 5))), (2, 1, (.c (.int .u32 7)))]),
 zi 13 (.build [(.int .i64 0), (.int .i64 0), (.int .u32 0)] [(0, 1, (.c (.int .i64 1))), (1, 1, (.c (.int .i64 9))), (2, 1, (.c (.int .u32 8)))]),
 zi 14 (.mkrow 3 2 [(.int .i64 0), (.int .i64 0), (.int .u32 0)] [(0, (.t 12)), (1, (.t 13))]),
 zi 1 (.mov (.t 14))])
 (.seq (.reg [zi 16 (.mov (.t 1)),
 zi 17 (.call fid_index_Put [(.t 16)]),
 zi 15 (.mov (.t 17)),
 zi 18 (.extract (.t 15) 0),
 zi 19 (.extract (.t 15) 1),
 zi 2 (.mov (.t 18)),
 zi 3 (.mov (.t 19))])
 (.seq (.reg [zi 21 (.build [(.int .i64 0), (.int .i64 0), (.int .u32 0)] []),
 zi 22 (.mkrow 3 1 [(.int .i64 0), (.int .i64 0), (.int .u32 0)] [(0, (.t 21))]),
 zi 23 (.call fid_index_Put [(.t 22)]),
 zi 20 (.mov (.t 23)),
 zi 24 (.extract (.t 20) 0),
 zi 25 (.extract (.t 20) 1),
 zi 4 (.mov (.t 24)),
 zi 5 (.mov (.t 25))])
 (.seq (.reg [zi 26 (.build [(.int .u64 0), (.int .i64 0), (.int .i64 0)] [(0, 1, (.c (.int .u64 2))), (1, 1, (.c (.int .i64 1))), (2, 1, (.c (.int .i64 2)))]),
 zi 6 (.box (.c (.agg [(.int .u64 0), (.int .i64 0), (.int .i64 0)]))),
 zn (.store 3 (.t 6) (.t 26))])
 (.seq (.reg [zi 27 (.load 3 true (.t 6)),
 zi 28 (.call fid_archipelagoref18_Put [(.t 27)]),
 zi 29 (.mkrow 1 3 [(.int .u8 0)] [(0, (.c (.int .u8 97))), (1, (.c (.int .u8 98))), (2, (.c (.int .u8 99)))]),
 zi 30 (.append 1 1 (.t 28) (.t 29)),
 zi 31 (.mov (.t 2)),
 zi 32 (.append 1 1 (.t 30) (.t 31)),
 zi 7 (.mov (.t 32))])
 (.seq (.reg [zi 34 (.mov (.t 7)),
 zi 35 (.load 3 true (.t 6)),
 zi 36 (.call fid_index_Read [(.t 34), (.t 35)]),
 zi 33 (.mov (.t 36)),
 zi 37 (.extract (.t 33) 0),
 zi 38 (.extract (.t 33) 1),
 zi 8 (.mov (.t 37)),
 zi 9 (.mov (.t 38))])
 (.seq (.reg [zi 40 (.mov (.t 2)),
 zi 41 (.load 3 true (.t 6)),
 zi 42 (.call fid_index_Read [(.t 40), (.t 41)]),
 zi 39 (.mov (.t 42)),
 zi 43 (.extract (.t 39) 0),
 zi 44 (.extract (.t 39) 1),
 zi 10 (.mov (.t 43)),
 zi 11 (.mov (.t 44))])
 (.seq (.reg [zi 45 (.mov (.t 3)),
 zi 46 (.mov (.t 45)),
 zg 47 46 true (.mov (.t 2)),
 zg 48 46 true (.len .sl (.t 47)),
 zg 49 46 true (.bin .eql (.t 48) (.c (.int .i64 40))),
 zi 50 (.pick (.t 46) (.t 49) (.c (.bool false))),
 zi 51 (.mov (.t 50)),
 zg 52 51 true (.mov (.t 5)),
 zg 53 51 true (.un .not (.t 52)),
 zi 54 (.pick (.t 51) (.t 53) (.c (.bool false))),
 zi 55 (.mov (.t 54)),
 zg 56 55 true (.mov (.t 9)),
 zg 57 55 true (.bin .eql (.t 56) (.c (.int .i64 0))),
 zi 58 (.pick (.t 55) (.t 57) (.c (.bool false))),
 zi 59 (.mov (.t 58)),
 zg 60 59 true (.mov (.t 8)),
 zg 61 59 true (.mov (.t 1)),
 zg 62 59 true (.call fid_archipelagoref18_SameRows [(.t 60), (.t 61)]),
 zi 63 (.pick (.t 59) (.t 62) (.c (.bool false))),
 zi 64 (.mov (.t 63)),
 zg 65 64 true (.mov (.t 11)),
 zg 66 64 true (.bin .eql (.t 65) (.c (.int .i64 20))),
 zi 67 (.pick (.t 64) (.t 66) (.c (.bool false))),
 zi 68 (.mov (.t 67)),
 zg 69 68 true (.mov (.t 1)),
 zg 70 68 true (.call fid_index_Find [(.t 69), (.c (.int .i64 8))]),
 zg 71 68 true (.bin .eql (.t 70) (.c (.int .i64 0))),
 zi 72 (.pick (.t 68) (.t 71) (.c (.bool false))),
 zi 73 (.mov (.t 72)),
 zg 74 73 true (.mov (.t 1)),
 zg 75 73 true (.call fid_index_Find [(.t 74), (.c (.int .i64 4))]),
 zg 76 73 true (.bin .eql (.t 75) (.c (.int .i64 (-1)))),
 zi 77 (.pick (.t 73) (.t 76) (.c (.bool false))),
 zi 78 (.mov (.t 77)),
 zg 79 78 true (.mov (.t 1)),
 zg 80 78 true (.call fid_index_Offset [(.t 79), (.c (.int .i64 1))]),
 zg 81 78 true (.bin .eql (.t 80) (.c (.int .i64 26))),
 zi 82 (.pick (.t 78) (.t 81) (.c (.bool false))),
 zi 83 (.mov (.t 82)),
 zg 84 83 true (.mov (.t 1)),
 zg 85 83 true (.call fid_index_Right [(.t 84)]),
 zi 86 (.pick (.t 83) (.t 85) (.c (.bool false))),
 zi 0 (.mov (.t 86))])
 (.ret)))))))))) }
def archipelagolaw19_rows_b0 : IC :=
  (.seq (.seq (.reg [zi 6 (.mov (.t 5)),
 zi 7 (.mov (.t 0)),
 zi 8 (.len .sl (.t 7)),
 zi 9 (.bin .lss (.t 6) (.t 8))])
 (.cond (.t 9)
 (.skip)
 (.exit 0)))
 (.seq (.block 1
 (.seq (.reg [zi 12 (.mov (.t 4)),
 zi 13 (.mov (.t 0)),
 zi 14 (.mov (.t 5)),
 zi 15 (.iaddr 1 (.t 13) (.t 14)),
 zi 16 (.load 1 false (.t 15)),
 zi 17 (.bin .rem (.t 16) (.c (.int .u16 3))),
 zi 18 (.conv .i64 (.t 17)),
 zi 19 (.bin .add (.t 12) (.t 18)),
 zi 4 (.mov (.t 19))])
 (.regD [0, 1, 2, 3, 4, 5, 6, 7, 8, 9, 10, 11, 12, 13, 14, 15, 16, 17, 18] [zi 20 (.mov (.t 3)),
 zi 21 (.mov (.t 0)),
 zi 22 (.mov (.t 5)),
 zi 23 (.iaddr 1 (.t 21) (.t 22)),
 zi 24 (.load 1 false (.t 23)),
 zi 25 (.bin .rem (.t 24) (.c (.int .u16 50))),
 zi 26 (.conv .i64 (.t 25)),
 zi 27 (.bin .add (.t 26) (.c (.int .i64 1))),
 zi 28 (.mov (.t 4)),
 zi 29 (.mov (.t 0)),
 zi 30 (.mov (.t 5)),
 zi 31 (.iaddr 1 (.t 29) (.t 30)),
 zi 32 (.load 1 false (.t 31)),
 zi 33 (.conv .u32 (.t 32)),
 zi 34 (.bin .mul (.t 33) (.c (.int .u32 77777))),
 zi 35 (.build [(.int .i64 0), (.int .i64 0), (.int .u32 0)] [(0, 1, (.t 27)), (1, 1, (.t 28)), (2, 1, (.t 34))]),
 zi 36 (.mkrow 3 1 [(.int .i64 0), (.int .i64 0), (.int .u32 0)] [(0, (.t 35))]),
 zi 37 (.append 3 24 (.t 20) (.t 36)),
 zi 3 (.mov (.t 37))])))
 (.reg [zi 10 (.mov (.t 5)),
 zi 11 (.bin .add (.t 10) (.c (.int .i64 1))),
 zi 5 (.mov (.t 11))])))
def ir_archipelagolaw19_rows : IFn :=
  { params := 1, results := [.tmp 2], body :=
  (.seq (.reg [zi 2 (.mov (.c .nils))])
 (.seq (.reg [zi 3 (.mov (.c .nils))])
 (.seq (.reg [zi 4 (.mov (.c (.int .i64 0)))])
 (.seq (.seq (.reg [zi 5 (.mov (.c (.int .i64 0)))])
 (.block 0
 (.loop [0, 3, 4, 5] archipelagolaw19_rows_b0)))
 (.seq (.reg [zi 38 (.mov (.t 3)),
 zi 2 (.mov (.t 38))])
 (.ret)))))) }
def ir_archipelagolaw19_bent : IFn :=
  { params := 4, results := [.tmp 8], body :=
  (.seq (.reg [zi 8 (.mov (.c .nils))])
 (.seq (.reg [zi 11 (.mov (.t 0)),
 zi 12 (.append 3 24 (.c .nils) (.t 11)),
 zi 9 (.mov (.t 12))])
 (.seq (.seq (.reg [zi 13 (.mov (.t 9)),
 zi 14 (.len .sl (.t 13)),
 zi 15 (.bin .eql (.t 14) (.c (.int .i64 0)))])
 (.cond (.t 15)
 (.seq (.reg [zi 16 (.mov (.t 3)),
 zi 17 (.mov (.t 3)),
 zi 18 (.build [(.int .i64 0), (.int .i64 0), (.int .u32 0)] [(0, 1, (.t 16)), (1, 1, (.t 17))]),
 zi 19 (.mkrow 3 1 [(.int .i64 0), (.int .i64 0), (.int .u32 0)] [(0, (.t 18))]),
 zi 8 (.mov (.t 19))])
 (.ret))
 (.skip)))
 (.seq (.reg [zi 20 (.mov (.t 2)),
 zi 21 (.conv .i64 (.t 20)),
 zi 22 (.mov (.t 9)),
 zi 23 (.len .sl (.t 22)),
 zi 24 (.bin .rem (.t 21) (.t 23)),
 zi 10 (.mov (.t 24))])
 (.seq (.seq (.reg [zi 25 (.mov (.t 1)),
 zi 26 (.bin .rem (.t 25) (.c (.int .u8 4)))])
 (.block 0
 (.seq (.reg [zi 40 (.bin .eql (.t 26) (.c (.int .u8 0))),
 zi 39 (.mov (.t 40))])
 (.cond (.t 39)
 (.reg [zi 41 (.mov (.t 9)),
 zi 42 (.mov (.t 10)),
 zi 43 (.mov (.t 3)),
 zi 44 (.iaddr 3 (.t 41) (.t 42)),
 zi 45 (.faddr 0 (.t 44)),
 zn (.store 1 (.t 45) (.t 43))])
 (.seq (.reg [zi 47 (.bin .eql (.t 26) (.c (.int .u8 1))),
 zi 46 (.mov (.t 47))])
 (.cond (.t 46)
 (.reg [zi 48 (.mov (.t 9)),
 zi 49 (.mov (.t 10)),
 zi 50 (.mov (.t 3)),
 zi 51 (.iaddr 3 (.t 48) (.t 49)),
 zi 52 (.faddr 1 (.t 51)),
 zn (.store 1 (.t 52) (.t 50))])
 (.seq (.reg [zi 54 (.bin .eql (.t 26) (.c (.int .u8 2))),
 zi 53 (.mov (.t 54))])
 (.cond (.t 53)
 (.reg [zi 55 (.mov (.t 9)),
 zi 56 (.mov (.t 10)),
 zi 57 (.mov (.t 3)),
 zi 58 (.conv .u32 (.t 57)),
 zi 59 (.iaddr 3 (.t 55) (.t 56)),
 zi 60 (.faddr 2 (.t 59)),
 zn (.store 1 (.t 60) (.t 58))])
 (.regD [0, 1, 3, 4, 5, 6, 7, 8, 9, 10, 11, 2, 12, 13] [zi 27 (.mov (.t 9)),
 zi 28 (.mov (.t 10)),
 zi 30 (.mov (.t 9)),
 zi 31 (.iaddr 3 (.t 30) (.c (.int .i64 0))),
 zi 32 (.load 3 true (.t 31)),
 zi 33 (.mov (.t 9)),
 zi 34 (.mov (.t 10)),
 zi 35 (.iaddr 3 (.t 33) (.t 34)),
 zi 36 (.load 3 true (.t 35)),
 zi 37 (.iaddr 3 (.t 27) (.t 28)),
 zn (.store 3 (.t 37) (.t 32)),
 zi 29 (.mov (.t 9)),
 zi 38 (.iaddr 3 (.t 29) (.c (.int .i64 0))),
 zn (.store 3 (.t 38) (.t 36))])))))))))
 (.seq (.reg [zi 61 (.mov (.t 9)),
 zi 8 (.mov (.t 61))])
 (.ret))))))) }
def archipelagoref18_RowsRight_b0 : IC :=
  (.seq (.seq (.reg [zi 4 (.mov (.t 3)),
 zi 5 (.mov (.t 0)),
 zi 6 (.len .sl (.t 5)),
 zi 7 (.bin .lss (.t 4) (.t 6))])
 (.cond (.t 7)
 (.skip)
 (.exit 0)))
 (.seq (.block 1
 (.seq (.regD [0, 1, 2, 3, 4, 5, 6, 7, 8, 9, 10, 11, 12, 13, 14, 15, 16, 17, 18, 19, 20, 21, 22, 23, 24, 25, 26, 27, 28, 29, 30, 31, 32, 33, 34, 35, 36, 37, 38, 39, 40, 41, 42, 43, 44, 45, 46, 47] [zi 10 (.mov (.t 0)),
 zi 11 (.mov (.t 3)),
 zi 12 (.iaddr 3 (.t 10) (.t 11)),
 zi 13 (.faddr 0 (.t 12)),
 zi 14 (.load 1 false (.t 13)),
 zi 15 (.bin .lss (.t 14) (.c (.int .i64 1))),
 zi 16 (.mov (.t 15)),
 zg 17 16 false (.mov (.t 0)),
 zg 18 16 false (.mov (.t 3)),
 zg 19 16 false (.iaddr 3 (.t 17) (.t 18)),
 zg 20 16 false (.faddr 0 (.t 19)),
 zg 21 16 false (.load 1 false (.t 20)),
 zg 22 16 false (.bin .gtr (.t 21) (.c (.int .i64 4294967295))),
 zi 23 (.pick (.t 16) (.c (.bool true)) (.t 22)),
 zi 24 (.mov (.t 23)),
 zg 25 24 false (.mov (.t 0)),
 zg 26 24 false (.mov (.t 3)),
 zg 27 24 false (.iaddr 3 (.t 25) (.t 26)),
 zg 28 24 false (.faddr 1 (.t 27)),
 zg 29 24 false (.load 1 false (.t 28)),
 zg 30 24 false (.bin .lss (.t 29) (.c (.int .i64 0))),
 zi 31 (.pick (.t 24) (.c (.bool true)) (.t 30)),
 zi 32 (.mov (.t 31)),
 zg 33 32 false (.mov (.t 0)),
 zg 34 32 false (.mov (.t 3)),
 zg 35 32 false (.iaddr 3 (.t 33) (.t 34)),
 zg 36 32 false (.faddr 1 (.t 35)),
 zg 37 32 false (.load 1 false (.t 36)),
 zg 38 32 false (.bin .gtr (.t 37) (.c (.int .i64 4611686018427387903))),
 zi 39 (.pick (.t 32) (.c (.bool true)) (.t 38)),
 zi 40 (.mov (.t 39)),
 zg 41 40 false (.mov (.t 3)),
 zg 42 40 false (.bin .gtr (.t 41) (.c (.int .i64 0))),
 zg 43 40 false (.mov (.t 42)),
 zg 44 43 true (.mov (.t 0)),
 zg 45 43 true (.mov (.t 3)),
 zg 46 43 true (.iaddr 3 (.t 44) (.t 45)),
 zg 47 43 true (.faddr 1 (.t 46)),
 zg 48 43 true (.load 1 false (.t 47)),
 zg 49 43 true (.mov (.t 0)),
 zg 50 43 true (.mov (.t 3)),
 zg 51 43 true (.bin .sub (.t 50) (.c (.int .i64 1))),
 zg 52 43 true (.iaddr 3 (.t 49) (.t 51)),
 zg 53 43 true (.faddr 1 (.t 52)),
 zg 54 43 true (.load 1 false (.t 53)),
 zg 55 43 true (.bin .lss (.t 48) (.t 54)),
 zg 56 40 false (.pick (.t 43) (.t 55) (.c (.bool false))),
 zi 57 (.pick (.t 40) (.c (.bool true)) (.t 56))])
 (.cond (.t 57)
 (.seq (.reg [zi 2 (.mov (.c (.bool false)))])
 (.ret))
 (.skip))))
 (.reg [zi 8 (.mov (.t 3)),
 zi 9 (.bin .add (.t 8) (.c (.int .i64 1))),
 zi 3 (.mov (.t 9))])))
def ir_archipelagoref18_RowsRight : IFn :=
  { params := 1, results := [.tmp 2], body :=
  (.seq (.reg [zi 2 (.mov (.c (.bool false)))])
 (.seq (.seq (.reg [zi 3 (.mov (.c (.int .i64 0)))])
 (.block 0
 (.loop [0, 3] archipelagoref18_RowsRight_b0)))
 (.seq (.reg [zi 2 (.mov (.c (.bool true)))])
 (.ret)))) }
def archipelagoref18_RowsPut_b0 : IC :=
  (.seq (.seq (.reg [zi 9 (.mov (.t 5)),
 zi 10 (.mov (.t 0)),
 zi 11 (.len .sl (.t 10)),
 zi 12 (.bin .lss (.t 9) (.t 11))])
 (.cond (.t 12)
 (.skip)
 (.exit 0)))
 (.seq (.block 1
 (.seq (.reg [zi 15 (.mov (.t 4)),
 zi 16 (.mov (.t 0)),
 zi 17 (.mov (.t 5)),
 zi 18 (.iaddr 3 (.t 16) (.t 17)),
 zi 19 (.faddr 0 (.t 18)),
 zi 20 (.load 1 false (.t 19)),
 zi 21 (.conv .u64 (.t 20)),
 zi 22 (.call fid_archipelagoref1_Fixed [(.t 21), (.c (.int .i64 4))]),
 zi 23 (.append 1 1 (.t 15) (.t 22)),
 zi 4 (.mov (.t 23))])
 (.regD [1, 2, 3, 4, 5, 6, 7, 0, 8, 9, 10, 11, 12, 13, 14, 15, 16, 17] [zi 25 (.mov (.t 0)),
 zi 26 (.mov (.t 5)),
 zi 27 (.iaddr 3 (.t 25) (.t 26)),
 zi 28 (.faddr 1 (.t 27)),
 zi 29 (.load 1 false (.t 28)),
 zi 30 (.conv .u64 (.t 29)),
 zi 31 (.call fid_archipelagoref1_Fixed [(.t 30), (.c (.int .i64 8))]),
 zi 24 (.mov (.t 4)),
 zi 32 (.append 1 1 (.t 24) (.t 31)),
 zi 33 (.mov (.t 0)),
 zi 34 (.mov (.t 5)),
 zi 35 (.iaddr 3 (.t 33) (.t 34)),
 zi 36 (.faddr 2 (.t 35)),
 ⟨some 37, .load 1 false (.t 36), none, some (0, 2)⟩,
 zi 38 (.conv .u64 (.t 37)),
 zi 39 (.call fid_archipelagoref1_Fixed [(.t 38), (.c (.int .i64 4))]),
 zi 40 (.append 1 1 (.t 32) (.t 39)),
 zi 4 (.mov (.t 40))])))
 (.reg [zi 13 (.mov (.t 5)),
 zi 14 (.bin .add (.t 13) (.c (.int .i64 1))),
 zi 5 (.mov (.t 14))])))
def ir_archipelagoref18_RowsPut : IFn :=
  { params := 1, results := [.tmp 2, .tmp 3], body :=
  (.seq (.reg [zi 2 (.mov (.c .nils)),
 zi 3 (.mov (.c (.bool false)))])
 (.seq (.seq (.reg [zi 6 (.mov (.t 0)),
 zi 7 (.call fid_archipelagoref18_RowsRight [(.t 6)]),
 zi 8 (.un .not (.t 7))])
 (.cond (.t 8)
 (.seq (.reg [zi 2 (.mov (.c .nils)),
 zi 3 (.mov (.c (.bool false)))])
 (.ret))
 (.skip)))
 (.seq (.reg [zi 4 (.mov (.c .nils))])
 (.seq (.seq (.reg [zi 5 (.mov (.c (.int .i64 0)))])
 (.block 0
 (.loop [0, 4, 5] archipelagoref18_RowsPut_b0)))
 (.seq (.reg [zi 41 (.mov (.t 4)),
 zi 42 (.append 1 1 (.t 41) (.c (.str [88, 71, 84, 49]))),
 zi 43 (.call fid_archipelagoref1_Seal [(.t 42)]),
 zi 2 (.mov (.t 43)),
 zi 3 (.mov (.c (.bool true)))])
 (.ret)))))) }
def ir_archipelagoseat_Change : IFn :=
  { params := 5, results := [.tmp 10], body :=
  (.seq (.reg [zi 10 (.mov (.c .nils))])
 (.seq (.reg [zi 13 (.mov (.t 0)),
 zi 14 (.append 1 1 (.c .nils) (.t 13)),
 zi 11 (.mov (.t 14))])
 (.seq (.seq (.reg [zi 15 (.mov (.t 11)),
 zi 16 (.len .sl (.t 15)),
 zi 17 (.bin .eql (.t 16) (.c (.int .i64 0)))])
 (.cond (.t 17)
 (.seq (.reg [zi 18 (.mov (.t 4)),
 zi 19 (.append 1 1 (.c .nils) (.t 18)),
 zi 10 (.mov (.t 19))])
 (.ret))
 (.skip)))
 (.seq (.reg [zi 20 (.mov (.t 2)),
 zi 21 (.conv .i64 (.t 20)),
 zi 22 (.mov (.t 11)),
 zi 23 (.len .sl (.t 22)),
 zi 24 (.bin .rem (.t 21) (.t 23)),
 zi 12 (.mov (.t 24))])
 (.seq (.seq (.reg [zi 25 (.mov (.t 1)),
 zi 26 (.bin .rem (.t 25) (.c (.int .u8 5)))])
 (.block 0
 (.seq (.seq (.reg [zi 37 (.bin .eql (.t 26) (.c (.int .u8 0))),
 zi 36 (.mov (.t 37))])
 (.cond (.t 36)
 (.skip)
 (.reg [zi 38 (.bin .eql (.t 26) (.c (.int .u8 1))),
 zi 36 (.mov (.t 38))])))
 (.cond (.t 36)
 (.reg [zi 39 (.mov (.t 11)),
 zi 40 (.mov (.t 12)),
 zi 41 (.mov (.t 3)),
 zi 42 (.iaddr 1 (.t 39) (.t 40)),
 zn (.store 1 (.t 42) (.t 41))])
 (.seq (.reg [zi 44 (.bin .eql (.t 26) (.c (.int .u8 2))),
 zi 43 (.mov (.t 44))])
 (.cond (.t 43)
 (.seq (.regD [0, 1, 2, 3, 4, 5, 6, 7, 8, 9, 10] [zi 45 (.mov (.t 0)),
 zi 46 (.mov (.t 12)),
 zi 47 (.slice false 1 (.t 45) none (some (.t 46)) none),
 zi 48 (.append 1 1 (.c .nils) (.t 47)),
 zi 49 (.mov (.t 4)),
 zi 50 (.append 1 1 (.t 48) (.t 49)),
 zi 51 (.mov (.t 0)),
 zi 52 (.mov (.t 12)),
 zi 53 (.slice false 1 (.t 51) (some (.t 52)) none none),
 zi 54 (.append 1 1 (.t 50) (.t 53)),
 zi 10 (.mov (.t 54))])
 (.ret))
 (.seq (.reg [zi 56 (.bin .eql (.t 26) (.c (.int .u8 3))),
 zi 55 (.mov (.t 56))])
 (.cond (.t 55)
 (.seq (.reg [zi 57 (.mov (.t 11)),
 zi 58 (.mov (.t 12)),
 zi 59 (.slice false 1 (.t 57) none (some (.t 58)) none),
 zi 10 (.mov (.t 59))])
 (.ret))
 (.regD [0, 1, 2, 3, 4, 5, 6, 7, 8, 9] [zi 27 (.mov (.t 0)),
 zi 28 (.mov (.t 12)),
 zi 29 (.slice false 1 (.t 27) none (some (.t 28)) none),
 zi 30 (.append 1 1 (.c .nils) (.t 29)),
 zi 31 (.mov (.t 0)),
 zi 32 (.mov (.t 12)),
 zi 33 (.bin .add (.t 32) (.c (.int .i64 1))),
 zi 34 (.slice false 1 (.t 31) (some (.t 33)) none none),
 zi 35 (.append 1 1 (.t 30) (.t 34)),
 zi 11 (.mov (.t 35))])))))))))
 (.seq (.reg [zi 60 (.mov (.t 11)),
 zi 10 (.mov (.t 60))])
 (.ret))))))) }
def archipelagoref1_Number_b0 : IC :=
  (.seq (.seq (.reg [zi 5 (.mov (.t 4)),
 zi 6 (.mov (.t 0)),
 zi 7 (.len .sl (.t 6)),
 zi 8 (.bin .lss (.t 5) (.t 7))])
 (.cond (.t 8)
 (.skip)
 (.exit 0)))
 (.seq (.block 1
 (.reg [zi 11 (.mov (.t 3)),
 zi 12 (.mov (.t 0)),
 zi 13 (.mov (.t 4)),
 zi 14 (.iaddr 1 (.t 12) (.t 13)),
 zi 15 (.load 1 false (.t 14)),
 zi 16 (.conv .u64 (.t 15)),
 zi 17 (.mov (.t 4)),
 zi 18 (.bin .mul (.c (.int .i64 8)) (.t 17)),
 zi 19 (.bin .shl (.t 16) (.t 18)),
 zi 20 (.bin .or (.t 11) (.t 19)),
 zi 3 (.mov (.t 20))]))
 (.reg [zi 9 (.mov (.t 4)),
 zi 10 (.bin .add (.t 9) (.c (.int .i64 1))),
 zi 4 (.mov (.t 10))])))
def ir_archipelagoref1_Number : IFn :=
  { params := 1, results := [.tmp 2], body :=
  (.seq (.reg [zi 2 (.mov (.c (.int .u64 0)))])
 (.seq (.reg [zi 3 (.mov (.c (.int .u64 0)))])
 (.seq (.seq (.reg [zi 4 (.mov (.c (.int .i64 0)))])
 (.block 0
 (.loop [0, 3, 4] archipelagoref1_Number_b0)))
 (.seq (.reg [zi 21 (.mov (.t 3)),
 zi 2 (.mov (.t 21))])
 (.ret))))) }
def ir_archipelagoref1_Open : IFn :=
  { params := 1, results := [.tmp 2, .tmp 3], body :=
  (.seq (.reg [zi 2 (.mov (.c .nils)),
 zi 3 (.mov (.c (.bool false)))])
 (.seq (.reg [zi 5 (.mov (.t 0)),
 zi 6 (.len .sl (.t 5)),
 zi 7 (.bin .sub (.t 6) (.c (.int .i64 4))),
 zi 4 (.mov (.t 7))])
 (.seq (.seq (.regD [0, 1, 2, 3, 4, 5, 6, 7, 8, 9, 10, 11, 12, 13, 14] [zi 8 (.mov (.t 4)),
 zi 9 (.bin .lss (.t 8) (.c (.int .i64 0))),
 zi 10 (.mov (.t 9)),
 zg 11 10 false (.mov (.t 0)),
 zg 12 10 false (.mov (.t 4)),
 zg 13 10 false (.slice false 1 (.t 11) (some (.t 12)) none none),
 zg 14 10 false (.call fid_archipelagoref1_Number [(.t 13)]),
 zg 15 10 false (.mov (.t 0)),
 zg 16 10 false (.mov (.t 4)),
 zg 17 10 false (.slice false 1 (.t 15) none (some (.t 16)) none),
 zg 18 10 false (.mkrow 1 1 [.nils] [(0, (.t 17))]),
 zg 19 10 false (.call fid_archipelagoref1_Sum [(.t 18)]),
 zg 20 10 false (.conv .u64 (.t 19)),
 zg 21 10 false (.bin .neq (.t 14) (.t 20)),
 zi 22 (.pick (.t 10) (.c (.bool true)) (.t 21))])
 (.cond (.t 22)
 (.seq (.reg [zi 2 (.mov (.c .nils)),
 zi 3 (.mov (.c (.bool false)))])
 (.ret))
 (.skip)))
 (.seq (.reg [zi 23 (.mov (.t 0)),
 zi 24 (.mov (.t 4)),
 zi 25 (.slice false 1 (.t 23) none (some (.t 24)) none),
 zi 2 (.mov (.t 25)),
 zi 3 (.mov (.c (.bool true)))])
 (.ret))))) }
def ir_archipelagoref18_Read : IFn :=
  { params := 1, results := [.cell 2 3 true, .tmp 3], body :=
  (.seq (.reg [zi 2 (.box (.c (.agg [(.int .u64 0), (.int .i64 0), (.int .i64 0)]))),
 zi 3 (.mov (.c (.int .i64 0)))])
 (.seq (.seq (.reg [zi 7 (.mov (.t 0)),
 zi 8 (.len .sl (.t 7)),
 zi 9 (.bin .lss (.t 8) (.c (.int .i64 24)))])
 (.cond (.t 9)
 (.seq (.reg [zi 10 (.build [(.int .u64 0), (.int .i64 0), (.int .i64 0)] []),
 zn (.store 3 (.t 2) (.t 10)),
 zi 3 (.mov (.c (.int .i64 20)))])
 (.ret))
 (.skip)))
 (.seq (.seq (.reg [zi 11 (.mov (.t 0)),
 zi 12 (.slice false 1 (.t 11) none (some (.c (.int .i64 4))) none),
 zi 13 (.toStr (.t 12)),
 zi 14 (.bin .neq (.t 13) (.c (.str [84, 71, 88, 49])))])
 (.cond (.t 14)
 (.seq (.reg [zi 15 (.build [(.int .u64 0), (.int .i64 0), (.int .i64 0)] []),
 zn (.store 3 (.t 2) (.t 15)),
 zi 3 (.mov (.c (.int .i64 27)))])
 (.ret))
 (.skip)))
 (.seq (.seq (.reg [zi 17 (.mov (.t 0)),
 zi 18 (.slice false 1 (.t 17) none (some (.c (.int .i64 24))) none),
 zi 19 (.call fid_archipelagoref1_Open [(.t 18)]),
 zi 16 (.mov (.t 19)),
 zi 20 (.extract (.t 16) 0),
 zi 21 (.extract (.t 16) 1),
 zi 4 (.mov (.t 20)),
 zi 5 (.mov (.t 21))])
 (.seq (.reg [zi 22 (.mov (.t 5)),
 zi 23 (.un .not (.t 22))])
 (.cond (.t 23)
 (.seq (.reg [zi 24 (.build [(.int .u64 0), (.int .i64 0), (.int .i64 0)] []),
 zn (.store 3 (.t 2) (.t 24)),
 zi 3 (.mov (.c (.int .i64 28)))])
 (.ret))
 (.skip))))
 (.seq (.regD [0, 1, 2, 3, 4, 5, 7, 8, 9, 6, 10, 11, 12, 13] [zi 25 (.mov (.t 0)),
 zi 26 (.slice false 1 (.t 25) (some (.c (.int .i64 4))) (some (.c (.int .i64 12))) none),
 zi 27 (.call fid_archipelagoref1_Number [(.t 26)]),
 zi 28 (.mov (.t 0)),
 zi 29 (.slice false 1 (.t 28) (some (.c (.int .i64 12))) (some (.c (.int .i64 16))) none),
 zi 30 (.call fid_archipelagoref1_Number [(.t 29)]),
 zi 32 (.mov (.t 0)),
 zi 33 (.slice false 1 (.t 32) (some (.c (.int .i64 16))) (some (.c (.int .i64 20))) none),
 zi 34 (.call fid_archipelagoref1_Number [(.t 33)]),
 zi 31 (.conv .i64 (.t 30)),
 zi 35 (.conv .i64 (.t 34)),
 zi 36 (.build [(.int .u64 0), (.int .i64 0), (.int .i64 0)] [(0, 1, (.t 27)), (1, 1, (.t 31)), (2, 1, (.t 35))]),
 zi 6 (.box (.c (.agg [(.int .u64 0), (.int .i64 0), (.int .i64 0)]))),
 zn (.store 3 (.t 6) (.t 36))])
 (.seq (.seq (.reg [zi 37 (.load 3 true (.t 6)),
 zi 38 (.call fid_archipelagoref18_Right [(.t 37)]),
 zi 39 (.un .not (.t 38))])
 (.cond (.t 39)
 (.seq (.reg [zi 40 (.build [(.int .u64 0), (.int .i64 0), (.int .i64 0)] []),
 zn (.store 3 (.t 2) (.t 40)),
 zi 3 (.mov (.c (.int .i64 26)))])
 (.ret))
 (.skip)))
 (.seq (.reg [zi 41 (.load 3 true (.t 6)),
 zn (.store 3 (.t 2) (.t 41)),
 zi 3 (.mov (.c (.int .i64 0)))])
 (.ret)))))))) }
def ir_archipelagoref18_Blocks : IFn :=
  { params := 1, results := [.tmp 2], body :=
  (.seq (.reg [zi 1 (.box (.t 0)),
 zi 2 (.mov (.c (.int .i64 0)))])
 (.seq (.seq (.reg [zi 3 (.load 3 true (.t 1)),
 zi 4 (.call fid_archipelagoref18_Right [(.t 3)]),
 zi 5 (.un .not (.t 4))])
 (.cond (.t 5)
 (.seq (.reg [zi 2 (.mov (.c (.int .i64 0)))])
 (.ret))
 (.skip)))
 (.seq (.reg [zi 6 (.faddr 2 (.t 1)),
 zi 7 (.load 1 false (.t 6)),
 zi 8 (.faddr 1 (.t 1)),
 zi 9 (.load 1 false (.t 8)),
 zi 10 (.bin .add (.t 7) (.t 9)),
 zi 11 (.bin .sub (.t 10) (.c (.int .i64 1))),
 zi 12 (.faddr 1 (.t 1)),
 zi 13 (.load 1 false (.t 12)),
 zi 14 (.bin .quo (.t 11) (.t 13)),
 zi 2 (.mov (.t 14))])
 (.ret)))) }
def archipelagoseat_Mend_b0 : IC :=
  (.seq (.seq (.reg [zi 41 (.mov (.t 8)),
 zi 42 (.bin .geq (.t 41) (.c (.int .i64 24))),
 zi 43 (.mov (.t 42)),
 zg 44 43 true (.mov (.t 8)),
 zg 45 43 true (.mov (.t 3)),
 zg 46 43 true (.len .sl (.t 45)),
 zg 47 43 true (.bin .sub (.t 46) (.c (.int .i64 8))),
 zg 48 43 true (.bin .lss (.t 44) (.t 47)),
 zi 49 (.pick (.t 43) (.t 48) (.c (.bool false)))])
 (.cond (.t 49)
 (.skip)
 (.exit 0)))
 (.seq (.block 1
 (.seq (.reg [zi 52 (.mov (.t 3)),
 zi 53 (.mov (.t 8)),
 zi 54 (.mov (.t 8)),
 zi 55 (.bin .add (.t 54) (.c (.int .i64 4))),
 zi 56 (.slice false 1 (.t 52) (some (.t 53)) (some (.t 55)) none),
 zi 57 (.call fid_archipelagoref1_Number [(.t 56)]),
 zi 58 (.conv .i64 (.t 57)),
 zi 9 (.mov (.t 58))])
 (.seq (.seq (.reg [zi 59 (.mov (.t 9)),
 zi 60 (.mov (.t 6)),
 zi 61 (.mov (.t 7)),
 zi 62 (.bin .sub (.t 60) (.t 61)),
 zi 63 (.bin .gtr (.t 59) (.t 62))])
 (.cond (.t 63)
 (.exit 0)
 (.skip)))
 (.seq (.regD [6, 7, 8, 9, 10, 11, 12, 13, 14, 15, 0, 1, 2, 3, 4, 5, 16] [zi 70 (.mov (.t 3)),
 zi 71 (.mov (.t 7)),
 zi 72 (.mov (.t 7)),
 zi 73 (.mov (.t 9)),
 zi 74 (.bin .add (.t 72) (.t 73)),
 zi 75 (.slice false 1 (.t 70) (some (.t 71)) (some (.t 74)) none),
 zi 76 (.mkrow 1 1 [.nils] [(0, (.t 75))]),
 zi 77 (.call fid_archipelagoref1_Sum [(.t 76)]),
 zi 78 (.conv .u64 (.t 77)),
 zi 79 (.call fid_archipelagoref1_Fixed [(.t 78), (.c (.int .i64 4))]),
 zi 64 (.mov (.t 3)),
 zi 65 (.mov (.t 8)),
 zi 66 (.bin .add (.t 65) (.c (.int .i64 12))),
 zi 67 (.mov (.t 8)),
 zi 68 (.bin .add (.t 67) (.c (.int .i64 16))),
 zi 69 (.slice false 1 (.t 64) (some (.t 66)) (some (.t 68)) none),
 zi 80 (.copy 1 (.t 69) (.t 79))])
 (.reg [zi 81 (.mov (.t 7)),
 zi 82 (.mov (.t 9)),
 zi 83 (.bin .add (.t 81) (.t 82)),
 zi 7 (.mov (.t 83))])))))
 (.reg [zi 50 (.mov (.t 8)),
 zi 51 (.bin .add (.t 50) (.c (.int .i64 16))),
 zi 8 (.mov (.t 51))])))
def ir_archipelagoseat_Mend : IFn :=
  { params := 1, results := [.tmp 2], body :=
  (.seq (.reg [zi 2 (.mov (.c .nils))])
 (.seq (.reg [zi 10 (.mov (.t 0)),
 zi 11 (.append 1 1 (.c .nils) (.t 10)),
 zi 3 (.mov (.t 11))])
 (.seq (.seq (.reg [zi 12 (.mov (.t 3)),
 zi 13 (.len .sl (.t 12)),
 zi 14 (.bin .lss (.t 13) (.c (.int .i64 32)))])
 (.cond (.t 14)
 (.seq (.reg [zi 15 (.mov (.t 3)),
 zi 2 (.mov (.t 15))])
 (.ret))
 (.skip)))
 (.seq (.regD [2, 3, 4, 5, 6, 7, 0, 1, 8] [zi 18 (.mov (.t 3)),
 zi 19 (.slice false 1 (.t 18) none (some (.c (.int .i64 20))) none),
 zi 20 (.mkrow 1 1 [.nils] [(0, (.t 19))]),
 zi 21 (.call fid_archipelagoref1_Sum [(.t 20)]),
 zi 22 (.conv .u64 (.t 21)),
 zi 23 (.call fid_archipelagoref1_Fixed [(.t 22), (.c (.int .i64 4))]),
 zi 16 (.mov (.t 3)),
 zi 17 (.slice false 1 (.t 16) (some (.c (.int .i64 20))) (some (.c (.int .i64 24))) none),
 zi 24 (.copy 1 (.t 17) (.t 23))])
 (.seq (.reg [zi 26 (.mov (.t 3)),
 zi 27 (.call fid_archipelagoref18_Read [(.t 26)]),
 zi 25 (.mov (.t 27)),
 zi 28 (.extract (.t 25) 0),
 zi 29 (.extract (.t 25) 1),
 zi 4 (.box (.c (.agg [(.int .u64 0), (.int .i64 0), (.int .i64 0)]))),
 zn (.store 3 (.t 4) (.t 28)),
 zi 5 (.mov (.t 29))])
 (.seq (.seq (.reg [zi 30 (.mov (.t 5)),
 zi 31 (.bin .neq (.t 30) (.c (.int .i64 0)))])
 (.cond (.t 31)
 (.seq (.reg [zi 32 (.mov (.t 3)),
 zi 2 (.mov (.t 32))])
 (.ret))
 (.skip)))
 (.seq (.reg [zi 33 (.mov (.t 3)),
 zi 34 (.len .sl (.t 33)),
 zi 35 (.bin .sub (.t 34) (.c (.int .i64 8))),
 zi 36 (.load 3 true (.t 4)),
 zi 37 (.call fid_archipelagoref18_Blocks [(.t 36)]),
 zi 38 (.bin .mul (.c (.int .i64 16)) (.t 37)),
 zi 39 (.bin .sub (.t 35) (.t 38)),
 zi 6 (.mov (.t 39))])
 (.seq (.reg [zi 7 (.mov (.c (.int .i64 24)))])
 (.seq (.seq (.reg [zi 40 (.mov (.t 6)),
 zi 8 (.mov (.t 40))])
 (.block 0
 (.loop [3, 6, 7, 8] archipelagoseat_Mend_b0)))
 (.seq (.seq (.reg [zi 84 (.mov (.t 6)),
 zi 85 (.bin .geq (.t 84) (.c (.int .i64 24)))])
 (.cond (.t 85)
 (.regD [5, 6, 7, 8, 9, 10, 11, 12, 13, 14, 0, 1, 2, 3, 4, 15] [zi 91 (.mov (.t 3)),
 zi 92 (.mov (.t 6)),
 zi 93 (.mov (.t 3)),
 zi 94 (.len .sl (.t 93)),
 zi 95 (.bin .sub (.t 94) (.c (.int .i64 4))),
 zi 96 (.slice false 1 (.t 91) (some (.t 92)) (some (.t 95)) none),
 zi 97 (.mkrow 1 1 [.nils] [(0, (.t 96))]),
 zi 98 (.call fid_archipelagoref1_Sum [(.t 97)]),
 zi 99 (.conv .u64 (.t 98)),
 zi 100 (.call fid_archipelagoref1_Fixed [(.t 99), (.c (.int .i64 4))]),
 zi 86 (.mov (.t 3)),
 zi 87 (.mov (.t 3)),
 ⟨some 88, .len .sl (.t 87), none, some (0, 2)⟩,
 zi 89 (.bin .sub (.t 88) (.c (.int .i64 4))),
 zi 90 (.slice false 1 (.t 86) (some (.t 89)) none none),
 zi 101 (.copy 1 (.t 90) (.t 100))])
 (.skip)))
 (.seq (.reg [zi 102 (.mov (.t 3)),
 zi 2 (.mov (.t 102))])
 (.ret)))))))))))) }
def archipelagoref18_RowsRead_b0 : IC :=
  (.seq (.seq (.reg [zi 41 (.mov (.t 12)),
 zi 42 (.mov (.t 6)),
 zi 43 (.bin .lss (.t 41) (.t 42))])
 (.cond (.t 43)
 (.skip)
 (.exit 0)))
 (.seq (.block 1
 (.seq (.reg [zi 46 (.mov (.t 8)),
 zi 47 (.mov (.t 12)),
 zi 48 (.bin .mul (.c (.int .i64 16)) (.t 47)),
 zi 49 (.mov (.t 12)),
 zi 50 (.bin .mul (.c (.int .i64 16)) (.t 49)),
 zi 51 (.bin .add (.t 50) (.c (.int .i64 16))),
 zi 52 (.slice false 1 (.t 46) (some (.t 48)) (some (.t 51)) none),
 zi 13 (.mov (.t 52))])
 (.seq (.reg [zi 53 (.mov (.t 13)),
 zi 54 (.slice false 1 (.t 53) (some (.c (.int .i64 4))) (some (.c (.int .i64 12))) none),
 zi 55 (.call fid_archipelagoref1_Number [(.t 54)]),
 zi 14 (.mov (.t 55))])
 (.seq (.seq (.reg [zi 56 (.mov (.t 14)),
 zi 57 (.bin .gtr (.t 56) (.c (.int .u64 4611686018427387903)))])
 (.cond (.t 57)
 (.seq (.reg [zi 4 (.mov (.c .nils)),
 zi 5 (.mov (.c (.int .i64 21)))])
 (.ret))
 (.skip)))
 (.seq (.regD [1, 2, 3, 7, 8, 9, 0, 4, 5, 6, 10, 11, 12, 13, 14] [zi 59 (.mov (.t 13)),
 zi 60 (.slice false 1 (.t 59) none (some (.c (.int .i64 4))) none),
 zi 61 (.call fid_archipelagoref1_Number [(.t 60)]),
 zi 65 (.mov (.t 13)),
 zi 66 (.slice false 1 (.t 65) (some (.c (.int .i64 12))) none none),
 zi 67 (.call fid_archipelagoref1_Number [(.t 66)]),
 zi 58 (.mov (.t 10)),
 zi 62 (.conv .i64 (.t 61)),
 zi 63 (.mov (.t 14)),
 zi 64 (.conv .i64 (.t 63)),
 zi 68 (.conv .u32 (.t 67)),
 zi 69 (.build [(.int .i64 0), (.int .i64 0), (.int .u32 0)] [(0, 1, (.t 62)), (1, 1, (.t 64)), (2, 1, (.t 68))]),
 zi 70 (.mkrow 3 1 [(.int .i64 0), (.int .i64 0), (.int .u32 0)] [(0, (.t 69))]),
 zi 71 (.append 3 24 (.t 58) (.t 70)),
 zi 10 (.mov (.t 71))])
 (.reg [zi 72 (.mov (.t 11)),
 zi 73 (.mov (.t 10)),
 zi 74 (.mov (.t 12)),
 zi 75 (.iaddr 3 (.t 73) (.t 74)),
 zi 76 (.faddr 0 (.t 75)),
 zi 77 (.load 1 false (.t 76)),
 zi 78 (.bin .add (.t 72) (.t 77)),
 zi 11 (.mov (.t 78))]))))))
 (.reg [zi 44 (.mov (.t 12)),
 zi 45 (.bin .add (.t 44) (.c (.int .i64 1))),
 zi 12 (.mov (.t 45))])))
def ir_archipelagoref18_RowsRead : IFn :=
  { params := 2, results := [.tmp 4, .tmp 5], body :=
  (.seq (.reg [zi 3 (.box (.t 1)),
 zi 4 (.mov (.c .nils)),
 zi 5 (.mov (.c (.int .i64 0)))])
 (.seq (.reg [zi 15 (.load 3 true (.t 3)),
 zi 16 (.call fid_archipelagoref18_Blocks [(.t 15)]),
 zi 6 (.mov (.t 16))])
 (.seq (.reg [zi 17 (.mov (.t 0)),
 zi 18 (.len .sl (.t 17)),
 zi 19 (.mov (.t 6)),
 zi 20 (.bin .mul (.t 19) (.c (.int .i64 16))),
 zi 21 (.bin .sub (.t 18) (.t 20)),
 zi 22 (.bin .sub (.t 21) (.c (.int .i64 8))),
 zi 7 (.mov (.t 22))])
 (.seq (.seq (.reg [zi 23 (.mov (.t 7)),
 zi 24 (.bin .lss (.t 23) (.c (.int .i64 24)))])
 (.cond (.t 24)
 (.seq (.reg [zi 4 (.mov (.c .nils)),
 zi 5 (.mov (.c (.int .i64 20)))])
 (.ret))
 (.skip)))
 (.seq (.reg [zi 26 (.mov (.t 0)),
 zi 27 (.mov (.t 7)),
 zi 28 (.slice false 1 (.t 26) (some (.t 27)) none none),
 zi 29 (.call fid_archipelagoref1_Open [(.t 28)]),
 zi 25 (.mov (.t 29)),
 zi 30 (.extract (.t 25) 0),
 zi 31 (.extract (.t 25) 1),
 zi 8 (.mov (.t 30)),
 zi 9 (.mov (.t 31))])
 (.seq (.seq (.reg [zi 32 (.mov (.t 9)),
 zi 33 (.un .not (.t 32))])
 (.cond (.t 33)
 (.seq (.reg [zi 4 (.mov (.c .nils)),
 zi 5 (.mov (.c (.int .i64 28)))])
 (.ret))
 (.skip)))
 (.seq (.seq (.reg [zi 34 (.mov (.t 8)),
 zi 35 (.mov (.t 8)),
 zi 36 (.len .sl (.t 35)),
 zi 37 (.bin .sub (.t 36) (.c (.int .i64 4))),
 zi 38 (.slice false 1 (.t 34) (some (.t 37)) none none),
 zi 39 (.toStr (.t 38)),
 zi 40 (.bin .neq (.t 39) (.c (.str [88, 71, 84, 49])))])
 (.cond (.t 40)
 (.seq (.reg [zi 4 (.mov (.c .nils)),
 zi 5 (.mov (.c (.int .i64 27)))])
 (.ret))
 (.skip)))
 (.seq (.reg [zi 10 (.mov (.c .nils))])
 (.seq (.reg [zi 11 (.mov (.c (.int .i64 0)))])
 (.seq (.seq (.reg [zi 12 (.mov (.c (.int .i64 0)))])
 (.block 0
 (.loop [6, 7, 8, 10, 11, 12] archipelagoref18_RowsRead_b0)))
 (.seq (.seq (.reg [zi 79 (.mov (.t 10)),
 zi 80 (.call fid_archipelagoref18_RowsRight [(.t 79)]),
 zi 81 (.un .not (.t 80)),
 zi 82 (.mov (.t 81)),
 zg 83 82 false (.mov (.t 11)),
 zg 84 82 false (.mov (.t 7)),
 zg 85 82 false (.bin .sub (.t 84) (.c (.int .i64 24))),
 zg 86 82 false (.bin .neq (.t 83) (.t 85)),
 zi 87 (.pick (.t 82) (.c (.bool true)) (.t 86))])
 (.cond (.t 87)
 (.seq (.reg [zi 4 (.mov (.c .nils)),
 zi 5 (.mov (.c (.int .i64 21)))])
 (.ret))
 (.skip)))
 (.seq (.reg [zi 88 (.mov (.t 10)),
 zi 4 (.mov (.t 88)),
 zi 5 (.mov (.c (.int .i64 0)))])
 (.ret))))))))))))) }
def archipelagolaw19_IndexReads_b0 : IC :=
  (.seq (.seq (.reg [zi 61 (.mov (.t 25)),
 zi 62 (.mov (.t 23)),
 zi 63 (.len .sl (.t 62)),
 zi 64 (.bin .lss (.t 61) (.t 63))])
 (.cond (.t 64)
 (.skip)
 (.exit 0)))
 (.seq (.block 1
 (.reg [zi 67 (.mov (.t 24)),
 zi 68 (.mov (.t 23)),
 zi 69 (.mov (.t 25)),
 zi 70 (.iaddr 3 (.t 68) (.t 69)),
 zi 71 (.faddr 0 (.t 70)),
 zi 72 (.load 1 false (.t 71)),
 zi 73 (.bin .add (.t 67) (.t 72)),
 zi 24 (.mov (.t 73))]))
 (.reg [zi 65 (.mov (.t 25)),
 zi 66 (.bin .add (.t 65) (.c (.int .i64 1))),
 zi 25 (.mov (.t 66))])))
def archipelagolaw19_IndexReads_b1 : IC :=
  (.seq (.seq (.reg [zi 102 (.mov (.t 33)),
 zi 103 (.mov (.t 31)),
 zi 104 (.len .sl (.t 103)),
 zi 105 (.bin .lss (.t 102) (.t 104))])
 (.cond (.t 105)
 (.skip)
 (.exit 2)))
 (.seq (.block 3
 (.regD [1, 2, 3, 4, 5, 6, 7, 0, 8, 9, 10, 11, 12, 13, 14, 15, 16, 17, 18, 19, 20, 21, 22, 23, 24, 25] [zi 109 (.mov (.t 31)),
 zi 110 (.mov (.t 33)),
 zi 111 (.iaddr 3 (.t 109) (.t 110)),
 zi 112 (.faddr 0 (.t 111)),
 zi 113 (.load 1 false (.t 112)),
 zi 114 (.conv .u64 (.t 113)),
 zi 115 (.call fid_archipelagoref1_Fixed [(.t 114), (.c (.int .i64 4))]),
 zi 108 (.mov (.t 32)),
 zi 116 (.append 1 1 (.t 108) (.t 115)),
 zi 117 (.mov (.t 31)),
 zi 118 (.mov (.t 33)),
 zi 119 (.iaddr 3 (.t 117) (.t 118)),
 zi 120 (.faddr 1 (.t 119)),
 ⟨some 121, .load 1 false (.t 120), none, some (0, 2)⟩,
 zi 122 (.conv .u64 (.t 121)),
 zi 123 (.call fid_archipelagoref1_Fixed [(.t 122), (.c (.int .i64 8))]),
 zi 124 (.append 1 1 (.t 116) (.t 123)),
 zi 125 (.mov (.t 31)),
 zi 126 (.mov (.t 33)),
 zi 127 (.iaddr 3 (.t 125) (.t 126)),
 zi 128 (.faddr 2 (.t 127)),
 ⟨some 129, .load 1 false (.t 128), none, some (0, 4)⟩,
 zi 130 (.conv .u64 (.t 129)),
 zi 131 (.call fid_archipelagoref1_Fixed [(.t 130), (.c (.int .i64 4))]),
 zi 132 (.append 1 1 (.t 124) (.t 131)),
 zi 32 (.mov (.t 132))]))
 (.reg [zi 106 (.mov (.t 33)),
 zi 107 (.bin .add (.t 106) (.c (.int .i64 1))),
 zi 33 (.mov (.t 107))])))
def archipelagolaw19_IndexReads_b2 : IC :=
  (.seq (.reg [zi 185 (.bin .lss (.t 184) (.t 183))])
 (.seq (.cond (.t 185)
 (.skip)
 (.exit 6))
 (.seq (.block 7
 (.seq (.reg [zi 186 (.iaddr 3 (.t 182) (.t 184)),
 zi 187 (.load 3 true (.t 186)),
 zi 39 (.box (.c (.agg [(.int .u64 0), (.int .i64 0), (.int .i64 0)]))),
 zn (.store 3 (.t 39) (.t 187))])
 (.seq (.reg [zi 189 (.mov (.t 37)),
 zi 190 (.load 3 true (.t 39)),
 zi 191 (.call fid_index_Read [(.t 189), (.t 190)]),
 zi 188 (.mov (.t 191)),
 zi 192 (.extract (.t 188) 0),
 zi 193 (.extract (.t 188) 1),
 zi 40 (.mov (.t 192)),
 zi 41 (.mov (.t 193))])
 (.seq (.reg [zi 195 (.mov (.t 37)),
 zi 196 (.load 3 true (.t 39)),
 zi 197 (.call fid_archipelagoref18_RowsRead [(.t 195), (.t 196)]),
 zi 194 (.mov (.t 197)),
 zi 198 (.extract (.t 194) 0),
 zi 199 (.extract (.t 194) 1),
 zi 42 (.mov (.t 198)),
 zi 43 (.mov (.t 199))])
 (.seq (.reg [zi 200 (.mov (.t 41)),
 zi 201 (.mov (.t 43)),
 zi 202 (.bin .neq (.t 200) (.t 201)),
 zi 203 (.mov (.t 202)),
 zg 204 203 false (.mov (.t 40)),
 zg 205 203 false (.mov (.t 42)),
 zg 206 203 false (.call fid_archipelagoref18_SameRows [(.t 204), (.t 205)]),
 zg 207 203 false (.un .not (.t 206)),
 zi 208 (.pick (.t 203) (.c (.bool true)) (.t 207))])
 (.cond (.t 208)
 (.seq (.reg [zi 22 (.mov (.c (.bool false)))])
 (.ret))
 (.skip)))))))
 (.reg [zi 209 (.bin .add (.t 184) (.c (.int .i64 1))),
 zi 184 (.mov (.t 209))]))))
def archipelagolaw19_IndexReads_b3 : IC :=
  (.seq (.reg [zi 167 (.bin .lss (.t 166) (.t 165))])
 (.seq (.cond (.t 167)
 (.skip)
 (.exit 4))
 (.seq (.block 5
 (.seq (.reg [zi 168 (.iaddr 1 (.t 164) (.t 166)),
 zi 169 (.load 1 false (.t 168)),
 zi 37 (.mov (.t 169))])
 (.seq (.reg [zi 170 (.load 3 true (.t 26)),
 zi 171 (.load 3 true (.t 13)),
 zi 172 (.mov (.t 23)),
 zi 173 (.len .sl (.t 172)),
 zi 174 (.build [(.int .u64 0), (.int .i64 0), (.int .i64 0)] [(0, 1, (.c (.int .u64 5))), (1, 1, (.c (.int .i64 2))), (2, 1, (.t 173))]),
 zi 175 (.mov (.t 23)),
 zi 176 (.len .sl (.t 175)),
 zi 177 (.bin .add (.t 176) (.c (.int .i64 1))),
 zi 178 (.build [(.int .u64 0), (.int .i64 0), (.int .i64 0)] [(0, 1, (.c (.int .u64 5))), (1, 1, (.c (.int .i64 1))), (2, 1, (.t 177))]),
 zi 179 (.mov (.t 31)),
 zi 180 (.len .sl (.t 179)),
 zi 181 (.build [(.int .u64 0), (.int .i64 0), (.int .i64 0)] [(0, 1, (.c (.int .u64 5))), (1, 1, (.c (.int .i64 1))), (2, 1, (.t 180))]),
 zi 182 (.mkrow 3 5 [(.int .u64 0), (.int .i64 0), (.int .i64 0)] [(0, (.t 170)), (1, (.t 171)), (2, (.t 174)), (3, (.t 178)), (4, (.t 181))]),
 zi 183 (.len .sl (.t 182)),
 zi 184 (.mov (.c (.int .i64 0)))])
 (.block 6
 (.loop [13, 23, 26, 31, 37, 164, 165, 166, 182, 183, 184] archipelagolaw19_IndexReads_b2)))))
 (.reg [zi 210 (.bin .add (.t 166) (.c (.int .i64 1))),
 zi 166 (.mov (.t 210))]))))
def ir_archipelagolaw19_IndexReads : IFn :=
  { params := 11, results := [.tmp 22], body :=
  (.seq (.reg [zi 13 (.box (.t 2)),
 zi 22 (.mov (.c (.bool false)))])
 (.seq (.seq (.reg [zi 44 (.call fid_archipelagolaw19_known []),
 zi 45 (.un .not (.t 44))])
 (.cond (.t 45)
 (.seq (.reg [zi 22 (.mov (.c (.bool false)))])
 (.ret))
 (.skip)))
 (.seq (.seq (.reg [zi 46 (.mov (.t 0)),
 zi 47 (.len .sl (.t 46)),
 zi 48 (.bin .gtr (.t 47) (.c (.int .i64 100))),
 zi 49 (.mov (.t 48)),
 zg 50 49 false (.mov (.t 1)),
 zg 51 49 false (.len .sl (.t 50)),
 zg 52 49 false (.bin .gtr (.t 51) (.c (.int .i64 12))),
 zi 53 (.pick (.t 49) (.c (.bool true)) (.t 52)),
 zi 54 (.mov (.t 53)),
 zg 55 54 false (.mov (.t 6)),
 zg 56 54 false (.len .sl (.t 55)),
 zg 57 54 false (.bin .gtr (.t 56) (.c (.int .i64 20))),
 zi 58 (.pick (.t 54) (.c (.bool true)) (.t 57))])
 (.cond (.t 58)
 (.seq (.reg [zi 22 (.mov (.c (.bool true)))])
 (.ret))
 (.skip)))
 (.seq (.reg [zi 59 (.mov (.t 1)),
 zi 60 (.call fid_archipelagolaw19_rows [(.t 59)]),
 zi 23 (.mov (.t 60))])
 (.seq (.reg [zi 24 (.mov (.c (.int .i64 0)))])
 (.seq (.seq (.reg [zi 25 (.mov (.c (.int .i64 0)))])
 (.block 0
 (.loop [0, 3, 4, 5, 6, 7, 8, 9, 10, 13, 23, 24, 25] archipelagolaw19_IndexReads_b0)))
 (.seq (.reg [zi 74 (.mov (.t 23)),
 zi 75 (.len .sl (.t 74)),
 zi 76 (.build [(.int .u64 0), (.int .i64 0), (.int .i64 0)] [(0, 1, (.c (.int .u64 5))), (1, 1, (.c (.int .i64 1))), (2, 1, (.t 75))]),
 zi 26 (.box (.c (.agg [(.int .u64 0), (.int .i64 0), (.int .i64 0)]))),
 zn (.store 3 (.t 26) (.t 76))])
 (.seq (.reg [zi 77 (.load 3 true (.t 26)),
 zi 78 (.call fid_archipelagoref18_Put [(.t 77)]),
 zi 79 (.mov (.t 24)),
 zi 80 (.appendz 1 1 [(.int .u8 0)] (.t 78) (.t 79)),
 zi 27 (.mov (.t 80))])
 (.seq (.reg [zi 82 (.mov (.t 23)),
 zi 83 (.call fid_archipelagoref18_RowsPut [(.t 82)]),
 zi 81 (.mov (.t 83)),
 zi 84 (.extract (.t 81) 0),
 zi 85 (.extract (.t 81) 1),
 zi 28 (.mov (.t 84)),
 zi 29 (.mov (.t 85))])
 (.seq (.reg [zi 86 (.mov (.t 27)),
 zi 87 (.mov (.t 27)),
 zi 88 (.len .sl (.t 87)),
 zi 89 (.mov (.t 27)),
 zi 90 (.len .sl (.t 89)),
 zi 91 (.slice false 1 (.t 86) none (some (.t 88)) (some (.t 90))),
 zi 92 (.mov (.t 28)),
 zi 93 (.append 1 1 (.t 91) (.t 92)),
 zi 30 (.mov (.t 93))])
 (.seq (.reg [zi 94 (.mov (.t 23)),
 zi 95 (.mov (.t 7)),
 zi 96 (.mov (.t 8)),
 zi 97 (.mov (.t 9)),
 zi 98 (.bin .and (.t 97) (.c (.int .i64 63))),
 zi 99 (.call fid_archipelagolaw19_bent [(.t 94), (.t 95), (.t 96), (.t 98)]),
 zi 31 (.mov (.t 99))])
 (.seq (.reg [zi 100 (.mov (.t 27)),
 zi 101 (.append 1 1 (.c .nils) (.t 100)),
 zi 32 (.mov (.t 101))])
 (.seq (.seq (.reg [zi 33 (.mov (.c (.int .i64 0)))])
 (.block 2
 (.loop [0, 3, 4, 5, 6, 10, 13, 23, 26, 30, 31, 32, 33] archipelagolaw19_IndexReads_b1)))
 (.seq (.reg [zi 133 (.mov (.t 32)),
 zi 134 (.len .sl (.t 133)),
 zi 135 (.mov (.t 31)),
 zi 136 (.len .sl (.t 135)),
 zi 137 (.bin .mul (.c (.int .i64 16)) (.t 136)),
 zi 138 (.bin .sub (.t 134) (.t 137)),
 zi 34 (.mov (.t 138))])
 (.seq (.reg [zi 139 (.mov (.t 32)),
 zi 140 (.mov (.t 32)),
 zi 141 (.mov (.t 34)),
 zi 142 (.slice false 1 (.t 140) (some (.t 141)) none none),
 zi 143 (.append 1 1 (.c .nils) (.t 142)),
 zi 144 (.append 1 1 (.t 143) (.c (.str [88, 71, 84, 49]))),
 zi 145 (.call fid_archipelagoref1_Seal [(.t 144)]),
 zi 146 (.mov (.t 31)),
 zi 147 (.len .sl (.t 146)),
 zi 148 (.bin .mul (.c (.int .i64 16)) (.t 147)),
 zi 149 (.slice false 1 (.t 145) (some (.t 148)) none none),
 zi 150 (.append 1 1 (.t 139) (.t 149)),
 zi 32 (.mov (.t 150))])
 (.seq (.reg [zi 151 (.mov (.t 30)),
 zi 152 (.mov (.t 3)),
 zi 153 (.mov (.t 4)),
 zi 154 (.mov (.t 5)),
 zi 155 (.mov (.t 6)),
 zi 156 (.call fid_archipelagoseat_Change [(.t 151), (.t 152), (.t 153), (.t 154), (.t 155)]),
 zi 35 (.mov (.t 156))])
 (.seq (.seq (.reg [zi 157 (.mov (.t 10))])
 (.cond (.t 157)
 (.reg [zi 158 (.mov (.t 35)),
 zi 159 (.call fid_archipelagoseat_Mend [(.t 158)]),
 zi 35 (.mov (.t 159))])
 (.skip)))
 (.seq (.seq (.reg [zi 160 (.mov (.t 0)),
 zi 161 (.mov (.t 30)),
 zi 162 (.mov (.t 32)),
 zi 163 (.mov (.t 35)),
 zi 164 (.mkrow 1 4 [.nils] [(0, (.t 160)), (1, (.t 161)), (2, (.t 162)), (3, (.t 163))]),
 zi 165 (.len .sl (.t 164)),
 zi 166 (.mov (.c (.int .i64 0)))])
 (.block 4
 (.loop [13, 23, 26, 31, 164, 165, 166] archipelagolaw19_IndexReads_b3)))
 (.seq (.reg [zi 22 (.mov (.c (.bool true)))])
 (.ret)))))))))))))))))))) }
end Go.Ab
