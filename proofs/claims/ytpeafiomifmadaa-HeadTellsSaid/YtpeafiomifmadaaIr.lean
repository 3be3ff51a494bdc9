/- The functions as the abstract machine has them (printed by wip/irgen.py). -/
import Derived.Test.YtpeafiomifmadaaAbs1
namespace Go.Ab
open Go
def fid_archipelagolaw18_HeadTells : Nat := 3
def fid_archipelagolaw18_HeadShares : Nat := 4
def fid_archipelagolaw18_HeadBursts : Nat := 5
def fid_archipelagolaw18_HeadErrors : Nat := 6
def fid_archipelagolaw18_HeadMost : Nat := 7
def fid_archipelagolaw18_known : Nat := 8
def fid_head_Right : Nat := 9
def fid_archipelagoref18_Right : Nat := 10
def fid_head_Put : Nat := 11
def fid_archipelagoref18_Put : Nat := 12
def fid_head_Blocks : Nat := 13
def fid_archipelagoref18_Blocks : Nat := 14
def fid_head_Size : Nat := 15
def fid_archipelagoref18_Size : Nat := 16
def fid_archipelagoref1_Fixed : Nat := 17
def fid_archipelagoref1_Sum : Nat := 18
def fid_head_Read : Nat := 19
def fid_archipelagoref18_Read : Nat := 20
def fid_archipelagoref1_Flip : Nat := 21
def fid_archipelagoref1_Seal : Nat := 22
def fid_head_put : Nat := 23
def fid_crc_Seal : Nat := 24
def fid_archipelagoref1_Next : Nat := 25
def fid_crc_Open : Nat := 26
def fid_head_take : Nat := 27
def fid_archipelagoref1_Open : Nat := 28
def fid_archipelagoref1_Number : Nat := 29
def fid_slices_Clone_byte_byte : Nat := 30
def fid_crc_Sum : Nat := 31
def fid_slices_Equal_byte_byte : Nat := 32
def fid_crc_step : Nat := 33
def ir_head_Right : IFn :=
  { params := 1, results := [.tmp 2], body :=
  (.seq (.reg [zi 1 (.box (.t 0)),
 zi 2 (.mov (.c (.bool false)))])
 (.seq (.reg [zi 3 (.faddr 0 (.t 1)),
 zi 4 (.load 1 false (.t 3)),
 zi 5 (.bin .leq (.t 4) (.c (.int .u64 4294967296))),
 zi 6 (.mov (.t 5)),
 zg 7 6 true (.faddr 1 (.t 1)),
 zg 8 6 true (.load 1 false (.t 7)),
 zg 9 6 true (.bin .geq (.t 8) (.c (.int .i64 1))),
 zi 10 (.pick (.t 6) (.t 9) (.c (.bool false))),
 zi 11 (.mov (.t 10)),
 zg 12 11 true (.faddr 1 (.t 1)),
 zg 13 11 true (.load 1 false (.t 12)),
 zg 14 11 true (.bin .leq (.t 13) (.c (.int .i64 1048576))),
 zi 15 (.pick (.t 11) (.t 14) (.c (.bool false))),
 zi 16 (.mov (.t 15)),
 zg 17 16 true (.faddr 2 (.t 1)),
 zg 18 16 true (.load 1 false (.t 17)),
 zg 19 16 true (.bin .geq (.t 18) (.c (.int .i64 0))),
 zi 20 (.pick (.t 16) (.t 19) (.c (.bool false))),
 zi 21 (.mov (.t 20)),
 zg 22 21 true (.faddr 2 (.t 1)),
 zg 23 21 true (.load 1 false (.t 22)),
 zg 24 21 true (.bin .leq (.t 23) (.c (.int .i64 2147483648))),
 zi 25 (.pick (.t 21) (.t 24) (.c (.bool false))),
 zi 2 (.mov (.t 25))])
 (.ret))) }
def head_put_b0 : IC :=
  (.seq (.reg [zi 8 (.bin .lss (.t 7) (.t 6))])
 (.seq (.cond (.t 8)
 (.skip)
 (.exit 0))
 (.seq (.block 1
 (.seq (.reg [zi 9 (.mov (.t 5)),
 zi 10 (.mov (.t 0)),
 zi 11 (.conv .u8 (.t 10)),
 zi 12 (.mkrow 1 1 [(.int .u8 0)] [(0, (.t 11))]),
 zi 13 (.append 1 1 (.t 9) (.t 12)),
 zi 5 (.mov (.t 13))])
 (.reg [zi 14 (.mov (.t 0)),
 zi 15 (.bin .shr (.t 14) (.c (.int .u64 8))),
 zi 0 (.mov (.t 15))])))
 (.reg [zi 16 (.bin .add (.t 7) (.c (.int .i64 1))),
 zi 7 (.mov (.t 16))]))))
def ir_head_put : IFn :=
  { params := 2, results := [.tmp 4], body :=
  (.seq (.reg [zi 4 (.mov (.c .nils))])
 (.seq (.reg [zi 5 (.mov (.c .nils))])
 (.seq (.seq (.reg [zi 6 (.mov (.t 1)),
 zi 7 (.mov (.c (.int .i64 0)))])
 (.block 0
 (.loop [0, 5, 6, 7] head_put_b0)))
 (.seq (.reg [zi 17 (.mov (.t 5)),
 zi 4 (.mov (.t 17))])
 (.ret))))) }
def ir_slices_Clone_byte_byte : IFn :=
  { params := 1, results := [.tmp 2], body :=
  (.seq (.reg [zi 2 (.mov (.c .nils))])
 (.seq (.seq (.reg [zi 3 (.mov (.t 0)),
 zi 4 (.eq .slice false (.t 3) (.c .nils))])
 (.cond (.t 4)
 (.seq (.reg [zi 2 (.mov (.c .nils))])
 (.ret))
 (.skip)))
 (.seq (.reg [zi 5 (.mkrow 1 0 [(.int .u8 0)] []),
 zi 6 (.mov (.t 0)),
 zi 7 (.append 1 1 (.t 5) (.t 6)),
 zi 2 (.mov (.t 7))])
 (.ret)))) }
def crc_step_b0 : IC :=
  (.seq (.reg [zi 10 (.bin .lss (.t 9) (.c (.int .i64 8)))])
 (.seq (.cond (.t 10)
 (.skip)
 (.exit 0))
 (.seq (.block 1
 (.seq (.reg [zi 11 (.mov (.t 0)),
 zi 12 (.bin .and (.t 11) (.c (.int .u32 1))),
 zi 13 (.bin .eql (.t 12) (.c (.int .u32 1)))])
 (.cond (.t 13)
 (.reg [zi 14 (.mov (.t 0)),
 zi 15 (.bin .shr (.t 14) (.c (.int .u64 1))),
 zi 16 (.bin .xor (.t 15) (.c (.int .u32 3988292384))),
 zi 0 (.mov (.t 16))])
 (.reg [zi 17 (.mov (.t 0)),
 zi 18 (.bin .shr (.t 17) (.c (.int .u64 1))),
 zi 0 (.mov (.t 18))]))))
 (.reg [zi 19 (.bin .add (.t 9) (.c (.int .i64 1))),
 zi 9 (.mov (.t 19))]))))
def ir_crc_step : IFn :=
  { params := 2, results := [.tmp 4], body :=
  (.seq (.reg [zi 4 (.mov (.c (.int .u32 0)))])
 (.seq (.reg [zi 5 (.mov (.t 0)),
 zi 6 (.mov (.t 1)),
 zi 7 (.conv .u32 (.t 6)),
 zi 8 (.bin .xor (.t 5) (.t 7)),
 zi 0 (.mov (.t 8))])
 (.seq (.seq (.reg [zi 9 (.mov (.c (.int .i64 0)))])
 (.block 0
 (.loop [0, 9] crc_step_b0)))
 (.seq (.reg [zi 20 (.mov (.t 0)),
 zi 4 (.mov (.t 20))])
 (.ret))))) }
def crc_Sum_b0 : IC :=
  (.seq (.reg [zi 17 (.bin .lss (.t 16) (.t 15))])
 (.seq (.cond (.t 17)
 (.skip)
 (.exit 2))
 (.seq (.block 3
 (.seq (.reg [zi 18 (.iaddr 1 (.t 14) (.t 16)),
 zi 19 (.load 1 false (.t 18)),
 zi 7 (.mov (.t 19))])
 (.reg [zi 20 (.mov (.t 3)),
 zi 21 (.mov (.t 7)),
 zi 22 (.call fid_crc_step [(.t 20), (.t 21)]),
 zi 3 (.mov (.t 22))])))
 (.reg [zi 23 (.bin .add (.t 16) (.c (.int .i64 1))),
 zi 16 (.mov (.t 23))]))))
def crc_Sum_b1 : IC :=
  (.seq (.reg [zi 11 (.bin .lss (.t 10) (.t 9))])
 (.seq (.cond (.t 11)
 (.skip)
 (.exit 0))
 (.seq (.block 1
 (.seq (.reg [zi 12 (.iaddr 1 (.t 8) (.t 10)),
 zi 13 (.load 1 false (.t 12)),
 zi 5 (.mov (.t 13))])
 (.seq (.reg [zi 14 (.mov (.t 5)),
 zi 15 (.len .sl (.t 14)),
 zi 16 (.mov (.c (.int .i64 0)))])
 (.block 2
 (.loop [3, 8, 9, 10, 14, 15, 16] crc_Sum_b0)))))
 (.reg [zi 24 (.bin .add (.t 10) (.c (.int .i64 1))),
 zi 10 (.mov (.t 24))]))))
def ir_crc_Sum : IFn :=
  { params := 1, results := [.tmp 2], body :=
  (.seq (.reg [zi 2 (.mov (.c (.int .u32 0)))])
 (.seq (.reg [zi 3 (.mov (.c (.int .u32 4294967295)))])
 (.seq (.seq (.reg [zi 8 (.mov (.t 0)),
 zi 9 (.len .sl (.t 8)),
 zi 10 (.mov (.c (.int .i64 0)))])
 (.block 0
 (.loop [3, 8, 9, 10] crc_Sum_b1)))
 (.seq (.reg [zi 25 (.mov (.t 3)),
 zi 26 (.un .xor (.t 25)),
 zi 2 (.mov (.t 26))])
 (.ret))))) }
def crc_Seal_b0 : IC :=
  (.seq (.reg [zi 11 (.bin .lss (.t 10) (.c (.int .i64 4)))])
 (.seq (.cond (.t 11)
 (.skip)
 (.exit 0))
 (.seq (.block 1
 (.seq (.reg [zi 12 (.mov (.t 3)),
 zi 13 (.mov (.t 4)),
 zi 14 (.conv .u8 (.t 13)),
 zi 15 (.mkrow 1 1 [(.int .u8 0)] [(0, (.t 14))]),
 zi 16 (.append 1 1 (.t 12) (.t 15)),
 zi 3 (.mov (.t 16))])
 (.reg [zi 17 (.mov (.t 4)),
 zi 18 (.bin .shr (.t 17) (.c (.int .u64 8))),
 zi 4 (.mov (.t 18))])))
 (.reg [zi 19 (.bin .add (.t 10) (.c (.int .i64 1))),
 zi 10 (.mov (.t 19))]))))
def ir_crc_Seal : IFn :=
  { params := 1, results := [.tmp 2], body :=
  (.seq (.reg [zi 2 (.mov (.c .nils))])
 (.seq (.reg [zi 5 (.mov (.t 0)),
 zi 6 (.call fid_slices_Clone_byte_byte [(.t 5)]),
 zi 7 (.mov (.t 0)),
 zi 8 (.mkrow 1 1 [.nils] [(0, (.t 7))]),
 zi 9 (.call fid_crc_Sum [(.t 8)]),
 zi 3 (.mov (.t 6)),
 zi 4 (.mov (.t 9))])
 (.seq (.seq (.reg [zi 10 (.mov (.c (.int .i64 0)))])
 (.block 0
 (.loop [3, 4, 10] crc_Seal_b0)))
 (.seq (.reg [zi 20 (.mov (.t 3)),
 zi 2 (.mov (.t 20))])
 (.ret))))) }
def ir_head_Put : IFn :=
  { params := 1, results := [.tmp 2], body :=
  (.seq (.reg [zi 1 (.box (.t 0)),
 zi 2 (.mov (.c .nils))])
 (.seq (.seq (.reg [zi 4 (.load 3 true (.t 1)),
 zi 5 (.call fid_head_Right [(.t 4)]),
 zi 6 (.un .not (.t 5))])
 (.cond (.t 6)
 (.seq (.reg [zi 2 (.mov (.c .nils))])
 (.ret))
 (.skip)))
 (.seq (.reg [zi 7 (.mkrow 1 4 [(.int .u8 0)] [(0, (.c (.int .u8 84))), (1, (.c (.int .u8 71))), (2, (.c (.int .u8 88))), (3, (.c (.int .u8 49)))]),
 zi 8 (.cvs (.t 7)),
 zi 9 (.faddr 0 (.t 1)),
 zi 10 (.load 1 false (.t 9)),
 zi 11 (.call fid_head_put [(.t 10), (.c (.int .i64 8))]),
 zi 12 (.append 1 1 (.t 8) (.t 11)),
 zi 3 (.mov (.t 12))])
 (.seq (.reg [zi 13 (.mov (.t 3)),
 zi 14 (.faddr 1 (.t 1)),
 zi 15 (.load 1 false (.t 14)),
 zi 16 (.conv .u64 (.t 15)),
 zi 17 (.call fid_head_put [(.t 16), (.c (.int .i64 4))]),
 zi 18 (.append 1 1 (.t 13) (.t 17)),
 zi 3 (.mov (.t 18))])
 (.seq (.reg [zi 19 (.mov (.t 3)),
 zi 20 (.faddr 2 (.t 1)),
 zi 21 (.load 1 false (.t 20)),
 zi 22 (.conv .u64 (.t 21)),
 zi 23 (.call fid_head_put [(.t 22), (.c (.int .i64 4))]),
 zi 24 (.append 1 1 (.t 19) (.t 23)),
 zi 25 (.call fid_crc_Seal [(.t 24)]),
 zi 2 (.mov (.t 25))])
 (.ret)))))) }
def ir_head_Blocks : IFn :=
  { params := 1, results := [.tmp 2], body :=
  (.seq (.reg [zi 1 (.box (.t 0)),
 zi 2 (.mov (.c (.int .i64 0)))])
 (.seq (.seq (.reg [zi 3 (.load 3 true (.t 1)),
 zi 4 (.call fid_head_Right [(.t 3)]),
 zi 5 (.un .not (.t 4))])
 (.cond (.t 5)
 (.seq (.reg [zi 2 (.mov (.c (.int .i64 0)))])
 (.ret))
 (.skip)))
 (.seq (.reg [zi 6 (.faddr 2 (.t 1)),
 zi 7 (.load 1 false (.t 6)),
 zi 8 (.faddr 1 (.t 1)),
 zi 9 (.load 1 false (.t 8)),
 zi 10 (.bin .add (.t 7) (.t 9)),
 zi 11 (.bin .sub (.t 10) (.c (.int .i64 1))),
 zi 12 (.faddr 1 (.t 1)),
 zi 13 (.load 1 false (.t 12)),
 zi 14 (.bin .quo (.t 11) (.t 13)),
 zi 2 (.mov (.t 14))])
 (.ret)))) }
def ir_head_Size : IFn :=
  { params := 2, results := [.tmp 4], body :=
  (.seq (.reg [zi 2 (.box (.t 0)),
 zi 4 (.mov (.c (.int .i64 0)))])
 (.seq (.seq (.reg [zi 5 (.mov (.t 1)),
 zi 6 (.bin .lss (.t 5) (.c (.int .i64 0))),
 zi 7 (.mov (.t 6)),
 zg 8 7 false (.mov (.t 1)),
 zg 9 7 false (.load 3 true (.t 2)),
 zg 10 7 false (.call fid_head_Blocks [(.t 9)]),
 zg 11 7 false (.bin .geq (.t 8) (.t 10)),
 zi 12 (.pick (.t 7) (.c (.bool true)) (.t 11))])
 (.cond (.t 12)
 (.seq (.reg [zi 4 (.mov (.c (.int .i64 0)))])
 (.ret))
 (.skip)))
 (.seq (.reg [zi 13 (.faddr 1 (.t 2)),
 zi 14 (.load 1 false (.t 13)),
 zi 15 (.faddr 2 (.t 2)),
 zi 16 (.load 1 false (.t 15)),
 zi 17 (.mov (.t 1)),
 zi 18 (.faddr 1 (.t 2)),
 zi 19 (.load 1 false (.t 18)),
 zi 20 (.bin .mul (.t 17) (.t 19)),
 zi 21 (.bin .sub (.t 16) (.t 20)),
 zi 22 (.minmax true [(.t 14), (.t 21)]),
 zi 4 (.mov (.t 22))])
 (.ret)))) }
def slices_Equal_byte_byte_b0 : IC :=
  (.seq (.reg [zi 14 (.bin .lss (.t 13) (.t 12))])
 (.seq (.cond (.t 14)
 (.skip)
 (.exit 0))
 (.seq (.block 1
 (.seq (.reg [zi 15 (.mov (.t 13)),
 zi 5 (.mov (.t 15))])
 (.seq (.regD [0, 1, 2, 3, 4, 5, 6, 7, 8] [zi 16 (.mov (.t 0)),
 zi 17 (.mov (.t 5)),
 zi 18 (.iaddr 1 (.t 16) (.t 17)),
 zi 19 (.load 1 false (.t 18)),
 zi 20 (.mov (.t 1)),
 zi 21 (.mov (.t 5)),
 zi 22 (.iaddr 1 (.t 20) (.t 21)),
 zi 23 (.load 1 false (.t 22)),
 zi 24 (.bin .neq (.t 19) (.t 23))])
 (.cond (.t 24)
 (.seq (.reg [zi 4 (.mov (.c (.bool false)))])
 (.ret))
 (.skip)))))
 (.reg [zi 25 (.bin .add (.t 13) (.c (.int .i64 1))),
 zi 13 (.mov (.t 25))]))))
def ir_slices_Equal_byte_byte : IFn :=
  { params := 2, results := [.tmp 4], body :=
  (.seq (.reg [zi 4 (.mov (.c (.bool false)))])
 (.seq (.seq (.reg [zi 6 (.mov (.t 0)),
 zi 7 (.len .sl (.t 6)),
 zi 8 (.mov (.t 1)),
 zi 9 (.len .sl (.t 8)),
 zi 10 (.bin .neq (.t 7) (.t 9))])
 (.cond (.t 10)
 (.seq (.reg [zi 4 (.mov (.c (.bool false)))])
 (.ret))
 (.skip)))
 (.seq (.seq (.reg [zi 11 (.mov (.t 0)),
 zi 12 (.len .sl (.t 11)),
 zi 13 (.mov (.c (.int .i64 0)))])
 (.block 0
 (.loop [0, 1, 12, 13] slices_Equal_byte_byte_b0)))
 (.seq (.reg [zi 4 (.mov (.c (.bool true)))])
 (.ret))))) }
def ir_crc_Open : IFn :=
  { params := 1, results := [.tmp 2, .tmp 3], body :=
  (.seq (.reg [zi 2 (.mov (.c .nils)),
 zi 3 (.mov (.c (.bool false)))])
 (.seq (.reg [zi 5 (.mov (.t 0)),
 zi 6 (.len .sl (.t 5)),
 zi 7 (.bin .sub (.t 6) (.c (.int .i64 4))),
 zi 4 (.mov (.t 7))])
 (.seq (.seq (.reg [zi 8 (.mov (.t 4)),
 zi 9 (.bin .lss (.t 8) (.c (.int .i64 0))),
 zi 10 (.mov (.t 9)),
 zg 11 10 false (.mov (.t 0)),
 zg 12 10 false (.mov (.t 4)),
 zg 13 10 false (.slice false 1 (.t 11) none (some (.t 12)) none),
 zg 14 10 false (.call fid_crc_Seal [(.t 13)]),
 zg 15 10 false (.mov (.t 0)),
 zg 16 10 false (.call fid_slices_Equal_byte_byte [(.t 14), (.t 15)]),
 zg 17 10 false (.un .not (.t 16)),
 zi 18 (.pick (.t 10) (.c (.bool true)) (.t 17))])
 (.cond (.t 18)
 (.seq (.reg [zi 2 (.mov (.c .nils)),
 zi 3 (.mov (.c (.bool false)))])
 (.ret))
 (.skip)))
 (.seq (.reg [zi 19 (.mov (.t 0)),
 zi 20 (.mov (.t 4)),
 zi 21 (.slice false 1 (.t 19) none (some (.t 20)) none),
 zi 22 (.call fid_slices_Clone_byte_byte [(.t 21)]),
 zi 2 (.mov (.t 22)),
 zi 3 (.mov (.c (.bool true)))])
 (.ret))))) }
def head_take_b0 : IC :=
  (.seq (.reg [zi 9 (.bin .lss (.t 8) (.t 7))])
 (.seq (.cond (.t 9)
 (.skip)
 (.exit 0))
 (.seq (.block 1
 (.seq (.reg [zi 10 (.mov (.t 8)),
 zi 11 (.iaddr 1 (.t 6) (.t 8)),
 zi 12 (.load 1 false (.t 11)),
 zi 4 (.mov (.t 10)),
 zi 5 (.mov (.t 12))])
 (.reg [zi 13 (.mov (.t 3)),
 zi 14 (.mov (.t 5)),
 zi 15 (.conv .u64 (.t 14)),
 zi 16 (.mov (.t 4)),
 zi 17 (.bin .mul (.c (.int .i64 8)) (.t 16)),
 zi 18 (.bin .shl (.t 15) (.t 17)),
 zi 19 (.bin .or (.t 13) (.t 18)),
 zi 3 (.mov (.t 19))])))
 (.reg [zi 20 (.bin .add (.t 8) (.c (.int .i64 1))),
 zi 8 (.mov (.t 20))]))))
def ir_head_take : IFn :=
  { params := 1, results := [.tmp 2], body :=
  (.seq (.reg [zi 2 (.mov (.c (.int .u64 0)))])
 (.seq (.reg [zi 3 (.mov (.c (.int .u64 0)))])
 (.seq (.seq (.reg [zi 6 (.mov (.t 0)),
 zi 7 (.len .sl (.t 6)),
 zi 8 (.mov (.c (.int .i64 0)))])
 (.block 0
 (.loop [3, 6, 7, 8] head_take_b0)))
 (.seq (.reg [zi 21 (.mov (.t 3)),
 zi 2 (.mov (.t 21))])
 (.ret))))) }
def ir_head_Read : IFn :=
  { params := 1, results := [.cell 2 3 true, .tmp 3], body :=
  (.seq (.reg [zi 2 (.box (.c (.agg [(.int .u64 0), (.int .i64 0), (.int .i64 0)]))),
 zi 3 (.mov (.c (.int .i64 0)))])
 (.seq (.seq (.reg [zi 7 (.mov (.t 0)),
 zi 8 (.len .sl (.t 7)),
 zi 9 (.bin .lss (.t 8) (.c (.int .i64 24)))])
 (.cond (.t 9)
 (.seq (.reg [zi 10 (.build [(.int .u64 0), (.int .i64 0), (.int .i64 0)] []),
 zn (.store 3 (.t 2) (.t 10)),
 zi 3 (.mov (.c (.int .i64 20)))])
 (.ret))
 (.skip)))
 (.seq (.seq (.reg [zi 11 (.mov (.t 0)),
 zi 12 (.slice false 1 (.t 11) none (some (.c (.int .i64 4))) none),
 zi 13 (.toStr (.t 12)),
 zi 14 (.bin .neq (.t 13) (.c (.str [84, 71, 88, 49])))])
 (.cond (.t 14)
 (.seq (.reg [zi 15 (.build [(.int .u64 0), (.int .i64 0), (.int .i64 0)] []),
 zn (.store 3 (.t 2) (.t 15)),
 zi 3 (.mov (.c (.int .i64 27)))])
 (.ret))
 (.skip)))
 (.seq (.seq (.reg [zi 17 (.mov (.t 0)),
 zi 18 (.slice false 1 (.t 17) none (some (.c (.int .i64 24))) none),
 zi 19 (.call fid_crc_Open [(.t 18)]),
 zi 16 (.mov (.t 19)),
 zi 20 (.extract (.t 16) 0),
 zi 21 (.extract (.t 16) 1),
 zi 4 (.mov (.t 20)),
 zi 5 (.mov (.t 21))])
 (.seq (.reg [zi 22 (.mov (.t 5)),
 zi 23 (.un .not (.t 22))])
 (.cond (.t 23)
 (.seq (.reg [zi 24 (.build [(.int .u64 0), (.int .i64 0), (.int .i64 0)] []),
 zn (.store 3 (.t 2) (.t 24)),
 zi 3 (.mov (.c (.int .i64 28)))])
 (.ret))
 (.skip))))
 (.seq (.regD [0, 1, 2, 3, 4, 5, 7, 8, 9, 6, 10, 11, 12, 13] [zi 25 (.mov (.t 0)),
 zi 26 (.slice false 1 (.t 25) (some (.c (.int .i64 4))) (some (.c (.int .i64 12))) none),
 zi 27 (.call fid_head_take [(.t 26)]),
 zi 28 (.mov (.t 0)),
 zi 29 (.slice false 1 (.t 28) (some (.c (.int .i64 12))) (some (.c (.int .i64 16))) none),
 zi 30 (.call fid_head_take [(.t 29)]),
 zi 32 (.mov (.t 0)),
 zi 33 (.slice false 1 (.t 32) (some (.c (.int .i64 16))) (some (.c (.int .i64 20))) none),
 zi 34 (.call fid_head_take [(.t 33)]),
 zi 31 (.conv .i64 (.t 30)),
 zi 35 (.conv .i64 (.t 34)),
 zi 36 (.build [(.int .u64 0), (.int .i64 0), (.int .i64 0)] [(0, 1, (.t 27)), (1, 1, (.t 31)), (2, 1, (.t 35))]),
 zi 6 (.box (.c (.agg [(.int .u64 0), (.int .i64 0), (.int .i64 0)]))),
 zn (.store 3 (.t 6) (.t 36))])
 (.seq (.seq (.reg [zi 37 (.load 3 true (.t 6)),
 zi 38 (.call fid_head_Right [(.t 37)]),
 zi 39 (.un .not (.t 38))])
 (.cond (.t 39)
 (.seq (.reg [zi 40 (.build [(.int .u64 0), (.int .i64 0), (.int .i64 0)] []),
 zn (.store 3 (.t 2) (.t 40)),
 zi 3 (.mov (.c (.int .i64 26)))])
 (.ret))
 (.skip)))
 (.seq (.reg [zi 41 (.load 3 true (.t 6)),
 zn (.store 3 (.t 2) (.t 41)),
 zi 3 (.mov (.c (.int .i64 0)))])
 (.ret)))))))) }
def ir_archipelagolaw18_known : IFn :=
  { params := 0, results := [.tmp 0], body :=
  (.seq (.reg [zi 0 (.mov (.c (.bool false)))])
 (.seq (.reg [zi 7 (.build [(.int .u64 0), (.int .i64 0), (.int .i64 0)] [(0, 1, (.c (.int .u64 4294967296))), (1, 1, (.c (.int .i64 2))), (2, 1, (.c (.int .i64 5)))]),
 zi 1 (.box (.c (.agg [(.int .u64 0), (.int .i64 0), (.int .i64 0)]))),
 zn (.store 3 (.t 1) (.t 7))])
 (.seq (.reg [zi 8 (.load 3 true (.t 1)),
 zi 9 (.call fid_head_Put [(.t 8)]),
 zi 2 (.mov (.t 9))])
 (.seq (.reg [zi 11 (.mov (.t 2)),
 zi 12 (.call fid_head_Read [(.t 11)]),
 zi 10 (.mov (.t 12)),
 zi 13 (.extract (.t 10) 0),
 zi 14 (.extract (.t 10) 1),
 zi 3 (.box (.c (.agg [(.int .u64 0), (.int .i64 0), (.int .i64 0)]))),
 zn (.store 3 (.t 3) (.t 13)),
 zi 4 (.mov (.t 14))])
 (.seq (.reg [zi 16 (.call fid_head_Read [(.c .nils)]),
 zi 15 (.mov (.t 16)),
 zi 17 (.extract (.t 15) 0),
 zi 18 (.extract (.t 15) 1),
 zi 5 (.box (.c (.agg [(.int .u64 0), (.int .i64 0), (.int .i64 0)]))),
 zn (.store 3 (.t 5) (.t 17)),
 zi 6 (.mov (.t 18))])
 (.seq (.reg [zi 19 (.mov (.t 2)),
 zi 20 (.len .sl (.t 19)),
 zi 21 (.bin .eql (.t 20) (.c (.int .i64 24))),
 zi 22 (.mov (.t 21)),
 zg 23 22 true (.mov (.t 2)),
 zg 24 22 true (.slice false 1 (.t 23) none (some (.c (.int .i64 4))) none),
 zg 25 22 true (.toStr (.t 24)),
 zg 26 22 true (.bin .eql (.t 25) (.c (.str [84, 71, 88, 49]))),
 zi 27 (.pick (.t 22) (.t 26) (.c (.bool false))),
 zi 28 (.mov (.t 27)),
 zg 29 28 true (.mov (.t 4)),
 zg 30 28 true (.bin .eql (.t 29) (.c (.int .i64 0))),
 zi 31 (.pick (.t 28) (.t 30) (.c (.bool false))),
 zi 32 (.mov (.t 31)),
 zg 33 32 true (.load 3 true (.t 3)),
 zg 34 32 true (.load 3 true (.t 1)),
 zg 35 32 true (.eq (.struct [.int, .int, .int]) false (.t 33) (.t 34)),
 zi 36 (.pick (.t 32) (.t 35) (.c (.bool false))),
 zi 37 (.mov (.t 36)),
 zg 38 37 true (.mov (.t 6)),
 zg 39 37 true (.bin .eql (.t 38) (.c (.int .i64 20))),
 zi 40 (.pick (.t 37) (.t 39) (.c (.bool false))),
 zi 41 (.mov (.t 40)),
 zg 42 41 true (.load 3 true (.t 1)),
 zg 43 41 true (.call fid_head_Blocks [(.t 42)]),
 zg 44 41 true (.bin .eql (.t 43) (.c (.int .i64 3))),
 zi 45 (.pick (.t 41) (.t 44) (.c (.bool false))),
 zi 46 (.mov (.t 45)),
 zg 47 46 true (.load 3 true (.t 1)),
 zg 48 46 true (.call fid_head_Size [(.t 47), (.c (.int .i64 2))]),
 zg 49 46 true (.bin .eql (.t 48) (.c (.int .i64 1))),
 zi 50 (.pick (.t 46) (.t 49) (.c (.bool false))),
 zi 51 (.mov (.t 50)),
 zg 52 51 true (.load 3 true (.t 1)),
 zg 53 51 true (.call fid_head_Size [(.t 52), (.c (.int .i64 3))]),
 zg 54 51 true (.bin .eql (.t 53) (.c (.int .i64 0))),
 zi 55 (.pick (.t 51) (.t 54) (.c (.bool false))),
 zi 56 (.mov (.t 55)),
 zg 57 56 true (.load 3 true (.t 1)),
 zg 58 56 true (.call fid_head_Right [(.t 57)]),
 zi 59 (.pick (.t 56) (.t 58) (.c (.bool false))),
 zi 60 (.mov (.t 59)),
 zg 61 60 true (.build [(.int .u64 0), (.int .i64 0), (.int .i64 0)] []),
 zg 62 60 true (.call fid_head_Right [(.t 61)]),
 zg 63 60 true (.un .not (.t 62)),
 zi 64 (.pick (.t 60) (.t 63) (.c (.bool false))),
 zi 0 (.mov (.t 64))])
 (.ret))))))) }
def ir_archipelagoref18_Right : IFn :=
  { params := 1, results := [.tmp 2], body :=
  (.seq (.reg [zi 1 (.box (.t 0)),
 zi 2 (.mov (.c (.bool false)))])
 (.seq (.reg [zi 3 (.faddr 0 (.t 1)),
 zi 4 (.load 1 false (.t 3)),
 zi 5 (.bin .leq (.t 4) (.c (.int .u64 4294967296))),
 zi 6 (.mov (.t 5)),
 zg 7 6 true (.faddr 1 (.t 1)),
 zg 8 6 true (.load 1 false (.t 7)),
 zg 9 6 true (.bin .geq (.t 8) (.c (.int .i64 1))),
 zi 10 (.pick (.t 6) (.t 9) (.c (.bool false))),
 zi 11 (.mov (.t 10)),
 zg 12 11 true (.faddr 1 (.t 1)),
 zg 13 11 true (.load 1 false (.t 12)),
 zg 14 11 true (.bin .leq (.t 13) (.c (.int .i64 1048576))),
 zi 15 (.pick (.t 11) (.t 14) (.c (.bool false))),
 zi 16 (.mov (.t 15)),
 zg 17 16 true (.faddr 2 (.t 1)),
 zg 18 16 true (.load 1 false (.t 17)),
 zg 19 16 true (.bin .geq (.t 18) (.c (.int .i64 0))),
 zi 20 (.pick (.t 16) (.t 19) (.c (.bool false))),
 zi 21 (.mov (.t 20)),
 zg 22 21 true (.faddr 2 (.t 1)),
 zg 23 21 true (.load 1 false (.t 22)),
 zg 24 21 true (.bin .leq (.t 23) (.c (.int .i64 2147483648))),
 zi 25 (.pick (.t 21) (.t 24) (.c (.bool false))),
 zi 2 (.mov (.t 25))])
 (.ret))) }
def archipelagoref1_Fixed_b0 : IC :=
  (.seq (.seq (.reg [zi 7 (.mov (.t 6)),
 zi 8 (.mov (.t 1)),
 zi 9 (.bin .lss (.t 7) (.t 8))])
 (.cond (.t 9)
 (.skip)
 (.exit 0)))
 (.seq (.block 1
 (.reg [zi 12 (.mov (.t 5)),
 zi 13 (.mov (.t 0)),
 zi 14 (.mov (.t 6)),
 zi 15 (.bin .mul (.c (.int .i64 8)) (.t 14)),
 zi 16 (.bin .shr (.t 13) (.t 15)),
 zi 17 (.conv .u8 (.t 16)),
 zi 18 (.mkrow 1 1 [(.int .u8 0)] [(0, (.t 17))]),
 zi 19 (.append 1 1 (.t 12) (.t 18)),
 zi 5 (.mov (.t 19))]))
 (.reg [zi 10 (.mov (.t 6)),
 zi 11 (.bin .add (.t 10) (.c (.int .i64 1))),
 zi 6 (.mov (.t 11))])))
def ir_archipelagoref1_Fixed : IFn :=
  { params := 2, results := [.tmp 4], body :=
  (.seq (.reg [zi 4 (.mov (.c .nils))])
 (.seq (.reg [zi 5 (.mov (.c .nils))])
 (.seq (.seq (.reg [zi 6 (.mov (.c (.int .i64 0)))])
 (.block 0
 (.loop [0, 1, 5, 6] archipelagoref1_Fixed_b0)))
 (.seq (.reg [zi 20 (.mov (.t 5)),
 zi 4 (.mov (.t 20))])
 (.ret))))) }
def archipelagoref1_Next_b0 : IC :=
  (.seq (.seq (.reg [zi 12 (.mov (.t 6)),
 zi 13 (.bin .lss (.t 12) (.c (.int .i64 8)))])
 (.cond (.t 13)
 (.skip)
 (.exit 0)))
 (.seq (.block 1
 (.seq (.reg [zi 16 (.mov (.t 5)),
 zi 17 (.bin .and (.t 16) (.c (.int .u32 1))),
 zi 18 (.bin .eql (.t 17) (.c (.int .u32 1)))])
 (.cond (.t 18)
 (.reg [zi 19 (.mov (.t 5)),
 zi 20 (.bin .shr (.t 19) (.c (.int .u64 1))),
 zi 21 (.bin .xor (.t 20) (.c (.int .u32 3988292384))),
 zi 5 (.mov (.t 21))])
 (.reg [zi 22 (.mov (.t 5)),
 zi 23 (.bin .shr (.t 22) (.c (.int .u64 1))),
 zi 5 (.mov (.t 23))]))))
 (.reg [zi 14 (.mov (.t 6)),
 zi 15 (.bin .add (.t 14) (.c (.int .i64 1))),
 zi 6 (.mov (.t 15))])))
def ir_archipelagoref1_Next : IFn :=
  { params := 2, results := [.tmp 4], body :=
  (.seq (.reg [zi 4 (.mov (.c (.int .u32 0)))])
 (.seq (.reg [zi 7 (.mov (.t 0)),
 zi 8 (.un .xor (.t 7)),
 zi 9 (.mov (.t 1)),
 zi 10 (.conv .u32 (.t 9)),
 zi 11 (.bin .xor (.t 8) (.t 10)),
 zi 5 (.mov (.t 11))])
 (.seq (.seq (.reg [zi 6 (.mov (.c (.int .i64 0)))])
 (.block 0
 (.loop [5, 6] archipelagoref1_Next_b0)))
 (.seq (.reg [zi 24 (.mov (.t 5)),
 zi 25 (.un .xor (.t 24)),
 zi 4 (.mov (.t 25))])
 (.ret))))) }
def archipelagoref1_Sum_b0 : IC :=
  (.seq (.seq (.reg [zi 12 (.mov (.t 5)),
 zi 13 (.mov (.t 0)),
 zi 14 (.mov (.t 4)),
 zi 15 (.iaddr 1 (.t 13) (.t 14)),
 zi 16 (.load 1 false (.t 15)),
 zi 17 (.len .sl (.t 16)),
 zi 18 (.bin .lss (.t 12) (.t 17))])
 (.cond (.t 18)
 (.skip)
 (.exit 2)))
 (.seq (.block 3
 (.reg [zi 21 (.mov (.t 3)),
 zi 22 (.mov (.t 0)),
 zi 23 (.mov (.t 4)),
 zi 24 (.iaddr 1 (.t 22) (.t 23)),
 zi 25 (.load 1 false (.t 24)),
 zi 26 (.mov (.t 5)),
 zi 27 (.iaddr 1 (.t 25) (.t 26)),
 zi 28 (.load 1 false (.t 27)),
 zi 29 (.call fid_archipelagoref1_Next [(.t 21), (.t 28)]),
 zi 3 (.mov (.t 29))]))
 (.reg [zi 19 (.mov (.t 5)),
 zi 20 (.bin .add (.t 19) (.c (.int .i64 1))),
 zi 5 (.mov (.t 20))])))
def archipelagoref1_Sum_b1 : IC :=
  (.seq (.seq (.reg [zi 6 (.mov (.t 4)),
 zi 7 (.mov (.t 0)),
 zi 8 (.len .sl (.t 7)),
 zi 9 (.bin .lss (.t 6) (.t 8))])
 (.cond (.t 9)
 (.skip)
 (.exit 0)))
 (.seq (.block 1
 (.seq (.reg [zi 5 (.mov (.c (.int .i64 0)))])
 (.block 2
 (.loop [0, 3, 4, 5] archipelagoref1_Sum_b0))))
 (.reg [zi 10 (.mov (.t 4)),
 zi 11 (.bin .add (.t 10) (.c (.int .i64 1))),
 zi 4 (.mov (.t 11))])))
def ir_archipelagoref1_Sum : IFn :=
  { params := 1, results := [.tmp 2], body :=
  (.seq (.reg [zi 2 (.mov (.c (.int .u32 0)))])
 (.seq (.reg [zi 3 (.mov (.c (.int .u32 0)))])
 (.seq (.seq (.reg [zi 4 (.mov (.c (.int .i64 0)))])
 (.block 0
 (.loop [0, 3, 4] archipelagoref1_Sum_b1)))
 (.seq (.reg [zi 30 (.mov (.t 3)),
 zi 2 (.mov (.t 30))])
 (.ret))))) }
def ir_archipelagoref1_Seal : IFn :=
  { params := 1, results := [.tmp 2], body :=
  (.seq (.reg [zi 2 (.mov (.c .nils))])
 (.seq (.reg [zi 3 (.mov (.t 0)),
 zi 4 (.append 1 1 (.c .nils) (.t 3)),
 zi 5 (.mov (.t 0)),
 zi 6 (.mkrow 1 1 [.nils] [(0, (.t 5))]),
 zi 7 (.call fid_archipelagoref1_Sum [(.t 6)]),
 zi 8 (.conv .u64 (.t 7)),
 zi 9 (.call fid_archipelagoref1_Fixed [(.t 8), (.c (.int .i64 4))]),
 zi 10 (.append 1 1 (.t 4) (.t 9)),
 zi 2 (.mov (.t 10))])
 (.ret))) }
def ir_archipelagoref18_Put : IFn :=
  { params := 1, results := [.tmp 2], body :=
  (.seq (.reg [zi 1 (.box (.t 0)),
 zi 2 (.mov (.c .nils))])
 (.seq (.seq (.reg [zi 4 (.load 3 true (.t 1)),
 zi 5 (.call fid_archipelagoref18_Right [(.t 4)]),
 zi 6 (.un .not (.t 5))])
 (.cond (.t 6)
 (.seq (.reg [zi 2 (.mov (.c .nils))])
 (.ret))
 (.skip)))
 (.seq (.reg [zi 7 (.mkrow 1 4 [(.int .u8 0)] [(0, (.c (.int .u8 84))), (1, (.c (.int .u8 71))), (2, (.c (.int .u8 88))), (3, (.c (.int .u8 49)))]),
 zi 8 (.cvs (.t 7)),
 zi 9 (.faddr 0 (.t 1)),
 zi 10 (.load 1 false (.t 9)),
 zi 11 (.call fid_archipelagoref1_Fixed [(.t 10), (.c (.int .i64 8))]),
 zi 12 (.append 1 1 (.t 8) (.t 11)),
 zi 3 (.mov (.t 12))])
 (.seq (.regD [1, 2, 3, 4, 0, 5, 6, 7, 8, 9, 10, 11] [zi 14 (.faddr 1 (.t 1)),
 zi 15 (.load 1 false (.t 14)),
 zi 16 (.conv .u64 (.t 15)),
 zi 17 (.call fid_archipelagoref1_Fixed [(.t 16), (.c (.int .i64 4))]),
 zi 13 (.mov (.t 3)),
 zi 18 (.append 1 1 (.t 13) (.t 17)),
 zi 19 (.faddr 2 (.t 1)),
 ⟨some 20, .load 1 false (.t 19), none, some (0, 2)⟩,
 zi 21 (.conv .u64 (.t 20)),
 zi 22 (.call fid_archipelagoref1_Fixed [(.t 21), (.c (.int .i64 4))]),
 zi 23 (.append 1 1 (.t 18) (.t 22)),
 zi 3 (.mov (.t 23))])
 (.seq (.reg [zi 24 (.mov (.t 3)),
 zi 25 (.call fid_archipelagoref1_Seal [(.t 24)]),
 zi 2 (.mov (.t 25))])
 (.ret)))))) }
def ir_archipelagoref18_Blocks : IFn :=
  { params := 1, results := [.tmp 2], body :=
  (.seq (.reg [zi 1 (.box (.t 0)),
 zi 2 (.mov (.c (.int .i64 0)))])
 (.seq (.seq (.reg [zi 3 (.load 3 true (.t 1)),
 zi 4 (.call fid_archipelagoref18_Right [(.t 3)]),
 zi 5 (.un .not (.t 4))])
 (.cond (.t 5)
 (.seq (.reg [zi 2 (.mov (.c (.int .i64 0)))])
 (.ret))
 (.skip)))
 (.seq (.reg [zi 6 (.faddr 2 (.t 1)),
 zi 7 (.load 1 false (.t 6)),
 zi 8 (.faddr 1 (.t 1)),
 zi 9 (.load 1 false (.t 8)),
 zi 10 (.bin .add (.t 7) (.t 9)),
 zi 11 (.bin .sub (.t 10) (.c (.int .i64 1))),
 zi 12 (.faddr 1 (.t 1)),
 zi 13 (.load 1 false (.t 12)),
 zi 14 (.bin .quo (.t 11) (.t 13)),
 zi 2 (.mov (.t 14))])
 (.ret)))) }
def ir_archipelagoref18_Size : IFn :=
  { params := 2, results := [.tmp 4], body :=
  (.seq (.reg [zi 2 (.box (.t 0)),
 zi 4 (.mov (.c (.int .i64 0)))])
 (.seq (.seq (.reg [zi 5 (.mov (.t 1)),
 zi 6 (.bin .lss (.t 5) (.c (.int .i64 0))),
 zi 7 (.mov (.t 6)),
 zg 8 7 false (.mov (.t 1)),
 zg 9 7 false (.load 3 true (.t 2)),
 zg 10 7 false (.call fid_archipelagoref18_Blocks [(.t 9)]),
 zg 11 7 false (.bin .geq (.t 8) (.t 10)),
 zi 12 (.pick (.t 7) (.c (.bool true)) (.t 11))])
 (.cond (.t 12)
 (.seq (.reg [zi 4 (.mov (.c (.int .i64 0)))])
 (.ret))
 (.skip)))
 (.seq (.reg [zi 13 (.faddr 1 (.t 2)),
 zi 14 (.load 1 false (.t 13)),
 zi 15 (.faddr 2 (.t 2)),
 zi 16 (.load 1 false (.t 15)),
 zi 17 (.mov (.t 1)),
 zi 18 (.faddr 1 (.t 2)),
 zi 19 (.load 1 false (.t 18)),
 zi 20 (.bin .mul (.t 17) (.t 19)),
 zi 21 (.bin .sub (.t 16) (.t 20)),
 zi 22 (.minmax true [(.t 14), (.t 21)]),
 zi 4 (.mov (.t 22))])
 (.ret)))) }
def archipelagoref1_Number_b0 : IC :=
  (.seq (.seq (.reg [zi 5 (.mov (.t 4)),
 zi 6 (.mov (.t 0)),
 zi 7 (.len .sl (.t 6)),
 zi 8 (.bin .lss (.t 5) (.t 7))])
 (.cond (.t 8)
 (.skip)
 (.exit 0)))
 (.seq (.block 1
 (.reg [zi 11 (.mov (.t 3)),
 zi 12 (.mov (.t 0)),
 zi 13 (.mov (.t 4)),
 zi 14 (.iaddr 1 (.t 12) (.t 13)),
 zi 15 (.load 1 false (.t 14)),
 zi 16 (.conv .u64 (.t 15)),
 zi 17 (.mov (.t 4)),
 zi 18 (.bin .mul (.c (.int .i64 8)) (.t 17)),
 zi 19 (.bin .shl (.t 16) (.t 18)),
 zi 20 (.bin .or (.t 11) (.t 19)),
 zi 3 (.mov (.t 20))]))
 (.reg [zi 9 (.mov (.t 4)),
 zi 10 (.bin .add (.t 9) (.c (.int .i64 1))),
 zi 4 (.mov (.t 10))])))
def ir_archipelagoref1_Number : IFn :=
  { params := 1, results := [.tmp 2], body :=
  (.seq (.reg [zi 2 (.mov (.c (.int .u64 0)))])
 (.seq (.reg [zi 3 (.mov (.c (.int .u64 0)))])
 (.seq (.seq (.reg [zi 4 (.mov (.c (.int .i64 0)))])
 (.block 0
 (.loop [0, 3, 4] archipelagoref1_Number_b0)))
 (.seq (.reg [zi 21 (.mov (.t 3)),
 zi 2 (.mov (.t 21))])
 (.ret))))) }
def ir_archipelagoref1_Open : IFn :=
  { params := 1, results := [.tmp 2, .tmp 3], body :=
  (.seq (.reg [zi 2 (.mov (.c .nils)),
 zi 3 (.mov (.c (.bool false)))])
 (.seq (.reg [zi 5 (.mov (.t 0)),
 zi 6 (.len .sl (.t 5)),
 zi 7 (.bin .sub (.t 6) (.c (.int .i64 4))),
 zi 4 (.mov (.t 7))])
 (.seq (.seq (.regD [0, 1, 2, 3, 4, 5, 6, 7, 8, 9, 10, 11, 12, 13, 14] [zi 8 (.mov (.t 4)),
 zi 9 (.bin .lss (.t 8) (.c (.int .i64 0))),
 zi 10 (.mov (.t 9)),
 zg 11 10 false (.mov (.t 0)),
 zg 12 10 false (.mov (.t 4)),
 zg 13 10 false (.slice false 1 (.t 11) (some (.t 12)) none none),
 zg 14 10 false (.call fid_archipelagoref1_Number [(.t 13)]),
 zg 15 10 false (.mov (.t 0)),
 zg 16 10 false (.mov (.t 4)),
 zg 17 10 false (.slice false 1 (.t 15) none (some (.t 16)) none),
 zg 18 10 false (.mkrow 1 1 [.nils] [(0, (.t 17))]),
 zg 19 10 false (.call fid_archipelagoref1_Sum [(.t 18)]),
 zg 20 10 false (.conv .u64 (.t 19)),
 zg 21 10 false (.bin .neq (.t 14) (.t 20)),
 zi 22 (.pick (.t 10) (.c (.bool true)) (.t 21))])
 (.cond (.t 22)
 (.seq (.reg [zi 2 (.mov (.c .nils)),
 zi 3 (.mov (.c (.bool false)))])
 (.ret))
 (.skip)))
 (.seq (.reg [zi 23 (.mov (.t 0)),
 zi 24 (.mov (.t 4)),
 zi 25 (.slice false 1 (.t 23) none (some (.t 24)) none),
 zi 2 (.mov (.t 25)),
 zi 3 (.mov (.c (.bool true)))])
 (.ret))))) }
def ir_archipelagoref18_Read : IFn :=
  { params := 1, results := [.cell 2 3 true, .tmp 3], body :=
  (.seq (.reg [zi 2 (.box (.c (.agg [(.int .u64 0), (.int .i64 0), (.int .i64 0)]))),
 zi 3 (.mov (.c (.int .i64 0)))])
 (.seq (.seq (.reg [zi 7 (.mov (.t 0)),
 zi 8 (.len .sl (.t 7)),
 zi 9 (.bin .lss (.t 8) (.c (.int .i64 24)))])
 (.cond (.t 9)
 (.seq (.reg [zi 10 (.build [(.int .u64 0), (.int .i64 0), (.int .i64 0)] []),
 zn (.store 3 (.t 2) (.t 10)),
 zi 3 (.mov (.c (.int .i64 20)))])
 (.ret))
 (.skip)))
 (.seq (.seq (.reg [zi 11 (.mov (.t 0)),
 zi 12 (.slice false 1 (.t 11) none (some (.c (.int .i64 4))) none),
 zi 13 (.toStr (.t 12)),
 zi 14 (.bin .neq (.t 13) (.c (.str [84, 71, 88, 49])))])
 (.cond (.t 14)
 (.seq (.reg [zi 15 (.build [(.int .u64 0), (.int .i64 0), (.int .i64 0)] []),
 zn (.store 3 (.t 2) (.t 15)),
 zi 3 (.mov (.c (.int .i64 27)))])
 (.ret))
 (.skip)))
 (.seq (.seq (.reg [zi 17 (.mov (.t 0)),
 zi 18 (.slice false 1 (.t 17) none (some (.c (.int .i64 24))) none),
 zi 19 (.call fid_archipelagoref1_Open [(.t 18)]),
 zi 16 (.mov (.t 19)),
 zi 20 (.extract (.t 16) 0),
 zi 21 (.extract (.t 16) 1),
 zi 4 (.mov (.t 20)),
 zi 5 (.mov (.t 21))])
 (.seq (.reg [zi 22 (.mov (.t 5)),
 zi 23 (.un .not (.t 22))])
 (.cond (.t 23)
 (.seq (.reg [zi 24 (.build [(.int .u64 0), (.int .i64 0), (.int .i64 0)] []),
 zn (.store 3 (.t 2) (.t 24)),
 zi 3 (.mov (.c (.int .i64 28)))])
 (.ret))
 (.skip))))
 (.seq (.regD [0, 1, 2, 3, 4, 5, 7, 8, 9, 6, 10, 11, 12, 13] [zi 25 (.mov (.t 0)),
 zi 26 (.slice false 1 (.t 25) (some (.c (.int .i64 4))) (some (.c (.int .i64 12))) none),
 zi 27 (.call fid_archipelagoref1_Number [(.t 26)]),
 zi 28 (.mov (.t 0)),
 zi 29 (.slice false 1 (.t 28) (some (.c (.int .i64 12))) (some (.c (.int .i64 16))) none),
 zi 30 (.call fid_archipelagoref1_Number [(.t 29)]),
 zi 32 (.mov (.t 0)),
 zi 33 (.slice false 1 (.t 32) (some (.c (.int .i64 16))) (some (.c (.int .i64 20))) none),
 zi 34 (.call fid_archipelagoref1_Number [(.t 33)]),
 zi 31 (.conv .i64 (.t 30)),
 zi 35 (.conv .i64 (.t 34)),
 zi 36 (.build [(.int .u64 0), (.int .i64 0), (.int .i64 0)] [(0, 1, (.t 27)), (1, 1, (.t 31)), (2, 1, (.t 35))]),
 zi 6 (.box (.c (.agg [(.int .u64 0), (.int .i64 0), (.int .i64 0)]))),
 zn (.store 3 (.t 6) (.t 36))])
 (.seq (.seq (.reg [zi 37 (.load 3 true (.t 6)),
 zi 38 (.call fid_archipelagoref18_Right [(.t 37)]),
 zi 39 (.un .not (.t 38))])
 (.cond (.t 39)
 (.seq (.reg [zi 40 (.build [(.int .u64 0), (.int .i64 0), (.int .i64 0)] []),
 zn (.store 3 (.t 2) (.t 40)),
 zi 3 (.mov (.c (.int .i64 26)))])
 (.ret))
 (.skip)))
 (.seq (.reg [zi 41 (.load 3 true (.t 6)),
 zn (.store 3 (.t 2) (.t 41)),
 zi 3 (.mov (.c (.int .i64 0)))])
 (.ret)))))))) }
def archipelagolaw18_HeadTells_b0 : IC :=
  (.seq (.reg [zi 57 (.bin .lss (.t 56) (.t 55))])
 (.seq (.cond (.t 57)
 (.skip)
 (.exit 0))
 (.seq (.block 1
 (.seq (.reg [zi 58 (.iaddr 3 (.t 54) (.t 56)),
 zi 59 (.load 3 true (.t 58)),
 zi 22 (.box (.c (.agg [(.int .u64 0), (.int .i64 0), (.int .i64 0)]))),
 zn (.store 3 (.t 22) (.t 59))])
 (.seq (.regD [0, 1, 2, 3, 4, 5, 6, 7, 9, 10, 8, 11, 12, 13, 14, 15, 16, 17, 18, 19, 20, 21, 22, 23, 24, 25, 26, 27, 28, 29, 30, 31, 32, 33, 34, 35, 36, 37, 38, 39, 40] [zi 60 (.load 3 true (.t 22)),
 zi 61 (.call fid_head_Right [(.t 60)]),
 ⟨some 62, .load 3 true (.t 22), none, some (0, 1)⟩,
 zi 63 (.call fid_archipelagoref18_Right [(.t 62)]),
 zi 64 (.eq .bool true (.t 61) (.t 63)),
 zi 65 (.mov (.t 64)),
 zg 66 65 false (.load 3 true (.t 22)),
 zg 67 65 false (.call fid_head_Put [(.t 66)]),
 ⟨some 69, .load 3 true (.t 22), (some (65, false)), some (2, 3)⟩,
 zg 70 65 false (.call fid_archipelagoref18_Put [(.t 69)]),
 ⟨some 68, .toStr (.t 67), (some (65, false)), some (3, 4)⟩,
 zg 71 65 false (.toStr (.t 70)),
 zg 72 65 false (.bin .neq (.t 68) (.t 71)),
 zi 73 (.pick (.t 65) (.c (.bool true)) (.t 72)),
 zi 74 (.mov (.t 73)),
 zg 75 74 false (.load 3 true (.t 22)),
 zg 76 74 false (.call fid_head_Blocks [(.t 75)]),
 ⟨some 77, .load 3 true (.t 22), (some (74, false)), some (4, 5)⟩,
 zg 78 74 false (.call fid_archipelagoref18_Blocks [(.t 77)]),
 zg 79 74 false (.bin .neq (.t 76) (.t 78)),
 zi 80 (.pick (.t 74) (.c (.bool true)) (.t 79)),
 zi 81 (.mov (.t 80)),
 zg 82 81 false (.load 3 true (.t 22)),
 zg 83 81 false (.mov (.t 4)),
 zg 84 81 false (.call fid_head_Size [(.t 82), (.t 83)]),
 ⟨some 85, .load 3 true (.t 22), (some (81, false)), some (6, 7)⟩,
 zg 86 81 false (.mov (.t 4)),
 zg 87 81 false (.call fid_archipelagoref18_Size [(.t 85), (.t 86)]),
 zg 88 81 false (.bin .neq (.t 84) (.t 87)),
 zi 89 (.pick (.t 81) (.c (.bool true)) (.t 88)),
 zi 90 (.mov (.t 89)),
 zg 91 90 false (.load 3 true (.t 22)),
 zg 92 90 false (.mov (.t 4)),
 zg 93 90 false (.bin .and (.t 92) (.c (.int .i64 7))),
 zg 94 90 false (.call fid_head_Size [(.t 91), (.t 93)]),
 ⟨some 95, .load 3 true (.t 22), (some (90, false)), some (8, 9)⟩,
 zg 96 90 false (.mov (.t 4)),
 zg 97 90 false (.bin .and (.t 96) (.c (.int .i64 7))),
 zg 98 90 false (.call fid_archipelagoref18_Size [(.t 95), (.t 97)]),
 zg 99 90 false (.bin .neq (.t 94) (.t 98)),
 zi 100 (.pick (.t 90) (.c (.bool true)) (.t 99))])
 (.cond (.t 100)
 (.seq (.reg [zi 18 (.mov (.c (.bool false)))])
 (.ret))
 (.skip)))))
 (.reg [zi 101 (.bin .add (.t 56) (.c (.int .i64 1))),
 zi 56 (.mov (.t 101))]))))
def archipelagolaw18_HeadTells_b1 : IC :=
  (.seq (.reg [zi 146 (.bin .lss (.t 145) (.t 144))])
 (.seq (.cond (.t 146)
 (.skip)
 (.exit 2))
 (.seq (.block 3
 (.seq (.reg [zi 147 (.iaddr 1 (.t 143) (.t 145)),
 zi 148 (.load 1 false (.t 147)),
 zi 26 (.mov (.t 148))])
 (.seq (.reg [zi 150 (.mov (.t 26)),
 zi 151 (.call fid_head_Read [(.t 150)]),
 zi 149 (.mov (.t 151)),
 zi 152 (.extract (.t 149) 0),
 zi 153 (.extract (.t 149) 1),
 zi 27 (.box (.c (.agg [(.int .u64 0), (.int .i64 0), (.int .i64 0)]))),
 zn (.store 3 (.t 27) (.t 152)),
 zi 28 (.mov (.t 153))])
 (.seq (.reg [zi 155 (.mov (.t 26)),
 zi 156 (.call fid_archipelagoref18_Read [(.t 155)]),
 zi 154 (.mov (.t 156)),
 zi 157 (.extract (.t 154) 0),
 zi 158 (.extract (.t 154) 1),
 zi 29 (.box (.c (.agg [(.int .u64 0), (.int .i64 0), (.int .i64 0)]))),
 zn (.store 3 (.t 29) (.t 157)),
 zi 30 (.mov (.t 158))])
 (.seq (.reg [zi 159 (.load 3 true (.t 27)),
 zi 160 (.load 3 true (.t 29)),
 zi 161 (.eq (.struct [.int, .int, .int]) true (.t 159) (.t 160)),
 zi 162 (.mov (.t 161)),
 zg 163 162 false (.mov (.t 28)),
 zg 164 162 false (.mov (.t 30)),
 zg 165 162 false (.bin .neq (.t 163) (.t 164)),
 zi 166 (.pick (.t 162) (.c (.bool true)) (.t 165))])
 (.cond (.t 166)
 (.seq (.reg [zi 18 (.mov (.c (.bool false)))])
 (.ret))
 (.skip)))))))
 (.reg [zi 167 (.bin .add (.t 145) (.c (.int .i64 1))),
 zi 145 (.mov (.t 167))]))))
def ir_archipelagolaw18_HeadTells : IFn :=
  { params := 9, results := [.tmp 18], body :=
  (.seq (.reg [zi 9 (.box (.t 0)),
 zi 18 (.mov (.c (.bool false)))])
 (.seq (.seq (.reg [zi 31 (.call fid_archipelagolaw18_known []),
 zi 32 (.un .not (.t 31))])
 (.cond (.t 32)
 (.seq (.reg [zi 18 (.mov (.c (.bool false)))])
 (.ret))
 (.skip)))
 (.seq (.seq (.reg [zi 33 (.mov (.t 5)),
 zi 34 (.len .sl (.t 33)),
 zi 35 (.bin .gtr (.t 34) (.c (.int .i64 60)))])
 (.cond (.t 35)
 (.seq (.reg [zi 18 (.mov (.c (.bool true)))])
 (.ret))
 (.skip)))
 (.seq (.reg [zi 36 (.mov (.t 1)),
 zi 37 (.bin .and (.t 36) (.c (.int .u64 8589934591))),
 zi 38 (.mov (.t 2)),
 zi 39 (.bin .and (.t 38) (.c (.int .i64 2097151))),
 zi 40 (.mov (.t 3)),
 zi 41 (.bin .and (.t 40) (.c (.int .i64 4294967295))),
 zi 42 (.build [(.int .u64 0), (.int .i64 0), (.int .i64 0)] [(0, 1, (.t 37)), (1, 1, (.t 39)), (2, 1, (.t 41))]),
 zi 19 (.box (.c (.agg [(.int .u64 0), (.int .i64 0), (.int .i64 0)]))),
 zn (.store 3 (.t 19) (.t 42))])
 (.seq (.reg [zi 43 (.mov (.t 1)),
 zi 44 (.bin .and (.t 43) (.c (.int .u64 255))),
 zi 45 (.mov (.t 2)),
 zi 46 (.bin .and (.t 45) (.c (.int .i64 7))),
 zi 47 (.bin .add (.t 46) (.c (.int .i64 1))),
 zi 48 (.mov (.t 3)),
 zi 49 (.bin .and (.t 48) (.c (.int .i64 31))),
 zi 50 (.build [(.int .u64 0), (.int .i64 0), (.int .i64 0)] [(0, 1, (.t 44)), (1, 1, (.t 47)), (2, 1, (.t 49))]),
 zi 20 (.box (.c (.agg [(.int .u64 0), (.int .i64 0), (.int .i64 0)]))),
 zn (.store 3 (.t 20) (.t 50))])
 (.seq (.seq (.reg [zi 51 (.load 3 true (.t 9)),
 zi 52 (.load 3 true (.t 19)),
 zi 53 (.load 3 true (.t 20)),
 zi 54 (.mkrow 3 3 [(.int .u64 0), (.int .i64 0), (.int .i64 0)] [(0, (.t 51)), (1, (.t 52)), (2, (.t 53))]),
 zi 55 (.len .sl (.t 54)),
 zi 56 (.mov (.c (.int .i64 0)))])
 (.block 0
 (.loop [4, 5, 6, 7, 8, 20, 54, 55, 56] archipelagolaw18_HeadTells_b0)))
 (.seq (.reg [zi 102 (.load 3 true (.t 20)),
 zi 103 (.call fid_archipelagoref18_Put [(.t 102)]),
 zi 23 (.mov (.t 103))])
 (.seq (.reg [zi 104 (.mov (.t 23)),
 zi 105 (.append 1 1 (.c .nils) (.t 104)),
 zi 24 (.mov (.t 105))])
 (.seq (.reg [zi 106 (.mov (.t 24)),
 zi 107 (.mov (.t 6)),
 zi 108 (.conv .i64 (.t 107)),
 zi 109 (.bin .rem (.t 108) (.c (.int .i64 24))),
 zi 110 (.mov (.t 7)),
 zi 111 (.iaddr 1 (.t 106) (.t 109)),
 zn (.store 1 (.t 111) (.t 110))])
 (.seq (.seq (.reg [zi 112 (.mov (.t 8))])
 (.cond (.t 112)
 (.regD [2, 3, 4, 5, 6, 7, 0, 1, 8] [zi 115 (.mov (.t 24)),
 zi 116 (.slice false 1 (.t 115) none (some (.c (.int .i64 20))) none),
 zi 117 (.mkrow 1 1 [.nils] [(0, (.t 116))]),
 zi 118 (.call fid_archipelagoref1_Sum [(.t 117)]),
 zi 119 (.conv .u64 (.t 118)),
 zi 120 (.call fid_archipelagoref1_Fixed [(.t 119), (.c (.int .i64 4))]),
 zi 113 (.mov (.t 24)),
 zi 114 (.slice false 1 (.t 113) (some (.c (.int .i64 20))) none none),
 zi 121 (.copy 1 (.t 114) (.t 120))])
 (.skip)))
 (.seq (.seq (.regD [3, 4, 5, 6, 7, 8, 9, 10, 16, 17, 18, 19, 20, 0, 1, 2, 11, 12, 13, 14, 15, 21, 22, 23] [zi 125 (.mov (.t 24)),
 zi 126 (.mov (.t 24)),
 zi 127 (.len .sl (.t 126)),
 zi 128 (.mov (.t 24)),
 zi 129 (.len .sl (.t 128)),
 zi 130 (.slice false 1 (.t 125) none (some (.t 127)) (some (.t 129))),
 zi 131 (.mov (.t 5)),
 zi 132 (.append 1 1 (.t 130) (.t 131)),
 zi 138 (.mkrow 1 4 [(.int .u8 0)] [(0, (.c (.int .u8 84))), (1, (.c (.int .u8 71))), (2, (.c (.int .u8 88))), (3, (.c (.int .u8 49)))]),
 ⟨some 139, .cvs (.t 138), none, some (0, 1)⟩,
 zi 140 (.appendz 1 1 [(.int .u8 0)] (.t 139) (.c (.int .i64 16))),
 zi 141 (.mov (.t 5)),
 zi 142 (.append 1 1 (.t 140) (.t 141)),
 zi 122 (.mov (.t 5)),
 zi 123 (.mov (.t 23)),
 zi 124 (.mov (.t 24)),
 zi 133 (.mov (.t 23)),
 zi 134 (.mov (.t 6)),
 zi 135 (.conv .i64 (.t 134)),
 zi 136 (.bin .rem (.t 135) (.c (.int .i64 25))),
 zi 137 (.slice false 1 (.t 133) none (some (.t 136)) none),
 zi 143 (.mkrow 1 6 [.nils] [(0, (.t 122)), (1, (.t 123)), (2, (.t 124)), (3, (.t 132)), (4, (.t 137)), (5, (.t 142))]),
 zi 144 (.len .sl (.t 143)),
 zi 145 (.mov (.c (.int .i64 0)))])
 (.block 2
 (.loop [143, 144, 145] archipelagolaw18_HeadTells_b1)))
 (.seq (.reg [zi 18 (.mov (.c (.bool true)))])
 (.ret))))))))))))) }
def archipelagolaw18_HeadShares_b0 : IC :=
  (.seq (.seq (.reg [zi 26 (.mov (.t 10)),
 zi 27 (.mov (.t 9)),
 zi 28 (.bin .lss (.t 26) (.t 27)),
 zi 29 (.mov (.t 28)),
 zg 30 29 true (.mov (.t 10)),
 zg 31 29 true (.bin .lss (.t 30) (.c (.int .i64 600))),
 zi 32 (.pick (.t 29) (.t 31) (.c (.bool false)))])
 (.cond (.t 32)
 (.skip)
 (.exit 0)))
 (.seq (.block 1
 (.seq (.reg [zi 35 (.load 3 true (.t 7)),
 zi 36 (.mov (.t 10)),
 zi 37 (.call fid_head_Size [(.t 35), (.t 36)]),
 zi 11 (.mov (.t 37))])
 (.seq (.seq (.reg [zi 38 (.mov (.t 11)),
 zi 39 (.bin .lss (.t 38) (.c (.int .i64 1))),
 zi 40 (.mov (.t 39)),
 zg 41 40 false (.mov (.t 11)),
 zg 42 40 false (.faddr 1 (.t 7)),
 zg 43 40 false (.load 1 false (.t 42)),
 zg 44 40 false (.bin .gtr (.t 41) (.t 43)),
 zi 45 (.pick (.t 40) (.c (.bool true)) (.t 44)),
 zi 46 (.mov (.t 45)),
 zg 47 46 false (.mov (.t 10)),
 zg 48 46 false (.mov (.t 9)),
 zg 49 46 false (.bin .sub (.t 48) (.c (.int .i64 1))),
 zg 50 46 false (.bin .lss (.t 47) (.t 49)),
 zg 51 46 false (.mov (.t 50)),
 zg 52 51 true (.mov (.t 11)),
 zg 53 51 true (.faddr 1 (.t 7)),
 zg 54 51 true (.load 1 false (.t 53)),
 zg 55 51 true (.bin .neq (.t 52) (.t 54)),
 zg 56 46 false (.pick (.t 51) (.t 55) (.c (.bool false))),
 zi 57 (.pick (.t 46) (.c (.bool true)) (.t 56))])
 (.cond (.t 57)
 (.seq (.reg [zi 6 (.mov (.c (.bool false)))])
 (.ret))
 (.skip)))
 (.reg [zi 58 (.mov (.t 8)),
 zi 59 (.mov (.t 11)),
 zi 60 (.bin .add (.t 58) (.t 59)),
 zi 8 (.mov (.t 60))]))))
 (.reg [zi 33 (.mov (.t 10)),
 zi 34 (.bin .add (.t 33) (.c (.int .i64 1))),
 zi 10 (.mov (.t 34))])))
def ir_archipelagolaw18_HeadShares : IFn :=
  { params := 3, results := [.tmp 6], body :=
  (.seq (.reg [zi 6 (.mov (.c (.bool false)))])
 (.seq (.seq (.reg [zi 12 (.call fid_archipelagolaw18_known []),
 zi 13 (.un .not (.t 12))])
 (.cond (.t 13)
 (.seq (.reg [zi 6 (.mov (.c (.bool false)))])
 (.ret))
 (.skip)))
 (.seq (.reg [zi 14 (.mov (.t 0)),
 zi 15 (.bin .and (.t 14) (.c (.int .u64 4294967295))),
 zi 16 (.mov (.t 1)),
 zi 17 (.bin .rem (.t 16) (.c (.int .u16 50))),
 zi 18 (.conv .i64 (.t 17)),
 zi 19 (.bin .add (.t 18) (.c (.int .i64 1))),
 zi 20 (.mov (.t 2)),
 zi 21 (.bin .rem (.t 20) (.c (.int .u16 500))),
 zi 22 (.conv .i64 (.t 21)),
 zi 23 (.build [(.int .u64 0), (.int .i64 0), (.int .i64 0)] [(0, 1, (.t 15)), (1, 1, (.t 19)), (2, 1, (.t 22))]),
 zi 7 (.box (.c (.agg [(.int .u64 0), (.int .i64 0), (.int .i64 0)]))),
 zn (.store 3 (.t 7) (.t 23))])
 (.seq (.reg [zi 8 (.mov (.c (.int .i64 0)))])
 (.seq (.reg [zi 24 (.load 3 true (.t 7)),
 zi 25 (.call fid_head_Blocks [(.t 24)]),
 zi 9 (.mov (.t 25))])
 (.seq (.seq (.reg [zi 10 (.mov (.c (.int .i64 0)))])
 (.block 0
 (.loop [7, 8, 9, 10] archipelagolaw18_HeadShares_b0)))
 (.seq (.reg [zi 61 (.mov (.t 8)),
 zi 62 (.faddr 2 (.t 7)),
 zi 63 (.load 1 false (.t 62)),
 zi 64 (.bin .eql (.t 61) (.t 63)),
 zi 65 (.mov (.t 64)),
 zg 66 65 true (.load 3 true (.t 7)),
 zg 67 65 true (.call fid_head_Size [(.t 66), (.c (.int .i64 (-1)))]),
 zg 68 65 true (.bin .eql (.t 67) (.c (.int .i64 0))),
 zi 69 (.pick (.t 65) (.t 68) (.c (.bool false))),
 zi 70 (.mov (.t 69)),
 zg 71 70 true (.load 3 true (.t 7)),
 zg 72 70 true (.mov (.t 9)),
 zg 73 70 true (.call fid_head_Size [(.t 71), (.t 72)]),
 zg 74 70 true (.bin .eql (.t 73) (.c (.int .i64 0))),
 zi 75 (.pick (.t 70) (.t 74) (.c (.bool false))),
 zi 6 (.mov (.t 75))])
 (.ret)))))))) }
def archipelagoref1_Flip_b0 : IC :=
  (.seq (.seq (.reg [zi 11 (.mov (.t 8)),
 zi 12 (.bin .lss (.t 11) (.c (.int .i64 32)))])
 (.cond (.t 12)
 (.skip)
 (.exit 0)))
 (.seq (.block 1
 (.seq (.reg [zi 15 (.mov (.t 2)),
 zi 16 (.mov (.t 8)),
 zi 17 (.bin .shr (.t 15) (.t 16)),
 zi 18 (.bin .and (.t 17) (.c (.int .u32 1))),
 zi 19 (.bin .eql (.t 18) (.c (.int .u32 1))),
 zi 20 (.mov (.t 19)),
 zg 21 20 true (.mov (.t 1)),
 zg 22 20 true (.mov (.t 8)),
 zg 23 20 true (.un .neg (.t 22)),
 zg 24 20 true (.bin .geq (.t 21) (.t 23)),
 zi 25 (.pick (.t 20) (.t 24) (.c (.bool false))),
 zi 26 (.mov (.t 25)),
 zg 27 26 true (.mov (.t 1)),
 zg 28 26 true (.mov (.t 0)),
 zg 29 26 true (.len .sl (.t 28)),
 zg 30 26 true (.bin .mul (.c (.int .i64 8)) (.t 29)),
 zg 31 26 true (.mov (.t 8)),
 zg 32 26 true (.bin .sub (.t 30) (.t 31)),
 zg 33 26 true (.bin .lss (.t 27) (.t 32)),
 zi 34 (.pick (.t 26) (.t 33) (.c (.bool false)))])
 (.cond (.t 34)
 (.regD [0, 1, 2, 3, 4, 5, 6, 7, 8, 9, 10, 11, 12, 13, 14] [zi 35 (.mov (.t 7)),
 zi 36 (.mov (.t 1)),
 zi 37 (.mov (.t 8)),
 zi 38 (.bin .add (.t 36) (.t 37)),
 zi 39 (.bin .quo (.t 38) (.c (.int .i64 8))),
 zi 40 (.iaddr 1 (.t 35) (.t 39)),
 zi 41 (.load 1 false (.t 40)),
 zi 42 (.mov (.t 1)),
 zi 43 (.mov (.t 8)),
 zi 44 (.bin .add (.t 42) (.t 43)),
 zi 45 (.bin .rem (.t 44) (.c (.int .i64 8))),
 zi 46 (.bin .shl (.c (.int .u8 1)) (.t 45)),
 zi 47 (.bin .xor (.t 41) (.t 46)),
 zi 48 (.iaddr 1 (.t 35) (.t 39)),
 zn (.store 1 (.t 48) (.t 47))])
 (.skip))))
 (.reg [zi 13 (.mov (.t 8)),
 zi 14 (.bin .add (.t 13) (.c (.int .i64 1))),
 zi 8 (.mov (.t 14))])))
def ir_archipelagoref1_Flip : IFn :=
  { params := 3, results := [.tmp 6], body :=
  (.seq (.reg [zi 6 (.mov (.c .nils))])
 (.seq (.reg [zi 9 (.mov (.t 0)),
 zi 10 (.append 1 1 (.c .nils) (.t 9)),
 zi 7 (.mov (.t 10))])
 (.seq (.seq (.reg [zi 8 (.mov (.c (.int .i64 0)))])
 (.block 0
 (.loop [0, 1, 2, 7, 8] archipelagoref1_Flip_b0)))
 (.seq (.reg [zi 49 (.mov (.t 7)),
 zi 6 (.mov (.t 49))])
 (.ret))))) }
def ir_archipelagolaw18_HeadBursts : IFn :=
  { params := 5, results := [.tmp 10], body :=
  (.seq (.reg [zi 10 (.mov (.c (.bool false)))])
 (.seq (.seq (.reg [zi 16 (.call fid_archipelagolaw18_known []),
 zi 17 (.un .not (.t 16))])
 (.cond (.t 17)
 (.seq (.reg [zi 10 (.mov (.c (.bool false)))])
 (.ret))
 (.skip)))
 (.seq (.reg [zi 18 (.mov (.t 0)),
 zi 19 (.bin .and (.t 18) (.c (.int .u64 4294967295))),
 zi 20 (.mov (.t 1)),
 zi 21 (.conv .i64 (.t 20)),
 zi 22 (.bin .add (.t 21) (.c (.int .i64 1))),
 zi 23 (.mov (.t 2)),
 zi 24 (.bin .and (.t 23) (.c (.int .u32 2147483647))),
 zi 25 (.conv .i64 (.t 24)),
 zi 26 (.build [(.int .u64 0), (.int .i64 0), (.int .i64 0)] [(0, 1, (.t 19)), (1, 1, (.t 22)), (2, 1, (.t 25))]),
 zi 11 (.box (.c (.agg [(.int .u64 0), (.int .i64 0), (.int .i64 0)]))),
 zn (.store 3 (.t 11) (.t 26))])
 (.seq (.reg [zi 27 (.load 3 true (.t 11)),
 zi 28 (.call fid_head_Put [(.t 27)]),
 zi 12 (.mov (.t 28))])
 (.seq (.seq (.reg [zi 29 (.mov (.t 12)),
 zi 30 (.len .sl (.t 29)),
 zi 31 (.bin .neq (.t 30) (.c (.int .i64 24)))])
 (.cond (.t 31)
 (.seq (.reg [zi 10 (.mov (.c (.bool false)))])
 (.ret))
 (.skip)))
 (.seq (.reg [zi 32 (.mov (.t 12)),
 zi 33 (.mov (.t 3)),
 zi 34 (.conv .i64 (.t 33)),
 zi 35 (.bin .rem (.t 34) (.c (.int .i64 192))),
 zi 36 (.mov (.t 4)),
 zi 37 (.call fid_archipelagoref1_Flip [(.t 32), (.t 35), (.t 36)]),
 zi 13 (.mov (.t 37))])
 (.seq (.reg [zi 39 (.mov (.t 13)),
 zi 40 (.call fid_head_Read [(.t 39)]),
 zi 38 (.mov (.t 40)),
 zi 41 (.extract (.t 38) 0),
 zi 42 (.extract (.t 38) 1),
 zi 14 (.box (.c (.agg [(.int .u64 0), (.int .i64 0), (.int .i64 0)]))),
 zn (.store 3 (.t 14) (.t 41)),
 zi 15 (.mov (.t 42))])
 (.seq (.seq (.reg [zi 43 (.mov (.t 13)),
 zi 44 (.toStr (.t 43)),
 zi 45 (.mov (.t 12)),
 zi 46 (.toStr (.t 45)),
 zi 47 (.bin .eql (.t 44) (.t 46))])
 (.cond (.t 47)
 (.seq (.reg [zi 48 (.mov (.t 15)),
 zi 49 (.bin .eql (.t 48) (.c (.int .i64 0))),
 zi 50 (.mov (.t 49)),
 zg 51 50 true (.load 3 true (.t 14)),
 zg 52 50 true (.load 3 true (.t 11)),
 zg 53 50 true (.eq (.struct [.int, .int, .int]) false (.t 51) (.t 52)),
 zi 54 (.pick (.t 50) (.t 53) (.c (.bool false))),
 zi 10 (.mov (.t 54))])
 (.ret))
 (.skip)))
 (.seq (.reg [zi 55 (.mov (.t 15)),
 zi 56 (.bin .neq (.t 55) (.c (.int .i64 0))),
 zi 57 (.mov (.t 56)),
 zg 58 57 true (.load 3 true (.t 14)),
 zg 59 57 true (.build [(.int .u64 0), (.int .i64 0), (.int .i64 0)] []),
 zg 60 57 true (.eq (.struct [.int, .int, .int]) false (.t 58) (.t 59)),
 zi 61 (.pick (.t 57) (.t 60) (.c (.bool false))),
 zi 10 (.mov (.t 61))])
 (.ret)))))))))) }
def ir_archipelagolaw18_HeadErrors : IFn :=
  { params := 6, results := [.tmp 12], body :=
  (.seq (.reg [zi 12 (.mov (.c (.bool false)))])
 (.seq (.seq (.reg [zi 19 (.call fid_archipelagolaw18_known []),
 zi 20 (.un .not (.t 19))])
 (.cond (.t 20)
 (.seq (.reg [zi 12 (.mov (.c (.bool false)))])
 (.ret))
 (.skip)))
 (.seq (.reg [zi 21 (.mkrow 1 4 [(.int .u8 0)] [(0, (.c (.int .u8 84))), (1, (.c (.int .u8 71))), (2, (.c (.int .u8 88))), (3, (.c (.int .u8 49)))]),
 zi 22 (.cvs (.t 21)),
 zi 23 (.mov (.t 0)),
 zi 24 (.call fid_archipelagoref1_Fixed [(.t 23), (.c (.int .i64 8))]),
 zi 25 (.append 1 1 (.t 22) (.t 24)),
 zi 13 (.mov (.t 25))])
 (.seq (.reg [zi 26 (.mov (.t 13)),
 zi 27 (.mov (.t 1)),
 zi 28 (.conv .u64 (.t 27)),
 zi 29 (.call fid_archipelagoref1_Fixed [(.t 28), (.c (.int .i64 4))]),
 zi 30 (.append 1 1 (.t 26) (.t 29)),
 zi 31 (.mov (.t 2)),
 zi 32 (.conv .u64 (.t 31)),
 zi 33 (.call fid_archipelagoref1_Fixed [(.t 32), (.c (.int .i64 4))]),
 zi 34 (.append 1 1 (.t 30) (.t 33)),
 zi 13 (.mov (.t 34))])
 (.seq (.seq (.reg [zi 35 (.mov (.t 3))])
 (.cond (.t 35)
 (.reg [zi 36 (.mov (.t 13)),
 zi 37 (.iaddr 1 (.t 36) (.c (.int .i64 3))),
 zn (.store 1 (.t 37) (.c (.int .u8 50)))])
 (.skip)))
 (.seq (.reg [zi 38 (.mov (.t 13)),
 zi 39 (.call fid_archipelagoref1_Seal [(.t 38)]),
 zi 13 (.mov (.t 39))])
 (.seq (.seq (.reg [zi 40 (.mov (.t 4))])
 (.cond (.t 40)
 (.reg [zi 41 (.mov (.t 13)),
 zi 42 (.iaddr 1 (.t 41) (.c (.int .i64 20))),
 zi 43 (.load 1 false (.t 42)),
 zi 44 (.bin .add (.t 43) (.c (.int .u8 1))),
 zi 45 (.iaddr 1 (.t 41) (.c (.int .i64 20))),
 zn (.store 1 (.t 45) (.t 44))])
 (.skip)))
 (.seq (.reg [zi 47 (.mov (.t 13)),
 zi 48 (.call fid_head_Read [(.t 47)]),
 zi 46 (.mov (.t 48)),
 zi 49 (.extract (.t 46) 0),
 zi 50 (.extract (.t 46) 1),
 zi 14 (.box (.c (.agg [(.int .u64 0), (.int .i64 0), (.int .i64 0)]))),
 zn (.store 3 (.t 14) (.t 49)),
 zi 15 (.mov (.t 50))])
 (.seq (.reg [zi 52 (.mov (.t 13)),
 zi 53 (.mov (.t 5)),
 zi 54 (.conv .i64 (.t 53)),
 zi 55 (.bin .rem (.t 54) (.c (.int .i64 24))),
 zi 56 (.slice false 1 (.t 52) none (some (.t 55)) none),
 zi 57 (.call fid_head_Read [(.t 56)]),
 zi 51 (.mov (.t 57)),
 zi 58 (.extract (.t 51) 0),
 zi 59 (.extract (.t 51) 1),
 zi 16 (.box (.c (.agg [(.int .u64 0), (.int .i64 0), (.int .i64 0)]))),
 zn (.store 3 (.t 16) (.t 58)),
 zi 17 (.mov (.t 59))])
 (.seq (.reg [zi 18 (.mov (.c (.int .i64 0)))])
 (.seq (.block 0
 (.seq (.reg [zi 61 (.mov (.t 3)),
 zi 60 (.mov (.t 61))])
 (.cond (.t 60)
 (.reg [zi 18 (.mov (.c (.int .i64 27)))])
 (.seq (.reg [zi 63 (.mov (.t 4)),
 zi 62 (.mov (.t 63))])
 (.cond (.t 62)
 (.reg [zi 18 (.mov (.c (.int .i64 28)))])
 (.seq (.reg [zi 65 (.mov (.t 0)),
 zi 66 (.bin .gtr (.t 65) (.c (.int .u64 4294967296))),
 zi 67 (.mov (.t 66)),
 zg 68 67 false (.mov (.t 1)),
 zg 69 67 false (.bin .lss (.t 68) (.c (.int .u32 1))),
 zi 70 (.pick (.t 67) (.c (.bool true)) (.t 69)),
 zi 71 (.mov (.t 70)),
 zg 72 71 false (.mov (.t 1)),
 zg 73 71 false (.bin .gtr (.t 72) (.c (.int .u32 1048576))),
 zi 74 (.pick (.t 71) (.c (.bool true)) (.t 73)),
 zi 75 (.mov (.t 74)),
 zg 76 75 false (.mov (.t 2)),
 zg 77 75 false (.bin .gtr (.t 76) (.c (.int .u32 2147483648))),
 zi 78 (.pick (.t 75) (.c (.bool true)) (.t 77)),
 zi 64 (.mov (.t 78))])
 (.cond (.t 64)
 (.reg [zi 18 (.mov (.c (.int .i64 26)))])
 (.skip))))))))
 (.seq (.reg [zi 79 (.mov (.t 15)),
 zi 80 (.mov (.t 18)),
 zi 81 (.bin .eql (.t 79) (.t 80)),
 zi 82 (.mov (.t 81)),
 zg 83 82 true (.mov (.t 18)),
 zg 84 82 true (.bin .neq (.t 83) (.c (.int .i64 0))),
 zg 85 82 true (.mov (.t 84)),
 zg 86 85 false (.load 3 true (.t 14)),
 zg 87 85 false (.mov (.t 0)),
 zg 88 85 false (.mov (.t 1)),
 zg 89 85 false (.conv .i64 (.t 88)),
 zg 90 85 false (.mov (.t 2)),
 zg 91 85 false (.conv .i64 (.t 90)),
 zg 92 85 false (.build [(.int .u64 0), (.int .i64 0), (.int .i64 0)] [(0, 1, (.t 87)), (1, 1, (.t 89)), (2, 1, (.t 91))]),
 zg 93 85 false (.eq (.struct [.int, .int, .int]) false (.t 86) (.t 92)),
 zg 94 82 true (.pick (.t 85) (.c (.bool true)) (.t 93)),
 zi 95 (.pick (.t 82) (.t 94) (.c (.bool false))),
 zi 96 (.mov (.t 95)),
 zg 97 96 true (.mov (.t 17)),
 zg 98 96 true (.bin .eql (.t 97) (.c (.int .i64 20))),
 zi 99 (.pick (.t 96) (.t 98) (.c (.bool false))),
 zi 12 (.mov (.t 99))])
 (.ret))))))))))))) }
def ir_archipelagolaw18_HeadMost : IFn :=
  { params := 2, results := [.tmp 4], body :=
  (.seq (.reg [zi 4 (.mov (.c (.bool false)))])
 (.seq (.seq (.reg [zi 10 (.call fid_archipelagolaw18_known []),
 zi 11 (.un .not (.t 10))])
 (.cond (.t 11)
 (.seq (.reg [zi 4 (.mov (.c (.bool false)))])
 (.ret))
 (.skip)))
 (.seq (.reg [zi 12 (.build [(.int .u64 0), (.int .i64 0), (.int .i64 0)] [(0, 1, (.c (.int .u64 5))), (1, 1, (.c (.int .i64 7))), (2, 1, (.c (.int .i64 9)))]),
 zi 5 (.box (.c (.agg [(.int .u64 0), (.int .i64 0), (.int .i64 0)]))),
 zn (.store 3 (.t 5) (.t 12))])
 (.seq (.reg [zi 6 (.mov (.c (.int .i64 0)))])
 (.seq (.seq (.reg [zi 13 (.mov (.t 1))])
 (.cond (.t 13)
 (.reg [zi 6 (.mov (.c (.int .i64 1)))])
 (.skip)))
 (.seq (.seq (.reg [zi 14 (.mov (.t 0)),
 zi 15 (.bin .rem (.t 14) (.c (.int .u8 5)))])
 (.block 0
 (.seq (.reg [zi 20 (.bin .eql (.t 15) (.c (.int .u8 0))),
 zi 19 (.mov (.t 20))])
 (.cond (.t 19)
 (.reg [zi 21 (.mov (.t 6)),
 zi 22 (.conv .u64 (.t 21)),
 zi 23 (.bin .add (.c (.int .u64 4294967296)) (.t 22)),
 zi 24 (.faddr 0 (.t 5)),
 zn (.store 1 (.t 24) (.t 23))])
 (.seq (.reg [zi 26 (.bin .eql (.t 15) (.c (.int .u8 1))),
 zi 25 (.mov (.t 26))])
 (.cond (.t 25)
 (.reg [zi 27 (.mov (.t 6)),
 zi 28 (.bin .add (.c (.int .i64 1048576)) (.t 27)),
 zi 29 (.faddr 1 (.t 5)),
 zn (.store 1 (.t 29) (.t 28))])
 (.seq (.reg [zi 31 (.bin .eql (.t 15) (.c (.int .u8 2))),
 zi 30 (.mov (.t 31))])
 (.cond (.t 30)
 (.reg [zi 32 (.mov (.t 6)),
 zi 33 (.bin .sub (.c (.int .i64 1)) (.t 32)),
 zi 34 (.faddr 1 (.t 5)),
 zn (.store 1 (.t 34) (.t 33))])
 (.seq (.reg [zi 36 (.bin .eql (.t 15) (.c (.int .u8 3))),
 zi 35 (.mov (.t 36))])
 (.cond (.t 35)
 (.reg [zi 37 (.mov (.t 6)),
 zi 38 (.bin .add (.c (.int .i64 2147483648)) (.t 37)),
 zi 39 (.faddr 2 (.t 5)),
 zn (.store 1 (.t 39) (.t 38))])
 (.reg [zi 16 (.mov (.t 6)),
 zi 17 (.un .neg (.t 16)),
 zi 18 (.faddr 2 (.t 5)),
 zn (.store 1 (.t 18) (.t 17))])))))))))))
 (.seq (.reg [zi 40 (.load 3 true (.t 5)),
 zi 41 (.call fid_head_Put [(.t 40)]),
 zi 7 (.mov (.t 41))])
 (.seq (.seq (.reg [zi 42 (.mov (.t 1))])
 (.cond (.t 42)
 (.seq (.reg [zi 43 (.load 3 true (.t 5)),
 zi 44 (.call fid_head_Right [(.t 43)]),
 zi 45 (.un .not (.t 44)),
 zi 46 (.mov (.t 45)),
 zg 47 46 true (.mov (.t 7)),
 zg 48 46 true (.len .sl (.t 47)),
 zg 49 46 true (.bin .eql (.t 48) (.c (.int .i64 0))),
 zi 50 (.pick (.t 46) (.t 49) (.c (.bool false))),
 zi 51 (.mov (.t 50)),
 zg 52 51 true (.load 3 true (.t 5)),
 zg 53 51 true (.call fid_head_Blocks [(.t 52)]),
 zg 54 51 true (.bin .eql (.t 53) (.c (.int .i64 0))),
 zi 55 (.pick (.t 51) (.t 54) (.c (.bool false))),
 zi 56 (.mov (.t 55)),
 zg 57 56 true (.load 3 true (.t 5)),
 zg 58 56 true (.call fid_head_Size [(.t 57), (.c (.int .i64 0))]),
 zg 59 56 true (.bin .eql (.t 58) (.c (.int .i64 0))),
 zi 60 (.pick (.t 56) (.t 59) (.c (.bool false))),
 zi 4 (.mov (.t 60))])
 (.ret))
 (.skip)))
 (.seq (.reg [zi 62 (.mov (.t 7)),
 zi 63 (.call fid_head_Read [(.t 62)]),
 zi 61 (.mov (.t 63)),
 zi 64 (.extract (.t 61) 0),
 zi 65 (.extract (.t 61) 1),
 zi 8 (.box (.c (.agg [(.int .u64 0), (.int .i64 0), (.int .i64 0)]))),
 zn (.store 3 (.t 8) (.t 64)),
 zi 9 (.mov (.t 65))])
 (.seq (.regD [0, 1, 2, 3, 4, 5, 6, 7, 8, 9, 10, 11, 12, 13, 14, 15, 16, 17, 18, 19, 20, 21, 22, 23, 24, 25] [zi 66 (.load 3 true (.t 5)),
 zi 67 (.call fid_head_Right [(.t 66)]),
 zi 68 (.mov (.t 67)),
 zg 69 68 true (.mov (.t 9)),
 zg 70 68 true (.bin .eql (.t 69) (.c (.int .i64 0))),
 zi 71 (.pick (.t 68) (.t 70) (.c (.bool false))),
 zi 72 (.mov (.t 71)),
 zg 73 72 true (.load 3 true (.t 8)),
 zg 74 72 true (.load 3 true (.t 5)),
 zg 75 72 true (.eq (.struct [.int, .int, .int]) false (.t 73) (.t 74)),
 zi 76 (.pick (.t 72) (.t 75) (.c (.bool false))),
 zi 77 (.mov (.t 76)),
 zg 78 77 true (.load 3 true (.t 5)),
 zg 79 77 true (.call fid_head_Blocks [(.t 78)]),
 zg 80 77 true (.faddr 2 (.t 5)),
 ⟨some 81, .load 1 false (.t 80), (some (77, true)), some (1, 2)⟩,
 zg 82 77 true (.faddr 1 (.t 5)),
 ⟨some 83, .load 1 false (.t 82), (some (77, true)), some (1, 2)⟩,
 zg 84 77 true (.bin .add (.t 81) (.t 83)),
 zg 85 77 true (.bin .sub (.t 84) (.c (.int .i64 1))),
 zg 86 77 true (.faddr 1 (.t 5)),
 ⟨some 87, .load 1 false (.t 86), (some (77, true)), some (1, 2)⟩,
 zg 88 77 true (.bin .quo (.t 85) (.t 87)),
 zg 89 77 true (.bin .eql (.t 79) (.t 88)),
 zi 90 (.pick (.t 77) (.t 89) (.c (.bool false))),
 zi 4 (.mov (.t 90))])
 (.ret))))))))))) }
end Go.Ab
