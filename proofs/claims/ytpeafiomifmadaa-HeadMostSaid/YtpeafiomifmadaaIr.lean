/- The functions as the abstract machine has them (printed by wip/irgen.py). -/
import Derived.Test.YtpeafiomifmadaaAbs1
namespace Go.Ab
open Go
def fid_archipelagolaw18_HeadTells : Nat := 3
def fid_archipelagolaw18_HeadShares : Nat := 4
def fid_archipelagolaw18_HeadBursts : Nat := 5
def fid_archipelagolaw18_HeadErrors : Nat := 6
def fid_archipelagolaw18_HeadMost : Nat := 7
def fid_archipelagolaw18_known : Nat := 8
def fid_head_Right : Nat := 9
def fid_head_Put : Nat := 11
def fid_head_Blocks : Nat := 13
def fid_head_Size : Nat := 15
def fid_archipelagoref1_Fixed : Nat := 17
def fid_archipelagoref1_Sum : Nat := 18
def fid_head_Read : Nat := 19
def fid_archipelagoref1_Flip : Nat := 21
def fid_archipelagoref1_Seal : Nat := 22
def fid_head_put : Nat := 23
def fid_crc_Seal : Nat := 24
def fid_archipelagoref1_Next : Nat := 25
def fid_crc_Open : Nat := 26
def fid_head_take : Nat := 27
def fid_slices_Clone_byte_byte : Nat := 30
def fid_crc_Sum : Nat := 31
def fid_slices_Equal_byte_byte : Nat := 32
def fid_crc_step : Nat := 33
def ir_head_Right : IFn :=
  { params := 1, results := [.tmp 2], body :=
  (.seq (.reg [⟨some 1, .box (.t 0), none, none⟩,
      ⟨some 2, .mov (.c (.bool false)), none, none⟩])
  (.seq (.reg [⟨some 3, .faddr 0 (.t 1), none, none⟩,
      ⟨some 4, .load 1 false (.t 3), none, none⟩,
      ⟨some 5, .bin .leq (.t 4) (.c (.int .u64 4294967296)), none, none⟩,
      ⟨some 6, .mov (.t 5), none, none⟩,
      ⟨some 7, .faddr 1 (.t 1), (some (6, true)), none⟩,
      ⟨some 8, .load 1 false (.t 7), (some (6, true)), none⟩,
      ⟨some 9, .bin .geq (.t 8) (.c (.int .i64 1)), (some (6, true)), none⟩,
      ⟨some 10, .pick (.t 6) (.t 9) (.c (.bool false)), none, none⟩,
      ⟨some 11, .mov (.t 10), none, none⟩,
      ⟨some 12, .faddr 1 (.t 1), (some (11, true)), none⟩,
      ⟨some 13, .load 1 false (.t 12), (some (11, true)), none⟩,
      ⟨some 14, .bin .leq (.t 13) (.c (.int .i64 1048576)), (some (11, true)), none⟩,
      ⟨some 15, .pick (.t 11) (.t 14) (.c (.bool false)), none, none⟩,
      ⟨some 16, .mov (.t 15), none, none⟩,
      ⟨some 17, .faddr 2 (.t 1), (some (16, true)), none⟩,
      ⟨some 18, .load 1 false (.t 17), (some (16, true)), none⟩,
      ⟨some 19, .bin .geq (.t 18) (.c (.int .i64 0)), (some (16, true)), none⟩,
      ⟨some 20, .pick (.t 16) (.t 19) (.c (.bool false)), none, none⟩,
      ⟨some 21, .mov (.t 20), none, none⟩,
      ⟨some 22, .faddr 2 (.t 1), (some (21, true)), none⟩,
      ⟨some 23, .load 1 false (.t 22), (some (21, true)), none⟩,
      ⟨some 24, .bin .leq (.t 23) (.c (.int .i64 2147483648)), (some (21, true)), none⟩,
      ⟨some 25, .pick (.t 21) (.t 24) (.c (.bool false)), none, none⟩,
      ⟨some 2, .mov (.t 25), none, none⟩])
  (.ret))) }
def head_put_b0 : IC :=
  (.seq (.reg [⟨some 8, .bin .lss (.t 7) (.t 6), none, none⟩])
  (.seq (.cond (.t 8)
  (.skip)
  (.exit 0))
  (.seq (.block 1
  (.seq (.reg [⟨some 9, .mov (.t 5), none, none⟩,
        ⟨some 10, .mov (.t 0), none, none⟩,
        ⟨some 11, .conv .u8 (.t 10), none, none⟩,
        ⟨some 12, .mkrow 1 1 [(.int .u8 0)] [(0, (.t 11))], none, none⟩,
        ⟨some 13, .append 1 1 (.t 9) (.t 12), none, none⟩,
        ⟨some 5, .mov (.t 13), none, none⟩])
    (.reg [⟨some 14, .mov (.t 0), none, none⟩,
        ⟨some 15, .bin .shr (.t 14) (.c (.int .u64 8)), none, none⟩,
        ⟨some 0, .mov (.t 15), none, none⟩])))
  (.reg [⟨some 16, .bin .add (.t 7) (.c (.int .i64 1)), none, none⟩,
      ⟨some 7, .mov (.t 16), none, none⟩]))))
def ir_head_put : IFn :=
  { params := 2, results := [.tmp 4], body :=
  (.seq (.reg [⟨some 4, .mov (.c .nils), none, none⟩])
  (.seq (.reg [⟨some 5, .mov (.c .nils), none, none⟩])
  (.seq (.seq (.reg [⟨some 6, .mov (.t 1), none, none⟩,
      ⟨some 7, .mov (.c (.int .i64 0)), none, none⟩])
  (.block 0
  (.loop [0, 5, 6, 7] head_put_b0)))
  (.seq (.reg [⟨some 17, .mov (.t 5), none, none⟩,
      ⟨some 4, .mov (.t 17), none, none⟩])
  (.ret))))) }
def ir_slices_Clone_byte_byte : IFn :=
  { params := 1, results := [.tmp 2], body :=
  (.seq (.reg [⟨some 2, .mov (.c .nils), none, none⟩])
  (.seq (.seq (.reg [⟨some 3, .mov (.t 0), none, none⟩,
      ⟨some 4, .eq .slice false (.t 3) (.c .nils), none, none⟩])
  (.cond (.t 4)
  (.seq (.reg [⟨some 2, .mov (.c .nils), none, none⟩])
    (.ret))
  (.skip)))
  (.seq (.reg [⟨some 5, .mkrow 1 0 [(.int .u8 0)] [], none, none⟩,
      ⟨some 6, .mov (.t 0), none, none⟩,
      ⟨some 7, .append 1 1 (.t 5) (.t 6), none, none⟩,
      ⟨some 2, .mov (.t 7), none, none⟩])
  (.ret)))) }
def crc_step_b0 : IC :=
  (.seq (.reg [⟨some 10, .bin .lss (.t 9) (.c (.int .i64 8)), none, none⟩])
  (.seq (.cond (.t 10)
  (.skip)
  (.exit 0))
  (.seq (.block 1
  (.seq (.reg [⟨some 11, .mov (.t 0), none, none⟩,
        ⟨some 12, .bin .and (.t 11) (.c (.int .u32 1)), none, none⟩,
        ⟨some 13, .bin .eql (.t 12) (.c (.int .u32 1)), none, none⟩])
    (.cond (.t 13)
    (.reg [⟨some 14, .mov (.t 0), none, none⟩,
          ⟨some 15, .bin .shr (.t 14) (.c (.int .u64 1)), none, none⟩,
          ⟨some 16, .bin .xor (.t 15) (.c (.int .u32 3988292384)), none, none⟩,
          ⟨some 0, .mov (.t 16), none, none⟩])
    (.reg [⟨some 17, .mov (.t 0), none, none⟩,
          ⟨some 18, .bin .shr (.t 17) (.c (.int .u64 1)), none, none⟩,
          ⟨some 0, .mov (.t 18), none, none⟩]))))
  (.reg [⟨some 19, .bin .add (.t 9) (.c (.int .i64 1)), none, none⟩,
      ⟨some 9, .mov (.t 19), none, none⟩]))))
def ir_crc_step : IFn :=
  { params := 2, results := [.tmp 4], body :=
  (.seq (.reg [⟨some 4, .mov (.c (.int .u32 0)), none, none⟩])
  (.seq (.reg [⟨some 5, .mov (.t 0), none, none⟩,
      ⟨some 6, .mov (.t 1), none, none⟩,
      ⟨some 7, .conv .u32 (.t 6), none, none⟩,
      ⟨some 8, .bin .xor (.t 5) (.t 7), none, none⟩,
      ⟨some 0, .mov (.t 8), none, none⟩])
  (.seq (.seq (.reg [⟨some 9, .mov (.c (.int .i64 0)), none, none⟩])
  (.block 0
  (.loop [0, 9] crc_step_b0)))
  (.seq (.reg [⟨some 20, .mov (.t 0), none, none⟩,
      ⟨some 4, .mov (.t 20), none, none⟩])
  (.ret))))) }
def crc_Sum_b0 : IC :=
  (.seq (.reg [⟨some 17, .bin .lss (.t 16) (.t 15), none, none⟩])
  (.seq (.cond (.t 17)
  (.skip)
  (.exit 2))
  (.seq (.block 3
  (.seq (.reg [⟨some 18, .iaddr 1 (.t 14) (.t 16), none, none⟩,
        ⟨some 19, .load 1 false (.t 18), none, none⟩,
        ⟨some 7, .mov (.t 19), none, none⟩])
    (.reg [⟨some 20, .mov (.t 3), none, none⟩,
        ⟨some 21, .mov (.t 7), none, none⟩,
        ⟨some 22, .call fid_crc_step [(.t 20), (.t 21)], none, none⟩,
        ⟨some 3, .mov (.t 22), none, none⟩])))
  (.reg [⟨some 23, .bin .add (.t 16) (.c (.int .i64 1)), none, none⟩,
      ⟨some 16, .mov (.t 23), none, none⟩]))))
def crc_Sum_b1 : IC :=
  (.seq (.reg [⟨some 11, .bin .lss (.t 10) (.t 9), none, none⟩])
  (.seq (.cond (.t 11)
  (.skip)
  (.exit 0))
  (.seq (.block 1
  (.seq (.reg [⟨some 12, .iaddr 1 (.t 8) (.t 10), none, none⟩,
        ⟨some 13, .load 1 false (.t 12), none, none⟩,
        ⟨some 5, .mov (.t 13), none, none⟩])
    (.seq (.reg [⟨some 14, .mov (.t 5), none, none⟩,
        ⟨some 15, .len .sl (.t 14), none, none⟩,
        ⟨some 16, .mov (.c (.int .i64 0)), none, none⟩])
    (.block 2
    (.loop [3, 8, 9, 10, 14, 15, 16] crc_Sum_b0)))))
  (.reg [⟨some 24, .bin .add (.t 10) (.c (.int .i64 1)), none, none⟩,
      ⟨some 10, .mov (.t 24), none, none⟩]))))
def ir_crc_Sum : IFn :=
  { params := 1, results := [.tmp 2], body :=
  (.seq (.reg [⟨some 2, .mov (.c (.int .u32 0)), none, none⟩])
  (.seq (.reg [⟨some 3, .mov (.c (.int .u32 4294967295)), none, none⟩])
  (.seq (.seq (.reg [⟨some 8, .mov (.t 0), none, none⟩,
      ⟨some 9, .len .sl (.t 8), none, none⟩,
      ⟨some 10, .mov (.c (.int .i64 0)), none, none⟩])
  (.block 0
  (.loop [3, 8, 9, 10] crc_Sum_b1)))
  (.seq (.reg [⟨some 25, .mov (.t 3), none, none⟩,
      ⟨some 26, .un .xor (.t 25), none, none⟩,
      ⟨some 2, .mov (.t 26), none, none⟩])
  (.ret))))) }
def crc_Seal_b0 : IC :=
  (.seq (.reg [⟨some 11, .bin .lss (.t 10) (.c (.int .i64 4)), none, none⟩])
  (.seq (.cond (.t 11)
  (.skip)
  (.exit 0))
  (.seq (.block 1
  (.seq (.reg [⟨some 12, .mov (.t 3), none, none⟩,
        ⟨some 13, .mov (.t 4), none, none⟩,
        ⟨some 14, .conv .u8 (.t 13), none, none⟩,
        ⟨some 15, .mkrow 1 1 [(.int .u8 0)] [(0, (.t 14))], none, none⟩,
        ⟨some 16, .append 1 1 (.t 12) (.t 15), none, none⟩,
        ⟨some 3, .mov (.t 16), none, none⟩])
    (.reg [⟨some 17, .mov (.t 4), none, none⟩,
        ⟨some 18, .bin .shr (.t 17) (.c (.int .u64 8)), none, none⟩,
        ⟨some 4, .mov (.t 18), none, none⟩])))
  (.reg [⟨some 19, .bin .add (.t 10) (.c (.int .i64 1)), none, none⟩,
      ⟨some 10, .mov (.t 19), none, none⟩]))))
def ir_crc_Seal : IFn :=
  { params := 1, results := [.tmp 2], body :=
  (.seq (.reg [⟨some 2, .mov (.c .nils), none, none⟩])
  (.seq (.reg [⟨some 5, .mov (.t 0), none, none⟩,
      ⟨some 6, .call fid_slices_Clone_byte_byte [(.t 5)], none, none⟩,
      ⟨some 7, .mov (.t 0), none, none⟩,
      ⟨some 8, .mkrow 1 1 [.nils] [(0, (.t 7))], none, none⟩,
      ⟨some 9, .call fid_crc_Sum [(.t 8)], none, none⟩,
      ⟨some 3, .mov (.t 6), none, none⟩,
      ⟨some 4, .mov (.t 9), none, none⟩])
  (.seq (.seq (.reg [⟨some 10, .mov (.c (.int .i64 0)), none, none⟩])
  (.block 0
  (.loop [3, 4, 10] crc_Seal_b0)))
  (.seq (.reg [⟨some 20, .mov (.t 3), none, none⟩,
      ⟨some 2, .mov (.t 20), none, none⟩])
  (.ret))))) }
def ir_head_Put : IFn :=
  { params := 1, results := [.tmp 2], body :=
  (.seq (.reg [⟨some 1, .box (.t 0), none, none⟩,
      ⟨some 2, .mov (.c .nils), none, none⟩])
  (.seq (.seq (.reg [⟨some 4, .load 3 true (.t 1), none, none⟩,
      ⟨some 5, .call fid_head_Right [(.t 4)], none, none⟩,
      ⟨some 6, .un .not (.t 5), none, none⟩])
  (.cond (.t 6)
  (.seq (.reg [⟨some 2, .mov (.c .nils), none, none⟩])
    (.ret))
  (.skip)))
  (.seq (.reg [⟨some 7, .mkrow 1 4 [(.int .u8 0)] [(0, (.c (.int .u8 84))), (1, (.c (.int .u8 71))), (2, (.c (.int .u8 88))), (3, (.c (.int .u8 49)))], none, none⟩,
      ⟨some 8, .cvs (.t 7), none, none⟩,
      ⟨some 9, .faddr 0 (.t 1), none, none⟩,
      ⟨some 10, .load 1 false (.t 9), none, none⟩,
      ⟨some 11, .call fid_head_put [(.t 10), (.c (.int .i64 8))], none, none⟩,
      ⟨some 12, .append 1 1 (.t 8) (.t 11), none, none⟩,
      ⟨some 3, .mov (.t 12), none, none⟩])
  (.seq (.reg [⟨some 13, .mov (.t 3), none, none⟩,
      ⟨some 14, .faddr 1 (.t 1), none, none⟩,
      ⟨some 15, .load 1 false (.t 14), none, none⟩,
      ⟨some 16, .conv .u64 (.t 15), none, none⟩,
      ⟨some 17, .call fid_head_put [(.t 16), (.c (.int .i64 4))], none, none⟩,
      ⟨some 18, .append 1 1 (.t 13) (.t 17), none, none⟩,
      ⟨some 3, .mov (.t 18), none, none⟩])
  (.seq (.reg [⟨some 19, .mov (.t 3), none, none⟩,
      ⟨some 20, .faddr 2 (.t 1), none, none⟩,
      ⟨some 21, .load 1 false (.t 20), none, none⟩,
      ⟨some 22, .conv .u64 (.t 21), none, none⟩,
      ⟨some 23, .call fid_head_put [(.t 22), (.c (.int .i64 4))], none, none⟩,
      ⟨some 24, .append 1 1 (.t 19) (.t 23), none, none⟩,
      ⟨some 25, .call fid_crc_Seal [(.t 24)], none, none⟩,
      ⟨some 2, .mov (.t 25), none, none⟩])
  (.ret)))))) }
def ir_head_Blocks : IFn :=
  { params := 1, results := [.tmp 2], body :=
  (.seq (.reg [⟨some 1, .box (.t 0), none, none⟩,
      ⟨some 2, .mov (.c (.int .i64 0)), none, none⟩])
  (.seq (.seq (.reg [⟨some 3, .load 3 true (.t 1), none, none⟩,
      ⟨some 4, .call fid_head_Right [(.t 3)], none, none⟩,
      ⟨some 5, .un .not (.t 4), none, none⟩])
  (.cond (.t 5)
  (.seq (.reg [⟨some 2, .mov (.c (.int .i64 0)), none, none⟩])
    (.ret))
  (.skip)))
  (.seq (.reg [⟨some 6, .faddr 2 (.t 1), none, none⟩,
      ⟨some 7, .load 1 false (.t 6), none, none⟩,
      ⟨some 8, .faddr 1 (.t 1), none, none⟩,
      ⟨some 9, .load 1 false (.t 8), none, none⟩,
      ⟨some 10, .bin .add (.t 7) (.t 9), none, none⟩,
      ⟨some 11, .bin .sub (.t 10) (.c (.int .i64 1)), none, none⟩,
      ⟨some 12, .faddr 1 (.t 1), none, none⟩,
      ⟨some 13, .load 1 false (.t 12), none, none⟩,
      ⟨some 14, .bin .quo (.t 11) (.t 13), none, none⟩,
      ⟨some 2, .mov (.t 14), none, none⟩])
  (.ret)))) }
def ir_head_Size : IFn :=
  { params := 2, results := [.tmp 4], body :=
  (.seq (.reg [⟨some 2, .box (.t 0), none, none⟩,
      ⟨some 4, .mov (.c (.int .i64 0)), none, none⟩])
  (.seq (.seq (.reg [⟨some 5, .mov (.t 1), none, none⟩,
      ⟨some 6, .bin .lss (.t 5) (.c (.int .i64 0)), none, none⟩,
      ⟨some 7, .mov (.t 6), none, none⟩,
      ⟨some 8, .mov (.t 1), (some (7, false)), none⟩,
      ⟨some 9, .load 3 true (.t 2), (some (7, false)), none⟩,
      ⟨some 10, .call fid_head_Blocks [(.t 9)], (some (7, false)), none⟩,
      ⟨some 11, .bin .geq (.t 8) (.t 10), (some (7, false)), none⟩,
      ⟨some 12, .pick (.t 7) (.c (.bool true)) (.t 11), none, none⟩])
  (.cond (.t 12)
  (.seq (.reg [⟨some 4, .mov (.c (.int .i64 0)), none, none⟩])
    (.ret))
  (.skip)))
  (.seq (.reg [⟨some 13, .faddr 1 (.t 2), none, none⟩,
      ⟨some 14, .load 1 false (.t 13), none, none⟩,
      ⟨some 15, .faddr 2 (.t 2), none, none⟩,
      ⟨some 16, .load 1 false (.t 15), none, none⟩,
      ⟨some 17, .mov (.t 1), none, none⟩,
      ⟨some 18, .faddr 1 (.t 2), none, none⟩,
      ⟨some 19, .load 1 false (.t 18), none, none⟩,
      ⟨some 20, .bin .mul (.t 17) (.t 19), none, none⟩,
      ⟨some 21, .bin .sub (.t 16) (.t 20), none, none⟩,
      ⟨some 22, .minmax true [(.t 14), (.t 21)], none, none⟩,
      ⟨some 4, .mov (.t 22), none, none⟩])
  (.ret)))) }
def slices_Equal_byte_byte_b0 : IC :=
  (.seq (.reg [⟨some 14, .bin .lss (.t 13) (.t 12), none, none⟩])
  (.seq (.cond (.t 14)
  (.skip)
  (.exit 0))
  (.seq (.block 1
  (.seq (.reg [⟨some 15, .mov (.t 13), none, none⟩,
        ⟨some 5, .mov (.t 15), none, none⟩])
    (.seq (.regD [0, 1, 2, 3, 4, 5, 6, 7, 8] [⟨some 16, .mov (.t 0), none, none⟩,
        ⟨some 17, .mov (.t 5), none, none⟩,
        ⟨some 18, .iaddr 1 (.t 16) (.t 17), none, none⟩,
        ⟨some 19, .load 1 false (.t 18), none, none⟩,
        ⟨some 20, .mov (.t 1), none, none⟩,
        ⟨some 21, .mov (.t 5), none, none⟩,
        ⟨some 22, .iaddr 1 (.t 20) (.t 21), none, none⟩,
        ⟨some 23, .load 1 false (.t 22), none, none⟩,
        ⟨some 24, .bin .neq (.t 19) (.t 23), none, none⟩])
    (.cond (.t 24)
    (.seq (.reg [⟨some 4, .mov (.c (.bool false)), none, none⟩])
      (.ret))
    (.skip)))))
  (.reg [⟨some 25, .bin .add (.t 13) (.c (.int .i64 1)), none, none⟩,
      ⟨some 13, .mov (.t 25), none, none⟩]))))
def ir_slices_Equal_byte_byte : IFn :=
  { params := 2, results := [.tmp 4], body :=
  (.seq (.reg [⟨some 4, .mov (.c (.bool false)), none, none⟩])
  (.seq (.seq (.reg [⟨some 6, .mov (.t 0), none, none⟩,
      ⟨some 7, .len .sl (.t 6), none, none⟩,
      ⟨some 8, .mov (.t 1), none, none⟩,
      ⟨some 9, .len .sl (.t 8), none, none⟩,
      ⟨some 10, .bin .neq (.t 7) (.t 9), none, none⟩])
  (.cond (.t 10)
  (.seq (.reg [⟨some 4, .mov (.c (.bool false)), none, none⟩])
    (.ret))
  (.skip)))
  (.seq (.seq (.reg [⟨some 11, .mov (.t 0), none, none⟩,
      ⟨some 12, .len .sl (.t 11), none, none⟩,
      ⟨some 13, .mov (.c (.int .i64 0)), none, none⟩])
  (.block 0
  (.loop [0, 1, 12, 13] slices_Equal_byte_byte_b0)))
  (.seq (.reg [⟨some 4, .mov (.c (.bool true)), none, none⟩])
  (.ret))))) }
def ir_crc_Open : IFn :=
  { params := 1, results := [.tmp 2, .tmp 3], body :=
  (.seq (.reg [⟨some 2, .mov (.c .nils), none, none⟩,
      ⟨some 3, .mov (.c (.bool false)), none, none⟩])
  (.seq (.reg [⟨some 5, .mov (.t 0), none, none⟩,
      ⟨some 6, .len .sl (.t 5), none, none⟩,
      ⟨some 7, .bin .sub (.t 6) (.c (.int .i64 4)), none, none⟩,
      ⟨some 4, .mov (.t 7), none, none⟩])
  (.seq (.seq (.reg [⟨some 8, .mov (.t 4), none, none⟩,
      ⟨some 9, .bin .lss (.t 8) (.c (.int .i64 0)), none, none⟩,
      ⟨some 10, .mov (.t 9), none, none⟩,
      ⟨some 11, .mov (.t 0), (some (10, false)), none⟩,
      ⟨some 12, .mov (.t 4), (some (10, false)), none⟩,
      ⟨some 13, .slice false 1 (.t 11) none (some (.t 12)) none, (some (10, false)), none⟩,
      ⟨some 14, .call fid_crc_Seal [(.t 13)], (some (10, false)), none⟩,
      ⟨some 15, .mov (.t 0), (some (10, false)), none⟩,
      ⟨some 16, .call fid_slices_Equal_byte_byte [(.t 14), (.t 15)], (some (10, false)), none⟩,
      ⟨some 17, .un .not (.t 16), (some (10, false)), none⟩,
      ⟨some 18, .pick (.t 10) (.c (.bool true)) (.t 17), none, none⟩])
  (.cond (.t 18)
  (.seq (.reg [⟨some 2, .mov (.c .nils), none, none⟩,
        ⟨some 3, .mov (.c (.bool false)), none, none⟩])
    (.ret))
  (.skip)))
  (.seq (.reg [⟨some 19, .mov (.t 0), none, none⟩,
      ⟨some 20, .mov (.t 4), none, none⟩,
      ⟨some 21, .slice false 1 (.t 19) none (some (.t 20)) none, none, none⟩,
      ⟨some 22, .call fid_slices_Clone_byte_byte [(.t 21)], none, none⟩,
      ⟨some 2, .mov (.t 22), none, none⟩,
      ⟨some 3, .mov (.c (.bool true)), none, none⟩])
  (.ret))))) }
def head_take_b0 : IC :=
  (.seq (.reg [⟨some 9, .bin .lss (.t 8) (.t 7), none, none⟩])
  (.seq (.cond (.t 9)
  (.skip)
  (.exit 0))
  (.seq (.block 1
  (.seq (.reg [⟨some 10, .mov (.t 8), none, none⟩,
        ⟨some 11, .iaddr 1 (.t 6) (.t 8), none, none⟩,
        ⟨some 12, .load 1 false (.t 11), none, none⟩,
        ⟨some 4, .mov (.t 10), none, none⟩,
        ⟨some 5, .mov (.t 12), none, none⟩])
    (.reg [⟨some 13, .mov (.t 3), none, none⟩,
        ⟨some 14, .mov (.t 5), none, none⟩,
        ⟨some 15, .conv .u64 (.t 14), none, none⟩,
        ⟨some 16, .mov (.t 4), none, none⟩,
        ⟨some 17, .bin .mul (.c (.int .i64 8)) (.t 16), none, none⟩,
        ⟨some 18, .bin .shl (.t 15) (.t 17), none, none⟩,
        ⟨some 19, .bin .or (.t 13) (.t 18), none, none⟩,
        ⟨some 3, .mov (.t 19), none, none⟩])))
  (.reg [⟨some 20, .bin .add (.t 8) (.c (.int .i64 1)), none, none⟩,
      ⟨some 8, .mov (.t 20), none, none⟩]))))
def ir_head_take : IFn :=
  { params := 1, results := [.tmp 2], body :=
  (.seq (.reg [⟨some 2, .mov (.c (.int .u64 0)), none, none⟩])
  (.seq (.reg [⟨some 3, .mov (.c (.int .u64 0)), none, none⟩])
  (.seq (.seq (.reg [⟨some 6, .mov (.t 0), none, none⟩,
      ⟨some 7, .len .sl (.t 6), none, none⟩,
      ⟨some 8, .mov (.c (.int .i64 0)), none, none⟩])
  (.block 0
  (.loop [3, 6, 7, 8] head_take_b0)))
  (.seq (.reg [⟨some 21, .mov (.t 3), none, none⟩,
      ⟨some 2, .mov (.t 21), none, none⟩])
  (.ret))))) }
def ir_head_Read : IFn :=
  { params := 1, results := [.cell 2 3 true, .tmp 3], body :=
  (.seq (.reg [⟨some 2, .box (.c (.agg [(.int .u64 0), (.int .i64 0), (.int .i64 0)])), none, none⟩,
      ⟨some 3, .mov (.c (.int .i64 0)), none, none⟩])
  (.seq (.seq (.reg [⟨some 7, .mov (.t 0), none, none⟩,
      ⟨some 8, .len .sl (.t 7), none, none⟩,
      ⟨some 9, .bin .lss (.t 8) (.c (.int .i64 24)), none, none⟩])
  (.cond (.t 9)
  (.seq (.reg [⟨some 10, .build [(.int .u64 0), (.int .i64 0), (.int .i64 0)] [], none, none⟩,
        ⟨none, .store 3 (.t 2) (.t 10), none, none⟩,
        ⟨some 3, .mov (.c (.int .i64 20)), none, none⟩])
    (.ret))
  (.skip)))
  (.seq (.seq (.reg [⟨some 11, .mov (.t 0), none, none⟩,
      ⟨some 12, .slice false 1 (.t 11) none (some (.c (.int .i64 4))) none, none, none⟩,
      ⟨some 13, .toStr (.t 12), none, none⟩,
      ⟨some 14, .bin .neq (.t 13) (.c (.str [84, 71, 88, 49])), none, none⟩])
  (.cond (.t 14)
  (.seq (.reg [⟨some 15, .build [(.int .u64 0), (.int .i64 0), (.int .i64 0)] [], none, none⟩,
        ⟨none, .store 3 (.t 2) (.t 15), none, none⟩,
        ⟨some 3, .mov (.c (.int .i64 27)), none, none⟩])
    (.ret))
  (.skip)))
  (.seq (.seq (.reg [⟨some 17, .mov (.t 0), none, none⟩,
      ⟨some 18, .slice false 1 (.t 17) none (some (.c (.int .i64 24))) none, none, none⟩,
      ⟨some 19, .call fid_crc_Open [(.t 18)], none, none⟩,
      ⟨some 16, .mov (.t 19), none, none⟩,
      ⟨some 20, .extract (.t 16) 0, none, none⟩,
      ⟨some 21, .extract (.t 16) 1, none, none⟩,
      ⟨some 4, .mov (.t 20), none, none⟩,
      ⟨some 5, .mov (.t 21), none, none⟩])
  (.seq (.reg [⟨some 22, .mov (.t 5), none, none⟩,
      ⟨some 23, .un .not (.t 22), none, none⟩])
  (.cond (.t 23)
  (.seq (.reg [⟨some 24, .build [(.int .u64 0), (.int .i64 0), (.int .i64 0)] [], none, none⟩,
        ⟨none, .store 3 (.t 2) (.t 24), none, none⟩,
        ⟨some 3, .mov (.c (.int .i64 28)), none, none⟩])
    (.ret))
  (.skip))))
  (.seq (.regD [0, 1, 2, 3, 4, 5, 7, 8, 9, 6, 10, 11, 12, 13] [⟨some 25, .mov (.t 0), none, none⟩,
      ⟨some 26, .slice false 1 (.t 25) (some (.c (.int .i64 4))) (some (.c (.int .i64 12))) none, none, none⟩,
      ⟨some 27, .call fid_head_take [(.t 26)], none, none⟩,
      ⟨some 28, .mov (.t 0), none, none⟩,
      ⟨some 29, .slice false 1 (.t 28) (some (.c (.int .i64 12))) (some (.c (.int .i64 16))) none, none, none⟩,
      ⟨some 30, .call fid_head_take [(.t 29)], none, none⟩,
      ⟨some 32, .mov (.t 0), none, none⟩,
      ⟨some 33, .slice false 1 (.t 32) (some (.c (.int .i64 16))) (some (.c (.int .i64 20))) none, none, none⟩,
      ⟨some 34, .call fid_head_take [(.t 33)], none, none⟩,
      ⟨some 31, .conv .i64 (.t 30), none, none⟩,
      ⟨some 35, .conv .i64 (.t 34), none, none⟩,
      ⟨some 36, .build [(.int .u64 0), (.int .i64 0), (.int .i64 0)] [(0, 1, (.t 27)), (1, 1, (.t 31)), (2, 1, (.t 35))], none, none⟩,
      ⟨some 6, .box (.c (.agg [(.int .u64 0), (.int .i64 0), (.int .i64 0)])), none, none⟩,
      ⟨none, .store 3 (.t 6) (.t 36), none, none⟩])
  (.seq (.seq (.reg [⟨some 37, .load 3 true (.t 6), none, none⟩,
      ⟨some 38, .call fid_head_Right [(.t 37)], none, none⟩,
      ⟨some 39, .un .not (.t 38), none, none⟩])
  (.cond (.t 39)
  (.seq (.reg [⟨some 40, .build [(.int .u64 0), (.int .i64 0), (.int .i64 0)] [], none, none⟩,
        ⟨none, .store 3 (.t 2) (.t 40), none, none⟩,
        ⟨some 3, .mov (.c (.int .i64 26)), none, none⟩])
    (.ret))
  (.skip)))
  (.seq (.reg [⟨some 41, .load 3 true (.t 6), none, none⟩,
      ⟨none, .store 3 (.t 2) (.t 41), none, none⟩,
      ⟨some 3, .mov (.c (.int .i64 0)), none, none⟩])
  (.ret)))))))) }
def ir_archipelagolaw18_known : IFn :=
  { params := 0, results := [.tmp 0], body :=
  (.seq (.reg [⟨some 0, .mov (.c (.bool false)), none, none⟩])
  (.seq (.reg [⟨some 7, .build [(.int .u64 0), (.int .i64 0), (.int .i64 0)] [(0, 1, (.c (.int .u64 4294967296))), (1, 1, (.c (.int .i64 2))), (2, 1, (.c (.int .i64 5)))], none, none⟩,
      ⟨some 1, .box (.c (.agg [(.int .u64 0), (.int .i64 0), (.int .i64 0)])), none, none⟩,
      ⟨none, .store 3 (.t 1) (.t 7), none, none⟩])
  (.seq (.reg [⟨some 8, .load 3 true (.t 1), none, none⟩,
      ⟨some 9, .call fid_head_Put [(.t 8)], none, none⟩,
      ⟨some 2, .mov (.t 9), none, none⟩])
  (.seq (.reg [⟨some 11, .mov (.t 2), none, none⟩,
      ⟨some 12, .call fid_head_Read [(.t 11)], none, none⟩,
      ⟨some 10, .mov (.t 12), none, none⟩,
      ⟨some 13, .extract (.t 10) 0, none, none⟩,
      ⟨some 14, .extract (.t 10) 1, none, none⟩,
      ⟨some 3, .box (.c (.agg [(.int .u64 0), (.int .i64 0), (.int .i64 0)])), none, none⟩,
      ⟨none, .store 3 (.t 3) (.t 13), none, none⟩,
      ⟨some 4, .mov (.t 14), none, none⟩])
  (.seq (.reg [⟨some 16, .call fid_head_Read [(.c .nils)], none, none⟩,
      ⟨some 15, .mov (.t 16), none, none⟩,
      ⟨some 17, .extract (.t 15) 0, none, none⟩,
      ⟨some 18, .extract (.t 15) 1, none, none⟩,
      ⟨some 5, .box (.c (.agg [(.int .u64 0), (.int .i64 0), (.int .i64 0)])), none, none⟩,
      ⟨none, .store 3 (.t 5) (.t 17), none, none⟩,
      ⟨some 6, .mov (.t 18), none, none⟩])
  (.seq (.reg [⟨some 19, .mov (.t 2), none, none⟩,
      ⟨some 20, .len .sl (.t 19), none, none⟩,
      ⟨some 21, .bin .eql (.t 20) (.c (.int .i64 24)), none, none⟩,
      ⟨some 22, .mov (.t 21), none, none⟩,
      ⟨some 23, .mov (.t 2), (some (22, true)), none⟩,
      ⟨some 24, .slice false 1 (.t 23) none (some (.c (.int .i64 4))) none, (some (22, true)), none⟩,
      ⟨some 25, .toStr (.t 24), (some (22, true)), none⟩,
      ⟨some 26, .bin .eql (.t 25) (.c (.str [84, 71, 88, 49])), (some (22, true)), none⟩,
      ⟨some 27, .pick (.t 22) (.t 26) (.c (.bool false)), none, none⟩,
      ⟨some 28, .mov (.t 27), none, none⟩,
      ⟨some 29, .mov (.t 4), (some (28, true)), none⟩,
      ⟨some 30, .bin .eql (.t 29) (.c (.int .i64 0)), (some (28, true)), none⟩,
      ⟨some 31, .pick (.t 28) (.t 30) (.c (.bool false)), none, none⟩,
      ⟨some 32, .mov (.t 31), none, none⟩,
      ⟨some 33, .load 3 true (.t 3), (some (32, true)), none⟩,
      ⟨some 34, .load 3 true (.t 1), (some (32, true)), none⟩,
      ⟨some 35, .eq (.struct [.int, .int, .int]) false (.t 33) (.t 34), (some (32, true)), none⟩,
      ⟨some 36, .pick (.t 32) (.t 35) (.c (.bool false)), none, none⟩,
      ⟨some 37, .mov (.t 36), none, none⟩,
      ⟨some 38, .mov (.t 6), (some (37, true)), none⟩,
      ⟨some 39, .bin .eql (.t 38) (.c (.int .i64 20)), (some (37, true)), none⟩,
      ⟨some 40, .pick (.t 37) (.t 39) (.c (.bool false)), none, none⟩,
      ⟨some 41, .mov (.t 40), none, none⟩,
      ⟨some 42, .load 3 true (.t 1), (some (41, true)), none⟩,
      ⟨some 43, .call fid_head_Blocks [(.t 42)], (some (41, true)), none⟩,
      ⟨some 44, .bin .eql (.t 43) (.c (.int .i64 3)), (some (41, true)), none⟩,
      ⟨some 45, .pick (.t 41) (.t 44) (.c (.bool false)), none, none⟩,
      ⟨some 46, .mov (.t 45), none, none⟩,
      ⟨some 47, .load 3 true (.t 1), (some (46, true)), none⟩,
      ⟨some 48, .call fid_head_Size [(.t 47), (.c (.int .i64 2))], (some (46, true)), none⟩,
      ⟨some 49, .bin .eql (.t 48) (.c (.int .i64 1)), (some (46, true)), none⟩,
      ⟨some 50, .pick (.t 46) (.t 49) (.c (.bool false)), none, none⟩,
      ⟨some 51, .mov (.t 50), none, none⟩,
      ⟨some 52, .load 3 true (.t 1), (some (51, true)), none⟩,
      ⟨some 53, .call fid_head_Size [(.t 52), (.c (.int .i64 3))], (some (51, true)), none⟩,
      ⟨some 54, .bin .eql (.t 53) (.c (.int .i64 0)), (some (51, true)), none⟩,
      ⟨some 55, .pick (.t 51) (.t 54) (.c (.bool false)), none, none⟩,
      ⟨some 56, .mov (.t 55), none, none⟩,
      ⟨some 57, .load 3 true (.t 1), (some (56, true)), none⟩,
      ⟨some 58, .call fid_head_Right [(.t 57)], (some (56, true)), none⟩,
      ⟨some 59, .pick (.t 56) (.t 58) (.c (.bool false)), none, none⟩,
      ⟨some 60, .mov (.t 59), none, none⟩,
      ⟨some 61, .build [(.int .u64 0), (.int .i64 0), (.int .i64 0)] [], (some (60, true)), none⟩,
      ⟨some 62, .call fid_head_Right [(.t 61)], (some (60, true)), none⟩,
      ⟨some 63, .un .not (.t 62), (some (60, true)), none⟩,
      ⟨some 64, .pick (.t 60) (.t 63) (.c (.bool false)), none, none⟩,
      ⟨some 0, .mov (.t 64), none, none⟩])
  (.ret))))))) }
def archipelagolaw18_HeadShares_b0 : IC :=
  (.seq (.seq (.reg [⟨some 26, .mov (.t 10), none, none⟩,
      ⟨some 27, .mov (.t 9), none, none⟩,
      ⟨some 28, .bin .lss (.t 26) (.t 27), none, none⟩,
      ⟨some 29, .mov (.t 28), none, none⟩,
      ⟨some 30, .mov (.t 10), (some (29, true)), none⟩,
      ⟨some 31, .bin .lss (.t 30) (.c (.int .i64 600)), (some (29, true)), none⟩,
      ⟨some 32, .pick (.t 29) (.t 31) (.c (.bool false)), none, none⟩])
  (.cond (.t 32)
  (.skip)
  (.exit 0)))
  (.seq (.block 1
  (.seq (.reg [⟨some 35, .load 3 true (.t 7), none, none⟩,
        ⟨some 36, .mov (.t 10), none, none⟩,
        ⟨some 37, .call fid_head_Size [(.t 35), (.t 36)], none, none⟩,
        ⟨some 11, .mov (.t 37), none, none⟩])
    (.seq (.seq (.reg [⟨some 38, .mov (.t 11), none, none⟩,
        ⟨some 39, .bin .lss (.t 38) (.c (.int .i64 1)), none, none⟩,
        ⟨some 40, .mov (.t 39), none, none⟩,
        ⟨some 41, .mov (.t 11), (some (40, false)), none⟩,
        ⟨some 42, .faddr 1 (.t 7), (some (40, false)), none⟩,
        ⟨some 43, .load 1 false (.t 42), (some (40, false)), none⟩,
        ⟨some 44, .bin .gtr (.t 41) (.t 43), (some (40, false)), none⟩,
        ⟨some 45, .pick (.t 40) (.c (.bool true)) (.t 44), none, none⟩,
        ⟨some 46, .mov (.t 45), none, none⟩,
        ⟨some 47, .mov (.t 10), (some (46, false)), none⟩,
        ⟨some 48, .mov (.t 9), (some (46, false)), none⟩,
        ⟨some 49, .bin .sub (.t 48) (.c (.int .i64 1)), (some (46, false)), none⟩,
        ⟨some 50, .bin .lss (.t 47) (.t 49), (some (46, false)), none⟩,
        ⟨some 51, .mov (.t 50), (some (46, false)), none⟩,
        ⟨some 52, .mov (.t 11), (some (51, true)), none⟩,
        ⟨some 53, .faddr 1 (.t 7), (some (51, true)), none⟩,
        ⟨some 54, .load 1 false (.t 53), (some (51, true)), none⟩,
        ⟨some 55, .bin .neq (.t 52) (.t 54), (some (51, true)), none⟩,
        ⟨some 56, .pick (.t 51) (.t 55) (.c (.bool false)), (some (46, false)), none⟩,
        ⟨some 57, .pick (.t 46) (.c (.bool true)) (.t 56), none, none⟩])
    (.cond (.t 57)
    (.seq (.reg [⟨some 6, .mov (.c (.bool false)), none, none⟩])
      (.ret))
    (.skip)))
    (.reg [⟨some 58, .mov (.t 8), none, none⟩,
        ⟨some 59, .mov (.t 11), none, none⟩,
        ⟨some 60, .bin .add (.t 58) (.t 59), none, none⟩,
        ⟨some 8, .mov (.t 60), none, none⟩]))))
  (.reg [⟨some 33, .mov (.t 10), none, none⟩,
      ⟨some 34, .bin .add (.t 33) (.c (.int .i64 1)), none, none⟩,
      ⟨some 10, .mov (.t 34), none, none⟩])))
def ir_archipelagolaw18_HeadShares : IFn :=
  { params := 3, results := [.tmp 6], body :=
  (.seq (.reg [⟨some 6, .mov (.c (.bool false)), none, none⟩])
  (.seq (.seq (.reg [⟨some 12, .call fid_archipelagolaw18_known [], none, none⟩,
      ⟨some 13, .un .not (.t 12), none, none⟩])
  (.cond (.t 13)
  (.seq (.reg [⟨some 6, .mov (.c (.bool false)), none, none⟩])
    (.ret))
  (.skip)))
  (.seq (.reg [⟨some 14, .mov (.t 0), none, none⟩,
      ⟨some 15, .bin .and (.t 14) (.c (.int .u64 4294967295)), none, none⟩,
      ⟨some 16, .mov (.t 1), none, none⟩,
      ⟨some 17, .bin .rem (.t 16) (.c (.int .u16 50)), none, none⟩,
      ⟨some 18, .conv .i64 (.t 17), none, none⟩,
      ⟨some 19, .bin .add (.t 18) (.c (.int .i64 1)), none, none⟩,
      ⟨some 20, .mov (.t 2), none, none⟩,
      ⟨some 21, .bin .rem (.t 20) (.c (.int .u16 500)), none, none⟩,
      ⟨some 22, .conv .i64 (.t 21), none, none⟩,
      ⟨some 23, .build [(.int .u64 0), (.int .i64 0), (.int .i64 0)] [(0, 1, (.t 15)), (1, 1, (.t 19)), (2, 1, (.t 22))], none, none⟩,
      ⟨some 7, .box (.c (.agg [(.int .u64 0), (.int .i64 0), (.int .i64 0)])), none, none⟩,
      ⟨none, .store 3 (.t 7) (.t 23), none, none⟩])
  (.seq (.reg [⟨some 8, .mov (.c (.int .i64 0)), none, none⟩])
  (.seq (.reg [⟨some 24, .load 3 true (.t 7), none, none⟩,
      ⟨some 25, .call fid_head_Blocks [(.t 24)], none, none⟩,
      ⟨some 9, .mov (.t 25), none, none⟩])
  (.seq (.seq (.reg [⟨some 10, .mov (.c (.int .i64 0)), none, none⟩])
  (.block 0
  (.loop [7, 8, 9, 10] archipelagolaw18_HeadShares_b0)))
  (.seq (.reg [⟨some 61, .mov (.t 8), none, none⟩,
      ⟨some 62, .faddr 2 (.t 7), none, none⟩,
      ⟨some 63, .load 1 false (.t 62), none, none⟩,
      ⟨some 64, .bin .eql (.t 61) (.t 63), none, none⟩,
      ⟨some 65, .mov (.t 64), none, none⟩,
      ⟨some 66, .load 3 true (.t 7), (some (65, true)), none⟩,
      ⟨some 67, .call fid_head_Size [(.t 66), (.c (.int .i64 (-1)))], (some (65, true)), none⟩,
      ⟨some 68, .bin .eql (.t 67) (.c (.int .i64 0)), (some (65, true)), none⟩,
      ⟨some 69, .pick (.t 65) (.t 68) (.c (.bool false)), none, none⟩,
      ⟨some 70, .mov (.t 69), none, none⟩,
      ⟨some 71, .load 3 true (.t 7), (some (70, true)), none⟩,
      ⟨some 72, .mov (.t 9), (some (70, true)), none⟩,
      ⟨some 73, .call fid_head_Size [(.t 71), (.t 72)], (some (70, true)), none⟩,
      ⟨some 74, .bin .eql (.t 73) (.c (.int .i64 0)), (some (70, true)), none⟩,
      ⟨some 75, .pick (.t 70) (.t 74) (.c (.bool false)), none, none⟩,
      ⟨some 6, .mov (.t 75), none, none⟩])
  (.ret)))))))) }
def archipelagoref1_Flip_b0 : IC :=
  (.seq (.seq (.reg [⟨some 11, .mov (.t 8), none, none⟩,
      ⟨some 12, .bin .lss (.t 11) (.c (.int .i64 32)), none, none⟩])
  (.cond (.t 12)
  (.skip)
  (.exit 0)))
  (.seq (.block 1
  (.seq (.reg [⟨some 15, .mov (.t 2), none, none⟩,
        ⟨some 16, .mov (.t 8), none, none⟩,
        ⟨some 17, .bin .shr (.t 15) (.t 16), none, none⟩,
        ⟨some 18, .bin .and (.t 17) (.c (.int .u32 1)), none, none⟩,
        ⟨some 19, .bin .eql (.t 18) (.c (.int .u32 1)), none, none⟩,
        ⟨some 20, .mov (.t 19), none, none⟩,
        ⟨some 21, .mov (.t 1), (some (20, true)), none⟩,
        ⟨some 22, .mov (.t 8), (some (20, true)), none⟩,
        ⟨some 23, .un .neg (.t 22), (some (20, true)), none⟩,
        ⟨some 24, .bin .geq (.t 21) (.t 23), (some (20, true)), none⟩,
        ⟨some 25, .pick (.t 20) (.t 24) (.c (.bool false)), none, none⟩,
        ⟨some 26, .mov (.t 25), none, none⟩,
        ⟨some 27, .mov (.t 1), (some (26, true)), none⟩,
        ⟨some 28, .mov (.t 0), (some (26, true)), none⟩,
        ⟨some 29, .len .sl (.t 28), (some (26, true)), none⟩,
        ⟨some 30, .bin .mul (.c (.int .i64 8)) (.t 29), (some (26, true)), none⟩,
        ⟨some 31, .mov (.t 8), (some (26, true)), none⟩,
        ⟨some 32, .bin .sub (.t 30) (.t 31), (some (26, true)), none⟩,
        ⟨some 33, .bin .lss (.t 27) (.t 32), (some (26, true)), none⟩,
        ⟨some 34, .pick (.t 26) (.t 33) (.c (.bool false)), none, none⟩])
    (.cond (.t 34)
    (.regD [0, 1, 2, 3, 4, 5, 6, 7, 8, 9, 10, 11, 12, 13, 14] [⟨some 35, .mov (.t 7), none, none⟩,
          ⟨some 36, .mov (.t 1), none, none⟩,
          ⟨some 37, .mov (.t 8), none, none⟩,
          ⟨some 38, .bin .add (.t 36) (.t 37), none, none⟩,
          ⟨some 39, .bin .quo (.t 38) (.c (.int .i64 8)), none, none⟩,
          ⟨some 40, .iaddr 1 (.t 35) (.t 39), none, none⟩,
          ⟨some 41, .load 1 false (.t 40), none, none⟩,
          ⟨some 42, .mov (.t 1), none, none⟩,
          ⟨some 43, .mov (.t 8), none, none⟩,
          ⟨some 44, .bin .add (.t 42) (.t 43), none, none⟩,
          ⟨some 45, .bin .rem (.t 44) (.c (.int .i64 8)), none, none⟩,
          ⟨some 46, .bin .shl (.c (.int .u8 1)) (.t 45), none, none⟩,
          ⟨some 47, .bin .xor (.t 41) (.t 46), none, none⟩,
          ⟨some 48, .iaddr 1 (.t 35) (.t 39), none, none⟩,
          ⟨none, .store 1 (.t 48) (.t 47), none, none⟩])
    (.skip))))
  (.reg [⟨some 13, .mov (.t 8), none, none⟩,
      ⟨some 14, .bin .add (.t 13) (.c (.int .i64 1)), none, none⟩,
      ⟨some 8, .mov (.t 14), none, none⟩])))
def ir_archipelagoref1_Flip : IFn :=
  { params := 3, results := [.tmp 6], body :=
  (.seq (.reg [⟨some 6, .mov (.c .nils), none, none⟩])
  (.seq (.reg [⟨some 9, .mov (.t 0), none, none⟩,
      ⟨some 10, .append 1 1 (.c .nils) (.t 9), none, none⟩,
      ⟨some 7, .mov (.t 10), none, none⟩])
  (.seq (.seq (.reg [⟨some 8, .mov (.c (.int .i64 0)), none, none⟩])
  (.block 0
  (.loop [0, 1, 2, 7, 8] archipelagoref1_Flip_b0)))
  (.seq (.reg [⟨some 49, .mov (.t 7), none, none⟩,
      ⟨some 6, .mov (.t 49), none, none⟩])
  (.ret))))) }
def ir_archipelagolaw18_HeadBursts : IFn :=
  { params := 5, results := [.tmp 10], body :=
  (.seq (.reg [⟨some 10, .mov (.c (.bool false)), none, none⟩])
  (.seq (.seq (.reg [⟨some 16, .call fid_archipelagolaw18_known [], none, none⟩,
      ⟨some 17, .un .not (.t 16), none, none⟩])
  (.cond (.t 17)
  (.seq (.reg [⟨some 10, .mov (.c (.bool false)), none, none⟩])
    (.ret))
  (.skip)))
  (.seq (.reg [⟨some 18, .mov (.t 0), none, none⟩,
      ⟨some 19, .bin .and (.t 18) (.c (.int .u64 4294967295)), none, none⟩,
      ⟨some 20, .mov (.t 1), none, none⟩,
      ⟨some 21, .conv .i64 (.t 20), none, none⟩,
      ⟨some 22, .bin .add (.t 21) (.c (.int .i64 1)), none, none⟩,
      ⟨some 23, .mov (.t 2), none, none⟩,
      ⟨some 24, .bin .and (.t 23) (.c (.int .u32 2147483647)), none, none⟩,
      ⟨some 25, .conv .i64 (.t 24), none, none⟩,
      ⟨some 26, .build [(.int .u64 0), (.int .i64 0), (.int .i64 0)] [(0, 1, (.t 19)), (1, 1, (.t 22)), (2, 1, (.t 25))], none, none⟩,
      ⟨some 11, .box (.c (.agg [(.int .u64 0), (.int .i64 0), (.int .i64 0)])), none, none⟩,
      ⟨none, .store 3 (.t 11) (.t 26), none, none⟩])
  (.seq (.reg [⟨some 27, .load 3 true (.t 11), none, none⟩,
      ⟨some 28, .call fid_head_Put [(.t 27)], none, none⟩,
      ⟨some 12, .mov (.t 28), none, none⟩])
  (.seq (.seq (.reg [⟨some 29, .mov (.t 12), none, none⟩,
      ⟨some 30, .len .sl (.t 29), none, none⟩,
      ⟨some 31, .bin .neq (.t 30) (.c (.int .i64 24)), none, none⟩])
  (.cond (.t 31)
  (.seq (.reg [⟨some 10, .mov (.c (.bool false)), none, none⟩])
    (.ret))
  (.skip)))
  (.seq (.reg [⟨some 32, .mov (.t 12), none, none⟩,
      ⟨some 33, .mov (.t 3), none, none⟩,
      ⟨some 34, .conv .i64 (.t 33), none, none⟩,
      ⟨some 35, .bin .rem (.t 34) (.c (.int .i64 192)), none, none⟩,
      ⟨some 36, .mov (.t 4), none, none⟩,
      ⟨some 37, .call fid_archipelagoref1_Flip [(.t 32), (.t 35), (.t 36)], none, none⟩,
      ⟨some 13, .mov (.t 37), none, none⟩])
  (.seq (.reg [⟨some 39, .mov (.t 13), none, none⟩,
      ⟨some 40, .call fid_head_Read [(.t 39)], none, none⟩,
      ⟨some 38, .mov (.t 40), none, none⟩,
      ⟨some 41, .extract (.t 38) 0, none, none⟩,
      ⟨some 42, .extract (.t 38) 1, none, none⟩,
      ⟨some 14, .box (.c (.agg [(.int .u64 0), (.int .i64 0), (.int .i64 0)])), none, none⟩,
      ⟨none, .store 3 (.t 14) (.t 41), none, none⟩,
      ⟨some 15, .mov (.t 42), none, none⟩])
  (.seq (.seq (.reg [⟨some 43, .mov (.t 13), none, none⟩,
      ⟨some 44, .toStr (.t 43), none, none⟩,
      ⟨some 45, .mov (.t 12), none, none⟩,
      ⟨some 46, .toStr (.t 45), none, none⟩,
      ⟨some 47, .bin .eql (.t 44) (.t 46), none, none⟩])
  (.cond (.t 47)
  (.seq (.reg [⟨some 48, .mov (.t 15), none, none⟩,
        ⟨some 49, .bin .eql (.t 48) (.c (.int .i64 0)), none, none⟩,
        ⟨some 50, .mov (.t 49), none, none⟩,
        ⟨some 51, .load 3 true (.t 14), (some (50, true)), none⟩,
        ⟨some 52, .load 3 true (.t 11), (some (50, true)), none⟩,
        ⟨some 53, .eq (.struct [.int, .int, .int]) false (.t 51) (.t 52), (some (50, true)), none⟩,
        ⟨some 54, .pick (.t 50) (.t 53) (.c (.bool false)), none, none⟩,
        ⟨some 10, .mov (.t 54), none, none⟩])
    (.ret))
  (.skip)))
  (.seq (.reg [⟨some 55, .mov (.t 15), none, none⟩,
      ⟨some 56, .bin .neq (.t 55) (.c (.int .i64 0)), none, none⟩,
      ⟨some 57, .mov (.t 56), none, none⟩,
      ⟨some 58, .load 3 true (.t 14), (some (57, true)), none⟩,
      ⟨some 59, .build [(.int .u64 0), (.int .i64 0), (.int .i64 0)] [], (some (57, true)), none⟩,
      ⟨some 60, .eq (.struct [.int, .int, .int]) false (.t 58) (.t 59), (some (57, true)), none⟩,
      ⟨some 61, .pick (.t 57) (.t 60) (.c (.bool false)), none, none⟩,
      ⟨some 10, .mov (.t 61), none, none⟩])
  (.ret)))))))))) }
def archipelagoref1_Fixed_b0 : IC :=
  (.seq (.seq (.reg [⟨some 7, .mov (.t 6), none, none⟩,
      ⟨some 8, .mov (.t 1), none, none⟩,
      ⟨some 9, .bin .lss (.t 7) (.t 8), none, none⟩])
  (.cond (.t 9)
  (.skip)
  (.exit 0)))
  (.seq (.block 1
  (.reg [⟨some 12, .mov (.t 5), none, none⟩,
        ⟨some 13, .mov (.t 0), none, none⟩,
        ⟨some 14, .mov (.t 6), none, none⟩,
        ⟨some 15, .bin .mul (.c (.int .i64 8)) (.t 14), none, none⟩,
        ⟨some 16, .bin .shr (.t 13) (.t 15), none, none⟩,
        ⟨some 17, .conv .u8 (.t 16), none, none⟩,
        ⟨some 18, .mkrow 1 1 [(.int .u8 0)] [(0, (.t 17))], none, none⟩,
        ⟨some 19, .append 1 1 (.t 12) (.t 18), none, none⟩,
        ⟨some 5, .mov (.t 19), none, none⟩]))
  (.reg [⟨some 10, .mov (.t 6), none, none⟩,
      ⟨some 11, .bin .add (.t 10) (.c (.int .i64 1)), none, none⟩,
      ⟨some 6, .mov (.t 11), none, none⟩])))
def ir_archipelagoref1_Fixed : IFn :=
  { params := 2, results := [.tmp 4], body :=
  (.seq (.reg [⟨some 4, .mov (.c .nils), none, none⟩])
  (.seq (.reg [⟨some 5, .mov (.c .nils), none, none⟩])
  (.seq (.seq (.reg [⟨some 6, .mov (.c (.int .i64 0)), none, none⟩])
  (.block 0
  (.loop [0, 1, 5, 6] archipelagoref1_Fixed_b0)))
  (.seq (.reg [⟨some 20, .mov (.t 5), none, none⟩,
      ⟨some 4, .mov (.t 20), none, none⟩])
  (.ret))))) }
def archipelagoref1_Next_b0 : IC :=
  (.seq (.seq (.reg [⟨some 12, .mov (.t 6), none, none⟩,
      ⟨some 13, .bin .lss (.t 12) (.c (.int .i64 8)), none, none⟩])
  (.cond (.t 13)
  (.skip)
  (.exit 0)))
  (.seq (.block 1
  (.seq (.reg [⟨some 16, .mov (.t 5), none, none⟩,
        ⟨some 17, .bin .and (.t 16) (.c (.int .u32 1)), none, none⟩,
        ⟨some 18, .bin .eql (.t 17) (.c (.int .u32 1)), none, none⟩])
    (.cond (.t 18)
    (.reg [⟨some 19, .mov (.t 5), none, none⟩,
          ⟨some 20, .bin .shr (.t 19) (.c (.int .u64 1)), none, none⟩,
          ⟨some 21, .bin .xor (.t 20) (.c (.int .u32 3988292384)), none, none⟩,
          ⟨some 5, .mov (.t 21), none, none⟩])
    (.reg [⟨some 22, .mov (.t 5), none, none⟩,
          ⟨some 23, .bin .shr (.t 22) (.c (.int .u64 1)), none, none⟩,
          ⟨some 5, .mov (.t 23), none, none⟩]))))
  (.reg [⟨some 14, .mov (.t 6), none, none⟩,
      ⟨some 15, .bin .add (.t 14) (.c (.int .i64 1)), none, none⟩,
      ⟨some 6, .mov (.t 15), none, none⟩])))
def ir_archipelagoref1_Next : IFn :=
  { params := 2, results := [.tmp 4], body :=
  (.seq (.reg [⟨some 4, .mov (.c (.int .u32 0)), none, none⟩])
  (.seq (.reg [⟨some 7, .mov (.t 0), none, none⟩,
      ⟨some 8, .un .xor (.t 7), none, none⟩,
      ⟨some 9, .mov (.t 1), none, none⟩,
      ⟨some 10, .conv .u32 (.t 9), none, none⟩,
      ⟨some 11, .bin .xor (.t 8) (.t 10), none, none⟩,
      ⟨some 5, .mov (.t 11), none, none⟩])
  (.seq (.seq (.reg [⟨some 6, .mov (.c (.int .i64 0)), none, none⟩])
  (.block 0
  (.loop [5, 6] archipelagoref1_Next_b0)))
  (.seq (.reg [⟨some 24, .mov (.t 5), none, none⟩,
      ⟨some 25, .un .xor (.t 24), none, none⟩,
      ⟨some 4, .mov (.t 25), none, none⟩])
  (.ret))))) }
def archipelagoref1_Sum_b0 : IC :=
  (.seq (.seq (.reg [⟨some 12, .mov (.t 5), none, none⟩,
      ⟨some 13, .mov (.t 0), none, none⟩,
      ⟨some 14, .mov (.t 4), none, none⟩,
      ⟨some 15, .iaddr 1 (.t 13) (.t 14), none, none⟩,
      ⟨some 16, .load 1 false (.t 15), none, none⟩,
      ⟨some 17, .len .sl (.t 16), none, none⟩,
      ⟨some 18, .bin .lss (.t 12) (.t 17), none, none⟩])
  (.cond (.t 18)
  (.skip)
  (.exit 2)))
  (.seq (.block 3
  (.reg [⟨some 21, .mov (.t 3), none, none⟩,
        ⟨some 22, .mov (.t 0), none, none⟩,
        ⟨some 23, .mov (.t 4), none, none⟩,
        ⟨some 24, .iaddr 1 (.t 22) (.t 23), none, none⟩,
        ⟨some 25, .load 1 false (.t 24), none, none⟩,
        ⟨some 26, .mov (.t 5), none, none⟩,
        ⟨some 27, .iaddr 1 (.t 25) (.t 26), none, none⟩,
        ⟨some 28, .load 1 false (.t 27), none, none⟩,
        ⟨some 29, .call fid_archipelagoref1_Next [(.t 21), (.t 28)], none, none⟩,
        ⟨some 3, .mov (.t 29), none, none⟩]))
  (.reg [⟨some 19, .mov (.t 5), none, none⟩,
      ⟨some 20, .bin .add (.t 19) (.c (.int .i64 1)), none, none⟩,
      ⟨some 5, .mov (.t 20), none, none⟩])))
def archipelagoref1_Sum_b1 : IC :=
  (.seq (.seq (.reg [⟨some 6, .mov (.t 4), none, none⟩,
      ⟨some 7, .mov (.t 0), none, none⟩,
      ⟨some 8, .len .sl (.t 7), none, none⟩,
      ⟨some 9, .bin .lss (.t 6) (.t 8), none, none⟩])
  (.cond (.t 9)
  (.skip)
  (.exit 0)))
  (.seq (.block 1
  (.seq (.reg [⟨some 5, .mov (.c (.int .i64 0)), none, none⟩])
    (.block 2
    (.loop [0, 3, 4, 5] archipelagoref1_Sum_b0))))
  (.reg [⟨some 10, .mov (.t 4), none, none⟩,
      ⟨some 11, .bin .add (.t 10) (.c (.int .i64 1)), none, none⟩,
      ⟨some 4, .mov (.t 11), none, none⟩])))
def ir_archipelagoref1_Sum : IFn :=
  { params := 1, results := [.tmp 2], body :=
  (.seq (.reg [⟨some 2, .mov (.c (.int .u32 0)), none, none⟩])
  (.seq (.reg [⟨some 3, .mov (.c (.int .u32 0)), none, none⟩])
  (.seq (.seq (.reg [⟨some 4, .mov (.c (.int .i64 0)), none, none⟩])
  (.block 0
  (.loop [0, 3, 4] archipelagoref1_Sum_b1)))
  (.seq (.reg [⟨some 30, .mov (.t 3), none, none⟩,
      ⟨some 2, .mov (.t 30), none, none⟩])
  (.ret))))) }
def ir_archipelagoref1_Seal : IFn :=
  { params := 1, results := [.tmp 2], body :=
  (.seq (.reg [⟨some 2, .mov (.c .nils), none, none⟩])
  (.seq (.reg [⟨some 3, .mov (.t 0), none, none⟩,
      ⟨some 4, .append 1 1 (.c .nils) (.t 3), none, none⟩,
      ⟨some 5, .mov (.t 0), none, none⟩,
      ⟨some 6, .mkrow 1 1 [.nils] [(0, (.t 5))], none, none⟩,
      ⟨some 7, .call fid_archipelagoref1_Sum [(.t 6)], none, none⟩,
      ⟨some 8, .conv .u64 (.t 7), none, none⟩,
      ⟨some 9, .call fid_archipelagoref1_Fixed [(.t 8), (.c (.int .i64 4))], none, none⟩,
      ⟨some 10, .append 1 1 (.t 4) (.t 9), none, none⟩,
      ⟨some 2, .mov (.t 10), none, none⟩])
  (.ret))) }
def ir_archipelagolaw18_HeadErrors : IFn :=
  { params := 6, results := [.tmp 12], body :=
  (.seq (.reg [⟨some 12, .mov (.c (.bool false)), none, none⟩])
  (.seq (.seq (.reg [⟨some 19, .call fid_archipelagolaw18_known [], none, none⟩,
      ⟨some 20, .un .not (.t 19), none, none⟩])
  (.cond (.t 20)
  (.seq (.reg [⟨some 12, .mov (.c (.bool false)), none, none⟩])
    (.ret))
  (.skip)))
  (.seq (.reg [⟨some 21, .mkrow 1 4 [(.int .u8 0)] [(0, (.c (.int .u8 84))), (1, (.c (.int .u8 71))), (2, (.c (.int .u8 88))), (3, (.c (.int .u8 49)))], none, none⟩,
      ⟨some 22, .cvs (.t 21), none, none⟩,
      ⟨some 23, .mov (.t 0), none, none⟩,
      ⟨some 24, .call fid_archipelagoref1_Fixed [(.t 23), (.c (.int .i64 8))], none, none⟩,
      ⟨some 25, .append 1 1 (.t 22) (.t 24), none, none⟩,
      ⟨some 13, .mov (.t 25), none, none⟩])
  (.seq (.reg [⟨some 26, .mov (.t 13), none, none⟩,
      ⟨some 27, .mov (.t 1), none, none⟩,
      ⟨some 28, .conv .u64 (.t 27), none, none⟩,
      ⟨some 29, .call fid_archipelagoref1_Fixed [(.t 28), (.c (.int .i64 4))], none, none⟩,
      ⟨some 30, .append 1 1 (.t 26) (.t 29), none, none⟩,
      ⟨some 31, .mov (.t 2), none, none⟩,
      ⟨some 32, .conv .u64 (.t 31), none, none⟩,
      ⟨some 33, .call fid_archipelagoref1_Fixed [(.t 32), (.c (.int .i64 4))], none, none⟩,
      ⟨some 34, .append 1 1 (.t 30) (.t 33), none, none⟩,
      ⟨some 13, .mov (.t 34), none, none⟩])
  (.seq (.seq (.reg [⟨some 35, .mov (.t 3), none, none⟩])
  (.cond (.t 35)
  (.reg [⟨some 36, .mov (.t 13), none, none⟩,
        ⟨some 37, .iaddr 1 (.t 36) (.c (.int .i64 3)), none, none⟩,
        ⟨none, .store 1 (.t 37) (.c (.int .u8 50)), none, none⟩])
  (.skip)))
  (.seq (.reg [⟨some 38, .mov (.t 13), none, none⟩,
      ⟨some 39, .call fid_archipelagoref1_Seal [(.t 38)], none, none⟩,
      ⟨some 13, .mov (.t 39), none, none⟩])
  (.seq (.seq (.reg [⟨some 40, .mov (.t 4), none, none⟩])
  (.cond (.t 40)
  (.reg [⟨some 41, .mov (.t 13), none, none⟩,
        ⟨some 42, .iaddr 1 (.t 41) (.c (.int .i64 20)), none, none⟩,
        ⟨some 43, .load 1 false (.t 42), none, none⟩,
        ⟨some 44, .bin .add (.t 43) (.c (.int .u8 1)), none, none⟩,
        ⟨some 45, .iaddr 1 (.t 41) (.c (.int .i64 20)), none, none⟩,
        ⟨none, .store 1 (.t 45) (.t 44), none, none⟩])
  (.skip)))
  (.seq (.reg [⟨some 47, .mov (.t 13), none, none⟩,
      ⟨some 48, .call fid_head_Read [(.t 47)], none, none⟩,
      ⟨some 46, .mov (.t 48), none, none⟩,
      ⟨some 49, .extract (.t 46) 0, none, none⟩,
      ⟨some 50, .extract (.t 46) 1, none, none⟩,
      ⟨some 14, .box (.c (.agg [(.int .u64 0), (.int .i64 0), (.int .i64 0)])), none, none⟩,
      ⟨none, .store 3 (.t 14) (.t 49), none, none⟩,
      ⟨some 15, .mov (.t 50), none, none⟩])
  (.seq (.reg [⟨some 52, .mov (.t 13), none, none⟩,
      ⟨some 53, .mov (.t 5), none, none⟩,
      ⟨some 54, .conv .i64 (.t 53), none, none⟩,
      ⟨some 55, .bin .rem (.t 54) (.c (.int .i64 24)), none, none⟩,
      ⟨some 56, .slice false 1 (.t 52) none (some (.t 55)) none, none, none⟩,
      ⟨some 57, .call fid_head_Read [(.t 56)], none, none⟩,
      ⟨some 51, .mov (.t 57), none, none⟩,
      ⟨some 58, .extract (.t 51) 0, none, none⟩,
      ⟨some 59, .extract (.t 51) 1, none, none⟩,
      ⟨some 16, .box (.c (.agg [(.int .u64 0), (.int .i64 0), (.int .i64 0)])), none, none⟩,
      ⟨none, .store 3 (.t 16) (.t 58), none, none⟩,
      ⟨some 17, .mov (.t 59), none, none⟩])
  (.seq (.reg [⟨some 18, .mov (.c (.int .i64 0)), none, none⟩])
  (.seq (.block 0
  (.seq (.reg [⟨some 61, .mov (.t 3), none, none⟩,
        ⟨some 60, .mov (.t 61), none, none⟩])
    (.cond (.t 60)
    (.reg [⟨some 18, .mov (.c (.int .i64 27)), none, none⟩])
    (.seq (.reg [⟨some 63, .mov (.t 4), none, none⟩,
          ⟨some 62, .mov (.t 63), none, none⟩])
      (.cond (.t 62)
      (.reg [⟨some 18, .mov (.c (.int .i64 28)), none, none⟩])
      (.seq (.reg [⟨some 65, .mov (.t 0), none, none⟩,
            ⟨some 66, .bin .gtr (.t 65) (.c (.int .u64 4294967296)), none, none⟩,
            ⟨some 67, .mov (.t 66), none, none⟩,
            ⟨some 68, .mov (.t 1), (some (67, false)), none⟩,
            ⟨some 69, .bin .lss (.t 68) (.c (.int .u32 1)), (some (67, false)), none⟩,
            ⟨some 70, .pick (.t 67) (.c (.bool true)) (.t 69), none, none⟩,
            ⟨some 71, .mov (.t 70), none, none⟩,
            ⟨some 72, .mov (.t 1), (some (71, false)), none⟩,
            ⟨some 73, .bin .gtr (.t 72) (.c (.int .u32 1048576)), (some (71, false)), none⟩,
            ⟨some 74, .pick (.t 71) (.c (.bool true)) (.t 73), none, none⟩,
            ⟨some 75, .mov (.t 74), none, none⟩,
            ⟨some 76, .mov (.t 2), (some (75, false)), none⟩,
            ⟨some 77, .bin .gtr (.t 76) (.c (.int .u32 2147483648)), (some (75, false)), none⟩,
            ⟨some 78, .pick (.t 75) (.c (.bool true)) (.t 77), none, none⟩,
            ⟨some 64, .mov (.t 78), none, none⟩])
        (.cond (.t 64)
        (.reg [⟨some 18, .mov (.c (.int .i64 26)), none, none⟩])
        (.skip))))))))
  (.seq (.reg [⟨some 79, .mov (.t 15), none, none⟩,
      ⟨some 80, .mov (.t 18), none, none⟩,
      ⟨some 81, .bin .eql (.t 79) (.t 80), none, none⟩,
      ⟨some 82, .mov (.t 81), none, none⟩,
      ⟨some 83, .mov (.t 18), (some (82, true)), none⟩,
      ⟨some 84, .bin .neq (.t 83) (.c (.int .i64 0)), (some (82, true)), none⟩,
      ⟨some 85, .mov (.t 84), (some (82, true)), none⟩,
      ⟨some 86, .load 3 true (.t 14), (some (85, false)), none⟩,
      ⟨some 87, .mov (.t 0), (some (85, false)), none⟩,
      ⟨some 88, .mov (.t 1), (some (85, false)), none⟩,
      ⟨some 89, .conv .i64 (.t 88), (some (85, false)), none⟩,
      ⟨some 90, .mov (.t 2), (some (85, false)), none⟩,
      ⟨some 91, .conv .i64 (.t 90), (some (85, false)), none⟩,
      ⟨some 92, .build [(.int .u64 0), (.int .i64 0), (.int .i64 0)] [(0, 1, (.t 87)), (1, 1, (.t 89)), (2, 1, (.t 91))], (some (85, false)), none⟩,
      ⟨some 93, .eq (.struct [.int, .int, .int]) false (.t 86) (.t 92), (some (85, false)), none⟩,
      ⟨some 94, .pick (.t 85) (.c (.bool true)) (.t 93), (some (82, true)), none⟩,
      ⟨some 95, .pick (.t 82) (.t 94) (.c (.bool false)), none, none⟩,
      ⟨some 96, .mov (.t 95), none, none⟩,
      ⟨some 97, .mov (.t 17), (some (96, true)), none⟩,
      ⟨some 98, .bin .eql (.t 97) (.c (.int .i64 20)), (some (96, true)), none⟩,
      ⟨some 99, .pick (.t 96) (.t 98) (.c (.bool false)), none, none⟩,
      ⟨some 12, .mov (.t 99), none, none⟩])
  (.ret))))))))))))) }
def ir_archipelagolaw18_HeadMost : IFn :=
  { params := 2, results := [.tmp 4], body :=
  (.seq (.reg [⟨some 4, .mov (.c (.bool false)), none, none⟩])
  (.seq (.seq (.reg [⟨some 10, .call fid_archipelagolaw18_known [], none, none⟩,
      ⟨some 11, .un .not (.t 10), none, none⟩])
  (.cond (.t 11)
  (.seq (.reg [⟨some 4, .mov (.c (.bool false)), none, none⟩])
    (.ret))
  (.skip)))
  (.seq (.reg [⟨some 12, .build [(.int .u64 0), (.int .i64 0), (.int .i64 0)] [(0, 1, (.c (.int .u64 5))), (1, 1, (.c (.int .i64 7))), (2, 1, (.c (.int .i64 9)))], none, none⟩,
      ⟨some 5, .box (.c (.agg [(.int .u64 0), (.int .i64 0), (.int .i64 0)])), none, none⟩,
      ⟨none, .store 3 (.t 5) (.t 12), none, none⟩])
  (.seq (.reg [⟨some 6, .mov (.c (.int .i64 0)), none, none⟩])
  (.seq (.seq (.reg [⟨some 13, .mov (.t 1), none, none⟩])
  (.cond (.t 13)
  (.reg [⟨some 6, .mov (.c (.int .i64 1)), none, none⟩])
  (.skip)))
  (.seq (.seq (.reg [⟨some 14, .mov (.t 0), none, none⟩,
      ⟨some 15, .bin .rem (.t 14) (.c (.int .u8 5)), none, none⟩])
  (.block 0
  (.seq (.reg [⟨some 20, .bin .eql (.t 15) (.c (.int .u8 0)), none, none⟩,
        ⟨some 19, .mov (.t 20), none, none⟩])
    (.cond (.t 19)
    (.reg [⟨some 21, .mov (.t 6), none, none⟩,
          ⟨some 22, .conv .u64 (.t 21), none, none⟩,
          ⟨some 23, .bin .add (.c (.int .u64 4294967296)) (.t 22), none, none⟩,
          ⟨some 24, .faddr 0 (.t 5), none, none⟩,
          ⟨none, .store 1 (.t 24) (.t 23), none, none⟩])
    (.seq (.reg [⟨some 26, .bin .eql (.t 15) (.c (.int .u8 1)), none, none⟩,
          ⟨some 25, .mov (.t 26), none, none⟩])
      (.cond (.t 25)
      (.reg [⟨some 27, .mov (.t 6), none, none⟩,
            ⟨some 28, .bin .add (.c (.int .i64 1048576)) (.t 27), none, none⟩,
            ⟨some 29, .faddr 1 (.t 5), none, none⟩,
            ⟨none, .store 1 (.t 29) (.t 28), none, none⟩])
      (.seq (.reg [⟨some 31, .bin .eql (.t 15) (.c (.int .u8 2)), none, none⟩,
            ⟨some 30, .mov (.t 31), none, none⟩])
        (.cond (.t 30)
        (.reg [⟨some 32, .mov (.t 6), none, none⟩,
              ⟨some 33, .bin .sub (.c (.int .i64 1)) (.t 32), none, none⟩,
              ⟨some 34, .faddr 1 (.t 5), none, none⟩,
              ⟨none, .store 1 (.t 34) (.t 33), none, none⟩])
        (.seq (.reg [⟨some 36, .bin .eql (.t 15) (.c (.int .u8 3)), none, none⟩,
              ⟨some 35, .mov (.t 36), none, none⟩])
          (.cond (.t 35)
          (.reg [⟨some 37, .mov (.t 6), none, none⟩,
                ⟨some 38, .bin .add (.c (.int .i64 2147483648)) (.t 37), none, none⟩,
                ⟨some 39, .faddr 2 (.t 5), none, none⟩,
                ⟨none, .store 1 (.t 39) (.t 38), none, none⟩])
          (.reg [⟨some 16, .mov (.t 6), none, none⟩,
                ⟨some 17, .un .neg (.t 16), none, none⟩,
                ⟨some 18, .faddr 2 (.t 5), none, none⟩,
                ⟨none, .store 1 (.t 18) (.t 17), none, none⟩])))))))))))
  (.seq (.reg [⟨some 40, .load 3 true (.t 5), none, none⟩,
      ⟨some 41, .call fid_head_Put [(.t 40)], none, none⟩,
      ⟨some 7, .mov (.t 41), none, none⟩])
  (.seq (.seq (.reg [⟨some 42, .mov (.t 1), none, none⟩])
  (.cond (.t 42)
  (.seq (.reg [⟨some 43, .load 3 true (.t 5), none, none⟩,
        ⟨some 44, .call fid_head_Right [(.t 43)], none, none⟩,
        ⟨some 45, .un .not (.t 44), none, none⟩,
        ⟨some 46, .mov (.t 45), none, none⟩,
        ⟨some 47, .mov (.t 7), (some (46, true)), none⟩,
        ⟨some 48, .len .sl (.t 47), (some (46, true)), none⟩,
        ⟨some 49, .bin .eql (.t 48) (.c (.int .i64 0)), (some (46, true)), none⟩,
        ⟨some 50, .pick (.t 46) (.t 49) (.c (.bool false)), none, none⟩,
        ⟨some 51, .mov (.t 50), none, none⟩,
        ⟨some 52, .load 3 true (.t 5), (some (51, true)), none⟩,
        ⟨some 53, .call fid_head_Blocks [(.t 52)], (some (51, true)), none⟩,
        ⟨some 54, .bin .eql (.t 53) (.c (.int .i64 0)), (some (51, true)), none⟩,
        ⟨some 55, .pick (.t 51) (.t 54) (.c (.bool false)), none, none⟩,
        ⟨some 56, .mov (.t 55), none, none⟩,
        ⟨some 57, .load 3 true (.t 5), (some (56, true)), none⟩,
        ⟨some 58, .call fid_head_Size [(.t 57), (.c (.int .i64 0))], (some (56, true)), none⟩,
        ⟨some 59, .bin .eql (.t 58) (.c (.int .i64 0)), (some (56, true)), none⟩,
        ⟨some 60, .pick (.t 56) (.t 59) (.c (.bool false)), none, none⟩,
        ⟨some 4, .mov (.t 60), none, none⟩])
    (.ret))
  (.skip)))
  (.seq (.reg [⟨some 62, .mov (.t 7), none, none⟩,
      ⟨some 63, .call fid_head_Read [(.t 62)], none, none⟩,
      ⟨some 61, .mov (.t 63), none, none⟩,
      ⟨some 64, .extract (.t 61) 0, none, none⟩,
      ⟨some 65, .extract (.t 61) 1, none, none⟩,
      ⟨some 8, .box (.c (.agg [(.int .u64 0), (.int .i64 0), (.int .i64 0)])), none, none⟩,
      ⟨none, .store 3 (.t 8) (.t 64), none, none⟩,
      ⟨some 9, .mov (.t 65), none, none⟩])
  (.seq (.regD [0, 1, 2, 3, 4, 5, 6, 7, 8, 9, 10, 11, 12, 13, 14, 15, 16, 17, 18, 19, 20, 21, 22, 23, 24, 25] [⟨some 66, .load 3 true (.t 5), none, none⟩,
      ⟨some 67, .call fid_head_Right [(.t 66)], none, none⟩,
      ⟨some 68, .mov (.t 67), none, none⟩,
      ⟨some 69, .mov (.t 9), (some (68, true)), none⟩,
      ⟨some 70, .bin .eql (.t 69) (.c (.int .i64 0)), (some (68, true)), none⟩,
      ⟨some 71, .pick (.t 68) (.t 70) (.c (.bool false)), none, none⟩,
      ⟨some 72, .mov (.t 71), none, none⟩,
      ⟨some 73, .load 3 true (.t 8), (some (72, true)), none⟩,
      ⟨some 74, .load 3 true (.t 5), (some (72, true)), none⟩,
      ⟨some 75, .eq (.struct [.int, .int, .int]) false (.t 73) (.t 74), (some (72, true)), none⟩,
      ⟨some 76, .pick (.t 72) (.t 75) (.c (.bool false)), none, none⟩,
      ⟨some 77, .mov (.t 76), none, none⟩,
      ⟨some 78, .load 3 true (.t 5), (some (77, true)), none⟩,
      ⟨some 79, .call fid_head_Blocks [(.t 78)], (some (77, true)), none⟩,
      ⟨some 80, .faddr 2 (.t 5), (some (77, true)), none⟩,
      ⟨some 81, .load 1 false (.t 80), (some (77, true)), some (1, 2)⟩,
      ⟨some 82, .faddr 1 (.t 5), (some (77, true)), none⟩,
      ⟨some 83, .load 1 false (.t 82), (some (77, true)), some (1, 2)⟩,
      ⟨some 84, .bin .add (.t 81) (.t 83), (some (77, true)), none⟩,
      ⟨some 85, .bin .sub (.t 84) (.c (.int .i64 1)), (some (77, true)), none⟩,
      ⟨some 86, .faddr 1 (.t 5), (some (77, true)), none⟩,
      ⟨some 87, .load 1 false (.t 86), (some (77, true)), some (1, 2)⟩,
      ⟨some 88, .bin .quo (.t 85) (.t 87), (some (77, true)), none⟩,
      ⟨some 89, .bin .eql (.t 79) (.t 88), (some (77, true)), none⟩,
      ⟨some 90, .pick (.t 77) (.t 89) (.c (.bool false)), none, none⟩,
      ⟨some 4, .mov (.t 90), none, none⟩])
  (.ret))))))))))) }
end Go.Ab
