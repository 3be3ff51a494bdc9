/- The functions as the abstract machine has them (printed by wip/irgen.py). -/
import Derived.Test.YtcifidpaacfopaaAbs1
namespace Go.Ab
open Go
def fid_archipelagolaw4_CrcTells : Nat := 3
def fid_archipelagolaw4_CrcBursts : Nat := 4
def fid_archipelagolaw4_CrcTurns : Nat := 5
def fid_archipelagolaw4_CrcSteps : Nat := 6
def fid_archipelagolaw4_CrcSeals : Nat := 7
def fid_archipelagolaw4_known : Nat := 8
def fid_crc_Open : Nat := 9
def fid_archipelagoref1_Open : Nat := 10
def fid_crc_Seal : Nat := 11
def fid_crc_Sum : Nat := 12
def fid_archipelagoref1_Sum : Nat := 13
def fid_crc_Next : Nat := 14
def fid_archipelagoref1_Next : Nat := 15
def fid_archipelagoref1_Seal : Nat := 16
def fid_archipelagoref1_Flip : Nat := 17
def fid_slices_Equal_byte_byte : Nat := 18
def fid_slices_Clone_byte_byte : Nat := 19
def fid_archipelagoref1_Number : Nat := 20
def fid_crc_step : Nat := 21
def fid_archipelagoref1_Fixed : Nat := 22
def crc_step_b0 : IC :=
  (.seq (.reg [⟨some 10, .bin .lss (.t 9) (.c (.int .i64 8)), none, none⟩])
  (.seq (.cond (.t 10)
  (.skip)
  (.exit 0))
  (.seq (.block 1
  (.seq (.reg [⟨some 11, .mov (.t 0), none, none⟩,
        ⟨some 12, .bin .and (.t 11) (.c (.int .u32 1)), none, none⟩,
        ⟨some 13, .bin .eql (.t 12) (.c (.int .u32 1)), none, none⟩])
    (.cond (.t 13)
    (.reg [⟨some 14, .mov (.t 0), none, none⟩,
          ⟨some 15, .bin .shr (.t 14) (.c (.int .u64 1)), none, none⟩,
          ⟨some 16, .bin .xor (.t 15) (.c (.int .u32 3988292384)), none, none⟩,
          ⟨some 0, .mov (.t 16), none, none⟩])
    (.reg [⟨some 17, .mov (.t 0), none, none⟩,
          ⟨some 18, .bin .shr (.t 17) (.c (.int .u64 1)), none, none⟩,
          ⟨some 0, .mov (.t 18), none, none⟩]))))
  (.reg [⟨some 19, .bin .add (.t 9) (.c (.int .i64 1)), none, none⟩,
      ⟨some 9, .mov (.t 19), none, none⟩]))))
def ir_crc_step : IFn :=
  { params := 2, results := [.tmp 4], body :=
  (.seq (.reg [⟨some 4, .mov (.c (.int .u32 0)), none, none⟩])
  (.seq (.reg [⟨some 5, .mov (.t 0), none, none⟩,
      ⟨some 6, .mov (.t 1), none, none⟩,
      ⟨some 7, .conv .u32 (.t 6), none, none⟩,
      ⟨some 8, .bin .xor (.t 5) (.t 7), none, none⟩,
      ⟨some 0, .mov (.t 8), none, none⟩])
  (.seq (.seq (.reg [⟨some 9, .mov (.c (.int .i64 0)), none, none⟩])
  (.block 0
  (.loop [0, 9] crc_step_b0)))
  (.seq (.reg [⟨some 20, .mov (.t 0), none, none⟩,
      ⟨some 4, .mov (.t 20), none, none⟩])
  (.ret))))) }
def crc_Sum_b0 : IC :=
  (.seq (.reg [⟨some 17, .bin .lss (.t 16) (.t 15), none, none⟩])
  (.seq (.cond (.t 17)
  (.skip)
  (.exit 2))
  (.seq (.block 3
  (.seq (.reg [⟨some 18, .iaddr 1 (.t 14) (.t 16), none, none⟩,
        ⟨some 19, .load 1 false (.t 18), none, none⟩,
        ⟨some 7, .mov (.t 19), none, none⟩])
    (.reg [⟨some 20, .mov (.t 3), none, none⟩,
        ⟨some 21, .mov (.t 7), none, none⟩,
        ⟨some 22, .call fid_crc_step [(.t 20), (.t 21)], none, none⟩,
        ⟨some 3, .mov (.t 22), none, none⟩])))
  (.reg [⟨some 23, .bin .add (.t 16) (.c (.int .i64 1)), none, none⟩,
      ⟨some 16, .mov (.t 23), none, none⟩]))))
def crc_Sum_b1 : IC :=
  (.seq (.reg [⟨some 11, .bin .lss (.t 10) (.t 9), none, none⟩])
  (.seq (.cond (.t 11)
  (.skip)
  (.exit 0))
  (.seq (.block 1
  (.seq (.reg [⟨some 12, .iaddr 1 (.t 8) (.t 10), none, none⟩,
        ⟨some 13, .load 1 false (.t 12), none, none⟩,
        ⟨some 5, .mov (.t 13), none, none⟩])
    (.seq (.reg [⟨some 14, .mov (.t 5), none, none⟩,
        ⟨some 15, .len .sl (.t 14), none, none⟩,
        ⟨some 16, .mov (.c (.int .i64 0)), none, none⟩])
    (.block 2
    (.loop [3, 8, 9, 10, 14, 15, 16] crc_Sum_b0)))))
  (.reg [⟨some 24, .bin .add (.t 10) (.c (.int .i64 1)), none, none⟩,
      ⟨some 10, .mov (.t 24), none, none⟩]))))
def ir_crc_Sum : IFn :=
  { params := 1, results := [.tmp 2], body :=
  (.seq (.reg [⟨some 2, .mov (.c (.int .u32 0)), none, none⟩])
  (.seq (.reg [⟨some 3, .mov (.c (.int .u32 4294967295)), none, none⟩])
  (.seq (.seq (.reg [⟨some 8, .mov (.t 0), none, none⟩,
      ⟨some 9, .len .sl (.t 8), none, none⟩,
      ⟨some 10, .mov (.c (.int .i64 0)), none, none⟩])
  (.block 0
  (.loop [3, 8, 9, 10] crc_Sum_b1)))
  (.seq (.reg [⟨some 25, .mov (.t 3), none, none⟩,
      ⟨some 26, .un .xor (.t 25), none, none⟩,
      ⟨some 2, .mov (.t 26), none, none⟩])
  (.ret))))) }
def ir_slices_Clone_byte_byte : IFn :=
  { params := 1, results := [.tmp 2], body :=
  (.seq (.reg [⟨some 2, .mov (.c .nils), none, none⟩])
  (.seq (.seq (.reg [⟨some 3, .mov (.t 0), none, none⟩,
      ⟨some 4, .eq .slice false (.t 3) (.c .nils), none, none⟩])
  (.cond (.t 4)
  (.seq (.reg [⟨some 2, .mov (.c .nils), none, none⟩])
    (.ret))
  (.skip)))
  (.seq (.reg [⟨some 5, .mkrow 1 0 [(.int .u8 0)] [], none, none⟩,
      ⟨some 6, .mov (.t 0), none, none⟩,
      ⟨some 7, .append 1 1 (.t 5) (.t 6), none, none⟩,
      ⟨some 2, .mov (.t 7), none, none⟩])
  (.ret)))) }
def crc_Seal_b0 : IC :=
  (.seq (.reg [⟨some 11, .bin .lss (.t 10) (.c (.int .i64 4)), none, none⟩])
  (.seq (.cond (.t 11)
  (.skip)
  (.exit 0))
  (.seq (.block 1
  (.seq (.reg [⟨some 12, .mov (.t 3), none, none⟩,
        ⟨some 13, .mov (.t 4), none, none⟩,
        ⟨some 14, .conv .u8 (.t 13), none, none⟩,
        ⟨some 15, .mkrow 1 1 [(.int .u8 0)] [(0, (.t 14))], none, none⟩,
        ⟨some 16, .append 1 1 (.t 12) (.t 15), none, none⟩,
        ⟨some 3, .mov (.t 16), none, none⟩])
    (.reg [⟨some 17, .mov (.t 4), none, none⟩,
        ⟨some 18, .bin .shr (.t 17) (.c (.int .u64 8)), none, none⟩,
        ⟨some 4, .mov (.t 18), none, none⟩])))
  (.reg [⟨some 19, .bin .add (.t 10) (.c (.int .i64 1)), none, none⟩,
      ⟨some 10, .mov (.t 19), none, none⟩]))))
def ir_crc_Seal : IFn :=
  { params := 1, results := [.tmp 2], body :=
  (.seq (.reg [⟨some 2, .mov (.c .nils), none, none⟩])
  (.seq (.reg [⟨some 5, .mov (.t 0), none, none⟩,
      ⟨some 6, .call fid_slices_Clone_byte_byte [(.t 5)], none, none⟩,
      ⟨some 7, .mov (.t 0), none, none⟩,
      ⟨some 8, .mkrow 1 1 [.nils] [(0, (.t 7))], none, none⟩,
      ⟨some 9, .call fid_crc_Sum [(.t 8)], none, none⟩,
      ⟨some 3, .mov (.t 6), none, none⟩,
      ⟨some 4, .mov (.t 9), none, none⟩])
  (.seq (.seq (.reg [⟨some 10, .mov (.c (.int .i64 0)), none, none⟩])
  (.block 0
  (.loop [3, 4, 10] crc_Seal_b0)))
  (.seq (.reg [⟨some 20, .mov (.t 3), none, none⟩,
      ⟨some 2, .mov (.t 20), none, none⟩])
  (.ret))))) }
def slices_Equal_byte_byte_b0 : IC :=
  (.seq (.reg [⟨some 14, .bin .lss (.t 13) (.t 12), none, none⟩])
  (.seq (.cond (.t 14)
  (.skip)
  (.exit 0))
  (.seq (.block 1
  (.seq (.reg [⟨some 15, .mov (.t 13), none, none⟩,
        ⟨some 5, .mov (.t 15), none, none⟩])
    (.seq (.regD [0, 1, 2, 3, 4, 5, 6, 7, 8] [⟨some 16, .mov (.t 0), none, none⟩,
        ⟨some 17, .mov (.t 5), none, none⟩,
        ⟨some 18, .iaddr 1 (.t 16) (.t 17), none, none⟩,
        ⟨some 19, .load 1 false (.t 18), none, none⟩,
        ⟨some 20, .mov (.t 1), none, none⟩,
        ⟨some 21, .mov (.t 5), none, none⟩,
        ⟨some 22, .iaddr 1 (.t 20) (.t 21), none, none⟩,
        ⟨some 23, .load 1 false (.t 22), none, none⟩,
        ⟨some 24, .bin .neq (.t 19) (.t 23), none, none⟩])
    (.cond (.t 24)
    (.seq (.reg [⟨some 4, .mov (.c (.bool false)), none, none⟩])
      (.ret))
    (.skip)))))
  (.reg [⟨some 25, .bin .add (.t 13) (.c (.int .i64 1)), none, none⟩,
      ⟨some 13, .mov (.t 25), none, none⟩]))))
def ir_slices_Equal_byte_byte : IFn :=
  { params := 2, results := [.tmp 4], body :=
  (.seq (.reg [⟨some 4, .mov (.c (.bool false)), none, none⟩])
  (.seq (.seq (.reg [⟨some 6, .mov (.t 0), none, none⟩,
      ⟨some 7, .len .sl (.t 6), none, none⟩,
      ⟨some 8, .mov (.t 1), none, none⟩,
      ⟨some 9, .len .sl (.t 8), none, none⟩,
      ⟨some 10, .bin .neq (.t 7) (.t 9), none, none⟩])
  (.cond (.t 10)
  (.seq (.reg [⟨some 4, .mov (.c (.bool false)), none, none⟩])
    (.ret))
  (.skip)))
  (.seq (.seq (.reg [⟨some 11, .mov (.t 0), none, none⟩,
      ⟨some 12, .len .sl (.t 11), none, none⟩,
      ⟨some 13, .mov (.c (.int .i64 0)), none, none⟩])
  (.block 0
  (.loop [0, 1, 12, 13] slices_Equal_byte_byte_b0)))
  (.seq (.reg [⟨some 4, .mov (.c (.bool true)), none, none⟩])
  (.ret))))) }
def ir_crc_Open : IFn :=
  { params := 1, results := [.tmp 2, .tmp 3], body :=
  (.seq (.reg [⟨some 2, .mov (.c .nils), none, none⟩,
      ⟨some 3, .mov (.c (.bool false)), none, none⟩])
  (.seq (.reg [⟨some 5, .mov (.t 0), none, none⟩,
      ⟨some 6, .len .sl (.t 5), none, none⟩,
      ⟨some 7, .bin .sub (.t 6) (.c (.int .i64 4)), none, none⟩,
      ⟨some 4, .mov (.t 7), none, none⟩])
  (.seq (.seq (.reg [⟨some 8, .mov (.t 4), none, none⟩,
      ⟨some 9, .bin .lss (.t 8) (.c (.int .i64 0)), none, none⟩,
      ⟨some 10, .mov (.t 9), none, none⟩,
      ⟨some 11, .mov (.t 0), (some (10, false)), none⟩,
      ⟨some 12, .mov (.t 4), (some (10, false)), none⟩,
      ⟨some 13, .slice false 1 (.t 11) none (some (.t 12)) none, (some (10, false)), none⟩,
      ⟨some 14, .call fid_crc_Seal [(.t 13)], (some (10, false)), none⟩,
      ⟨some 15, .mov (.t 0), (some (10, false)), none⟩,
      ⟨some 16, .call fid_slices_Equal_byte_byte [(.t 14), (.t 15)], (some (10, false)), none⟩,
      ⟨some 17, .un .not (.t 16), (some (10, false)), none⟩,
      ⟨some 18, .pick (.t 10) (.c (.bool true)) (.t 17), none, none⟩])
  (.cond (.t 18)
  (.seq (.reg [⟨some 2, .mov (.c .nils), none, none⟩,
        ⟨some 3, .mov (.c (.bool false)), none, none⟩])
    (.ret))
  (.skip)))
  (.seq (.reg [⟨some 19, .mov (.t 0), none, none⟩,
      ⟨some 20, .mov (.t 4), none, none⟩,
      ⟨some 21, .slice false 1 (.t 19) none (some (.t 20)) none, none, none⟩,
      ⟨some 22, .call fid_slices_Clone_byte_byte [(.t 21)], none, none⟩,
      ⟨some 2, .mov (.t 22), none, none⟩,
      ⟨some 3, .mov (.c (.bool true)), none, none⟩])
  (.ret))))) }
def ir_crc_Next : IFn :=
  { params := 2, results := [.tmp 4], body :=
  (.seq (.reg [⟨some 4, .mov (.c (.int .u32 0)), none, none⟩])
  (.seq (.reg [⟨some 5, .mov (.t 0), none, none⟩,
      ⟨some 6, .un .xor (.t 5), none, none⟩,
      ⟨some 7, .mov (.t 1), none, none⟩,
      ⟨some 8, .call fid_crc_step [(.t 6), (.t 7)], none, none⟩,
      ⟨some 9, .un .xor (.t 8), none, none⟩,
      ⟨some 4, .mov (.t 9), none, none⟩])
  (.ret))) }
def ir_archipelagolaw4_known : IFn :=
  { params := 0, results := [.tmp 0], body :=
  (.seq (.reg [⟨some 0, .mov (.c (.bool false)), none, none⟩])
  (.seq (.reg [⟨some 6, .mkrow 1 2 [(.int .u8 0)] [(0, (.c (.int .u8 97))), (1, (.c (.int .u8 98)))], none, none⟩,
      ⟨some 7, .cvs (.t 6), none, none⟩,
      ⟨some 8, .call fid_crc_Seal [(.t 7)], none, none⟩,
      ⟨some 1, .mov (.t 8), none, none⟩])
  (.seq (.reg [⟨some 10, .mov (.t 1), none, none⟩,
      ⟨some 11, .call fid_crc_Open [(.t 10)], none, none⟩,
      ⟨some 9, .mov (.t 11), none, none⟩,
      ⟨some 12, .extract (.t 9) 0, none, none⟩,
      ⟨some 13, .extract (.t 9) 1, none, none⟩,
      ⟨some 2, .mov (.t 12), none, none⟩,
      ⟨some 3, .mov (.t 13), none, none⟩])
  (.seq (.reg [⟨some 15, .mkrow 1 6 [(.int .u8 0)] [(0, (.c (.int .u8 97))), (1, (.c (.int .u8 98))), (2, (.c (.int .u8 99))), (3, (.c (.int .u8 100))), (4, (.c (.int .u8 101))), (5, (.c (.int .u8 102)))], none, none⟩,
      ⟨some 16, .cvs (.t 15), none, none⟩,
      ⟨some 17, .call fid_crc_Open [(.t 16)], none, none⟩,
      ⟨some 14, .mov (.t 17), none, none⟩,
      ⟨some 18, .extract (.t 14) 0, none, none⟩,
      ⟨some 19, .extract (.t 14) 1, none, none⟩,
      ⟨some 4, .mov (.t 18), none, none⟩,
      ⟨some 5, .mov (.t 19), none, none⟩])
  (.seq (.reg [⟨some 20, .mkrow 1 9 [(.int .u8 0)] [(0, (.c (.int .u8 49))), (1, (.c (.int .u8 50))), (2, (.c (.int .u8 51))), (3, (.c (.int .u8 52))), (4, (.c (.int .u8 53))), (5, (.c (.int .u8 54))), (6, (.c (.int .u8 55))), (7, (.c (.int .u8 56))), (8, (.c (.int .u8 57)))], none, none⟩,
      ⟨some 21, .cvs (.t 20), none, none⟩,
      ⟨some 22, .mkrow 1 1 [.nils] [(0, (.t 21))], none, none⟩,
      ⟨some 23, .call fid_crc_Sum [(.t 22)], none, none⟩,
      ⟨some 24, .bin .eql (.t 23) (.c (.int .u32 3421780262)), none, none⟩,
      ⟨some 25, .mov (.t 24), none, none⟩,
      ⟨some 26, .mkrow 1 5 [(.int .u8 0)] [(0, (.c (.int .u8 49))), (1, (.c (.int .u8 50))), (2, (.c (.int .u8 51))), (3, (.c (.int .u8 52))), (4, (.c (.int .u8 53)))], (some (25, true)), none⟩,
      ⟨some 27, .cvs (.t 26), (some (25, true)), none⟩,
      ⟨some 28, .mkrow 1 4 [(.int .u8 0)] [(0, (.c (.int .u8 54))), (1, (.c (.int .u8 55))), (2, (.c (.int .u8 56))), (3, (.c (.int .u8 57)))], (some (25, true)), none⟩,
      ⟨some 29, .cvs (.t 28), (some (25, true)), none⟩,
      ⟨some 30, .mkrow 1 2 [.nils] [(0, (.t 27)), (1, (.t 29))], (some (25, true)), none⟩,
      ⟨some 31, .call fid_crc_Sum [(.t 30)], (some (25, true)), none⟩,
      ⟨some 32, .bin .eql (.t 31) (.c (.int .u32 3421780262)), (some (25, true)), none⟩,
      ⟨some 33, .pick (.t 25) (.t 32) (.c (.bool false)), none, none⟩,
      ⟨some 34, .mov (.t 33), none, none⟩,
      ⟨some 35, .call fid_crc_Next [(.c (.int .u32 0)), (.c (.int .u8 49))], (some (34, true)), none⟩,
      ⟨some 36, .mkrow 1 1 [(.int .u8 0)] [(0, (.c (.int .u8 49)))], (some (34, true)), none⟩,
      ⟨some 37, .cvs (.t 36), (some (34, true)), none⟩,
      ⟨some 38, .mkrow 1 1 [.nils] [(0, (.t 37))], (some (34, true)), none⟩,
      ⟨some 39, .call fid_crc_Sum [(.t 38)], (some (34, true)), none⟩,
      ⟨some 40, .bin .eql (.t 35) (.t 39), (some (34, true)), none⟩,
      ⟨some 41, .pick (.t 34) (.t 40) (.c (.bool false)), none, none⟩,
      ⟨some 42, .mov (.t 41), none, none⟩,
      ⟨some 43, .mov (.t 1), (some (42, true)), none⟩,
      ⟨some 44, .len .sl (.t 43), (some (42, true)), none⟩,
      ⟨some 45, .bin .eql (.t 44) (.c (.int .i64 6)), (some (42, true)), none⟩,
      ⟨some 46, .pick (.t 42) (.t 45) (.c (.bool false)), none, none⟩,
      ⟨some 47, .mov (.t 46), none, none⟩,
      ⟨some 48, .mov (.t 3), (some (47, true)), none⟩,
      ⟨some 49, .pick (.t 47) (.t 48) (.c (.bool false)), none, none⟩,
      ⟨some 50, .mov (.t 49), none, none⟩,
      ⟨some 51, .mov (.t 2), (some (50, true)), none⟩,
      ⟨some 52, .toStr (.t 51), (some (50, true)), none⟩,
      ⟨some 53, .bin .eql (.t 52) (.c (.str [97, 98])), (some (50, true)), none⟩,
      ⟨some 54, .pick (.t 50) (.t 53) (.c (.bool false)), none, none⟩,
      ⟨some 55, .mov (.t 54), none, none⟩,
      ⟨some 56, .mov (.t 5), (some (55, true)), none⟩,
      ⟨some 57, .un .not (.t 56), (some (55, true)), none⟩,
      ⟨some 58, .pick (.t 55) (.t 57) (.c (.bool false)), none, none⟩,
      ⟨some 0, .mov (.t 58), none, none⟩])
  (.ret)))))) }
def archipelagoref1_Next_b0 : IC :=
  (.seq (.seq (.reg [⟨some 12, .mov (.t 6), none, none⟩,
      ⟨some 13, .bin .lss (.t 12) (.c (.int .i64 8)), none, none⟩])
  (.cond (.t 13)
  (.skip)
  (.exit 0)))
  (.seq (.block 1
  (.seq (.reg [⟨some 16, .mov (.t 5), none, none⟩,
        ⟨some 17, .bin .and (.t 16) (.c (.int .u32 1)), none, none⟩,
        ⟨some 18, .bin .eql (.t 17) (.c (.int .u32 1)), none, none⟩])
    (.cond (.t 18)
    (.reg [⟨some 19, .mov (.t 5), none, none⟩,
          ⟨some 20, .bin .shr (.t 19) (.c (.int .u64 1)), none, none⟩,
          ⟨some 21, .bin .xor (.t 20) (.c (.int .u32 3988292384)), none, none⟩,
          ⟨some 5, .mov (.t 21), none, none⟩])
    (.reg [⟨some 22, .mov (.t 5), none, none⟩,
          ⟨some 23, .bin .shr (.t 22) (.c (.int .u64 1)), none, none⟩,
          ⟨some 5, .mov (.t 23), none, none⟩]))))
  (.reg [⟨some 14, .mov (.t 6), none, none⟩,
      ⟨some 15, .bin .add (.t 14) (.c (.int .i64 1)), none, none⟩,
      ⟨some 6, .mov (.t 15), none, none⟩])))
def ir_archipelagoref1_Next : IFn :=
  { params := 2, results := [.tmp 4], body :=
  (.seq (.reg [⟨some 4, .mov (.c (.int .u32 0)), none, none⟩])
  (.seq (.reg [⟨some 7, .mov (.t 0), none, none⟩,
      ⟨some 8, .un .xor (.t 7), none, none⟩,
      ⟨some 9, .mov (.t 1), none, none⟩,
      ⟨some 10, .conv .u32 (.t 9), none, none⟩,
      ⟨some 11, .bin .xor (.t 8) (.t 10), none, none⟩,
      ⟨some 5, .mov (.t 11), none, none⟩])
  (.seq (.seq (.reg [⟨some 6, .mov (.c (.int .i64 0)), none, none⟩])
  (.block 0
  (.loop [5, 6] archipelagoref1_Next_b0)))
  (.seq (.reg [⟨some 24, .mov (.t 5), none, none⟩,
      ⟨some 25, .un .xor (.t 24), none, none⟩,
      ⟨some 4, .mov (.t 25), none, none⟩])
  (.ret))))) }
def archipelagoref1_Sum_b0 : IC :=
  (.seq (.seq (.reg [⟨some 12, .mov (.t 5), none, none⟩,
      ⟨some 13, .mov (.t 0), none, none⟩,
      ⟨some 14, .mov (.t 4), none, none⟩,
      ⟨some 15, .iaddr 1 (.t 13) (.t 14), none, none⟩,
      ⟨some 16, .load 1 false (.t 15), none, none⟩,
      ⟨some 17, .len .sl (.t 16), none, none⟩,
      ⟨some 18, .bin .lss (.t 12) (.t 17), none, none⟩])
  (.cond (.t 18)
  (.skip)
  (.exit 2)))
  (.seq (.block 3
  (.reg [⟨some 21, .mov (.t 3), none, none⟩,
        ⟨some 22, .mov (.t 0), none, none⟩,
        ⟨some 23, .mov (.t 4), none, none⟩,
        ⟨some 24, .iaddr 1 (.t 22) (.t 23), none, none⟩,
        ⟨some 25, .load 1 false (.t 24), none, none⟩,
        ⟨some 26, .mov (.t 5), none, none⟩,
        ⟨some 27, .iaddr 1 (.t 25) (.t 26), none, none⟩,
        ⟨some 28, .load 1 false (.t 27), none, none⟩,
        ⟨some 29, .call fid_archipelagoref1_Next [(.t 21), (.t 28)], none, none⟩,
        ⟨some 3, .mov (.t 29), none, none⟩]))
  (.reg [⟨some 19, .mov (.t 5), none, none⟩,
      ⟨some 20, .bin .add (.t 19) (.c (.int .i64 1)), none, none⟩,
      ⟨some 5, .mov (.t 20), none, none⟩])))
def archipelagoref1_Sum_b1 : IC :=
  (.seq (.seq (.reg [⟨some 6, .mov (.t 4), none, none⟩,
      ⟨some 7, .mov (.t 0), none, none⟩,
      ⟨some 8, .len .sl (.t 7), none, none⟩,
      ⟨some 9, .bin .lss (.t 6) (.t 8), none, none⟩])
  (.cond (.t 9)
  (.skip)
  (.exit 0)))
  (.seq (.block 1
  (.seq (.reg [⟨some 5, .mov (.c (.int .i64 0)), none, none⟩])
    (.block 2
    (.loop [0, 3, 4, 5] archipelagoref1_Sum_b0))))
  (.reg [⟨some 10, .mov (.t 4), none, none⟩,
      ⟨some 11, .bin .add (.t 10) (.c (.int .i64 1)), none, none⟩,
      ⟨some 4, .mov (.t 11), none, none⟩])))
def ir_archipelagoref1_Sum : IFn :=
  { params := 1, results := [.tmp 2], body :=
  (.seq (.reg [⟨some 2, .mov (.c (.int .u32 0)), none, none⟩])
  (.seq (.reg [⟨some 3, .mov (.c (.int .u32 0)), none, none⟩])
  (.seq (.seq (.reg [⟨some 4, .mov (.c (.int .i64 0)), none, none⟩])
  (.block 0
  (.loop [0, 3, 4] archipelagoref1_Sum_b1)))
  (.seq (.reg [⟨some 30, .mov (.t 3), none, none⟩,
      ⟨some 2, .mov (.t 30), none, none⟩])
  (.ret))))) }
def archipelagoref1_Number_b0 : IC :=
  (.seq (.seq (.reg [⟨some 5, .mov (.t 4), none, none⟩,
      ⟨some 6, .mov (.t 0), none, none⟩,
      ⟨some 7, .len .sl (.t 6), none, none⟩,
      ⟨some 8, .bin .lss (.t 5) (.t 7), none, none⟩])
  (.cond (.t 8)
  (.skip)
  (.exit 0)))
  (.seq (.block 1
  (.reg [⟨some 11, .mov (.t 3), none, none⟩,
        ⟨some 12, .mov (.t 0), none, none⟩,
        ⟨some 13, .mov (.t 4), none, none⟩,
        ⟨some 14, .iaddr 1 (.t 12) (.t 13), none, none⟩,
        ⟨some 15, .load 1 false (.t 14), none, none⟩,
        ⟨some 16, .conv .u64 (.t 15), none, none⟩,
        ⟨some 17, .mov (.t 4), none, none⟩,
        ⟨some 18, .bin .mul (.c (.int .i64 8)) (.t 17), none, none⟩,
        ⟨some 19, .bin .shl (.t 16) (.t 18), none, none⟩,
        ⟨some 20, .bin .or (.t 11) (.t 19), none, none⟩,
        ⟨some 3, .mov (.t 20), none, none⟩]))
  (.reg [⟨some 9, .mov (.t 4), none, none⟩,
      ⟨some 10, .bin .add (.t 9) (.c (.int .i64 1)), none, none⟩,
      ⟨some 4, .mov (.t 10), none, none⟩])))
def ir_archipelagoref1_Number : IFn :=
  { params := 1, results := [.tmp 2], body :=
  (.seq (.reg [⟨some 2, .mov (.c (.int .u64 0)), none, none⟩])
  (.seq (.reg [⟨some 3, .mov (.c (.int .u64 0)), none, none⟩])
  (.seq (.seq (.reg [⟨some 4, .mov (.c (.int .i64 0)), none, none⟩])
  (.block 0
  (.loop [0, 3, 4] archipelagoref1_Number_b0)))
  (.seq (.reg [⟨some 21, .mov (.t 3), none, none⟩,
      ⟨some 2, .mov (.t 21), none, none⟩])
  (.ret))))) }
def ir_archipelagoref1_Open : IFn :=
  { params := 1, results := [.tmp 2, .tmp 3], body :=
  (.seq (.reg [⟨some 2, .mov (.c .nils), none, none⟩,
      ⟨some 3, .mov (.c (.bool false)), none, none⟩])
  (.seq (.reg [⟨some 5, .mov (.t 0), none, none⟩,
      ⟨some 6, .len .sl (.t 5), none, none⟩,
      ⟨some 7, .bin .sub (.t 6) (.c (.int .i64 4)), none, none⟩,
      ⟨some 4, .mov (.t 7), none, none⟩])
  (.seq (.seq (.regD [0, 1, 2, 3, 4, 5, 6, 7, 8, 9, 10, 11, 12, 13, 14] [⟨some 8, .mov (.t 4), none, none⟩,
      ⟨some 9, .bin .lss (.t 8) (.c (.int .i64 0)), none, none⟩,
      ⟨some 10, .mov (.t 9), none, none⟩,
      ⟨some 11, .mov (.t 0), (some (10, false)), none⟩,
      ⟨some 12, .mov (.t 4), (some (10, false)), none⟩,
      ⟨some 13, .slice false 1 (.t 11) (some (.t 12)) none none, (some (10, false)), none⟩,
      ⟨some 14, .call fid_archipelagoref1_Number [(.t 13)], (some (10, false)), none⟩,
      ⟨some 15, .mov (.t 0), (some (10, false)), none⟩,
      ⟨some 16, .mov (.t 4), (some (10, false)), none⟩,
      ⟨some 17, .slice false 1 (.t 15) none (some (.t 16)) none, (some (10, false)), none⟩,
      ⟨some 18, .mkrow 1 1 [.nils] [(0, (.t 17))], (some (10, false)), none⟩,
      ⟨some 19, .call fid_archipelagoref1_Sum [(.t 18)], (some (10, false)), none⟩,
      ⟨some 20, .conv .u64 (.t 19), (some (10, false)), none⟩,
      ⟨some 21, .bin .neq (.t 14) (.t 20), (some (10, false)), none⟩,
      ⟨some 22, .pick (.t 10) (.c (.bool true)) (.t 21), none, none⟩])
  (.cond (.t 22)
  (.seq (.reg [⟨some 2, .mov (.c .nils), none, none⟩,
        ⟨some 3, .mov (.c (.bool false)), none, none⟩])
    (.ret))
  (.skip)))
  (.seq (.reg [⟨some 23, .mov (.t 0), none, none⟩,
      ⟨some 24, .mov (.t 4), none, none⟩,
      ⟨some 25, .slice false 1 (.t 23) none (some (.t 24)) none, none, none⟩,
      ⟨some 2, .mov (.t 25), none, none⟩,
      ⟨some 3, .mov (.c (.bool true)), none, none⟩])
  (.ret))))) }
def archipelagoref1_Fixed_b0 : IC :=
  (.seq (.seq (.reg [⟨some 7, .mov (.t 6), none, none⟩,
      ⟨some 8, .mov (.t 1), none, none⟩,
      ⟨some 9, .bin .lss (.t 7) (.t 8), none, none⟩])
  (.cond (.t 9)
  (.skip)
  (.exit 0)))
  (.seq (.block 1
  (.reg [⟨some 12, .mov (.t 5), none, none⟩,
        ⟨some 13, .mov (.t 0), none, none⟩,
        ⟨some 14, .mov (.t 6), none, none⟩,
        ⟨some 15, .bin .mul (.c (.int .i64 8)) (.t 14), none, none⟩,
        ⟨some 16, .bin .shr (.t 13) (.t 15), none, none⟩,
        ⟨some 17, .conv .u8 (.t 16), none, none⟩,
        ⟨some 18, .mkrow 1 1 [(.int .u8 0)] [(0, (.t 17))], none, none⟩,
        ⟨some 19, .append 1 1 (.t 12) (.t 18), none, none⟩,
        ⟨some 5, .mov (.t 19), none, none⟩]))
  (.reg [⟨some 10, .mov (.t 6), none, none⟩,
      ⟨some 11, .bin .add (.t 10) (.c (.int .i64 1)), none, none⟩,
      ⟨some 6, .mov (.t 11), none, none⟩])))
def ir_archipelagoref1_Fixed : IFn :=
  { params := 2, results := [.tmp 4], body :=
  (.seq (.reg [⟨some 4, .mov (.c .nils), none, none⟩])
  (.seq (.reg [⟨some 5, .mov (.c .nils), none, none⟩])
  (.seq (.seq (.reg [⟨some 6, .mov (.c (.int .i64 0)), none, none⟩])
  (.block 0
  (.loop [0, 1, 5, 6] archipelagoref1_Fixed_b0)))
  (.seq (.reg [⟨some 20, .mov (.t 5), none, none⟩,
      ⟨some 4, .mov (.t 20), none, none⟩])
  (.ret))))) }
def ir_archipelagoref1_Seal : IFn :=
  { params := 1, results := [.tmp 2], body :=
  (.seq (.reg [⟨some 2, .mov (.c .nils), none, none⟩])
  (.seq (.reg [⟨some 3, .mov (.t 0), none, none⟩,
      ⟨some 4, .append 1 1 (.c .nils) (.t 3), none, none⟩,
      ⟨some 5, .mov (.t 0), none, none⟩,
      ⟨some 6, .mkrow 1 1 [.nils] [(0, (.t 5))], none, none⟩,
      ⟨some 7, .call fid_archipelagoref1_Sum [(.t 6)], none, none⟩,
      ⟨some 8, .conv .u64 (.t 7), none, none⟩,
      ⟨some 9, .call fid_archipelagoref1_Fixed [(.t 8), (.c (.int .i64 4))], none, none⟩,
      ⟨some 10, .append 1 1 (.t 4) (.t 9), none, none⟩,
      ⟨some 2, .mov (.t 10), none, none⟩])
  (.ret))) }
def archipelagolaw4_CrcTells_b0 : IC :=
  (.seq (.seq (.reg [⟨some 27, .mov (.t 10), none, none⟩,
      ⟨some 28, .mov (.t 0), none, none⟩,
      ⟨some 29, .len .sl (.t 28), none, none⟩,
      ⟨some 30, .bin .lss (.t 27) (.t 29), none, none⟩])
  (.cond (.t 30)
  (.skip)
  (.exit 0)))
  (.seq (.block 1
  (.seq (.seq (.reg [⟨some 33, .mov (.t 0), none, none⟩,
        ⟨some 34, .mov (.t 10), none, none⟩,
        ⟨some 35, .iaddr 1 (.t 33) (.t 34), none, none⟩,
        ⟨some 36, .load 1 false (.t 35), none, none⟩,
        ⟨some 37, .len .sl (.t 36), none, none⟩,
        ⟨some 38, .bin .gtr (.t 37) (.c (.int .i64 60)), none, none⟩])
    (.cond (.t 38)
    (.seq (.reg [⟨some 8, .mov (.c (.bool true)), none, none⟩])
      (.ret))
    (.skip)))
    (.reg [⟨some 39, .mov (.t 9), none, none⟩,
        ⟨some 40, .mov (.t 0), none, none⟩,
        ⟨some 41, .mov (.t 10), none, none⟩,
        ⟨some 42, .iaddr 1 (.t 40) (.t 41), none, none⟩,
        ⟨some 43, .load 1 false (.t 42), none, none⟩,
        ⟨some 44, .append 1 1 (.t 39) (.t 43), none, none⟩,
        ⟨some 9, .mov (.t 44), none, none⟩])))
  (.reg [⟨some 31, .mov (.t 10), none, none⟩,
      ⟨some 32, .bin .add (.t 31) (.c (.int .i64 1)), none, none⟩,
      ⟨some 10, .mov (.t 32), none, none⟩])))
def ir_archipelagolaw4_CrcTells : IFn :=
  { params := 4, results := [.tmp 8], body :=
  (.seq (.reg [⟨some 8, .mov (.c (.bool false)), none, none⟩])
  (.seq (.seq (.reg [⟨some 17, .call fid_archipelagolaw4_known [], none, none⟩,
      ⟨some 18, .un .not (.t 17), none, none⟩])
  (.cond (.t 18)
  (.seq (.reg [⟨some 8, .mov (.c (.bool false)), none, none⟩])
    (.ret))
  (.skip)))
  (.seq (.seq (.reg [⟨some 19, .mov (.t 0), none, none⟩,
      ⟨some 20, .len .sl (.t 19), none, none⟩,
      ⟨some 21, .bin .gtr (.t 20) (.c (.int .i64 8)), none, none⟩,
      ⟨some 22, .mov (.t 21), none, none⟩,
      ⟨some 23, .mov (.t 3), (some (22, false)), none⟩,
      ⟨some 24, .len .sl (.t 23), (some (22, false)), none⟩,
      ⟨some 25, .bin .gtr (.t 24) (.c (.int .i64 60)), (some (22, false)), none⟩,
      ⟨some 26, .pick (.t 22) (.c (.bool true)) (.t 25), none, none⟩])
  (.cond (.t 26)
  (.seq (.reg [⟨some 8, .mov (.c (.bool true)), none, none⟩])
    (.ret))
  (.skip)))
  (.seq (.reg [⟨some 9, .mov (.c .nils), none, none⟩])
  (.seq (.seq (.reg [⟨some 10, .mov (.c (.int .i64 0)), none, none⟩])
  (.block 0
  (.loop [0, 1, 2, 3, 9, 10] archipelagolaw4_CrcTells_b0)))
  (.seq (.reg [⟨some 46, .mov (.t 3), none, none⟩,
      ⟨some 47, .call fid_crc_Open [(.t 46)], none, none⟩,
      ⟨some 45, .mov (.t 47), none, none⟩,
      ⟨some 48, .extract (.t 45) 0, none, none⟩,
      ⟨some 49, .extract (.t 45) 1, none, none⟩,
      ⟨some 11, .mov (.t 48), none, none⟩,
      ⟨some 12, .mov (.t 49), none, none⟩])
  (.seq (.reg [⟨some 51, .mov (.t 3), none, none⟩,
      ⟨some 52, .call fid_archipelagoref1_Open [(.t 51)], none, none⟩,
      ⟨some 50, .mov (.t 52), none, none⟩,
      ⟨some 53, .extract (.t 50) 0, none, none⟩,
      ⟨some 54, .extract (.t 50) 1, none, none⟩,
      ⟨some 13, .mov (.t 53), none, none⟩,
      ⟨some 14, .mov (.t 54), none, none⟩])
  (.seq (.reg [⟨some 56, .mov (.t 9), none, none⟩,
      ⟨some 57, .call fid_crc_Seal [(.t 56)], none, none⟩,
      ⟨some 58, .call fid_crc_Open [(.t 57)], none, none⟩,
      ⟨some 55, .mov (.t 58), none, none⟩,
      ⟨some 59, .extract (.t 55) 0, none, none⟩,
      ⟨some 60, .extract (.t 55) 1, none, none⟩,
      ⟨some 15, .mov (.t 59), none, none⟩,
      ⟨some 16, .mov (.t 60), none, none⟩])
  (.seq (.regD [0, 1, 2, 3, 4, 5, 6, 7, 8, 9, 10, 11, 12, 13, 14, 15, 16, 17, 19, 20, 18, 21, 22, 23, 24, 25, 26, 27, 28, 29, 30, 31, 32, 33, 34, 35, 36, 37, 38, 39, 40, 41, 42, 43, 44, 45, 46] [⟨some 61, .mov (.t 0), none, none⟩,
      ⟨some 62, .call fid_crc_Sum [(.t 61)], none, none⟩,
      ⟨some 63, .mov (.t 9), none, none⟩,
      ⟨some 64, .mkrow 1 1 [.nils] [(0, (.t 63))], none, none⟩,
      ⟨some 65, .call fid_archipelagoref1_Sum [(.t 64)], none, none⟩,
      ⟨some 66, .bin .eql (.t 62) (.t 65), none, none⟩,
      ⟨some 67, .mov (.t 66), none, none⟩,
      ⟨some 68, .mov (.t 1), (some (67, true)), none⟩,
      ⟨some 69, .mov (.t 2), (some (67, true)), none⟩,
      ⟨some 70, .call fid_crc_Next [(.t 68), (.t 69)], (some (67, true)), none⟩,
      ⟨some 71, .mov (.t 1), (some (67, true)), none⟩,
      ⟨some 72, .mov (.t 2), (some (67, true)), none⟩,
      ⟨some 73, .call fid_archipelagoref1_Next [(.t 71), (.t 72)], (some (67, true)), none⟩,
      ⟨some 74, .bin .eql (.t 70) (.t 73), (some (67, true)), none⟩,
      ⟨some 75, .pick (.t 67) (.t 74) (.c (.bool false)), none, none⟩,
      ⟨some 76, .mov (.t 75), none, none⟩,
      ⟨some 77, .mov (.t 9), (some (76, true)), none⟩,
      ⟨some 78, .call fid_crc_Seal [(.t 77)], (some (76, true)), none⟩,
      ⟨some 80, .mov (.t 9), (some (76, true)), none⟩,
      ⟨some 81, .call fid_archipelagoref1_Seal [(.t 80)], (some (76, true)), none⟩,
      ⟨some 79, .toStr (.t 78), (some (76, true)), some (5, 6)⟩,
      ⟨some 82, .toStr (.t 81), (some (76, true)), none⟩,
      ⟨some 83, .bin .eql (.t 79) (.t 82), (some (76, true)), none⟩,
      ⟨some 84, .pick (.t 76) (.t 83) (.c (.bool false)), none, none⟩,
      ⟨some 85, .mov (.t 84), none, none⟩,
      ⟨some 86, .mov (.t 11), (some (85, true)), none⟩,
      ⟨some 87, .toStr (.t 86), (some (85, true)), none⟩,
      ⟨some 88, .mov (.t 13), (some (85, true)), none⟩,
      ⟨some 89, .toStr (.t 88), (some (85, true)), none⟩,
      ⟨some 90, .bin .eql (.t 87) (.t 89), (some (85, true)), none⟩,
      ⟨some 91, .pick (.t 85) (.t 90) (.c (.bool false)), none, none⟩,
      ⟨some 92, .mov (.t 91), none, none⟩,
      ⟨some 93, .mov (.t 12), (some (92, true)), none⟩,
      ⟨some 94, .mov (.t 14), (some (92, true)), none⟩,
      ⟨some 95, .eq .bool false (.t 93) (.t 94), (some (92, true)), none⟩,
      ⟨some 96, .pick (.t 92) (.t 95) (.c (.bool false)), none, none⟩,
      ⟨some 97, .mov (.t 96), none, none⟩,
      ⟨some 98, .mov (.t 16), (some (97, true)), none⟩,
      ⟨some 99, .pick (.t 97) (.t 98) (.c (.bool false)), none, none⟩,
      ⟨some 100, .mov (.t 99), none, none⟩,
      ⟨some 101, .mov (.t 15), (some (100, true)), none⟩,
      ⟨some 102, .toStr (.t 101), (some (100, true)), none⟩,
      ⟨some 103, .mov (.t 9), (some (100, true)), none⟩,
      ⟨some 104, .toStr (.t 103), (some (100, true)), none⟩,
      ⟨some 105, .bin .eql (.t 102) (.t 104), (some (100, true)), none⟩,
      ⟨some 106, .pick (.t 100) (.t 105) (.c (.bool false)), none, none⟩,
      ⟨some 8, .mov (.t 106), none, none⟩])
  (.ret)))))))))) }
def archipelagoref1_Flip_b0 : IC :=
  (.seq (.seq (.reg [⟨some 11, .mov (.t 8), none, none⟩,
      ⟨some 12, .bin .lss (.t 11) (.c (.int .i64 32)), none, none⟩])
  (.cond (.t 12)
  (.skip)
  (.exit 0)))
  (.seq (.block 1
  (.seq (.reg [⟨some 15, .mov (.t 2), none, none⟩,
        ⟨some 16, .mov (.t 8), none, none⟩,
        ⟨some 17, .bin .shr (.t 15) (.t 16), none, none⟩,
        ⟨some 18, .bin .and (.t 17) (.c (.int .u32 1)), none, none⟩,
        ⟨some 19, .bin .eql (.t 18) (.c (.int .u32 1)), none, none⟩,
        ⟨some 20, .mov (.t 19), none, none⟩,
        ⟨some 21, .mov (.t 1), (some (20, true)), none⟩,
        ⟨some 22, .mov (.t 8), (some (20, true)), none⟩,
        ⟨some 23, .un .neg (.t 22), (some (20, true)), none⟩,
        ⟨some 24, .bin .geq (.t 21) (.t 23), (some (20, true)), none⟩,
        ⟨some 25, .pick (.t 20) (.t 24) (.c (.bool false)), none, none⟩,
        ⟨some 26, .mov (.t 25), none, none⟩,
        ⟨some 27, .mov (.t 1), (some (26, true)), none⟩,
        ⟨some 28, .mov (.t 0), (some (26, true)), none⟩,
        ⟨some 29, .len .sl (.t 28), (some (26, true)), none⟩,
        ⟨some 30, .bin .mul (.c (.int .i64 8)) (.t 29), (some (26, true)), none⟩,
        ⟨some 31, .mov (.t 8), (some (26, true)), none⟩,
        ⟨some 32, .bin .sub (.t 30) (.t 31), (some (26, true)), none⟩,
        ⟨some 33, .bin .lss (.t 27) (.t 32), (some (26, true)), none⟩,
        ⟨some 34, .pick (.t 26) (.t 33) (.c (.bool false)), none, none⟩])
    (.cond (.t 34)
    (.regD [0, 1, 2, 3, 4, 5, 6, 7, 8, 9, 10, 11, 12, 13, 14] [⟨some 35, .mov (.t 7), none, none⟩,
          ⟨some 36, .mov (.t 1), none, none⟩,
          ⟨some 37, .mov (.t 8), none, none⟩,
          ⟨some 38, .bin .add (.t 36) (.t 37), none, none⟩,
          ⟨some 39, .bin .quo (.t 38) (.c (.int .i64 8)), none, none⟩,
          ⟨some 40, .iaddr 1 (.t 35) (.t 39), none, none⟩,
          ⟨some 41, .load 1 false (.t 40), none, none⟩,
          ⟨some 42, .mov (.t 1), none, none⟩,
          ⟨some 43, .mov (.t 8), none, none⟩,
          ⟨some 44, .bin .add (.t 42) (.t 43), none, none⟩,
          ⟨some 45, .bin .rem (.t 44) (.c (.int .i64 8)), none, none⟩,
          ⟨some 46, .bin .shl (.c (.int .u8 1)) (.t 45), none, none⟩,
          ⟨some 47, .bin .xor (.t 41) (.t 46), none, none⟩,
          ⟨some 48, .iaddr 1 (.t 35) (.t 39), none, none⟩,
          ⟨none, .store 1 (.t 48) (.t 47), none, none⟩])
    (.skip))))
  (.reg [⟨some 13, .mov (.t 8), none, none⟩,
      ⟨some 14, .bin .add (.t 13) (.c (.int .i64 1)), none, none⟩,
      ⟨some 8, .mov (.t 14), none, none⟩])))
def ir_archipelagoref1_Flip : IFn :=
  { params := 3, results := [.tmp 6], body :=
  (.seq (.reg [⟨some 6, .mov (.c .nils), none, none⟩])
  (.seq (.reg [⟨some 9, .mov (.t 0), none, none⟩,
      ⟨some 10, .append 1 1 (.c .nils) (.t 9), none, none⟩,
      ⟨some 7, .mov (.t 10), none, none⟩])
  (.seq (.seq (.reg [⟨some 8, .mov (.c (.int .i64 0)), none, none⟩])
  (.block 0
  (.loop [0, 1, 2, 7, 8] archipelagoref1_Flip_b0)))
  (.seq (.reg [⟨some 49, .mov (.t 7), none, none⟩,
      ⟨some 6, .mov (.t 49), none, none⟩])
  (.ret))))) }
def ir_archipelagolaw4_CrcBursts : IFn :=
  { params := 3, results := [.tmp 6], body :=
  (.seq (.reg [⟨some 6, .mov (.c (.bool false)), none, none⟩])
  (.seq (.seq (.reg [⟨some 11, .call fid_archipelagolaw4_known [], none, none⟩,
      ⟨some 12, .un .not (.t 11), none, none⟩])
  (.cond (.t 12)
  (.seq (.reg [⟨some 6, .mov (.c (.bool false)), none, none⟩])
    (.ret))
  (.skip)))
  (.seq (.seq (.reg [⟨some 13, .mov (.t 0), none, none⟩,
      ⟨some 14, .len .sl (.t 13), none, none⟩,
      ⟨some 15, .bin .gtr (.t 14) (.c (.int .i64 100)), none, none⟩])
  (.cond (.t 15)
  (.seq (.reg [⟨some 6, .mov (.c (.bool true)), none, none⟩])
    (.ret))
  (.skip)))
  (.seq (.reg [⟨some 16, .mov (.t 0), none, none⟩,
      ⟨some 17, .call fid_crc_Seal [(.t 16)], none, none⟩,
      ⟨some 7, .mov (.t 17), none, none⟩])
  (.seq (.seq (.reg [⟨some 18, .mov (.t 7), none, none⟩,
      ⟨some 19, .len .sl (.t 18), none, none⟩,
      ⟨some 20, .mov (.t 0), none, none⟩,
      ⟨some 21, .len .sl (.t 20), none, none⟩,
      ⟨some 22, .bin .add (.t 21) (.c (.int .i64 4)), none, none⟩,
      ⟨some 23, .bin .neq (.t 19) (.t 22), none, none⟩])
  (.cond (.t 23)
  (.seq (.reg [⟨some 6, .mov (.c (.bool false)), none, none⟩])
    (.ret))
  (.skip)))
  (.seq (.reg [⟨some 24, .mov (.t 7), none, none⟩,
      ⟨some 25, .mov (.t 1), none, none⟩,
      ⟨some 26, .conv .i64 (.t 25), none, none⟩,
      ⟨some 27, .mov (.t 7), none, none⟩,
      ⟨some 28, .len .sl (.t 27), none, none⟩,
      ⟨some 29, .bin .mul (.c (.int .i64 8)) (.t 28), none, none⟩,
      ⟨some 30, .bin .rem (.t 26) (.t 29), none, none⟩,
      ⟨some 31, .mov (.t 2), none, none⟩,
      ⟨some 32, .call fid_archipelagoref1_Flip [(.t 24), (.t 30), (.t 31)], none, none⟩,
      ⟨some 8, .mov (.t 32), none, none⟩])
  (.seq (.reg [⟨some 34, .mov (.t 8), none, none⟩,
      ⟨some 35, .call fid_crc_Open [(.t 34)], none, none⟩,
      ⟨some 33, .mov (.t 35), none, none⟩,
      ⟨some 36, .extract (.t 33) 0, none, none⟩,
      ⟨some 37, .extract (.t 33) 1, none, none⟩,
      ⟨some 9, .mov (.t 36), none, none⟩,
      ⟨some 10, .mov (.t 37), none, none⟩])
  (.seq (.reg [⟨some 38, .mov (.t 10), none, none⟩,
      ⟨some 39, .mov (.t 8), none, none⟩,
      ⟨some 40, .toStr (.t 39), none, none⟩,
      ⟨some 41, .mov (.t 7), none, none⟩,
      ⟨some 42, .toStr (.t 41), none, none⟩,
      ⟨some 43, .bin .eql (.t 40) (.t 42), none, none⟩,
      ⟨some 44, .eq .bool false (.t 38) (.t 43), none, none⟩,
      ⟨some 6, .mov (.t 44), none, none⟩])
  (.ret))))))))) }
def archipelagolaw4_CrcTurns_b0 : IC :=
  (.seq (.seq (.reg [⟨some 19, .mov (.t 9), none, none⟩,
      ⟨some 20, .mov (.t 7), none, none⟩,
      ⟨some 21, .bin .lss (.t 19) (.t 20), none, none⟩])
  (.cond (.t 21)
  (.skip)
  (.exit 0)))
  (.seq (.block 1
  (.regD [0, 1, 2, 3, 4, 5, 6, 7, 8, 9, 10, 11, 12] [⟨some 24, .mov (.t 8), none, none⟩,
        ⟨some 25, .mov (.t 9), none, none⟩,
        ⟨some 26, .mov (.t 0), none, none⟩,
        ⟨some 27, .mov (.t 9), none, none⟩,
        ⟨some 28, .iaddr 1 (.t 26) (.t 27), none, none⟩,
        ⟨some 29, .load 1 false (.t 28), none, none⟩,
        ⟨some 30, .mov (.t 1), none, none⟩,
        ⟨some 31, .mov (.t 9), none, none⟩,
        ⟨some 32, .iaddr 1 (.t 30) (.t 31), none, none⟩,
        ⟨some 33, .load 1 false (.t 32), none, none⟩,
        ⟨some 34, .bin .xor (.t 29) (.t 33), none, none⟩,
        ⟨some 35, .iaddr 1 (.t 24) (.t 25), none, none⟩,
        ⟨none, .store 1 (.t 35) (.t 34), none, none⟩]))
  (.reg [⟨some 22, .mov (.t 9), none, none⟩,
      ⟨some 23, .bin .add (.t 22) (.c (.int .i64 1)), none, none⟩,
      ⟨some 9, .mov (.t 23), none, none⟩])))
def ir_archipelagolaw4_CrcTurns : IFn :=
  { params := 3, results := [.tmp 6], body :=
  (.seq (.reg [⟨some 6, .mov (.c (.bool false)), none, none⟩])
  (.seq (.seq (.reg [⟨some 10, .call fid_archipelagolaw4_known [], none, none⟩,
      ⟨some 11, .un .not (.t 10), none, none⟩])
  (.cond (.t 11)
  (.seq (.reg [⟨some 6, .mov (.c (.bool false)), none, none⟩])
    (.ret))
  (.skip)))
  (.seq (.reg [⟨some 12, .mov (.t 0), none, none⟩,
      ⟨some 13, .len .sl (.t 12), none, none⟩,
      ⟨some 14, .mov (.t 1), none, none⟩,
      ⟨some 15, .len .sl (.t 14), none, none⟩,
      ⟨some 16, .minmax true [(.t 13), (.t 15), (.c (.int .i64 100))], none, none⟩,
      ⟨some 7, .mov (.t 16), none, none⟩])
  (.seq (.reg [⟨some 17, .mov (.t 7), none, none⟩,
      ⟨some 18, .mkslice 1 1 [(.int .u8 0)] (.t 17) (.t 17), none, none⟩,
      ⟨some 8, .mov (.t 18), none, none⟩])
  (.seq (.seq (.reg [⟨some 9, .mov (.c (.int .i64 0)), none, none⟩])
  (.block 0
  (.loop [0, 1, 2, 7, 8, 9] archipelagolaw4_CrcTurns_b0)))
  (.seq (.regD [0, 1, 2, 3, 4, 5, 6, 7, 8, 9, 11, 12, 13, 14, 16, 17, 18, 10, 15, 19, 20, 21, 22, 23, 24, 25, 26, 27, 28, 29, 30, 31, 32, 33, 34, 35, 36, 37] [⟨some 36, .mov (.t 0), none, none⟩,
      ⟨some 37, .mov (.t 7), none, none⟩,
      ⟨some 38, .slice false 1 (.t 36) none (some (.t 37)) none, none, none⟩,
      ⟨some 39, .mkrow 1 1 [.nils] [(0, (.t 38))], none, none⟩,
      ⟨some 40, .call fid_crc_Sum [(.t 39)], none, none⟩,
      ⟨some 41, .mov (.t 1), none, none⟩,
      ⟨some 42, .mov (.t 7), none, none⟩,
      ⟨some 43, .slice false 1 (.t 41) none (some (.t 42)) none, none, none⟩,
      ⟨some 44, .mkrow 1 1 [.nils] [(0, (.t 43))], none, none⟩,
      ⟨some 45, .call fid_crc_Sum [(.t 44)], none, none⟩,
      ⟨some 47, .mov (.t 7), none, none⟩,
      ⟨some 48, .mkslice 1 1 [(.int .u8 0)] (.t 47) (.t 47), none, none⟩,
      ⟨some 49, .mkrow 1 1 [.nils] [(0, (.t 48))], none, none⟩,
      ⟨some 50, .call fid_crc_Sum [(.t 49)], none, none⟩,
      ⟨some 52, .mov (.t 8), none, none⟩,
      ⟨some 53, .mkrow 1 1 [.nils] [(0, (.t 52))], none, none⟩,
      ⟨some 54, .call fid_crc_Sum [(.t 53)], none, none⟩,
      ⟨some 46, .bin .xor (.t 40) (.t 45), none, none⟩,
      ⟨some 51, .bin .xor (.t 46) (.t 50), none, none⟩,
      ⟨some 55, .bin .eql (.t 51) (.t 54), none, none⟩,
      ⟨some 56, .mov (.t 55), none, none⟩,
      ⟨some 57, .mov (.t 0), (some (56, true)), none⟩,
      ⟨some 58, .mkrow 1 1 [.nils] [(0, (.t 57))], (some (56, true)), none⟩,
      ⟨some 59, .call fid_crc_Sum [(.t 58)], (some (56, true)), none⟩,
      ⟨some 60, .mov (.t 2), (some (56, true)), none⟩,
      ⟨some 61, .call fid_crc_Next [(.t 59), (.t 60)], (some (56, true)), none⟩,
      ⟨some 62, .mov (.t 0), (some (56, true)), none⟩,
      ⟨some 63, .mov (.t 2), (some (56, true)), none⟩,
      ⟨some 64, .mkrow 1 1 [(.int .u8 0)] [(0, (.t 63))], (some (56, true)), none⟩,
      ⟨some 65, .mkrow 1 2 [.nils] [(0, (.t 62)), (1, (.t 64))], (some (56, true)), none⟩,
      ⟨some 66, .call fid_crc_Sum [(.t 65)], (some (56, true)), none⟩,
      ⟨some 67, .bin .eql (.t 61) (.t 66), (some (56, true)), none⟩,
      ⟨some 68, .pick (.t 56) (.t 67) (.c (.bool false)), none, none⟩,
      ⟨some 69, .mov (.t 68), none, none⟩,
      ⟨some 70, .call fid_crc_Sum [(.c .nils)], (some (69, true)), none⟩,
      ⟨some 71, .bin .eql (.t 70) (.c (.int .u32 0)), (some (69, true)), none⟩,
      ⟨some 72, .pick (.t 69) (.t 71) (.c (.bool false)), none, none⟩,
      ⟨some 6, .mov (.t 72), none, none⟩])
  (.ret))))))) }
def archipelagolaw4_CrcSteps_b0 : IC :=
  (.seq (.seq (.reg [⟨some 25, .mov (.t 7), none, none⟩,
      ⟨some 26, .mov (.t 0), none, none⟩,
      ⟨some 27, .len .sl (.t 26), none, none⟩,
      ⟨some 28, .bin .lss (.t 25) (.t 27), none, none⟩])
  (.cond (.t 28)
  (.skip)
  (.exit 0)))
  (.seq (.block 1
  (.reg [⟨some 31, .mov (.t 6), none, none⟩,
        ⟨some 32, .mov (.t 0), none, none⟩,
        ⟨some 33, .mov (.t 7), none, none⟩,
        ⟨some 34, .iaddr 1 (.t 32) (.t 33), none, none⟩,
        ⟨some 35, .load 1 false (.t 34), none, none⟩,
        ⟨some 36, .call fid_crc_Next [(.t 31), (.t 35)], none, none⟩,
        ⟨some 6, .mov (.t 36), none, none⟩]))
  (.reg [⟨some 29, .mov (.t 7), none, none⟩,
      ⟨some 30, .bin .add (.t 29) (.c (.int .i64 1)), none, none⟩,
      ⟨some 7, .mov (.t 30), none, none⟩])))
def ir_archipelagolaw4_CrcSteps : IFn :=
  { params := 2, results := [.tmp 4], body :=
  (.seq (.reg [⟨some 4, .mov (.c (.bool false)), none, none⟩])
  (.seq (.seq (.reg [⟨some 8, .call fid_archipelagolaw4_known [], none, none⟩,
      ⟨some 9, .un .not (.t 8), none, none⟩])
  (.cond (.t 9)
  (.seq (.reg [⟨some 4, .mov (.c (.bool false)), none, none⟩])
    (.ret))
  (.skip)))
  (.seq (.seq (.reg [⟨some 10, .mov (.t 0), none, none⟩,
      ⟨some 11, .len .sl (.t 10), none, none⟩,
      ⟨some 12, .bin .gtr (.t 11) (.c (.int .i64 100)), none, none⟩])
  (.cond (.t 12)
  (.seq (.reg [⟨some 4, .mov (.c (.bool true)), none, none⟩])
    (.ret))
  (.skip)))
  (.seq (.reg [⟨some 13, .mov (.t 1), none, none⟩,
      ⟨some 14, .conv .i64 (.t 13), none, none⟩,
      ⟨some 15, .mov (.t 0), none, none⟩,
      ⟨some 16, .len .sl (.t 15), none, none⟩,
      ⟨some 17, .bin .add (.t 16) (.c (.int .i64 1)), none, none⟩,
      ⟨some 18, .bin .rem (.t 14) (.t 17), none, none⟩,
      ⟨some 5, .mov (.t 18), none, none⟩])
  (.seq (.reg [⟨some 19, .mov (.t 0), none, none⟩,
      ⟨some 20, .mov (.t 5), none, none⟩,
      ⟨some 21, .slice false 1 (.t 19) none (some (.t 20)) none, none, none⟩,
      ⟨some 22, .mkrow 1 1 [.nils] [(0, (.t 21))], none, none⟩,
      ⟨some 23, .call fid_crc_Sum [(.t 22)], none, none⟩,
      ⟨some 6, .mov (.t 23), none, none⟩])
  (.seq (.seq (.reg [⟨some 24, .mov (.t 5), none, none⟩,
      ⟨some 7, .mov (.t 24), none, none⟩])
  (.block 0
  (.loop [0, 5, 6, 7] archipelagolaw4_CrcSteps_b0)))
  (.seq (.regD [1, 2, 3, 0, 4, 5, 7, 8, 9, 10, 11, 12, 13, 14, 6, 15, 16, 17, 19, 20, 21, 18, 22, 23, 24] [⟨some 38, .mov (.t 0), none, none⟩,
      ⟨some 39, .mkrow 1 1 [.nils] [(0, (.t 38))], none, none⟩,
      ⟨some 40, .call fid_crc_Sum [(.t 39)], none, none⟩,
      ⟨some 37, .mov (.t 6), none, none⟩,
      ⟨some 41, .bin .eql (.t 37) (.t 40), none, none⟩,
      ⟨some 42, .mov (.t 41), none, none⟩,
      ⟨some 44, .mov (.t 0), (some (42, true)), none⟩,
      ⟨some 45, .mov (.t 5), (some (42, true)), none⟩,
      ⟨some 46, .slice false 1 (.t 44) none (some (.t 45)) none, (some (42, true)), none⟩,
      ⟨some 47, .mov (.t 0), (some (42, true)), none⟩,
      ⟨some 48, .mov (.t 5), (some (42, true)), none⟩,
      ⟨some 49, .slice false 1 (.t 47) (some (.t 48)) none none, (some (42, true)), none⟩,
      ⟨some 50, .mkrow 1 2 [.nils] [(0, (.t 46)), (1, (.t 49))], (some (42, true)), none⟩,
      ⟨some 51, .call fid_crc_Sum [(.t 50)], (some (42, true)), none⟩,
      ⟨some 43, .mov (.t 6), (some (42, true)), none⟩,
      ⟨some 52, .bin .eql (.t 43) (.t 51), (some (42, true)), none⟩,
      ⟨some 53, .pick (.t 42) (.t 52) (.c (.bool false)), none, none⟩,
      ⟨some 54, .mov (.t 53), none, none⟩,
      ⟨some 56, .mov (.t 0), (some (54, true)), none⟩,
      ⟨some 57, .mkrow 1 3 [.nils] [(0, (.c .nils)), (1, (.t 56)), (2, (.c .nils))], (some (54, true)), none⟩,
      ⟨some 58, .call fid_crc_Sum [(.t 57)], (some (54, true)), none⟩,
      ⟨some 55, .mov (.t 6), (some (54, true)), none⟩,
      ⟨some 59, .bin .eql (.t 55) (.t 58), (some (54, true)), none⟩,
      ⟨some 60, .pick (.t 54) (.t 59) (.c (.bool false)), none, none⟩,
      ⟨some 4, .mov (.t 60), none, none⟩])
  (.ret)))))))) }
def ir_archipelagolaw4_CrcSeals : IFn :=
  { params := 3, results := [.tmp 6], body :=
  (.seq (.reg [⟨some 6, .mov (.c (.bool false)), none, none⟩])
  (.seq (.seq (.reg [⟨some 16, .call fid_archipelagolaw4_known [], none, none⟩,
      ⟨some 17, .un .not (.t 16), none, none⟩])
  (.cond (.t 17)
  (.seq (.reg [⟨some 6, .mov (.c (.bool false)), none, none⟩])
    (.ret))
  (.skip)))
  (.seq (.seq (.reg [⟨some 18, .mov (.t 0), none, none⟩,
      ⟨some 19, .len .sl (.t 18), none, none⟩,
      ⟨some 20, .bin .gtr (.t 19) (.c (.int .i64 100)), none, none⟩])
  (.cond (.t 20)
  (.seq (.reg [⟨some 6, .mov (.c (.bool true)), none, none⟩])
    (.ret))
  (.skip)))
  (.seq (.reg [⟨some 21, .mov (.t 0), none, none⟩,
      ⟨some 22, .call fid_crc_Seal [(.t 21)], none, none⟩,
      ⟨some 7, .mov (.t 22), none, none⟩])
  (.seq (.reg [⟨some 24, .mov (.t 7), none, none⟩,
      ⟨some 25, .call fid_crc_Open [(.t 24)], none, none⟩,
      ⟨some 23, .mov (.t 25), none, none⟩,
      ⟨some 26, .extract (.t 23) 0, none, none⟩,
      ⟨some 27, .extract (.t 23) 1, none, none⟩,
      ⟨some 8, .mov (.t 26), none, none⟩,
      ⟨some 9, .mov (.t 27), none, none⟩])
  (.seq (.seq (.reg [⟨some 28, .mov (.t 9), none, none⟩,
      ⟨some 29, .un .not (.t 28), none, none⟩,
      ⟨some 30, .mov (.t 29), none, none⟩,
      ⟨some 31, .mov (.t 8), (some (30, false)), none⟩,
      ⟨some 32, .toStr (.t 31), (some (30, false)), none⟩,
      ⟨some 33, .mov (.t 0), (some (30, false)), none⟩,
      ⟨some 34, .toStr (.t 33), (some (30, false)), none⟩,
      ⟨some 35, .bin .neq (.t 32) (.t 34), (some (30, false)), none⟩,
      ⟨some 36, .pick (.t 30) (.c (.bool true)) (.t 35), none, none⟩,
      ⟨some 37, .mov (.t 36), none, none⟩,
      ⟨some 38, .mov (.t 7), (some (37, false)), none⟩,
      ⟨some 39, .len .sl (.t 38), (some (37, false)), none⟩,
      ⟨some 40, .mov (.t 0), (some (37, false)), none⟩,
      ⟨some 41, .len .sl (.t 40), (some (37, false)), none⟩,
      ⟨some 42, .bin .add (.t 41) (.c (.int .i64 4)), (some (37, false)), none⟩,
      ⟨some 43, .bin .neq (.t 39) (.t 42), (some (37, false)), none⟩,
      ⟨some 44, .pick (.t 37) (.c (.bool true)) (.t 43), none, none⟩])
  (.cond (.t 44)
  (.seq (.reg [⟨some 6, .mov (.c (.bool false)), none, none⟩])
    (.ret))
  (.skip)))
  (.seq (.reg [⟨some 45, .mov (.t 0), none, none⟩,
      ⟨some 46, .len .sl (.t 45), none, none⟩,
      ⟨some 10, .mov (.t 46), none, none⟩])
  (.seq (.reg [⟨some 47, .mov (.t 0), none, none⟩,
      ⟨some 48, .append 1 1 (.c .nils) (.t 47), none, none⟩,
      ⟨some 49, .mov (.t 1), none, none⟩,
      ⟨some 50, .conv .u8 (.t 49), none, none⟩,
      ⟨some 51, .mov (.t 1), none, none⟩,
      ⟨some 52, .bin .shr (.t 51) (.c (.int .u64 8)), none, none⟩,
      ⟨some 53, .conv .u8 (.t 52), none, none⟩,
      ⟨some 54, .mov (.t 1), none, none⟩,
      ⟨some 55, .bin .shr (.t 54) (.c (.int .u64 16)), none, none⟩,
      ⟨some 56, .conv .u8 (.t 55), none, none⟩,
      ⟨some 57, .mov (.t 1), none, none⟩,
      ⟨some 58, .bin .shr (.t 57) (.c (.int .u64 24)), none, none⟩,
      ⟨some 59, .conv .u8 (.t 58), none, none⟩,
      ⟨some 60, .mkrow 1 4 [(.int .u8 0)] [(0, (.t 50)), (1, (.t 53)), (2, (.t 56)), (3, (.t 59))], none, none⟩,
      ⟨some 61, .append 1 1 (.t 48) (.t 60), none, none⟩,
      ⟨some 11, .mov (.t 61), none, none⟩])
  (.seq (.reg [⟨some 63, .mov (.t 11), none, none⟩,
      ⟨some 64, .call fid_crc_Open [(.t 63)], none, none⟩,
      ⟨some 62, .mov (.t 64), none, none⟩,
      ⟨some 65, .extract (.t 62) 0, none, none⟩,
      ⟨some 66, .extract (.t 62) 1, none, none⟩,
      ⟨some 12, .mov (.t 65), none, none⟩,
      ⟨some 13, .mov (.t 66), none, none⟩])
  (.seq (.reg [⟨some 68, .mov (.t 7), none, none⟩,
      ⟨some 69, .mov (.t 2), none, none⟩,
      ⟨some 70, .conv .i64 (.t 69), none, none⟩,
      ⟨some 71, .bin .rem (.t 70) (.c (.int .i64 4)), none, none⟩,
      ⟨some 72, .slice false 1 (.t 68) none (some (.t 71)) none, none, none⟩,
      ⟨some 73, .call fid_crc_Open [(.t 72)], none, none⟩,
      ⟨some 67, .mov (.t 73), none, none⟩,
      ⟨some 74, .extract (.t 67) 0, none, none⟩,
      ⟨some 75, .extract (.t 67) 1, none, none⟩,
      ⟨some 14, .mov (.t 74), none, none⟩,
      ⟨some 15, .mov (.t 75), none, none⟩])
  (.seq (.regD [2, 3, 4, 0, 1, 5, 6, 7, 8, 9, 10, 11, 16, 17, 18, 20, 21, 22, 25, 26, 27, 30, 31, 32, 12, 13, 14, 15, 19, 23, 24, 28, 29, 33, 34, 35, 36, 37, 38, 39] [⟨some 78, .mov (.t 0), none, none⟩,
      ⟨some 79, .mkrow 1 1 [.nils] [(0, (.t 78))], none, none⟩,
      ⟨some 80, .call fid_crc_Sum [(.t 79)], none, none⟩,
      ⟨some 76, .mov (.t 13), none, none⟩,
      ⟨some 77, .mov (.t 1), none, none⟩,
      ⟨some 81, .bin .eql (.t 77) (.t 80), none, none⟩,
      ⟨some 82, .eq .bool false (.t 76) (.t 81), none, none⟩,
      ⟨some 83, .mov (.t 82), none, none⟩,
      ⟨some 84, .mov (.t 15), (some (83, true)), none⟩,
      ⟨some 85, .un .not (.t 84), (some (83, true)), none⟩,
      ⟨some 86, .pick (.t 83) (.t 85) (.c (.bool false)), none, none⟩,
      ⟨some 87, .mov (.t 86), none, none⟩,
      ⟨some 92, .mov (.t 0), (some (87, true)), none⟩,
      ⟨some 93, .mkrow 1 1 [.nils] [(0, (.t 92))], (some (87, true)), none⟩,
      ⟨some 94, .call fid_crc_Sum [(.t 93)], (some (87, true)), none⟩,
      ⟨some 96, .mov (.t 0), (some (87, true)), none⟩,
      ⟨some 97, .mkrow 1 1 [.nils] [(0, (.t 96))], (some (87, true)), none⟩,
      ⟨some 98, .call fid_crc_Sum [(.t 97)], (some (87, true)), none⟩,
      ⟨some 101, .mov (.t 0), (some (87, true)), none⟩,
      ⟨some 102, .mkrow 1 1 [.nils] [(0, (.t 101))], (some (87, true)), none⟩,
      ⟨some 103, .call fid_crc_Sum [(.t 102)], (some (87, true)), none⟩,
      ⟨some 106, .mov (.t 0), (some (87, true)), none⟩,
      ⟨some 107, .mkrow 1 1 [.nils] [(0, (.t 106))], (some (87, true)), none⟩,
      ⟨some 108, .call fid_crc_Sum [(.t 107)], (some (87, true)), none⟩,
      ⟨some 88, .mov (.t 7), (some (87, true)), none⟩,
      ⟨some 89, .mov (.t 10), (some (87, true)), none⟩,
      ⟨some 90, .slice false 1 (.t 88) (some (.t 89)) none none, (some (87, true)), none⟩,
      ⟨some 91, .toStr (.t 90), (some (87, true)), some (1, 5)⟩,
      ⟨some 95, .conv .u8 (.t 94), (some (87, true)), none⟩,
      ⟨some 99, .bin .shr (.t 98) (.c (.int .u64 8)), (some (87, true)), none⟩,
      ⟨some 100, .conv .u8 (.t 99), (some (87, true)), none⟩,
      ⟨some 104, .bin .shr (.t 103) (.c (.int .u64 16)), (some (87, true)), none⟩,
      ⟨some 105, .conv .u8 (.t 104), (some (87, true)), none⟩,
      ⟨some 109, .bin .shr (.t 108) (.c (.int .u64 24)), (some (87, true)), none⟩,
      ⟨some 110, .conv .u8 (.t 109), (some (87, true)), none⟩,
      ⟨some 111, .mkrow 1 4 [(.int .u8 0)] [(0, (.t 95)), (1, (.t 100)), (2, (.t 105)), (3, (.t 110))], (some (87, true)), none⟩,
      ⟨some 112, .toStr (.t 111), (some (87, true)), none⟩,
      ⟨some 113, .bin .eql (.t 91) (.t 112), (some (87, true)), none⟩,
      ⟨some 114, .pick (.t 87) (.t 113) (.c (.bool false)), none, none⟩,
      ⟨some 6, .mov (.t 114), none, none⟩])
  (.ret)))))))))))) }
end Go.Ab
