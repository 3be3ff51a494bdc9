/- The functions as the abstract machine has them (printed by wip/irgen.py). -/
import Derived.Test.YteihibbmeallhaaAbs1
namespace Go.Ab
open Go
def fid_archipelagolaw2_VarintTells : Nat := 3
def fid_archipelagolaw2_VarintBack : Nat := 4
def fid_archipelagolaw2_VarintMany : Nat := 5
def fid_archipelagolaw2_VarintForms : Nat := 6
def fid_archipelagolaw2_VarintShorts : Nat := 7
def fid_archipelagolaw2_known : Nat := 8
def fid_archipelagoref1_Put : Nat := 9
def fid_varint_Put : Nat := 10
def fid_archipelagolaw2_edge : Nat := 11
def fid_varint_Take : Nat := 12
def fid_archipelagoref1_Take : Nat := 13
def fid_varint_Size : Nat := 14
def fid_archipelagoref1_Size : Nat := 15
def varint_Put_b0 : IC :=
  (.seq (.seq (.reg [⟨some 12, .mov (.t 5), none, none⟩,
      ⟨some 13, .bin .geq (.t 12) (.c (.int .u64 128)), none, none⟩])
  (.cond (.t 13)
  (.skip)
  (.exit 2)))
  (.seq (.block 3
  (.reg [⟨some 16, .mov (.t 3), none, none⟩,
        ⟨some 17, .mov (.t 5), none, none⟩,
        ⟨some 18, .conv .u8 (.t 17), none, none⟩,
        ⟨some 19, .bin .or (.t 18) (.c (.int .u8 128)), none, none⟩,
        ⟨some 20, .mkrow 1 1 [(.int .u8 0)] [(0, (.t 19))], none, none⟩,
        ⟨some 21, .append 1 1 (.t 16) (.t 20), none, none⟩,
        ⟨some 3, .mov (.t 21), none, none⟩]))
  (.reg [⟨some 14, .mov (.t 5), none, none⟩,
      ⟨some 15, .bin .shr (.t 14) (.c (.int .u64 7)), none, none⟩,
      ⟨some 5, .mov (.t 15), none, none⟩])))
def varint_Put_b1 : IC :=
  (.seq (.reg [⟨some 9, .bin .lss (.t 8) (.t 7), none, none⟩])
  (.seq (.cond (.t 9)
  (.skip)
  (.exit 0))
  (.seq (.block 1
  (.seq (.reg [⟨some 10, .iaddr 1 (.t 6) (.t 8), none, none⟩,
        ⟨some 11, .load 1 false (.t 10), none, none⟩,
        ⟨some 5, .mov (.t 11), none, none⟩])
    (.seq (.block 2
    (.loop [3, 5, 6, 7, 8] varint_Put_b0))
    (.reg [⟨some 22, .mov (.t 3), none, none⟩,
        ⟨some 23, .mov (.t 5), none, none⟩,
        ⟨some 24, .conv .u8 (.t 23), none, none⟩,
        ⟨some 25, .mkrow 1 1 [(.int .u8 0)] [(0, (.t 24))], none, none⟩,
        ⟨some 26, .append 1 1 (.t 22) (.t 25), none, none⟩,
        ⟨some 3, .mov (.t 26), none, none⟩]))))
  (.reg [⟨some 27, .bin .add (.t 8) (.c (.int .i64 1)), none, none⟩,
      ⟨some 8, .mov (.t 27), none, none⟩]))))
def ir_varint_Put : IFn :=
  { params := 1, results := [.tmp 2], body :=
  (.seq (.reg [⟨some 2, .mov (.c .nils), none, none⟩])
  (.seq (.reg [⟨some 3, .mov (.c .nils), none, none⟩])
  (.seq (.seq (.reg [⟨some 6, .mov (.t 0), none, none⟩,
      ⟨some 7, .len .sl (.t 6), none, none⟩,
      ⟨some 8, .mov (.c (.int .i64 0)), none, none⟩])
  (.block 0
  (.loop [3, 6, 7, 8] varint_Put_b1)))
  (.seq (.reg [⟨some 28, .mov (.t 3), none, none⟩,
      ⟨some 2, .mov (.t 28), none, none⟩])
  (.ret))))) }
def varint_Take_b0 : IC :=
  (.seq (.reg [⟨some 13, .bin .lss (.t 12) (.t 11), none, none⟩])
  (.seq (.cond (.t 13)
  (.skip)
  (.exit 0))
  (.seq (.block 1
  (.seq (.reg [⟨some 14, .mov (.t 12), none, none⟩,
        ⟨some 15, .iaddr 1 (.t 10) (.t 12), none, none⟩,
        ⟨some 16, .load 1 false (.t 15), none, none⟩,
        ⟨some 8, .mov (.t 14), none, none⟩,
        ⟨some 9, .mov (.t 16), none, none⟩])
    (.seq (.seq (.reg [⟨some 17, .mov (.t 8), none, none⟩,
        ⟨some 18, .bin .eql (.t 17) (.c (.int .i64 9)), none, none⟩,
        ⟨some 19, .mov (.t 18), none, none⟩,
        ⟨some 20, .mov (.t 9), (some (19, true)), none⟩,
        ⟨some 21, .bin .gtr (.t 20) (.c (.int .u8 1)), (some (19, true)), none⟩,
        ⟨some 22, .pick (.t 19) (.t 21) (.c (.bool false)), none, none⟩,
        ⟨some 23, .mov (.t 22), none, none⟩,
        ⟨some 24, .mov (.t 8), (some (23, false)), none⟩,
        ⟨some 25, .bin .gtr (.t 24) (.c (.int .i64 0)), (some (23, false)), none⟩,
        ⟨some 26, .mov (.t 25), (some (23, false)), none⟩,
        ⟨some 27, .mov (.t 9), (some (26, true)), none⟩,
        ⟨some 28, .bin .eql (.t 27) (.c (.int .u8 0)), (some (26, true)), none⟩,
        ⟨some 29, .pick (.t 26) (.t 28) (.c (.bool false)), (some (23, false)), none⟩,
        ⟨some 30, .pick (.t 23) (.c (.bool true)) (.t 29), none, none⟩])
    (.cond (.t 30)
    (.seq (.reg [⟨some 4, .mov (.c (.int .u64 0)), none, none⟩,
          ⟨some 5, .mov (.c (.int .i64 0)), none, none⟩,
          ⟨some 6, .mov (.c (.int .i64 21)), none, none⟩])
      (.ret))
    (.skip)))
    (.seq (.reg [⟨some 31, .mov (.t 7), none, none⟩,
        ⟨some 32, .mov (.t 9), none, none⟩,
        ⟨some 33, .bin .and (.t 32) (.c (.int .u8 127)), none, none⟩,
        ⟨some 34, .conv .u64 (.t 33), none, none⟩,
        ⟨some 35, .mov (.t 8), none, none⟩,
        ⟨some 36, .bin .mul (.c (.int .i64 7)) (.t 35), none, none⟩,
        ⟨some 37, .bin .shl (.t 34) (.t 36), none, none⟩,
        ⟨some 38, .bin .or (.t 31) (.t 37), none, none⟩,
        ⟨some 7, .mov (.t 38), none, none⟩])
    (.seq (.seq (.reg [⟨some 39, .mov (.t 9), none, none⟩,
        ⟨some 40, .bin .geq (.t 39) (.c (.int .u8 128)), none, none⟩])
    (.cond (.t 40)
    (.exit 1)
    (.skip)))
    (.seq (.seq (.reg [⟨some 41, .mov (.t 7), none, none⟩,
        ⟨some 42, .mov (.t 1), none, none⟩,
        ⟨some 43, .bin .gtr (.t 41) (.t 42), none, none⟩])
    (.cond (.t 43)
    (.seq (.reg [⟨some 4, .mov (.c (.int .u64 0)), none, none⟩,
          ⟨some 5, .mov (.c (.int .i64 0)), none, none⟩,
          ⟨some 6, .mov (.c (.int .i64 22)), none, none⟩])
      (.ret))
    (.skip)))
    (.seq (.reg [⟨some 44, .mov (.t 7), none, none⟩,
        ⟨some 45, .mov (.t 8), none, none⟩,
        ⟨some 46, .bin .add (.t 45) (.c (.int .i64 1)), none, none⟩,
        ⟨some 4, .mov (.t 44), none, none⟩,
        ⟨some 5, .mov (.t 46), none, none⟩,
        ⟨some 6, .mov (.c (.int .i64 0)), none, none⟩])
    (.ret))))))))
  (.reg [⟨some 47, .bin .add (.t 12) (.c (.int .i64 1)), none, none⟩,
      ⟨some 12, .mov (.t 47), none, none⟩]))))
def ir_varint_Take : IFn :=
  { params := 2, results := [.tmp 4, .tmp 5, .tmp 6], body :=
  (.seq (.reg [⟨some 4, .mov (.c (.int .u64 0)), none, none⟩,
      ⟨some 5, .mov (.c (.int .i64 0)), none, none⟩,
      ⟨some 6, .mov (.c (.int .i64 0)), none, none⟩])
  (.seq (.reg [⟨some 7, .mov (.c (.int .u64 0)), none, none⟩])
  (.seq (.seq (.reg [⟨some 10, .mov (.t 0), none, none⟩,
      ⟨some 11, .len .sl (.t 10), none, none⟩,
      ⟨some 12, .mov (.c (.int .i64 0)), none, none⟩])
  (.block 0
  (.loop [1, 7, 10, 11, 12] varint_Take_b0)))
  (.seq (.reg [⟨some 4, .mov (.c (.int .u64 0)), none, none⟩,
      ⟨some 5, .mov (.c (.int .i64 0)), none, none⟩,
      ⟨some 6, .mov (.c (.int .i64 20)), none, none⟩])
  (.ret))))) }
def ir_varint_Size : IFn :=
  { params := 1, results := [.tmp 2], body :=
  (.seq (.reg [⟨some 2, .mov (.c (.int .i64 0)), none, none⟩])
  (.seq (.reg [⟨some 3, .mov (.t 0), none, none⟩,
      ⟨some 4, .mkrow 1 1 [(.int .u64 0)] [(0, (.t 3))], none, none⟩,
      ⟨some 5, .call fid_varint_Put [(.t 4)], none, none⟩,
      ⟨some 6, .len .sl (.t 5), none, none⟩,
      ⟨some 2, .mov (.t 6), none, none⟩])
  (.ret))) }
def ir_archipelagolaw2_known : IFn :=
  { params := 0, results := [.tmp 0], body :=
  (.seq (.reg [⟨some 0, .mov (.c (.bool false)), none, none⟩])
  (.seq (.reg [⟨some 11, .mkrow 1 2 [(.int .u64 0)] [(0, (.c (.int .u64 300))), (1, (.c (.int .u64 0)))], none, none⟩,
      ⟨some 12, .call fid_varint_Put [(.t 11)], none, none⟩,
      ⟨some 1, .mov (.t 12), none, none⟩])
  (.seq (.reg [⟨some 14, .mov (.t 1), none, none⟩,
      ⟨some 15, .call fid_varint_Take [(.t 14), (.c (.int .u64 300))], none, none⟩,
      ⟨some 13, .mov (.t 15), none, none⟩,
      ⟨some 16, .extract (.t 13) 0, none, none⟩,
      ⟨some 17, .extract (.t 13) 1, none, none⟩,
      ⟨some 18, .extract (.t 13) 2, none, none⟩,
      ⟨some 2, .mov (.t 16), none, none⟩,
      ⟨some 3, .mov (.t 17), none, none⟩,
      ⟨some 4, .mov (.t 18), none, none⟩])
  (.seq (.reg [⟨some 20, .mkrow 1 2 [(.int .u8 0)] [(0, (.c (.int .u8 128))), (1, (.c (.int .u8 0)))], none, none⟩,
      ⟨some 21, .call fid_varint_Take [(.t 20), (.c (.int .u64 9))], none, none⟩,
      ⟨some 19, .mov (.t 21), none, none⟩,
      ⟨some 22, .extract (.t 19) 0, none, none⟩,
      ⟨some 23, .extract (.t 19) 1, none, none⟩,
      ⟨some 24, .extract (.t 19) 2, none, none⟩,
      ⟨some 5, .mov (.t 22), none, none⟩,
      ⟨some 6, .mov (.t 23), none, none⟩,
      ⟨some 7, .mov (.t 24), none, none⟩])
  (.seq (.reg [⟨some 26, .mov (.t 1), none, none⟩,
      ⟨some 27, .call fid_varint_Take [(.t 26), (.c (.int .u64 299))], none, none⟩,
      ⟨some 25, .mov (.t 27), none, none⟩,
      ⟨some 28, .extract (.t 25) 0, none, none⟩,
      ⟨some 29, .extract (.t 25) 1, none, none⟩,
      ⟨some 30, .extract (.t 25) 2, none, none⟩,
      ⟨some 8, .mov (.t 28), none, none⟩,
      ⟨some 9, .mov (.t 29), none, none⟩,
      ⟨some 10, .mov (.t 30), none, none⟩])
  (.seq (.reg [⟨some 31, .mov (.t 1), none, none⟩,
      ⟨some 32, .toStr (.t 31), none, none⟩,
      ⟨some 33, .bin .eql (.t 32) (.c (.str [172, 2, 0])), none, none⟩,
      ⟨some 34, .mov (.t 33), none, none⟩,
      ⟨some 35, .mov (.t 2), (some (34, true)), none⟩,
      ⟨some 36, .bin .eql (.t 35) (.c (.int .u64 300)), (some (34, true)), none⟩,
      ⟨some 37, .pick (.t 34) (.t 36) (.c (.bool false)), none, none⟩,
      ⟨some 38, .mov (.t 37), none, none⟩,
      ⟨some 39, .mov (.t 3), (some (38, true)), none⟩,
      ⟨some 40, .bin .eql (.t 39) (.c (.int .i64 2)), (some (38, true)), none⟩,
      ⟨some 41, .pick (.t 38) (.t 40) (.c (.bool false)), none, none⟩,
      ⟨some 42, .mov (.t 41), none, none⟩,
      ⟨some 43, .mov (.t 4), (some (42, true)), none⟩,
      ⟨some 44, .bin .eql (.t 43) (.c (.int .i64 0)), (some (42, true)), none⟩,
      ⟨some 45, .pick (.t 42) (.t 44) (.c (.bool false)), none, none⟩,
      ⟨some 46, .mov (.t 45), none, none⟩,
      ⟨some 47, .mov (.t 7), (some (46, true)), none⟩,
      ⟨some 48, .bin .eql (.t 47) (.c (.int .i64 21)), (some (46, true)), none⟩,
      ⟨some 49, .pick (.t 46) (.t 48) (.c (.bool false)), none, none⟩,
      ⟨some 50, .mov (.t 49), none, none⟩,
      ⟨some 51, .mov (.t 10), (some (50, true)), none⟩,
      ⟨some 52, .bin .eql (.t 51) (.c (.int .i64 22)), (some (50, true)), none⟩,
      ⟨some 53, .pick (.t 50) (.t 52) (.c (.bool false)), none, none⟩,
      ⟨some 54, .mov (.t 53), none, none⟩,
      ⟨some 55, .call fid_varint_Size [(.c (.int .u64 127))], (some (54, true)), none⟩,
      ⟨some 56, .bin .eql (.t 55) (.c (.int .i64 1)), (some (54, true)), none⟩,
      ⟨some 57, .pick (.t 54) (.t 56) (.c (.bool false)), none, none⟩,
      ⟨some 0, .mov (.t 57), none, none⟩])
  (.ret))))))) }
def archipelagoref1_Put_b0 : IC :=
  (.seq (.seq (.reg [⟨some 16, .mov (.t 5), none, none⟩,
      ⟨some 17, .bin .geq (.t 16) (.c (.int .u64 128)), none, none⟩])
  (.cond (.t 17)
  (.skip)
  (.exit 2)))
  (.block 3
  (.seq (.reg [⟨some 18, .mov (.t 3), none, none⟩,
        ⟨some 19, .mov (.t 5), none, none⟩,
        ⟨some 20, .bin .and (.t 19) (.c (.int .u64 127)), none, none⟩,
        ⟨some 21, .conv .u8 (.t 20), none, none⟩,
        ⟨some 22, .bin .or (.t 21) (.c (.int .u8 128)), none, none⟩,
        ⟨some 23, .mkrow 1 1 [(.int .u8 0)] [(0, (.t 22))], none, none⟩,
        ⟨some 24, .append 1 1 (.t 18) (.t 23), none, none⟩,
        ⟨some 3, .mov (.t 24), none, none⟩])
    (.reg [⟨some 25, .mov (.t 5), none, none⟩,
        ⟨some 26, .bin .shr (.t 25) (.c (.int .u64 7)), none, none⟩,
        ⟨some 5, .mov (.t 26), none, none⟩]))))
def archipelagoref1_Put_b1 : IC :=
  (.seq (.seq (.reg [⟨some 6, .mov (.t 4), none, none⟩,
      ⟨some 7, .mov (.t 0), none, none⟩,
      ⟨some 8, .len .sl (.t 7), none, none⟩,
      ⟨some 9, .bin .lss (.t 6) (.t 8), none, none⟩])
  (.cond (.t 9)
  (.skip)
  (.exit 0)))
  (.seq (.block 1
  (.seq (.reg [⟨some 12, .mov (.t 0), none, none⟩,
        ⟨some 13, .mov (.t 4), none, none⟩,
        ⟨some 14, .iaddr 1 (.t 12) (.t 13), none, none⟩,
        ⟨some 15, .load 1 false (.t 14), none, none⟩,
        ⟨some 5, .mov (.t 15), none, none⟩])
    (.seq (.block 2
    (.loop [0, 3, 4, 5] archipelagoref1_Put_b0))
    (.reg [⟨some 27, .mov (.t 3), none, none⟩,
        ⟨some 28, .mov (.t 5), none, none⟩,
        ⟨some 29, .conv .u8 (.t 28), none, none⟩,
        ⟨some 30, .mkrow 1 1 [(.int .u8 0)] [(0, (.t 29))], none, none⟩,
        ⟨some 31, .append 1 1 (.t 27) (.t 30), none, none⟩,
        ⟨some 3, .mov (.t 31), none, none⟩]))))
  (.reg [⟨some 10, .mov (.t 4), none, none⟩,
      ⟨some 11, .bin .add (.t 10) (.c (.int .i64 1)), none, none⟩,
      ⟨some 4, .mov (.t 11), none, none⟩])))
def ir_archipelagoref1_Put : IFn :=
  { params := 1, results := [.tmp 2], body :=
  (.seq (.reg [⟨some 2, .mov (.c .nils), none, none⟩])
  (.seq (.reg [⟨some 3, .mov (.c .nils), none, none⟩])
  (.seq (.seq (.reg [⟨some 4, .mov (.c (.int .i64 0)), none, none⟩])
  (.block 0
  (.loop [0, 3, 4] archipelagoref1_Put_b1)))
  (.seq (.reg [⟨some 32, .mov (.t 3), none, none⟩,
      ⟨some 2, .mov (.t 32), none, none⟩])
  (.ret))))) }
def ir_archipelagolaw2_edge : IFn :=
  { params := 2, results := [.tmp 4], body :=
  (.seq (.reg [⟨some 4, .mov (.c (.int .u64 0)), none, none⟩])
  (.seq (.reg [⟨some 6, .mov (.t 0), none, none⟩,
      ⟨some 7, .mov (.t 0), none, none⟩,
      ⟨some 8, .bin .shr (.t 7) (.c (.int .u64 32)), none, none⟩,
      ⟨some 9, .mov (.t 0), none, none⟩,
      ⟨some 10, .bin .shr (.t 9) (.c (.int .u64 57)), none, none⟩,
      ⟨some 11, .mkrow 1 12 [(.int .u64 0)] [(0, (.t 6)), (1, (.t 8)), (2, (.t 10)), (3, (.c (.int .u64 0))), (4, (.c (.int .u64 1))), (5, (.c (.int .u64 127))), (6, (.c (.int .u64 128))), (7, (.c (.int .u64 16383))), (8, (.c (.int .u64 16384))), (9, (.c (.int .u64 9223372036854775807))), (10, (.c (.int .u64 9223372036854775808))), (11, (.c (.int .u64 18446744073709551615)))], none, none⟩,
      ⟨some 5, .mov (.t 11), none, none⟩])
  (.seq (.reg [⟨some 12, .mov (.t 5), none, none⟩,
      ⟨some 13, .mov (.t 1), none, none⟩,
      ⟨some 14, .conv .i64 (.t 13), none, none⟩,
      ⟨some 15, .mov (.t 5), none, none⟩,
      ⟨some 16, .len .sl (.t 15), none, none⟩,
      ⟨some 17, .bin .rem (.t 14) (.t 16), none, none⟩,
      ⟨some 18, .iaddr 1 (.t 12) (.t 17), none, none⟩,
      ⟨some 19, .load 1 false (.t 18), none, none⟩,
      ⟨some 4, .mov (.t 19), none, none⟩])
  (.ret)))) }
def archipelagoref1_Take_b0 : IC :=
  (.seq (.seq (.reg [⟨some 9, .mov (.t 8), none, none⟩,
      ⟨some 10, .mov (.t 0), none, none⟩,
      ⟨some 11, .len .sl (.t 10), none, none⟩,
      ⟨some 12, .bin .lss (.t 9) (.t 11), none, none⟩])
  (.cond (.t 12)
  (.skip)
  (.exit 0)))
  (.seq (.block 1
  (.seq (.seq (.reg [⟨some 15, .mov (.t 8), none, none⟩,
        ⟨some 16, .bin .eql (.t 15) (.c (.int .i64 9)), none, none⟩,
        ⟨some 17, .mov (.t 16), none, none⟩,
        ⟨some 18, .mov (.t 0), (some (17, true)), none⟩,
        ⟨some 19, .mov (.t 8), (some (17, true)), none⟩,
        ⟨some 20, .iaddr 1 (.t 18) (.t 19), (some (17, true)), none⟩,
        ⟨some 21, .load 1 false (.t 20), (some (17, true)), none⟩,
        ⟨some 22, .bin .gtr (.t 21) (.c (.int .u8 1)), (some (17, true)), none⟩,
        ⟨some 23, .pick (.t 17) (.t 22) (.c (.bool false)), none, none⟩])
    (.cond (.t 23)
    (.seq (.reg [⟨some 4, .mov (.c (.int .u64 0)), none, none⟩,
          ⟨some 5, .mov (.c (.int .i64 0)), none, none⟩,
          ⟨some 6, .mov (.c (.int .i64 21)), none, none⟩])
      (.ret))
    (.skip)))
    (.seq (.reg [⟨some 24, .mov (.t 7), none, none⟩,
        ⟨some 25, .mov (.t 0), none, none⟩,
        ⟨some 26, .mov (.t 8), none, none⟩,
        ⟨some 27, .iaddr 1 (.t 25) (.t 26), none, none⟩,
        ⟨some 28, .load 1 false (.t 27), none, none⟩,
        ⟨some 29, .bin .and (.t 28) (.c (.int .u8 127)), none, none⟩,
        ⟨some 30, .conv .u64 (.t 29), none, none⟩,
        ⟨some 31, .mov (.t 8), none, none⟩,
        ⟨some 32, .bin .mul (.c (.int .i64 7)) (.t 31), none, none⟩,
        ⟨some 33, .bin .shl (.t 30) (.t 32), none, none⟩,
        ⟨some 34, .bin .or (.t 24) (.t 33), none, none⟩,
        ⟨some 7, .mov (.t 34), none, none⟩])
    (.seq (.reg [⟨some 35, .mov (.t 0), none, none⟩,
        ⟨some 36, .mov (.t 8), none, none⟩,
        ⟨some 37, .iaddr 1 (.t 35) (.t 36), none, none⟩,
        ⟨some 38, .load 1 false (.t 37), none, none⟩,
        ⟨some 39, .bin .lss (.t 38) (.c (.int .u8 128)), none, none⟩])
    (.cond (.t 39)
    (.seq (.block 2
      (.seq (.reg [⟨some 41, .mov (.t 0), none, none⟩,
            ⟨some 42, .mov (.t 8), none, none⟩,
            ⟨some 43, .iaddr 1 (.t 41) (.t 42), none, none⟩,
            ⟨some 44, .load 1 false (.t 43), none, none⟩,
            ⟨some 45, .bin .eql (.t 44) (.c (.int .u8 0)), none, none⟩,
            ⟨some 46, .mov (.t 45), none, none⟩,
            ⟨some 47, .mov (.t 8), (some (46, true)), none⟩,
            ⟨some 48, .bin .gtr (.t 47) (.c (.int .i64 0)), (some (46, true)), none⟩,
            ⟨some 49, .pick (.t 46) (.t 48) (.c (.bool false)), none, none⟩,
            ⟨some 40, .mov (.t 49), none, none⟩])
        (.cond (.t 40)
        (.seq (.reg [⟨some 4, .mov (.c (.int .u64 0)), none, none⟩,
              ⟨some 5, .mov (.c (.int .i64 0)), none, none⟩,
              ⟨some 6, .mov (.c (.int .i64 21)), none, none⟩])
          (.ret))
        (.seq (.reg [⟨some 51, .mov (.t 7), none, none⟩,
              ⟨some 52, .mov (.t 1), none, none⟩,
              ⟨some 53, .bin .gtr (.t 51) (.t 52), none, none⟩,
              ⟨some 50, .mov (.t 53), none, none⟩])
          (.cond (.t 50)
          (.seq (.reg [⟨some 4, .mov (.c (.int .u64 0)), none, none⟩,
                ⟨some 5, .mov (.c (.int .i64 0)), none, none⟩,
                ⟨some 6, .mov (.c (.int .i64 22)), none, none⟩])
            (.ret))
          (.skip))))))
      (.seq (.reg [⟨some 54, .mov (.t 7), none, none⟩,
          ⟨some 55, .mov (.t 8), none, none⟩,
          ⟨some 56, .bin .add (.t 55) (.c (.int .i64 1)), none, none⟩,
          ⟨some 4, .mov (.t 54), none, none⟩,
          ⟨some 5, .mov (.t 56), none, none⟩,
          ⟨some 6, .mov (.c (.int .i64 0)), none, none⟩])
      (.ret)))
    (.skip))))))
  (.reg [⟨some 13, .mov (.t 8), none, none⟩,
      ⟨some 14, .bin .add (.t 13) (.c (.int .i64 1)), none, none⟩,
      ⟨some 8, .mov (.t 14), none, none⟩])))
def ir_archipelagoref1_Take : IFn :=
  { params := 2, results := [.tmp 4, .tmp 5, .tmp 6], body :=
  (.seq (.reg [⟨some 4, .mov (.c (.int .u64 0)), none, none⟩,
      ⟨some 5, .mov (.c (.int .i64 0)), none, none⟩,
      ⟨some 6, .mov (.c (.int .i64 0)), none, none⟩])
  (.seq (.reg [⟨some 7, .mov (.c (.int .u64 0)), none, none⟩])
  (.seq (.seq (.reg [⟨some 8, .mov (.c (.int .i64 0)), none, none⟩])
  (.block 0
  (.loop [0, 1, 7, 8] archipelagoref1_Take_b0)))
  (.seq (.reg [⟨some 4, .mov (.c (.int .u64 0)), none, none⟩,
      ⟨some 5, .mov (.c (.int .i64 0)), none, none⟩,
      ⟨some 6, .mov (.c (.int .i64 20)), none, none⟩])
  (.ret))))) }
def ir_archipelagoref1_Size : IFn :=
  { params := 1, results := [.tmp 2], body :=
  (.seq (.reg [⟨some 2, .mov (.c (.int .i64 0)), none, none⟩])
  (.seq (.reg [⟨some 3, .mov (.t 0), none, none⟩,
      ⟨some 4, .mkrow 1 1 [(.int .u64 0)] [(0, (.t 3))], none, none⟩,
      ⟨some 5, .call fid_archipelagoref1_Put [(.t 4)], none, none⟩,
      ⟨some 6, .len .sl (.t 5), none, none⟩,
      ⟨some 2, .mov (.t 6), none, none⟩])
  (.ret))) }
def archipelagolaw2_VarintTells_b0 : IC :=
  (.seq (.reg [⟨some 87, .bin .lss (.t 86) (.t 85), none, none⟩])
  (.seq (.cond (.t 87)
  (.skip)
  (.exit 2))
  (.seq (.block 3
  (.seq (.reg [⟨some 88, .iaddr 1 (.t 84) (.t 86), none, none⟩,
        ⟨some 89, .load 1 false (.t 88), none, none⟩,
        ⟨some 19, .mov (.t 89), none, none⟩])
    (.seq (.reg [⟨some 91, .mov (.t 17), none, none⟩,
        ⟨some 92, .mov (.t 19), none, none⟩,
        ⟨some 93, .call fid_varint_Take [(.t 91), (.t 92)], none, none⟩,
        ⟨some 90, .mov (.t 93), none, none⟩,
        ⟨some 94, .extract (.t 90) 0, none, none⟩,
        ⟨some 95, .extract (.t 90) 1, none, none⟩,
        ⟨some 96, .extract (.t 90) 2, none, none⟩,
        ⟨some 20, .mov (.t 94), none, none⟩,
        ⟨some 21, .mov (.t 95), none, none⟩,
        ⟨some 22, .mov (.t 96), none, none⟩])
    (.seq (.reg [⟨some 98, .mov (.t 17), none, none⟩,
        ⟨some 99, .mov (.t 19), none, none⟩,
        ⟨some 100, .call fid_archipelagoref1_Take [(.t 98), (.t 99)], none, none⟩,
        ⟨some 97, .mov (.t 100), none, none⟩,
        ⟨some 101, .extract (.t 97) 0, none, none⟩,
        ⟨some 102, .extract (.t 97) 1, none, none⟩,
        ⟨some 103, .extract (.t 97) 2, none, none⟩,
        ⟨some 23, .mov (.t 101), none, none⟩,
        ⟨some 24, .mov (.t 102), none, none⟩,
        ⟨some 25, .mov (.t 103), none, none⟩])
    (.seq (.reg [⟨some 104, .mov (.t 20), none, none⟩,
        ⟨some 105, .mov (.t 23), none, none⟩,
        ⟨some 106, .bin .neq (.t 104) (.t 105), none, none⟩,
        ⟨some 107, .mov (.t 106), none, none⟩,
        ⟨some 108, .mov (.t 21), (some (107, false)), none⟩,
        ⟨some 109, .mov (.t 24), (some (107, false)), none⟩,
        ⟨some 110, .bin .neq (.t 108) (.t 109), (some (107, false)), none⟩,
        ⟨some 111, .pick (.t 107) (.c (.bool true)) (.t 110), none, none⟩,
        ⟨some 112, .mov (.t 111), none, none⟩,
        ⟨some 113, .mov (.t 22), (some (112, false)), none⟩,
        ⟨some 114, .mov (.t 25), (some (112, false)), none⟩,
        ⟨some 115, .bin .neq (.t 113) (.t 114), (some (112, false)), none⟩,
        ⟨some 116, .pick (.t 112) (.c (.bool true)) (.t 115), none, none⟩])
    (.cond (.t 116)
    (.seq (.reg [⟨some 12, .mov (.c (.bool false)), none, none⟩])
      (.ret))
    (.skip)))))))
  (.reg [⟨some 117, .bin .add (.t 86) (.c (.int .i64 1)), none, none⟩,
      ⟨some 86, .mov (.t 117), none, none⟩]))))
def archipelagolaw2_VarintTells_b1 : IC :=
  (.seq (.reg [⟨some 77, .bin .lss (.t 76) (.t 75), none, none⟩])
  (.seq (.cond (.t 77)
  (.skip)
  (.exit 0))
  (.seq (.block 1
  (.seq (.reg [⟨some 78, .iaddr 1 (.t 74) (.t 76), none, none⟩,
        ⟨some 79, .load 1 false (.t 78), none, none⟩,
        ⟨some 17, .mov (.t 79), none, none⟩])
    (.seq (.reg [⟨some 80, .mov (.t 3), none, none⟩,
        ⟨some 81, .mov (.t 3), none, none⟩,
        ⟨some 82, .mov (.t 2), none, none⟩,
        ⟨some 83, .call fid_archipelagolaw2_edge [(.t 81), (.t 82)], none, none⟩,
        ⟨some 84, .mkrow 1 4 [(.int .u64 0)] [(0, (.t 80)), (1, (.t 83)), (2, (.c (.int .u64 127))), (3, (.c (.int .u64 18446744073709551615)))], none, none⟩,
        ⟨some 85, .len .sl (.t 84), none, none⟩,
        ⟨some 86, .mov (.c (.int .i64 0)), none, none⟩])
    (.block 2
    (.loop [2, 3, 17, 74, 75, 76, 84, 85, 86] archipelagolaw2_VarintTells_b0)))))
  (.reg [⟨some 118, .bin .add (.t 76) (.c (.int .i64 1)), none, none⟩,
      ⟨some 76, .mov (.t 118), none, none⟩]))))
def ir_archipelagolaw2_VarintTells : IFn :=
  { params := 6, results := [.tmp 12], body :=
  (.seq (.reg [⟨some 12, .mov (.c (.bool false)), none, none⟩])
  (.seq (.seq (.reg [⟨some 26, .call fid_archipelagolaw2_known [], none, none⟩,
      ⟨some 27, .un .not (.t 26), none, none⟩])
  (.cond (.t 27)
  (.seq (.reg [⟨some 12, .mov (.c (.bool false)), none, none⟩])
    (.ret))
  (.skip)))
  (.seq (.seq (.reg [⟨some 28, .mov (.t 0), none, none⟩,
      ⟨some 29, .len .sl (.t 28), none, none⟩,
      ⟨some 30, .bin .gtr (.t 29) (.c (.int .i64 12)), none, none⟩,
      ⟨some 31, .mov (.t 30), none, none⟩,
      ⟨some 32, .mov (.t 1), (some (31, false)), none⟩,
      ⟨some 33, .len .sl (.t 32), (some (31, false)), none⟩,
      ⟨some 34, .bin .gtr (.t 33) (.c (.int .i64 40)), (some (31, false)), none⟩,
      ⟨some 35, .pick (.t 31) (.c (.bool true)) (.t 34), none, none⟩])
  (.cond (.t 35)
  (.seq (.reg [⟨some 12, .mov (.c (.bool true)), none, none⟩])
    (.ret))
  (.skip)))
  (.seq (.reg [⟨some 36, .mov (.t 0), none, none⟩,
      ⟨some 37, .call fid_archipelagoref1_Put [(.t 36)], none, none⟩,
      ⟨some 13, .mov (.t 37), none, none⟩])
  (.seq (.seq (.regD [0, 1, 2, 3, 4, 5] [⟨some 38, .mov (.t 0), none, none⟩,
      ⟨some 39, .call fid_varint_Put [(.t 38)], none, none⟩,
      ⟨some 40, .toStr (.t 39), none, none⟩,
      ⟨some 41, .mov (.t 13), none, none⟩,
      ⟨some 42, .toStr (.t 41), none, some (0, 1)⟩,
      ⟨some 43, .bin .neq (.t 40) (.t 42), none, none⟩])
  (.cond (.t 43)
  (.seq (.reg [⟨some 12, .mov (.c (.bool false)), none, none⟩])
    (.ret))
  (.skip)))
  (.seq (.reg [⟨some 44, .mov (.t 3), none, none⟩,
      ⟨some 45, .mov (.t 2), none, none⟩,
      ⟨some 46, .call fid_archipelagolaw2_edge [(.t 44), (.t 45)], none, none⟩,
      ⟨some 47, .mkrow 1 1 [(.int .u64 0)] [(0, (.t 46))], none, none⟩,
      ⟨some 48, .call fid_archipelagoref1_Put [(.t 47)], none, none⟩,
      ⟨some 14, .mov (.t 48), none, none⟩])
  (.seq (.reg [⟨some 49, .mov (.t 14), none, none⟩,
      ⟨some 50, .append 1 1 (.c .nils) (.t 49), none, none⟩,
      ⟨some 15, .mov (.t 50), none, none⟩])
  (.seq (.reg [⟨some 51, .mov (.t 15), none, none⟩,
      ⟨some 52, .mov (.t 4), none, none⟩,
      ⟨some 53, .conv .i64 (.t 52), none, none⟩,
      ⟨some 54, .mov (.t 15), none, none⟩,
      ⟨some 55, .len .sl (.t 54), none, none⟩,
      ⟨some 56, .bin .rem (.t 53) (.t 55), none, none⟩,
      ⟨some 57, .mov (.t 5), none, none⟩,
      ⟨some 58, .iaddr 1 (.t 51) (.t 56), none, none⟩,
      ⟨none, .store 1 (.t 58) (.t 57), none, none⟩])
  (.seq (.seq (.reg [⟨some 59, .mov (.t 1), none, none⟩,
      ⟨some 60, .mov (.t 13), none, none⟩,
      ⟨some 61, .mov (.t 14), none, none⟩,
      ⟨some 62, .mov (.t 15), none, none⟩,
      ⟨some 63, .mov (.t 15), none, none⟩,
      ⟨some 64, .mov (.t 1), none, none⟩,
      ⟨some 65, .append 1 1 (.t 63) (.t 64), none, none⟩,
      ⟨some 66, .mov (.t 5), none, none⟩,
      ⟨some 67, .mkrow 1 10 [(.int .u8 0)] [(0, (.c (.int .u8 255))), (1, (.c (.int .u8 255))), (2, (.c (.int .u8 255))), (3, (.c (.int .u8 255))), (4, (.c (.int .u8 255))), (5, (.c (.int .u8 255))), (6, (.c (.int .u8 255))), (7, (.c (.int .u8 255))), (8, (.c (.int .u8 255))), (9, (.t 66))], none, none⟩,
      ⟨some 68, .mov (.t 1), none, none⟩,
      ⟨some 69, .append 1 1 (.t 67) (.t 68), none, none⟩,
      ⟨some 70, .mov (.t 5), none, none⟩,
      ⟨some 71, .mkrow 1 3 [(.int .u8 0)] [(0, (.c (.int .u8 128))), (1, (.c (.int .u8 128))), (2, (.t 70))], none, none⟩,
      ⟨some 72, .mov (.t 1), none, none⟩,
      ⟨some 73, .append 1 1 (.t 71) (.t 72), none, none⟩,
      ⟨some 74, .mkrow 1 7 [.nils] [(0, (.t 59)), (1, (.t 60)), (2, (.t 61)), (3, (.t 62)), (4, (.t 65)), (5, (.t 69)), (6, (.t 73))], none, none⟩,
      ⟨some 75, .len .sl (.t 74), none, none⟩,
      ⟨some 76, .mov (.c (.int .i64 0)), none, none⟩])
  (.block 0
  (.loop [2, 3, 74, 75, 76] archipelagolaw2_VarintTells_b1)))
  (.seq (.reg [⟨some 119, .mov (.t 3), none, none⟩,
      ⟨some 120, .mov (.t 2), none, none⟩,
      ⟨some 121, .call fid_archipelagolaw2_edge [(.t 119), (.t 120)], none, none⟩,
      ⟨some 122, .call fid_varint_Size [(.t 121)], none, none⟩,
      ⟨some 123, .mov (.t 3), none, none⟩,
      ⟨some 124, .mov (.t 2), none, none⟩,
      ⟨some 125, .call fid_archipelagolaw2_edge [(.t 123), (.t 124)], none, none⟩,
      ⟨some 126, .call fid_archipelagoref1_Size [(.t 125)], none, none⟩,
      ⟨some 127, .bin .eql (.t 122) (.t 126), none, none⟩,
      ⟨some 12, .mov (.t 127), none, none⟩])
  (.ret))))))))))) }
def ir_archipelagolaw2_VarintBack : IFn :=
  { params := 4, results := [.tmp 8], body :=
  (.seq (.reg [⟨some 8, .mov (.c (.bool false)), none, none⟩])
  (.seq (.seq (.reg [⟨some 20, .call fid_archipelagolaw2_known [], none, none⟩,
      ⟨some 21, .un .not (.t 20), none, none⟩])
  (.cond (.t 21)
  (.seq (.reg [⟨some 8, .mov (.c (.bool false)), none, none⟩])
    (.ret))
  (.skip)))
  (.seq (.seq (.reg [⟨some 22, .mov (.t 3), none, none⟩,
      ⟨some 23, .len .sl (.t 22), none, none⟩,
      ⟨some 24, .bin .gtr (.t 23) (.c (.int .i64 20)), none, none⟩])
  (.cond (.t 24)
  (.seq (.reg [⟨some 8, .mov (.c (.bool true)), none, none⟩])
    (.ret))
  (.skip)))
  (.seq (.reg [⟨some 25, .mov (.t 0), none, none⟩,
      ⟨some 26, .mov (.t 1), none, none⟩,
      ⟨some 27, .call fid_archipelagolaw2_edge [(.t 25), (.t 26)], none, none⟩,
      ⟨some 9, .mov (.t 27), none, none⟩])
  (.seq (.reg [⟨some 28, .mov (.t 9), none, none⟩,
      ⟨some 29, .mkrow 1 1 [(.int .u64 0)] [(0, (.t 28))], none, none⟩,
      ⟨some 30, .call fid_varint_Put [(.t 29)], none, none⟩,
      ⟨some 10, .mov (.t 30), none, none⟩])
  (.seq (.seq (.reg [⟨some 31, .mov (.t 10), none, none⟩,
      ⟨some 32, .len .sl (.t 31), none, none⟩,
      ⟨some 33, .bin .eql (.t 32) (.c (.int .i64 0)), none, none⟩,
      ⟨some 34, .mov (.t 33), none, none⟩,
      ⟨some 35, .mov (.t 10), (some (34, false)), none⟩,
      ⟨some 36, .len .sl (.t 35), (some (34, false)), none⟩,
      ⟨some 37, .mov (.t 9), (some (34, false)), none⟩,
      ⟨some 38, .call fid_varint_Size [(.t 37)], (some (34, false)), none⟩,
      ⟨some 39, .bin .neq (.t 36) (.t 38), (some (34, false)), none⟩,
      ⟨some 40, .pick (.t 34) (.c (.bool true)) (.t 39), none, none⟩])
  (.cond (.t 40)
  (.seq (.reg [⟨some 8, .mov (.c (.bool false)), none, none⟩])
    (.ret))
  (.skip)))
  (.seq (.reg [⟨some 42, .mov (.t 10), none, none⟩,
      ⟨some 43, .append 1 1 (.c .nils) (.t 42), none, none⟩,
      ⟨some 44, .mov (.t 3), none, none⟩,
      ⟨some 45, .append 1 1 (.t 43) (.t 44), none, none⟩,
      ⟨some 46, .mov (.t 9), none, none⟩,
      ⟨some 47, .call fid_varint_Take [(.t 45), (.t 46)], none, none⟩,
      ⟨some 41, .mov (.t 47), none, none⟩,
      ⟨some 48, .extract (.t 41) 0, none, none⟩,
      ⟨some 49, .extract (.t 41) 1, none, none⟩,
      ⟨some 50, .extract (.t 41) 2, none, none⟩,
      ⟨some 11, .mov (.t 48), none, none⟩,
      ⟨some 12, .mov (.t 49), none, none⟩,
      ⟨some 13, .mov (.t 50), none, none⟩])
  (.seq (.reg [⟨some 52, .mov (.t 10), none, none⟩,
      ⟨some 53, .mov (.t 2), none, none⟩,
      ⟨some 54, .conv .i64 (.t 53), none, none⟩,
      ⟨some 55, .mov (.t 10), none, none⟩,
      ⟨some 56, .len .sl (.t 55), none, none⟩,
      ⟨some 57, .bin .rem (.t 54) (.t 56), none, none⟩,
      ⟨some 58, .slice false 1 (.t 52) none (some (.t 57)) none, none, none⟩,
      ⟨some 59, .call fid_varint_Take [(.t 58), (.c (.int .u64 18446744073709551615))], none, none⟩,
      ⟨some 51, .mov (.t 59), none, none⟩,
      ⟨some 60, .extract (.t 51) 0, none, none⟩,
      ⟨some 61, .extract (.t 51) 1, none, none⟩,
      ⟨some 62, .extract (.t 51) 2, none, none⟩,
      ⟨some 14, .mov (.t 60), none, none⟩,
      ⟨some 15, .mov (.t 61), none, none⟩,
      ⟨some 16, .mov (.t 62), none, none⟩])
  (.seq (.seq (.reg [⟨some 63, .mov (.t 9), none, none⟩,
      ⟨some 64, .bin .gtr (.t 63) (.c (.int .u64 0)), none, none⟩])
  (.cond (.t 64)
  (.seq (.reg [⟨some 66, .mov (.t 10), none, none⟩,
        ⟨some 67, .mov (.t 9), none, none⟩,
        ⟨some 68, .bin .sub (.t 67) (.c (.int .u64 1)), none, none⟩,
        ⟨some 69, .call fid_varint_Take [(.t 66), (.t 68)], none, none⟩,
        ⟨some 65, .mov (.t 69), none, none⟩,
        ⟨some 70, .extract (.t 65) 0, none, none⟩,
        ⟨some 71, .extract (.t 65) 1, none, none⟩,
        ⟨some 72, .extract (.t 65) 2, none, none⟩,
        ⟨some 17, .mov (.t 70), none, none⟩,
        ⟨some 18, .mov (.t 71), none, none⟩,
        ⟨some 19, .mov (.t 72), none, none⟩])
    (.seq (.reg [⟨some 73, .mov (.t 19), none, none⟩,
        ⟨some 74, .bin .neq (.t 73) (.c (.int .i64 22)), none, none⟩])
    (.cond (.t 74)
    (.seq (.reg [⟨some 8, .mov (.c (.bool false)), none, none⟩])
      (.ret))
    (.skip))))
  (.skip)))
  (.seq (.reg [⟨some 75, .mov (.t 13), none, none⟩,
      ⟨some 76, .bin .eql (.t 75) (.c (.int .i64 0)), none, none⟩,
      ⟨some 77, .mov (.t 76), none, none⟩,
      ⟨some 78, .mov (.t 11), (some (77, true)), none⟩,
      ⟨some 79, .mov (.t 9), (some (77, true)), none⟩,
      ⟨some 80, .bin .eql (.t 78) (.t 79), (some (77, true)), none⟩,
      ⟨some 81, .pick (.t 77) (.t 80) (.c (.bool false)), none, none⟩,
      ⟨some 82, .mov (.t 81), none, none⟩,
      ⟨some 83, .mov (.t 12), (some (82, true)), none⟩,
      ⟨some 84, .mov (.t 10), (some (82, true)), none⟩,
      ⟨some 85, .len .sl (.t 84), (some (82, true)), none⟩,
      ⟨some 86, .bin .eql (.t 83) (.t 85), (some (82, true)), none⟩,
      ⟨some 87, .pick (.t 82) (.t 86) (.c (.bool false)), none, none⟩,
      ⟨some 88, .mov (.t 87), none, none⟩,
      ⟨some 89, .mov (.t 16), (some (88, true)), none⟩,
      ⟨some 90, .bin .eql (.t 89) (.c (.int .i64 20)), (some (88, true)), none⟩,
      ⟨some 91, .pick (.t 88) (.t 90) (.c (.bool false)), none, none⟩,
      ⟨some 92, .mov (.t 91), none, none⟩,
      ⟨some 93, .mov (.t 10), (some (92, true)), none⟩,
      ⟨some 94, .len .sl (.t 93), (some (92, true)), none⟩,
      ⟨some 95, .bin .eql (.t 94) (.c (.int .i64 10)), (some (92, true)), none⟩,
      ⟨some 96, .mov (.t 95), (some (92, true)), none⟩,
      ⟨some 97, .mov (.t 9), (some (96, false)), none⟩,
      ⟨some 98, .mov (.t 10), (some (96, false)), none⟩,
      ⟨some 99, .len .sl (.t 98), (some (96, false)), none⟩,
      ⟨some 100, .bin .mul (.c (.int .i64 7)) (.t 99), (some (96, false)), none⟩,
      ⟨some 101, .bin .shr (.t 97) (.t 100), (some (96, false)), none⟩,
      ⟨some 102, .bin .eql (.t 101) (.c (.int .u64 0)), (some (96, false)), none⟩,
      ⟨some 103, .pick (.t 96) (.c (.bool true)) (.t 102), (some (92, true)), none⟩,
      ⟨some 104, .pick (.t 92) (.t 103) (.c (.bool false)), none, none⟩,
      ⟨some 105, .mov (.t 104), none, none⟩,
      ⟨some 106, .mov (.t 10), (some (105, true)), none⟩,
      ⟨some 107, .len .sl (.t 106), (some (105, true)), none⟩,
      ⟨some 108, .bin .eql (.t 107) (.c (.int .i64 1)), (some (105, true)), none⟩,
      ⟨some 109, .mov (.t 108), (some (105, true)), none⟩,
      ⟨some 110, .mov (.t 9), (some (109, false)), none⟩,
      ⟨some 111, .mov (.t 10), (some (109, false)), none⟩,
      ⟨some 112, .len .sl (.t 111), (some (109, false)), none⟩,
      ⟨some 113, .bin .sub (.t 112) (.c (.int .i64 1)), (some (109, false)), none⟩,
      ⟨some 114, .bin .mul (.c (.int .i64 7)) (.t 113), (some (109, false)), none⟩,
      ⟨some 115, .bin .shr (.t 110) (.t 114), (some (109, false)), none⟩,
      ⟨some 116, .bin .neq (.t 115) (.c (.int .u64 0)), (some (109, false)), none⟩,
      ⟨some 117, .pick (.t 109) (.c (.bool true)) (.t 116), (some (105, true)), none⟩,
      ⟨some 118, .pick (.t 105) (.t 117) (.c (.bool false)), none, none⟩,
      ⟨some 8, .mov (.t 118), none, none⟩])
  (.ret))))))))))) }
def archipelagolaw2_VarintMany_b0 : IC :=
  (.seq (.seq (.reg [⟨some 18, .mov (.t 6), none, none⟩,
      ⟨some 19, .mov (.t 0), none, none⟩,
      ⟨some 20, .len .sl (.t 19), none, none⟩,
      ⟨some 21, .bin .lss (.t 18) (.t 20), none, none⟩])
  (.cond (.t 21)
  (.skip)
  (.exit 0)))
  (.seq (.block 1
  (.reg [⟨some 24, .mov (.t 5), none, none⟩,
        ⟨some 25, .mov (.t 0), none, none⟩,
        ⟨some 26, .mov (.t 6), none, none⟩,
        ⟨some 27, .iaddr 1 (.t 25) (.t 26), none, none⟩,
        ⟨some 28, .load 1 false (.t 27), none, none⟩,
        ⟨some 29, .mov (.t 1), none, none⟩,
        ⟨some 30, .conv .i64 (.t 29), none, none⟩,
        ⟨some 31, .mov (.t 6), none, none⟩,
        ⟨some 32, .bin .mul (.c (.int .i64 9)) (.t 31), none, none⟩,
        ⟨some 33, .bin .add (.t 30) (.t 32), none, none⟩,
        ⟨some 34, .bin .rem (.t 33) (.c (.int .i64 64)), none, none⟩,
        ⟨some 35, .bin .shr (.t 28) (.t 34), none, none⟩,
        ⟨some 36, .mkrow 1 1 [(.int .u64 0)] [(0, (.t 35))], none, none⟩,
        ⟨some 37, .append 1 8 (.t 24) (.t 36), none, none⟩,
        ⟨some 5, .mov (.t 37), none, none⟩]))
  (.reg [⟨some 22, .mov (.t 6), none, none⟩,
      ⟨some 23, .bin .add (.t 22) (.c (.int .i64 1)), none, none⟩,
      ⟨some 6, .mov (.t 23), none, none⟩])))
def archipelagolaw2_VarintMany_b1 : IC :=
  (.seq (.seq (.reg [⟨some 40, .mov (.t 9), none, none⟩,
      ⟨some 41, .mov (.t 5), none, none⟩,
      ⟨some 42, .len .sl (.t 41), none, none⟩,
      ⟨some 43, .bin .lss (.t 40) (.t 42), none, none⟩])
  (.cond (.t 43)
  (.skip)
  (.exit 2)))
  (.seq (.block 3
  (.seq (.reg [⟨some 47, .mov (.t 7), none, none⟩,
        ⟨some 48, .call fid_varint_Take [(.t 47), (.c (.int .u64 18446744073709551615))], none, none⟩,
        ⟨some 46, .mov (.t 48), none, none⟩,
        ⟨some 49, .extract (.t 46) 0, none, none⟩,
        ⟨some 50, .extract (.t 46) 1, none, none⟩,
        ⟨some 51, .extract (.t 46) 2, none, none⟩,
        ⟨some 10, .mov (.t 49), none, none⟩,
        ⟨some 11, .mov (.t 50), none, none⟩,
        ⟨some 12, .mov (.t 51), none, none⟩])
    (.seq (.seq (.reg [⟨some 52, .mov (.t 12), none, none⟩,
        ⟨some 53, .bin .neq (.t 52) (.c (.int .i64 0)), none, none⟩,
        ⟨some 54, .mov (.t 53), none, none⟩,
        ⟨some 55, .mov (.t 10), (some (54, false)), none⟩,
        ⟨some 56, .mov (.t 5), (some (54, false)), none⟩,
        ⟨some 57, .mov (.t 9), (some (54, false)), none⟩,
        ⟨some 58, .iaddr 1 (.t 56) (.t 57), (some (54, false)), none⟩,
        ⟨some 59, .load 1 false (.t 58), (some (54, false)), none⟩,
        ⟨some 60, .bin .neq (.t 55) (.t 59), (some (54, false)), none⟩,
        ⟨some 61, .pick (.t 54) (.c (.bool true)) (.t 60), none, none⟩,
        ⟨some 62, .mov (.t 61), none, none⟩,
        ⟨some 63, .mov (.t 11), (some (62, false)), none⟩,
        ⟨some 64, .mov (.t 5), (some (62, false)), none⟩,
        ⟨some 65, .mov (.t 9), (some (62, false)), none⟩,
        ⟨some 66, .iaddr 1 (.t 64) (.t 65), (some (62, false)), none⟩,
        ⟨some 67, .load 1 false (.t 66), (some (62, false)), none⟩,
        ⟨some 68, .call fid_varint_Size [(.t 67)], (some (62, false)), none⟩,
        ⟨some 69, .bin .neq (.t 63) (.t 68), (some (62, false)), none⟩,
        ⟨some 70, .pick (.t 62) (.c (.bool true)) (.t 69), none, none⟩,
        ⟨some 71, .mov (.t 70), none, none⟩,
        ⟨some 72, .mov (.t 11), (some (71, false)), none⟩,
        ⟨some 73, .bin .lss (.t 72) (.c (.int .i64 1)), (some (71, false)), none⟩,
        ⟨some 74, .pick (.t 71) (.c (.bool true)) (.t 73), none, none⟩,
        ⟨some 75, .mov (.t 74), none, none⟩,
        ⟨some 76, .mov (.t 11), (some (75, false)), none⟩,
        ⟨some 77, .mov (.t 7), (some (75, false)), none⟩,
        ⟨some 78, .len .sl (.t 77), (some (75, false)), none⟩,
        ⟨some 79, .bin .gtr (.t 76) (.t 78), (some (75, false)), none⟩,
        ⟨some 80, .pick (.t 75) (.c (.bool true)) (.t 79), none, none⟩])
    (.cond (.t 80)
    (.seq (.reg [⟨some 4, .mov (.c (.bool false)), none, none⟩])
      (.ret))
    (.skip)))
    (.reg [⟨some 81, .mov (.t 7), none, none⟩,
        ⟨some 82, .mov (.t 11), none, none⟩,
        ⟨some 83, .slice false 1 (.t 81) (some (.t 82)) none none, none, none⟩,
        ⟨some 84, .mov (.t 8), none, none⟩,
        ⟨some 85, .mov (.t 11), none, none⟩,
        ⟨some 86, .bin .add (.t 84) (.t 85), none, none⟩,
        ⟨some 7, .mov (.t 83), none, none⟩,
        ⟨some 8, .mov (.t 86), none, none⟩]))))
  (.reg [⟨some 44, .mov (.t 9), none, none⟩,
      ⟨some 45, .bin .add (.t 44) (.c (.int .i64 1)), none, none⟩,
      ⟨some 9, .mov (.t 45), none, none⟩])))
def ir_archipelagolaw2_VarintMany : IFn :=
  { params := 2, results := [.tmp 4], body :=
  (.seq (.reg [⟨some 4, .mov (.c (.bool false)), none, none⟩])
  (.seq (.seq (.reg [⟨some 13, .call fid_archipelagolaw2_known [], none, none⟩,
      ⟨some 14, .un .not (.t 13), none, none⟩])
  (.cond (.t 14)
  (.seq (.reg [⟨some 4, .mov (.c (.bool false)), none, none⟩])
    (.ret))
  (.skip)))
  (.seq (.seq (.reg [⟨some 15, .mov (.t 0), none, none⟩,
      ⟨some 16, .len .sl (.t 15), none, none⟩,
      ⟨some 17, .bin .gtr (.t 16) (.c (.int .i64 20)), none, none⟩])
  (.cond (.t 17)
  (.seq (.reg [⟨some 4, .mov (.c (.bool true)), none, none⟩])
    (.ret))
  (.skip)))
  (.seq (.reg [⟨some 5, .mov (.c .nils), none, none⟩])
  (.seq (.seq (.reg [⟨some 6, .mov (.c (.int .i64 0)), none, none⟩])
  (.block 0
  (.loop [0, 1, 5, 6] archipelagolaw2_VarintMany_b0)))
  (.seq (.reg [⟨some 38, .mov (.t 5), none, none⟩,
      ⟨some 39, .call fid_varint_Put [(.t 38)], none, none⟩,
      ⟨some 7, .mov (.t 39), none, none⟩])
  (.seq (.reg [⟨some 8, .mov (.c (.int .i64 0)), none, none⟩])
  (.seq (.seq (.reg [⟨some 9, .mov (.c (.int .i64 0)), none, none⟩])
  (.block 2
  (.loop [5, 7, 8, 9] archipelagolaw2_VarintMany_b1)))
  (.seq (.reg [⟨some 87, .mov (.t 7), none, none⟩,
      ⟨some 88, .len .sl (.t 87), none, none⟩,
      ⟨some 89, .bin .eql (.t 88) (.c (.int .i64 0)), none, none⟩,
      ⟨some 90, .mov (.t 89), none, none⟩,
      ⟨some 91, .mov (.t 8), (some (90, true)), none⟩,
      ⟨some 92, .mov (.t 5), (some (90, true)), none⟩,
      ⟨some 93, .call fid_varint_Put [(.t 92)], (some (90, true)), none⟩,
      ⟨some 94, .len .sl (.t 93), (some (90, true)), none⟩,
      ⟨some 95, .bin .eql (.t 91) (.t 94), (some (90, true)), none⟩,
      ⟨some 96, .pick (.t 90) (.t 95) (.c (.bool false)), none, none⟩,
      ⟨some 4, .mov (.t 96), none, none⟩])
  (.ret)))))))))) }
def archipelagolaw2_VarintForms_b0 : IC :=
  (.seq (.seq (.reg [⟨some 26, .mov (.t 9), none, none⟩,
      ⟨some 27, .mov (.t 2), none, none⟩,
      ⟨some 28, .bin .rem (.t 27) (.c (.int .u8 3)), none, none⟩,
      ⟨some 29, .conv .i64 (.t 28), none, none⟩,
      ⟨some 30, .bin .add (.t 29) (.c (.int .i64 1)), none, none⟩,
      ⟨some 31, .bin .lss (.t 26) (.t 30), none, none⟩])
  (.cond (.t 31)
  (.skip)
  (.exit 0)))
  (.seq (.block 1
  (.seq (.reg [⟨some 34, .mov (.t 8), none, none⟩,
        ⟨some 35, .mov (.t 8), none, none⟩,
        ⟨some 36, .len .sl (.t 35), none, none⟩,
        ⟨some 37, .bin .sub (.t 36) (.c (.int .i64 1)), none, none⟩,
        ⟨some 38, .iaddr 1 (.t 34) (.t 37), none, none⟩,
        ⟨some 39, .load 1 false (.t 38), none, none⟩,
        ⟨some 40, .bin .or (.t 39) (.c (.int .u8 128)), none, none⟩,
        ⟨some 41, .iaddr 1 (.t 34) (.t 37), none, none⟩,
        ⟨none, .store 1 (.t 41) (.t 40), none, none⟩])
    (.reg [⟨some 42, .mov (.t 8), none, none⟩,
        ⟨some 43, .mkrow 1 1 [(.int .u8 0)] [(0, (.c (.int .u8 0)))], none, none⟩,
        ⟨some 44, .append 1 1 (.t 42) (.t 43), none, none⟩,
        ⟨some 8, .mov (.t 44), none, none⟩])))
  (.reg [⟨some 32, .mov (.t 9), none, none⟩,
      ⟨some 33, .bin .add (.t 32) (.c (.int .i64 1)), none, none⟩,
      ⟨some 9, .mov (.t 33), none, none⟩])))
def ir_archipelagolaw2_VarintForms : IFn :=
  { params := 3, results := [.tmp 6], body :=
  (.seq (.reg [⟨some 6, .mov (.c (.bool false)), none, none⟩])
  (.seq (.seq (.reg [⟨some 13, .call fid_archipelagolaw2_known [], none, none⟩,
      ⟨some 14, .un .not (.t 13), none, none⟩])
  (.cond (.t 14)
  (.seq (.reg [⟨some 6, .mov (.c (.bool false)), none, none⟩])
    (.ret))
  (.skip)))
  (.seq (.reg [⟨some 15, .mov (.t 0), none, none⟩,
      ⟨some 16, .mov (.t 1), none, none⟩,
      ⟨some 17, .bin .rem (.t 16) (.c (.int .u8 64)), none, none⟩,
      ⟨some 18, .bin .shr (.t 15) (.t 17), none, none⟩,
      ⟨some 19, .mkrow 1 1 [(.int .u64 0)] [(0, (.t 18))], none, none⟩,
      ⟨some 20, .call fid_varint_Put [(.t 19)], none, none⟩,
      ⟨some 7, .mov (.t 20), none, none⟩])
  (.seq (.seq (.reg [⟨some 21, .mov (.t 7), none, none⟩,
      ⟨some 22, .len .sl (.t 21), none, none⟩,
      ⟨some 23, .bin .eql (.t 22) (.c (.int .i64 0)), none, none⟩])
  (.cond (.t 23)
  (.seq (.reg [⟨some 6, .mov (.c (.bool false)), none, none⟩])
    (.ret))
  (.skip)))
  (.seq (.reg [⟨some 24, .mov (.t 7), none, none⟩,
      ⟨some 25, .append 1 1 (.c .nils) (.t 24), none, none⟩,
      ⟨some 8, .mov (.t 25), none, none⟩])
  (.seq (.seq (.reg [⟨some 9, .mov (.c (.int .i64 0)), none, none⟩])
  (.block 0
  (.loop [2, 8, 9] archipelagolaw2_VarintForms_b0)))
  (.seq (.reg [⟨some 46, .mov (.t 8), none, none⟩,
      ⟨some 47, .call fid_varint_Take [(.t 46), (.c (.int .u64 18446744073709551615))], none, none⟩,
      ⟨some 45, .mov (.t 47), none, none⟩,
      ⟨some 48, .extract (.t 45) 0, none, none⟩,
      ⟨some 49, .extract (.t 45) 1, none, none⟩,
      ⟨some 50, .extract (.t 45) 2, none, none⟩,
      ⟨some 10, .mov (.t 48), none, none⟩,
      ⟨some 11, .mov (.t 49), none, none⟩,
      ⟨some 12, .mov (.t 50), none, none⟩])
  (.seq (.reg [⟨some 51, .mov (.t 12), none, none⟩,
      ⟨some 52, .bin .eql (.t 51) (.c (.int .i64 21)), none, none⟩,
      ⟨some 6, .mov (.t 52), none, none⟩])
  (.ret))))))))) }
def ir_archipelagolaw2_VarintShorts : IFn :=
  { params := 4, results := [.tmp 8], body :=
  (.seq (.reg [⟨some 8, .mov (.c (.bool false)), none, none⟩])
  (.seq (.seq (.reg [⟨some 22, .call fid_archipelagolaw2_known [], none, none⟩,
      ⟨some 23, .un .not (.t 22), none, none⟩])
  (.cond (.t 23)
  (.seq (.reg [⟨some 8, .mov (.c (.bool false)), none, none⟩])
    (.ret))
  (.skip)))
  (.seq (.reg [⟨some 24, .mov (.t 0), none, none⟩,
      ⟨some 25, .mov (.t 1), none, none⟩,
      ⟨some 26, .bin .rem (.t 25) (.c (.int .u8 64)), none, none⟩,
      ⟨some 27, .bin .shr (.t 24) (.t 26), none, none⟩,
      ⟨some 9, .mov (.t 27), none, none⟩])
  (.seq (.reg [⟨some 28, .mov (.t 9), none, none⟩,
      ⟨some 29, .mov (.t 9), none, none⟩,
      ⟨some 30, .mkrow 1 2 [(.int .u64 0)] [(0, (.t 28)), (1, (.t 29))], none, none⟩,
      ⟨some 31, .call fid_varint_Put [(.t 30)], none, none⟩,
      ⟨some 10, .mov (.t 31), none, none⟩])
  (.seq (.reg [⟨some 32, .mov (.t 9), none, none⟩,
      ⟨some 33, .call fid_varint_Size [(.t 32)], none, none⟩,
      ⟨some 11, .mov (.t 33), none, none⟩])
  (.seq (.seq (.reg [⟨some 34, .mov (.t 10), none, none⟩,
      ⟨some 35, .len .sl (.t 34), none, none⟩,
      ⟨some 36, .mov (.t 11), none, none⟩,
      ⟨some 37, .bin .mul (.c (.int .i64 2)) (.t 36), none, none⟩,
      ⟨some 38, .bin .neq (.t 35) (.t 37), none, none⟩,
      ⟨some 39, .mov (.t 38), none, none⟩,
      ⟨some 40, .mov (.t 11), (some (39, false)), none⟩,
      ⟨some 41, .bin .lss (.t 40) (.c (.int .i64 1)), (some (39, false)), none⟩,
      ⟨some 42, .pick (.t 39) (.c (.bool true)) (.t 41), none, none⟩])
  (.cond (.t 42)
  (.seq (.reg [⟨some 8, .mov (.c (.bool false)), none, none⟩])
    (.ret))
  (.skip)))
  (.seq (.reg [⟨some 44, .mov (.t 3), none, none⟩,
      ⟨some 45, .call fid_varint_Take [(.c .nils), (.t 44)], none, none⟩,
      ⟨some 43, .mov (.t 45), none, none⟩,
      ⟨some 46, .extract (.t 43) 0, none, none⟩,
      ⟨some 47, .extract (.t 43) 1, none, none⟩,
      ⟨some 48, .extract (.t 43) 2, none, none⟩,
      ⟨some 12, .mov (.t 46), none, none⟩,
      ⟨some 13, .mov (.t 47), none, none⟩,
      ⟨some 14, .mov (.t 48), none, none⟩])
  (.seq (.reg [⟨some 49, .mov (.t 2), none, none⟩,
      ⟨some 50, .conv .i64 (.t 49), none, none⟩,
      ⟨some 51, .mov (.t 11), none, none⟩,
      ⟨some 52, .bin .rem (.t 50) (.t 51), none, none⟩,
      ⟨some 15, .mov (.t 52), none, none⟩])
  (.seq (.reg [⟨some 54, .mov (.t 10), none, none⟩,
      ⟨some 55, .mov (.t 15), none, none⟩,
      ⟨some 56, .slice false 1 (.t 54) none (some (.t 55)) none, none, none⟩,
      ⟨some 57, .mov (.t 3), none, none⟩,
      ⟨some 58, .call fid_varint_Take [(.t 56), (.t 57)], none, none⟩,
      ⟨some 53, .mov (.t 58), none, none⟩,
      ⟨some 59, .extract (.t 53) 0, none, none⟩,
      ⟨some 60, .extract (.t 53) 1, none, none⟩,
      ⟨some 61, .extract (.t 53) 2, none, none⟩,
      ⟨some 16, .mov (.t 59), none, none⟩,
      ⟨some 17, .mov (.t 60), none, none⟩,
      ⟨some 18, .mov (.t 61), none, none⟩])
  (.seq (.reg [⟨some 63, .mov (.t 10), none, none⟩,
      ⟨some 64, .mov (.t 11), none, none⟩,
      ⟨some 65, .mov (.t 15), none, none⟩,
      ⟨some 66, .bin .add (.t 64) (.t 65), none, none⟩,
      ⟨some 67, .slice false 1 (.t 63) none (some (.t 66)) none, none, none⟩,
      ⟨some 68, .call fid_varint_Take [(.t 67), (.c (.int .u64 18446744073709551615))], none, none⟩,
      ⟨some 62, .mov (.t 68), none, none⟩,
      ⟨some 69, .extract (.t 62) 0, none, none⟩,
      ⟨some 70, .extract (.t 62) 1, none, none⟩,
      ⟨some 71, .extract (.t 62) 2, none, none⟩,
      ⟨some 19, .mov (.t 69), none, none⟩,
      ⟨some 20, .mov (.t 70), none, none⟩,
      ⟨some 21, .mov (.t 71), none, none⟩])
  (.seq (.reg [⟨some 72, .mov (.t 14), none, none⟩,
      ⟨some 73, .bin .eql (.t 72) (.c (.int .i64 20)), none, none⟩,
      ⟨some 74, .mov (.t 73), none, none⟩,
      ⟨some 75, .mov (.t 18), (some (74, true)), none⟩,
      ⟨some 76, .bin .eql (.t 75) (.c (.int .i64 20)), (some (74, true)), none⟩,
      ⟨some 77, .pick (.t 74) (.t 76) (.c (.bool false)), none, none⟩,
      ⟨some 78, .mov (.t 77), none, none⟩,
      ⟨some 79, .mov (.t 21), (some (78, true)), none⟩,
      ⟨some 80, .bin .eql (.t 79) (.c (.int .i64 0)), (some (78, true)), none⟩,
      ⟨some 81, .pick (.t 78) (.t 80) (.c (.bool false)), none, none⟩,
      ⟨some 82, .mov (.t 81), none, none⟩,
      ⟨some 83, .mov (.t 19), (some (82, true)), none⟩,
      ⟨some 84, .mov (.t 9), (some (82, true)), none⟩,
      ⟨some 85, .bin .eql (.t 83) (.t 84), (some (82, true)), none⟩,
      ⟨some 86, .pick (.t 82) (.t 85) (.c (.bool false)), none, none⟩,
      ⟨some 87, .mov (.t 86), none, none⟩,
      ⟨some 88, .mov (.t 20), (some (87, true)), none⟩,
      ⟨some 89, .mov (.t 11), (some (87, true)), none⟩,
      ⟨some 90, .bin .eql (.t 88) (.t 89), (some (87, true)), none⟩,
      ⟨some 91, .pick (.t 87) (.t 90) (.c (.bool false)), none, none⟩,
      ⟨some 8, .mov (.t 91), none, none⟩])
  (.ret)))))))))))) }
end Go.Ab
