/- The functions as the abstract machine has them (printed by wip/irgen.py). -/
import Derived.Test.YtflllpkjgloehaaAbs1
namespace Go.Ab
open Go
def fid_archipelagolaw3_GammaTells : Nat := 3
def fid_archipelagolaw3_GammaBack : Nat := 4
def fid_archipelagolaw3_GammaSizes : Nat := 5
def fid_archipelagolaw3_GammaCuts : Nat := 6
def fid_archipelagolaw3_known : Nat := 7
def fid_bits_NewWriter : Nat := 8
def fid_gamma_Put : Nat := 9
def fid_archipelagoref1_GammaPut : Nat := 10
def fid_bits_Writer_Len : Nat := 11
def fid_gamma_Size : Nat := 12
def fid_archipelagoref1_GammaSize : Nat := 13
def fid_archipelagoref1_Writer_Bytes : Nat := 14
def fid_bits_Writer_Bytes : Nat := 15
def fid_bits_NewReader : Nat := 16
def fid_gamma_Take : Nat := 17
def fid_archipelagoref1_GammaTake : Nat := 18
def fid_bits_Reader_Left : Nat := 19
def fid_archipelagoref1_Reader_Left : Nat := 20
def fid_bits_Writer_Put : Nat := 21
def fid_bits_Reader_Take : Nat := 22
def fid_math_bits_Len64 : Nat := 23
def fid_archipelagoref1_length : Nat := 24
def fid_archipelagoref1_Writer_Put : Nat := 25
def fid_slices_Clone_byte_byte : Nat := 26
def fid_archipelagoref1_Reader_Take : Nat := 27
def fid_bits_bound : Nat := 28
def ir_bits_NewWriter : IFn :=
  { params := 0, results := [.tmp 0], body :=
  (.seq (.reg [⟨some 0, .mov (.c .nilp), none, none⟩])
  (.seq (.reg [⟨some 1, .build [.nils, (.int .i64 0)] [], none, none⟩,
      ⟨some 2, .box (.t 1), none, none⟩,
      ⟨some 0, .mov (.t 2), none, none⟩])
  (.ret))) }
def ir_bits_bound : IFn :=
  { params := 1, results := [.tmp 2], body :=
  (.seq (.reg [⟨some 2, .mov (.c (.int .i64 0)), none, none⟩])
  (.seq (.reg [⟨some 3, .mov (.t 0), none, none⟩,
      ⟨some 4, .minmax false [(.t 3), (.c (.int .i64 0))], none, none⟩,
      ⟨some 5, .minmax true [(.t 4), (.c (.int .i64 64))], none, none⟩,
      ⟨some 2, .mov (.t 5), none, none⟩])
  (.ret))) }
def bits_Writer_Put_b0 : IC :=
  (.seq (.seq (.reg [⟨some 10, .mov (.t 6), none, none⟩,
      ⟨some 11, .bin .geq (.t 10) (.c (.int .i64 0)), none, none⟩])
  (.cond (.t 11)
  (.skip)
  (.exit 0)))
  (.seq (.block 1
  (.seq (.seq (.reg [⟨some 14, .mov (.t 0), none, none⟩,
        ⟨some 15, .nilck (.t 14), none, none⟩,
        ⟨some 16, .faddr 1 (.t 15), none, none⟩,
        ⟨some 17, .load 1 false (.t 16), none, none⟩,
        ⟨some 18, .bin .rem (.t 17) (.c (.int .i64 8)), none, none⟩,
        ⟨some 19, .bin .eql (.t 18) (.c (.int .i64 0)), none, none⟩])
    (.cond (.t 19)
    (.reg [⟨some 20, .mov (.t 0), none, none⟩,
          ⟨some 21, .mov (.t 0), none, none⟩,
          ⟨some 22, .nilck (.t 21), none, none⟩,
          ⟨some 23, .faddr 0 (.t 22), none, none⟩,
          ⟨some 24, .load 1 false (.t 23), none, none⟩,
          ⟨some 25, .mkrow 1 1 [(.int .u8 0)] [(0, (.c (.int .u8 0)))], none, none⟩,
          ⟨some 26, .append 1 1 (.t 24) (.t 25), none, none⟩,
          ⟨some 27, .nilck (.t 20), none, none⟩,
          ⟨some 28, .faddr 0 (.t 27), none, none⟩,
          ⟨none, .store 1 (.t 28) (.t 26), none, none⟩])
    (.skip)))
    (.seq (.regD [0, 1, 2, 3, 4, 5, 6, 7, 8, 9, 10, 11, 12, 13, 14, 15, 16, 17, 18, 19, 20, 21, 22, 23, 24] [⟨some 29, .mov (.t 0), none, none⟩,
        ⟨some 30, .nilck (.t 29), none, none⟩,
        ⟨some 31, .faddr 0 (.t 30), none, none⟩,
        ⟨some 32, .load 1 false (.t 31), none, none⟩,
        ⟨some 33, .mov (.t 0), none, none⟩,
        ⟨some 34, .nilck (.t 33), none, none⟩,
        ⟨some 35, .faddr 1 (.t 34), none, none⟩,
        ⟨some 36, .load 1 false (.t 35), none, none⟩,
        ⟨some 37, .bin .quo (.t 36) (.c (.int .i64 8)), none, none⟩,
        ⟨some 38, .iaddr 1 (.t 32) (.t 37), none, none⟩,
        ⟨some 39, .load 1 false (.t 38), none, none⟩,
        ⟨some 40, .mov (.t 1), none, none⟩,
        ⟨some 41, .mov (.t 6), none, none⟩,
        ⟨some 42, .bin .shr (.t 40) (.t 41), none, none⟩,
        ⟨some 43, .bin .and (.t 42) (.c (.int .u64 1)), none, none⟩,
        ⟨some 44, .conv .u8 (.t 43), none, none⟩,
        ⟨some 45, .mov (.t 0), none, none⟩,
        ⟨some 46, .nilck (.t 45), none, none⟩,
        ⟨some 47, .faddr 1 (.t 46), none, none⟩,
        ⟨some 48, .load 1 false (.t 47), none, none⟩,
        ⟨some 49, .bin .rem (.t 48) (.c (.int .i64 8)), none, none⟩,
        ⟨some 50, .bin .shl (.t 44) (.t 49), none, none⟩,
        ⟨some 51, .bin .or (.t 39) (.t 50), none, none⟩,
        ⟨some 52, .iaddr 1 (.t 32) (.t 37), none, none⟩,
        ⟨none, .store 1 (.t 52) (.t 51), none, none⟩])
    (.reg [⟨some 53, .mov (.t 0), none, none⟩,
        ⟨some 54, .nilck (.t 53), none, none⟩,
        ⟨some 55, .faddr 1 (.t 54), none, none⟩,
        ⟨some 56, .load 1 false (.t 55), none, none⟩,
        ⟨some 57, .bin .add (.t 56) (.c (.int .i64 1)), none, none⟩,
        ⟨some 58, .nilck (.t 53), none, none⟩,
        ⟨some 59, .faddr 1 (.t 58), none, none⟩,
        ⟨none, .store 1 (.t 59) (.t 57), none, none⟩]))))
  (.reg [⟨some 12, .mov (.t 6), none, none⟩,
      ⟨some 13, .bin .sub (.t 12) (.c (.int .i64 1)), none, none⟩,
      ⟨some 6, .mov (.t 13), none, none⟩])))
def ir_bits_Writer_Put : IFn :=
  { params := 3, results := [], body :=
  (.seq (.reg [⟨some 7, .mov (.t 2), none, none⟩,
      ⟨some 8, .call fid_bits_bound [(.t 7)], none, none⟩,
      ⟨some 9, .bin .sub (.t 8) (.c (.int .i64 1)), none, none⟩,
      ⟨some 6, .mov (.t 9), none, none⟩])
  (.block 0
  (.loop [0, 1, 6] bits_Writer_Put_b0))) }
def ir_math_bits_Len64 : IFn :=
  { params := 1, results := [.tmp 2], body :=
  (.seq (.reg [⟨some 2, .mov (.c (.int .i64 0)), none, none⟩])
  (.seq (.seq (.reg [⟨some 3, .mov (.t 0), none, none⟩,
      ⟨some 4, .bin .geq (.t 3) (.c (.int .u64 4294967296)), none, none⟩])
  (.cond (.t 4)
  (.seq (.reg [⟨some 5, .mov (.t 0), none, none⟩,
        ⟨some 6, .bin .shr (.t 5) (.c (.int .u64 32)), none, none⟩,
        ⟨some 0, .mov (.t 6), none, none⟩])
    (.reg [⟨some 2, .mov (.c (.int .i64 32)), none, none⟩]))
  (.skip)))
  (.seq (.seq (.reg [⟨some 7, .mov (.t 0), none, none⟩,
      ⟨some 8, .bin .geq (.t 7) (.c (.int .u64 65536)), none, none⟩])
  (.cond (.t 8)
  (.seq (.reg [⟨some 9, .mov (.t 0), none, none⟩,
        ⟨some 10, .bin .shr (.t 9) (.c (.int .u64 16)), none, none⟩,
        ⟨some 0, .mov (.t 10), none, none⟩])
    (.reg [⟨some 11, .mov (.t 2), none, none⟩,
        ⟨some 12, .bin .add (.t 11) (.c (.int .i64 16)), none, none⟩,
        ⟨some 2, .mov (.t 12), none, none⟩]))
  (.skip)))
  (.seq (.seq (.reg [⟨some 13, .mov (.t 0), none, none⟩,
      ⟨some 14, .bin .geq (.t 13) (.c (.int .u64 256)), none, none⟩])
  (.cond (.t 14)
  (.seq (.reg [⟨some 15, .mov (.t 0), none, none⟩,
        ⟨some 16, .bin .shr (.t 15) (.c (.int .u64 8)), none, none⟩,
        ⟨some 0, .mov (.t 16), none, none⟩])
    (.reg [⟨some 17, .mov (.t 2), none, none⟩,
        ⟨some 18, .bin .add (.t 17) (.c (.int .i64 8)), none, none⟩,
        ⟨some 2, .mov (.t 18), none, none⟩]))
  (.skip)))
  (.seq (.reg [⟨some 19, .mov (.t 2), none, none⟩,
      ⟨some 20, .mov (.t 0), none, none⟩,
      ⟨some 21, .conv .u8 (.t 20), none, none⟩,
      ⟨some 22, .index (.c (.str [0, 1, 2, 2, 3, 3, 3, 3, 4, 4, 4, 4, 4, 4, 4, 4, 5, 5, 5, 5, 5, 5, 5, 5, 5, 5, 5, 5, 5, 5, 5, 5, 6, 6, 6, 6, 6, 6, 6, 6, 6, 6, 6, 6, 6, 6, 6, 6, 6, 6, 6, 6, 6, 6, 6, 6, 6, 6, 6, 6, 6, 6, 6, 6, 7, 7, 7, 7, 7, 7, 7, 7, 7, 7, 7, 7, 7, 7, 7, 7, 7, 7, 7, 7, 7, 7, 7, 7, 7, 7, 7, 7, 7, 7, 7, 7, 7, 7, 7, 7, 7, 7, 7, 7, 7, 7, 7, 7, 7, 7, 7, 7, 7, 7, 7, 7, 7, 7, 7, 7, 7, 7, 7, 7, 7, 7, 7, 7, 8, 8, 8, 8, 8, 8, 8, 8, 8, 8, 8, 8, 8, 8, 8, 8, 8, 8, 8, 8, 8, 8, 8, 8, 8, 8, 8, 8, 8, 8, 8, 8, 8, 8, 8, 8, 8, 8, 8, 8, 8, 8, 8, 8, 8, 8, 8, 8, 8, 8, 8, 8, 8, 8, 8, 8, 8, 8, 8, 8, 8, 8, 8, 8, 8, 8, 8, 8, 8, 8, 8, 8, 8, 8, 8, 8, 8, 8, 8, 8, 8, 8, 8, 8, 8, 8, 8, 8, 8, 8, 8, 8, 8, 8, 8, 8, 8, 8, 8, 8, 8, 8, 8, 8, 8, 8, 8, 8, 8, 8, 8, 8, 8, 8, 8, 8, 8, 8, 8, 8, 8, 8, 8, 8, 8, 8, 8, 8])) (.t 21), none, none⟩,
      ⟨some 23, .conv .i64 (.t 22), none, none⟩,
      ⟨some 24, .bin .add (.t 19) (.t 23), none, none⟩,
      ⟨some 2, .mov (.t 24), none, none⟩])
  (.ret)))))) }
def ir_gamma_Put : IFn :=
  { params := 2, results := [], body :=
  (.seq (.seq (.reg [⟨some 5, .mov (.t 0), none, none⟩,
      ⟨some 6, .eq .ptr false (.t 5) (.c .nilp), none, none⟩,
      ⟨some 7, .mov (.t 6), none, none⟩,
      ⟨some 8, .mov (.t 1), (some (7, false)), none⟩,
      ⟨some 9, .bin .eql (.t 8) (.c (.int .u64 0)), (some (7, false)), none⟩,
      ⟨some 10, .pick (.t 7) (.c (.bool true)) (.t 9), none, none⟩])
  (.cond (.t 10)
  (.ret)
  (.skip)))
  (.seq (.reg [⟨some 11, .mov (.t 1), none, none⟩,
      ⟨some 12, .call fid_math_bits_Len64 [(.t 11)], none, none⟩,
      ⟨some 4, .mov (.t 12), none, none⟩])
  (.seq (.reg [⟨some 13, .mov (.t 0), none, none⟩,
      ⟨some 14, .mov (.t 4), none, none⟩,
      ⟨some 15, .bin .sub (.t 14) (.c (.int .i64 1)), none, none⟩,
      ⟨some 16, .call fid_bits_Writer_Put [(.t 13), (.c (.int .u64 0)), (.t 15)], none, none⟩])
  (.reg [⟨some 17, .mov (.t 0), none, none⟩,
      ⟨some 18, .mov (.t 1), none, none⟩,
      ⟨some 19, .mov (.t 4), none, none⟩,
      ⟨some 20, .call fid_bits_Writer_Put [(.t 17), (.t 18), (.t 19)], none, none⟩])))) }
def ir_bits_Writer_Len : IFn :=
  { params := 1, results := [.tmp 2], body :=
  (.seq (.reg [⟨some 2, .mov (.c (.int .i64 0)), none, none⟩])
  (.seq (.reg [⟨some 3, .mov (.t 0), none, none⟩,
      ⟨some 4, .nilck (.t 3), none, none⟩,
      ⟨some 5, .faddr 1 (.t 4), none, none⟩,
      ⟨some 6, .load 1 false (.t 5), none, none⟩,
      ⟨some 2, .mov (.t 6), none, none⟩])
  (.ret))) }
def ir_gamma_Size : IFn :=
  { params := 1, results := [.tmp 2], body :=
  (.seq (.reg [⟨some 2, .mov (.c (.int .i64 0)), none, none⟩])
  (.seq (.reg [⟨some 3, .mov (.t 0), none, none⟩,
      ⟨some 4, .call fid_math_bits_Len64 [(.t 3)], none, none⟩,
      ⟨some 5, .bin .mul (.c (.int .i64 2)) (.t 4), none, none⟩,
      ⟨some 6, .bin .sub (.t 5) (.c (.int .i64 1)), none, none⟩,
      ⟨some 7, .minmax false [(.t 6), (.c (.int .i64 0))], none, none⟩,
      ⟨some 2, .mov (.t 7), none, none⟩])
  (.ret))) }
def ir_slices_Clone_byte_byte : IFn :=
  { params := 1, results := [.tmp 2], body :=
  (.seq (.reg [⟨some 2, .mov (.c .nils), none, none⟩])
  (.seq (.seq (.reg [⟨some 3, .mov (.t 0), none, none⟩,
      ⟨some 4, .eq .slice false (.t 3) (.c .nils), none, none⟩])
  (.cond (.t 4)
  (.seq (.reg [⟨some 2, .mov (.c .nils), none, none⟩])
    (.ret))
  (.skip)))
  (.seq (.reg [⟨some 5, .mkrow 1 0 [(.int .u8 0)] [], none, none⟩,
      ⟨some 6, .mov (.t 0), none, none⟩,
      ⟨some 7, .append 1 1 (.t 5) (.t 6), none, none⟩,
      ⟨some 2, .mov (.t 7), none, none⟩])
  (.ret)))) }
def ir_bits_Writer_Bytes : IFn :=
  { params := 1, results := [.tmp 2], body :=
  (.seq (.reg [⟨some 2, .mov (.c .nils), none, none⟩])
  (.seq (.reg [⟨some 3, .mov (.t 0), none, none⟩,
      ⟨some 4, .nilck (.t 3), none, none⟩,
      ⟨some 5, .faddr 0 (.t 4), none, none⟩,
      ⟨some 6, .load 1 false (.t 5), none, none⟩,
      ⟨some 7, .call fid_slices_Clone_byte_byte [(.t 6)], none, none⟩,
      ⟨some 2, .mov (.t 7), none, none⟩])
  (.ret))) }
def ir_bits_NewReader : IFn :=
  { params := 1, results := [.tmp 2], body :=
  (.seq (.reg [⟨some 2, .mov (.c .nilp), none, none⟩])
  (.seq (.reg [⟨some 3, .mov (.t 0), none, none⟩,
      ⟨some 4, .build [.nils, (.int .i64 0)] [(0, 1, (.t 3))], none, none⟩,
      ⟨some 5, .box (.t 4), none, none⟩,
      ⟨some 2, .mov (.t 5), none, none⟩])
  (.ret))) }
def ir_bits_Reader_Left : IFn :=
  { params := 1, results := [.tmp 2], body :=
  (.seq (.reg [⟨some 2, .mov (.c (.int .i64 0)), none, none⟩])
  (.seq (.regD [0, 1, 2, 3, 4, 5, 6, 7, 8, 9, 10, 11] [⟨some 3, .mov (.t 0), none, none⟩,
      ⟨some 4, .nilck (.t 3), none, none⟩,
      ⟨some 5, .faddr 0 (.t 4), none, none⟩,
      ⟨some 6, .load 1 false (.t 5), none, none⟩,
      ⟨some 7, .len .sl (.t 6), none, none⟩,
      ⟨some 8, .bin .mul (.t 7) (.c (.int .i64 8)), none, none⟩,
      ⟨some 9, .mov (.t 0), none, none⟩,
      ⟨some 10, .nilck (.t 9), none, none⟩,
      ⟨some 11, .faddr 1 (.t 10), none, none⟩,
      ⟨some 12, .load 1 false (.t 11), none, none⟩,
      ⟨some 13, .bin .sub (.t 8) (.t 12), none, none⟩,
      ⟨some 2, .mov (.t 13), none, none⟩])
  (.ret))) }
def bits_Reader_Take_b0 : IC :=
  (.seq (.reg [⟨some 15, .bin .lss (.t 14) (.t 13), none, none⟩])
  (.seq (.cond (.t 15)
  (.skip)
  (.exit 0))
  (.seq (.block 1
  (.seq (.regD [0, 1, 2, 3, 4, 5, 6, 7, 8, 9, 10, 11, 12, 13, 14, 15, 16, 17, 18, 19, 20, 21, 22] [⟨some 16, .mov (.t 6), none, none⟩,
        ⟨some 17, .bin .shl (.t 16) (.c (.int .u64 1)), none, none⟩,
        ⟨some 18, .mov (.t 0), none, none⟩,
        ⟨some 19, .nilck (.t 18), none, none⟩,
        ⟨some 20, .faddr 0 (.t 19), none, none⟩,
        ⟨some 21, .load 1 false (.t 20), none, none⟩,
        ⟨some 22, .mov (.t 0), none, none⟩,
        ⟨some 23, .nilck (.t 22), none, none⟩,
        ⟨some 24, .faddr 1 (.t 23), none, none⟩,
        ⟨some 25, .load 1 false (.t 24), none, none⟩,
        ⟨some 26, .bin .quo (.t 25) (.c (.int .i64 8)), none, none⟩,
        ⟨some 27, .iaddr 1 (.t 21) (.t 26), none, none⟩,
        ⟨some 28, .load 1 false (.t 27), none, none⟩,
        ⟨some 29, .mov (.t 0), none, none⟩,
        ⟨some 30, .nilck (.t 29), none, none⟩,
        ⟨some 31, .faddr 1 (.t 30), none, none⟩,
        ⟨some 32, .load 1 false (.t 31), none, none⟩,
        ⟨some 33, .bin .rem (.t 32) (.c (.int .i64 8)), none, none⟩,
        ⟨some 34, .bin .shr (.t 28) (.t 33), none, none⟩,
        ⟨some 35, .bin .and (.t 34) (.c (.int .u8 1)), none, none⟩,
        ⟨some 36, .conv .u64 (.t 35), none, none⟩,
        ⟨some 37, .bin .or (.t 17) (.t 36), none, none⟩,
        ⟨some 6, .mov (.t 37), none, none⟩])
    (.reg [⟨some 38, .mov (.t 0), none, none⟩,
        ⟨some 39, .nilck (.t 38), none, none⟩,
        ⟨some 40, .faddr 1 (.t 39), none, none⟩,
        ⟨some 41, .load 1 false (.t 40), none, none⟩,
        ⟨some 42, .bin .add (.t 41) (.c (.int .i64 1)), none, none⟩,
        ⟨some 43, .nilck (.t 38), none, none⟩,
        ⟨some 44, .faddr 1 (.t 43), none, none⟩,
        ⟨none, .store 1 (.t 44) (.t 42), none, none⟩])))
  (.reg [⟨some 45, .bin .add (.t 14) (.c (.int .i64 1)), none, none⟩,
      ⟨some 14, .mov (.t 45), none, none⟩]))))
def ir_bits_Reader_Take : IFn :=
  { params := 2, results := [.tmp 4, .tmp 5], body :=
  (.seq (.reg [⟨some 4, .mov (.c (.int .u64 0)), none, none⟩,
      ⟨some 5, .mov (.c (.bool false)), none, none⟩])
  (.seq (.reg [⟨some 7, .mov (.t 1), none, none⟩,
      ⟨some 8, .call fid_bits_bound [(.t 7)], none, none⟩,
      ⟨some 1, .mov (.t 8), none, none⟩])
  (.seq (.seq (.reg [⟨some 9, .mov (.t 1), none, none⟩,
      ⟨some 10, .mov (.t 0), none, none⟩,
      ⟨some 11, .call fid_bits_Reader_Left [(.t 10)], none, none⟩,
      ⟨some 12, .bin .gtr (.t 9) (.t 11), none, none⟩])
  (.cond (.t 12)
  (.seq (.reg [⟨some 4, .mov (.c (.int .u64 0)), none, none⟩,
        ⟨some 5, .mov (.c (.bool false)), none, none⟩])
    (.ret))
  (.skip)))
  (.seq (.reg [⟨some 6, .mov (.c (.int .u64 0)), none, none⟩])
  (.seq (.seq (.reg [⟨some 13, .mov (.t 1), none, none⟩,
      ⟨some 14, .mov (.c (.int .i64 0)), none, none⟩])
  (.block 0
  (.loop [0, 6, 13, 14] bits_Reader_Take_b0)))
  (.seq (.reg [⟨some 46, .mov (.t 6), none, none⟩,
      ⟨some 4, .mov (.t 46), none, none⟩,
      ⟨some 5, .mov (.c (.bool true)), none, none⟩])
  (.ret))))))) }
def gamma_Take_b0 : IC :=
  (.seq (.reg [⟨some 15, .bin .lss (.t 14) (.c (.int .i64 64)), none, none⟩])
  (.seq (.cond (.t 15)
  (.skip)
  (.exit 0))
  (.seq (.block 1
  (.seq (.reg [⟨some 16, .mov (.t 14), none, none⟩,
        ⟨some 5, .mov (.t 16), none, none⟩])
    (.seq (.reg [⟨some 18, .mov (.t 0), none, none⟩,
        ⟨some 19, .call fid_bits_Reader_Take [(.t 18), (.c (.int .i64 1))], none, none⟩,
        ⟨some 17, .mov (.t 19), none, none⟩,
        ⟨some 20, .extract (.t 17) 0, none, none⟩,
        ⟨some 21, .extract (.t 17) 1, none, none⟩,
        ⟨some 6, .mov (.t 20), none, none⟩,
        ⟨some 7, .mov (.t 21), none, none⟩])
    (.seq (.seq (.reg [⟨some 22, .mov (.t 7), none, none⟩,
        ⟨some 23, .un .not (.t 22), none, none⟩])
    (.cond (.t 23)
    (.exit 0)
    (.skip)))
    (.seq (.seq (.reg [⟨some 24, .mov (.t 6), none, none⟩,
        ⟨some 25, .bin .eql (.t 24) (.c (.int .u64 0)), none, none⟩])
    (.cond (.t 25)
    (.exit 1)
    (.skip)))
    (.seq (.reg [⟨some 27, .mov (.t 0), none, none⟩,
        ⟨some 28, .mov (.t 5), none, none⟩,
        ⟨some 29, .call fid_bits_Reader_Take [(.t 27), (.t 28)], none, none⟩,
        ⟨some 26, .mov (.t 29), none, none⟩,
        ⟨some 30, .extract (.t 26) 0, none, none⟩,
        ⟨some 31, .extract (.t 26) 1, none, none⟩,
        ⟨some 8, .mov (.t 30), none, none⟩,
        ⟨some 7, .mov (.t 31), none, none⟩])
    (.seq (.seq (.reg [⟨some 32, .mov (.t 7), none, none⟩,
        ⟨some 33, .un .not (.t 32), none, none⟩])
    (.cond (.t 33)
    (.exit 0)
    (.skip)))
    (.seq (.reg [⟨some 34, .mov (.t 5), none, none⟩,
        ⟨some 35, .bin .shl (.c (.int .u64 1)) (.t 34), none, none⟩,
        ⟨some 36, .mov (.t 8), none, none⟩,
        ⟨some 37, .bin .or (.t 35) (.t 36), none, none⟩,
        ⟨some 2, .mov (.t 37), none, none⟩,
        ⟨some 3, .mov (.c (.bool true)), none, none⟩])
    (.ret)))))))))
  (.reg [⟨some 38, .bin .add (.t 14) (.c (.int .i64 1)), none, none⟩,
      ⟨some 14, .mov (.t 38), none, none⟩]))))
def ir_gamma_Take : IFn :=
  { params := 1, results := [.tmp 2, .tmp 3], body :=
  (.seq (.reg [⟨some 2, .mov (.c (.int .u64 0)), none, none⟩,
      ⟨some 3, .mov (.c (.bool false)), none, none⟩])
  (.seq (.seq (.reg [⟨some 9, .mov (.t 0), none, none⟩,
      ⟨some 10, .eq .ptr false (.t 9) (.c .nilp), none, none⟩])
  (.cond (.t 10)
  (.seq (.reg [⟨some 2, .mov (.c (.int .u64 0)), none, none⟩,
        ⟨some 3, .mov (.c (.bool false)), none, none⟩])
    (.ret))
  (.skip)))
  (.seq (.reg [⟨some 11, .mov (.t 0), none, none⟩,
      ⟨some 12, .nilck (.t 11), none, none⟩,
      ⟨some 13, .load 2 true (.t 12), none, none⟩,
      ⟨some 4, .box (.c (.agg [.nils, (.int .i64 0)])), none, none⟩,
      ⟨none, .store 2 (.t 4) (.t 13), none, none⟩])
  (.seq (.seq (.reg [⟨some 14, .mov (.c (.int .i64 0)), none, none⟩])
  (.block 0
  (.loop [0, 4, 14] gamma_Take_b0)))
  (.seq (.reg [⟨some 39, .mov (.t 0), none, none⟩,
      ⟨some 40, .load 2 true (.t 4), none, none⟩,
      ⟨some 41, .nilck (.t 39), none, none⟩,
      ⟨none, .store 2 (.t 41) (.t 40), none, none⟩])
  (.seq (.reg [⟨some 2, .mov (.c (.int .u64 0)), none, none⟩,
      ⟨some 3, .mov (.c (.bool false)), none, none⟩])
  (.ret))))))) }
def ir_archipelagolaw3_known : IFn :=
  { params := 0, results := [.tmp 0], body :=
  (.seq (.reg [⟨some 0, .mov (.c (.bool false)), none, none⟩])
  (.seq (.reg [⟨some 6, .call fid_bits_NewWriter [], none, none⟩,
      ⟨some 1, .mov (.t 6), none, none⟩])
  (.seq (.reg [⟨some 7, .mov (.t 1), none, none⟩,
      ⟨some 8, .call fid_gamma_Put [(.t 7), (.c (.int .u64 5))], none, none⟩])
  (.seq (.seq (.reg [⟨some 9, .mov (.t 1), none, none⟩,
      ⟨some 10, .eq .ptr false (.t 9) (.c .nilp), none, none⟩])
  (.cond (.t 10)
  (.seq (.reg [⟨some 0, .mov (.c (.bool false)), none, none⟩])
    (.ret))
  (.skip)))
  (.seq (.reg [⟨some 12, .mov (.t 1), none, none⟩,
      ⟨some 13, .call fid_bits_Writer_Bytes [(.t 12)], none, none⟩,
      ⟨some 14, .call fid_bits_NewReader [(.t 13)], none, none⟩,
      ⟨some 15, .call fid_gamma_Take [(.t 14)], none, none⟩,
      ⟨some 11, .mov (.t 15), none, none⟩,
      ⟨some 16, .extract (.t 11) 0, none, none⟩,
      ⟨some 17, .extract (.t 11) 1, none, none⟩,
      ⟨some 2, .mov (.t 16), none, none⟩,
      ⟨some 3, .mov (.t 17), none, none⟩])
  (.seq (.reg [⟨some 19, .mkrow 1 1 [(.int .u8 0)] [(0, (.c (.int .u8 0)))], none, none⟩,
      ⟨some 20, .call fid_bits_NewReader [(.t 19)], none, none⟩,
      ⟨some 21, .call fid_gamma_Take [(.t 20)], none, none⟩,
      ⟨some 18, .mov (.t 21), none, none⟩,
      ⟨some 22, .extract (.t 18) 0, none, none⟩,
      ⟨some 23, .extract (.t 18) 1, none, none⟩,
      ⟨some 4, .mov (.t 22), none, none⟩,
      ⟨some 5, .mov (.t 23), none, none⟩])
  (.seq (.reg [⟨some 24, .mov (.t 1), none, none⟩,
      ⟨some 25, .call fid_bits_Writer_Len [(.t 24)], none, none⟩,
      ⟨some 26, .bin .eql (.t 25) (.c (.int .i64 5)), none, none⟩,
      ⟨some 27, .mov (.t 26), none, none⟩,
      ⟨some 28, .mov (.t 1), (some (27, true)), none⟩,
      ⟨some 29, .call fid_bits_Writer_Bytes [(.t 28)], (some (27, true)), none⟩,
      ⟨some 30, .toStr (.t 29), (some (27, true)), none⟩,
      ⟨some 31, .bin .eql (.t 30) (.c (.str [20])), (some (27, true)), none⟩,
      ⟨some 32, .pick (.t 27) (.t 31) (.c (.bool false)), none, none⟩,
      ⟨some 33, .mov (.t 32), none, none⟩,
      ⟨some 34, .mov (.t 3), (some (33, true)), none⟩,
      ⟨some 35, .pick (.t 33) (.t 34) (.c (.bool false)), none, none⟩,
      ⟨some 36, .mov (.t 35), none, none⟩,
      ⟨some 37, .mov (.t 2), (some (36, true)), none⟩,
      ⟨some 38, .bin .eql (.t 37) (.c (.int .u64 5)), (some (36, true)), none⟩,
      ⟨some 39, .pick (.t 36) (.t 38) (.c (.bool false)), none, none⟩,
      ⟨some 40, .mov (.t 39), none, none⟩,
      ⟨some 41, .mov (.t 5), (some (40, true)), none⟩,
      ⟨some 42, .un .not (.t 41), (some (40, true)), none⟩,
      ⟨some 43, .pick (.t 40) (.t 42) (.c (.bool false)), none, none⟩,
      ⟨some 44, .mov (.t 43), none, none⟩,
      ⟨some 45, .call fid_gamma_Size [(.c (.int .u64 5))], (some (44, true)), none⟩,
      ⟨some 46, .bin .eql (.t 45) (.c (.int .i64 5)), (some (44, true)), none⟩,
      ⟨some 47, .pick (.t 44) (.t 46) (.c (.bool false)), none, none⟩,
      ⟨some 48, .mov (.t 47), none, none⟩,
      ⟨some 49, .call fid_gamma_Size [(.c (.int .u64 0))], (some (48, true)), none⟩,
      ⟨some 50, .bin .eql (.t 49) (.c (.int .i64 0)), (some (48, true)), none⟩,
      ⟨some 51, .pick (.t 48) (.t 50) (.c (.bool false)), none, none⟩,
      ⟨some 0, .mov (.t 51), none, none⟩])
  (.ret)))))))) }
def archipelagoref1_length_b0 : IC :=
  (.seq (.seq (.reg [⟨some 4, .mov (.t 0), none, none⟩,
      ⟨some 5, .bin .gtr (.t 4) (.c (.int .u64 0)), none, none⟩])
  (.cond (.t 5)
  (.skip)
  (.exit 0)))
  (.block 1
  (.reg [⟨some 6, .mov (.t 3), none, none⟩,
        ⟨some 7, .bin .add (.t 6) (.c (.int .i64 1)), none, none⟩,
        ⟨some 8, .mov (.t 0), none, none⟩,
        ⟨some 9, .bin .shr (.t 8) (.c (.int .u64 1)), none, none⟩,
        ⟨some 3, .mov (.t 7), none, none⟩,
        ⟨some 0, .mov (.t 9), none, none⟩])))
def ir_archipelagoref1_length : IFn :=
  { params := 1, results := [.tmp 2], body :=
  (.seq (.reg [⟨some 2, .mov (.c (.int .i64 0)), none, none⟩])
  (.seq (.reg [⟨some 3, .mov (.c (.int .i64 0)), none, none⟩])
  (.seq (.block 0
  (.loop [0, 3] archipelagoref1_length_b0))
  (.seq (.reg [⟨some 10, .mov (.t 3), none, none⟩,
      ⟨some 2, .mov (.t 10), none, none⟩])
  (.ret))))) }
def archipelagoref1_Writer_Put_b0 : IC :=
  (.seq (.seq (.reg [⟨some 11, .mov (.t 6), none, none⟩,
      ⟨some 12, .bin .geq (.t 11) (.c (.int .i64 0)), none, none⟩])
  (.cond (.t 12)
  (.skip)
  (.exit 0)))
  (.seq (.block 1
  (.regD [1, 2, 3, 4, 5, 6, 7, 8, 9, 10, 11, 0, 12, 13, 14] [⟨some 16, .mov (.t 0), none, none⟩,
        ⟨some 17, .nilck (.t 16), none, none⟩,
        ⟨some 18, .faddr 0 (.t 17), none, none⟩,
        ⟨some 19, .load 1 false (.t 18), none, none⟩,
        ⟨some 20, .mov (.t 1), none, none⟩,
        ⟨some 21, .mov (.t 6), none, none⟩,
        ⟨some 22, .bin .shr (.t 20) (.t 21), none, none⟩,
        ⟨some 23, .bin .and (.t 22) (.c (.int .u64 1)), none, none⟩,
        ⟨some 24, .bin .eql (.t 23) (.c (.int .u64 1)), none, none⟩,
        ⟨some 25, .mkrow 1 1 [(.bool false)] [(0, (.t 24))], none, none⟩,
        ⟨some 26, .append 1 1 (.t 19) (.t 25), none, none⟩,
        ⟨some 15, .mov (.t 0), none, none⟩,
        ⟨some 27, .nilck (.t 15), none, none⟩,
        ⟨some 28, .faddr 0 (.t 27), none, none⟩,
        ⟨none, .store 1 (.t 28) (.t 26), none, none⟩]))
  (.reg [⟨some 13, .mov (.t 6), none, none⟩,
      ⟨some 14, .bin .sub (.t 13) (.c (.int .i64 1)), none, none⟩,
      ⟨some 6, .mov (.t 14), none, none⟩])))
def ir_archipelagoref1_Writer_Put : IFn :=
  { params := 3, results := [], body :=
  (.seq (.reg [⟨some 7, .mov (.t 2), none, none⟩,
      ⟨some 8, .minmax false [(.t 7), (.c (.int .i64 0))], none, none⟩,
      ⟨some 9, .minmax true [(.t 8), (.c (.int .i64 64))], none, none⟩,
      ⟨some 10, .bin .sub (.t 9) (.c (.int .i64 1)), none, none⟩,
      ⟨some 6, .mov (.t 10), none, none⟩])
  (.block 0
  (.loop [0, 1, 6] archipelagoref1_Writer_Put_b0))) }
def ir_archipelagoref1_GammaPut : IFn :=
  { params := 2, results := [], body :=
  (.seq (.reg [⟨some 5, .mov (.t 1), none, none⟩,
      ⟨some 6, .call fid_archipelagoref1_length [(.t 5)], none, none⟩,
      ⟨some 4, .mov (.t 6), none, none⟩])
  (.seq (.reg [⟨some 7, .mov (.t 4), none, none⟩,
      ⟨some 8, .bin .gtr (.t 7) (.c (.int .i64 0)), none, none⟩])
  (.cond (.t 8)
  (.seq (.reg [⟨some 9, .mov (.t 0), none, none⟩,
        ⟨some 10, .mov (.t 4), none, none⟩,
        ⟨some 11, .bin .sub (.t 10) (.c (.int .i64 1)), none, none⟩,
        ⟨some 12, .call fid_archipelagoref1_Writer_Put [(.t 9), (.c (.int .u64 0)), (.t 11)], none, none⟩])
    (.reg [⟨some 13, .mov (.t 0), none, none⟩,
        ⟨some 14, .mov (.t 1), none, none⟩,
        ⟨some 15, .mov (.t 4), none, none⟩,
        ⟨some 16, .call fid_archipelagoref1_Writer_Put [(.t 13), (.t 14), (.t 15)], none, none⟩]))
  (.skip)))) }
def ir_archipelagoref1_GammaSize : IFn :=
  { params := 1, results := [.tmp 2], body :=
  (.seq (.reg [⟨some 2, .mov (.c (.int .i64 0)), none, none⟩])
  (.seq (.reg [⟨some 3, .mov (.t 0), none, none⟩,
      ⟨some 4, .call fid_archipelagoref1_length [(.t 3)], none, none⟩,
      ⟨some 5, .bin .mul (.c (.int .i64 2)) (.t 4), none, none⟩,
      ⟨some 6, .bin .sub (.t 5) (.c (.int .i64 1)), none, none⟩,
      ⟨some 7, .minmax false [(.t 6), (.c (.int .i64 0))], none, none⟩,
      ⟨some 2, .mov (.t 7), none, none⟩])
  (.ret))) }
def archipelagoref1_Writer_Bytes_b0 : IC :=
  (.seq (.seq (.reg [⟨some 13, .mov (.t 4), none, none⟩,
      ⟨some 14, .mov (.t 0), none, none⟩,
      ⟨some 15, .nilck (.t 14), none, none⟩,
      ⟨some 16, .faddr 0 (.t 15), none, none⟩,
      ⟨some 17, .load 1 false (.t 16), none, none⟩,
      ⟨some 18, .len .sl (.t 17), none, none⟩,
      ⟨some 19, .bin .lss (.t 13) (.t 18), none, none⟩])
  (.cond (.t 19)
  (.skip)
  (.exit 0)))
  (.seq (.block 1
  (.seq (.reg [⟨some 22, .mov (.t 0), none, none⟩,
        ⟨some 23, .nilck (.t 22), none, none⟩,
        ⟨some 24, .faddr 0 (.t 23), none, none⟩,
        ⟨some 25, .load 1 false (.t 24), none, none⟩,
        ⟨some 26, .mov (.t 4), none, none⟩,
        ⟨some 27, .iaddr 1 (.t 25) (.t 26), none, none⟩,
        ⟨some 28, .load 1 false (.t 27), none, none⟩])
    (.cond (.t 28)
    (.regD [0, 1, 2, 3, 4, 5, 6, 7, 8, 9, 10] [⟨some 29, .mov (.t 3), none, none⟩,
          ⟨some 30, .mov (.t 4), none, none⟩,
          ⟨some 31, .bin .quo (.t 30) (.c (.int .i64 8)), none, none⟩,
          ⟨some 32, .iaddr 1 (.t 29) (.t 31), none, none⟩,
          ⟨some 33, .load 1 false (.t 32), none, none⟩,
          ⟨some 34, .mov (.t 4), none, none⟩,
          ⟨some 35, .bin .rem (.t 34) (.c (.int .i64 8)), none, none⟩,
          ⟨some 36, .bin .shl (.c (.int .u8 1)) (.t 35), none, none⟩,
          ⟨some 37, .bin .or (.t 33) (.t 36), none, none⟩,
          ⟨some 38, .iaddr 1 (.t 29) (.t 31), none, none⟩,
          ⟨none, .store 1 (.t 38) (.t 37), none, none⟩])
    (.skip))))
  (.reg [⟨some 20, .mov (.t 4), none, none⟩,
      ⟨some 21, .bin .add (.t 20) (.c (.int .i64 1)), none, none⟩,
      ⟨some 4, .mov (.t 21), none, none⟩])))
def ir_archipelagoref1_Writer_Bytes : IFn :=
  { params := 1, results := [.tmp 2], body :=
  (.seq (.reg [⟨some 2, .mov (.c .nils), none, none⟩])
  (.seq (.reg [⟨some 5, .mov (.t 0), none, none⟩,
      ⟨some 6, .nilck (.t 5), none, none⟩,
      ⟨some 7, .faddr 0 (.t 6), none, none⟩,
      ⟨some 8, .load 1 false (.t 7), none, none⟩,
      ⟨some 9, .len .sl (.t 8), none, none⟩,
      ⟨some 10, .bin .add (.t 9) (.c (.int .i64 7)), none, none⟩,
      ⟨some 11, .bin .quo (.t 10) (.c (.int .i64 8)), none, none⟩,
      ⟨some 12, .mkslice 1 1 [(.int .u8 0)] (.t 11) (.t 11), none, none⟩,
      ⟨some 3, .mov (.t 12), none, none⟩])
  (.seq (.seq (.reg [⟨some 4, .mov (.c (.int .i64 0)), none, none⟩])
  (.block 0
  (.loop [0, 3, 4] archipelagoref1_Writer_Bytes_b0)))
  (.seq (.reg [⟨some 39, .mov (.t 3), none, none⟩,
      ⟨some 2, .mov (.t 39), none, none⟩])
  (.ret))))) }
def ir_archipelagoref1_Reader_Left : IFn :=
  { params := 1, results := [.tmp 2], body :=
  (.seq (.reg [⟨some 2, .mov (.c (.int .i64 0)), none, none⟩])
  (.seq (.regD [0, 1, 2, 3, 4, 5, 6, 7, 8, 9, 10, 11] [⟨some 3, .mov (.t 0), none, none⟩,
      ⟨some 4, .nilck (.t 3), none, none⟩,
      ⟨some 5, .faddr 0 (.t 4), none, none⟩,
      ⟨some 6, .load 1 false (.t 5), none, none⟩,
      ⟨some 7, .len .sl (.t 6), none, none⟩,
      ⟨some 8, .bin .mul (.c (.int .i64 8)) (.t 7), none, none⟩,
      ⟨some 9, .mov (.t 0), none, none⟩,
      ⟨some 10, .nilck (.t 9), none, none⟩,
      ⟨some 11, .faddr 1 (.t 10), none, none⟩,
      ⟨some 12, .load 1 false (.t 11), none, none⟩,
      ⟨some 13, .bin .sub (.t 8) (.t 12), none, none⟩,
      ⟨some 2, .mov (.t 13), none, none⟩])
  (.ret))) }
def archipelagoref1_Reader_Take_b0 : IC :=
  (.seq (.seq (.reg [⟨some 15, .mov (.t 7), none, none⟩,
      ⟨some 16, .mov (.t 1), none, none⟩,
      ⟨some 17, .bin .lss (.t 15) (.t 16), none, none⟩])
  (.cond (.t 17)
  (.skip)
  (.exit 0)))
  (.seq (.block 1
  (.seq (.regD [0, 1, 2, 3, 4, 5, 6, 7, 8, 9, 10, 11, 12, 13, 14, 15, 16, 17, 18, 19, 20, 21, 22] [⟨some 20, .mov (.t 6), none, none⟩,
        ⟨some 21, .bin .shl (.t 20) (.c (.int .u64 1)), none, none⟩,
        ⟨some 22, .mov (.t 0), none, none⟩,
        ⟨some 23, .nilck (.t 22), none, none⟩,
        ⟨some 24, .faddr 0 (.t 23), none, none⟩,
        ⟨some 25, .load 1 false (.t 24), none, none⟩,
        ⟨some 26, .mov (.t 0), none, none⟩,
        ⟨some 27, .nilck (.t 26), none, none⟩,
        ⟨some 28, .faddr 1 (.t 27), none, none⟩,
        ⟨some 29, .load 1 false (.t 28), none, none⟩,
        ⟨some 30, .bin .quo (.t 29) (.c (.int .i64 8)), none, none⟩,
        ⟨some 31, .iaddr 1 (.t 25) (.t 30), none, none⟩,
        ⟨some 32, .load 1 false (.t 31), none, none⟩,
        ⟨some 33, .mov (.t 0), none, none⟩,
        ⟨some 34, .nilck (.t 33), none, none⟩,
        ⟨some 35, .faddr 1 (.t 34), none, none⟩,
        ⟨some 36, .load 1 false (.t 35), none, none⟩,
        ⟨some 37, .bin .rem (.t 36) (.c (.int .i64 8)), none, none⟩,
        ⟨some 38, .bin .shr (.t 32) (.t 37), none, none⟩,
        ⟨some 39, .bin .and (.t 38) (.c (.int .u8 1)), none, none⟩,
        ⟨some 40, .conv .u64 (.t 39), none, none⟩,
        ⟨some 41, .bin .or (.t 21) (.t 40), none, none⟩,
        ⟨some 6, .mov (.t 41), none, none⟩])
    (.reg [⟨some 42, .mov (.t 0), none, none⟩,
        ⟨some 43, .nilck (.t 42), none, none⟩,
        ⟨some 44, .faddr 1 (.t 43), none, none⟩,
        ⟨some 45, .load 1 false (.t 44), none, none⟩,
        ⟨some 46, .bin .add (.t 45) (.c (.int .i64 1)), none, none⟩,
        ⟨some 47, .nilck (.t 42), none, none⟩,
        ⟨some 48, .faddr 1 (.t 47), none, none⟩,
        ⟨none, .store 1 (.t 48) (.t 46), none, none⟩])))
  (.reg [⟨some 18, .mov (.t 7), none, none⟩,
      ⟨some 19, .bin .add (.t 18) (.c (.int .i64 1)), none, none⟩,
      ⟨some 7, .mov (.t 19), none, none⟩])))
def ir_archipelagoref1_Reader_Take : IFn :=
  { params := 2, results := [.tmp 4, .tmp 5], body :=
  (.seq (.reg [⟨some 4, .mov (.c (.int .u64 0)), none, none⟩,
      ⟨some 5, .mov (.c (.bool false)), none, none⟩])
  (.seq (.reg [⟨some 8, .mov (.t 1), none, none⟩,
      ⟨some 9, .minmax false [(.t 8), (.c (.int .i64 0))], none, none⟩,
      ⟨some 10, .minmax true [(.t 9), (.c (.int .i64 64))], none, none⟩,
      ⟨some 1, .mov (.t 10), none, none⟩])
  (.seq (.seq (.reg [⟨some 11, .mov (.t 1), none, none⟩,
      ⟨some 12, .mov (.t 0), none, none⟩,
      ⟨some 13, .call fid_archipelagoref1_Reader_Left [(.t 12)], none, none⟩,
      ⟨some 14, .bin .gtr (.t 11) (.t 13), none, none⟩])
  (.cond (.t 14)
  (.seq (.reg [⟨some 4, .mov (.c (.int .u64 0)), none, none⟩,
        ⟨some 5, .mov (.c (.bool false)), none, none⟩])
    (.ret))
  (.skip)))
  (.seq (.reg [⟨some 6, .mov (.c (.int .u64 0)), none, none⟩])
  (.seq (.seq (.reg [⟨some 7, .mov (.c (.int .i64 0)), none, none⟩])
  (.block 0
  (.loop [0, 1, 6, 7] archipelagoref1_Reader_Take_b0)))
  (.seq (.reg [⟨some 49, .mov (.t 6), none, none⟩,
      ⟨some 4, .mov (.t 49), none, none⟩,
      ⟨some 5, .mov (.c (.bool true)), none, none⟩])
  (.ret))))))) }
def archipelagoref1_GammaTake_b0 : IC :=
  (.seq (.seq (.reg [⟨some 14, .mov (.t 5), none, none⟩,
      ⟨some 15, .bin .lss (.t 14) (.c (.int .i64 64)), none, none⟩])
  (.cond (.t 15)
  (.skip)
  (.exit 0)))
  (.seq (.block 1
  (.seq (.reg [⟨some 19, .mov (.t 0), none, none⟩,
        ⟨some 20, .call fid_archipelagoref1_Reader_Take [(.t 19), (.c (.int .i64 1))], none, none⟩,
        ⟨some 18, .mov (.t 20), none, none⟩,
        ⟨some 21, .extract (.t 18) 0, none, none⟩,
        ⟨some 22, .extract (.t 18) 1, none, none⟩,
        ⟨some 6, .mov (.t 21), none, none⟩,
        ⟨some 7, .mov (.t 22), none, none⟩])
    (.seq (.seq (.reg [⟨some 23, .mov (.t 7), none, none⟩,
        ⟨some 24, .un .not (.t 23), none, none⟩])
    (.cond (.t 24)
    (.exit 0)
    (.skip)))
    (.seq (.seq (.reg [⟨some 25, .mov (.t 6), none, none⟩,
        ⟨some 26, .bin .eql (.t 25) (.c (.int .u64 0)), none, none⟩])
    (.cond (.t 26)
    (.exit 1)
    (.skip)))
    (.seq (.reg [⟨some 28, .mov (.t 0), none, none⟩,
        ⟨some 29, .mov (.t 5), none, none⟩,
        ⟨some 30, .call fid_archipelagoref1_Reader_Take [(.t 28), (.t 29)], none, none⟩,
        ⟨some 27, .mov (.t 30), none, none⟩,
        ⟨some 31, .extract (.t 27) 0, none, none⟩,
        ⟨some 32, .extract (.t 27) 1, none, none⟩,
        ⟨some 8, .mov (.t 31), none, none⟩,
        ⟨some 9, .mov (.t 32), none, none⟩])
    (.seq (.seq (.reg [⟨some 33, .mov (.t 9), none, none⟩,
        ⟨some 34, .un .not (.t 33), none, none⟩])
    (.cond (.t 34)
    (.exit 0)
    (.skip)))
    (.seq (.reg [⟨some 35, .mov (.t 5), none, none⟩,
        ⟨some 36, .bin .shl (.c (.int .u64 1)) (.t 35), none, none⟩,
        ⟨some 37, .mov (.t 8), none, none⟩,
        ⟨some 38, .bin .or (.t 36) (.t 37), none, none⟩,
        ⟨some 2, .mov (.t 38), none, none⟩,
        ⟨some 3, .mov (.c (.bool true)), none, none⟩])
    (.ret))))))))
  (.reg [⟨some 16, .mov (.t 5), none, none⟩,
      ⟨some 17, .bin .add (.t 16) (.c (.int .i64 1)), none, none⟩,
      ⟨some 5, .mov (.t 17), none, none⟩])))
def ir_archipelagoref1_GammaTake : IFn :=
  { params := 1, results := [.tmp 2, .tmp 3], body :=
  (.seq (.reg [⟨some 2, .mov (.c (.int .u64 0)), none, none⟩,
      ⟨some 3, .mov (.c (.bool false)), none, none⟩])
  (.seq (.reg [⟨some 10, .mov (.t 0), none, none⟩,
      ⟨some 11, .nilck (.t 10), none, none⟩,
      ⟨some 12, .faddr 1 (.t 11), none, none⟩,
      ⟨some 13, .load 1 false (.t 12), none, none⟩,
      ⟨some 4, .mov (.t 13), none, none⟩])
  (.seq (.seq (.reg [⟨some 5, .mov (.c (.int .i64 0)), none, none⟩])
  (.block 0
  (.loop [0, 4, 5] archipelagoref1_GammaTake_b0)))
  (.seq (.reg [⟨some 39, .mov (.t 0), none, none⟩,
      ⟨some 40, .mov (.t 4), none, none⟩,
      ⟨some 41, .nilck (.t 39), none, none⟩,
      ⟨some 42, .faddr 1 (.t 41), none, none⟩,
      ⟨none, .store 1 (.t 42) (.t 40), none, none⟩])
  (.seq (.reg [⟨some 2, .mov (.c (.int .u64 0)), none, none⟩,
      ⟨some 3, .mov (.c (.bool false)), none, none⟩])
  (.ret)))))) }
def archipelagolaw3_GammaTells_b0 : IC :=
  (.seq (.seq (.reg [⟨some 36, .mov (.t 9), none, none⟩,
      ⟨some 37, .mov (.t 0), none, none⟩,
      ⟨some 38, .len .sl (.t 37), none, none⟩,
      ⟨some 39, .bin .lss (.t 36) (.t 38), none, none⟩])
  (.cond (.t 39)
  (.skip)
  (.exit 0)))
  (.seq (.block 1
  (.seq (.reg [⟨some 42, .mov (.t 0), none, none⟩,
        ⟨some 43, .mov (.t 9), none, none⟩,
        ⟨some 44, .iaddr 1 (.t 42) (.t 43), none, none⟩,
        ⟨some 45, .load 1 false (.t 44), none, none⟩,
        ⟨some 46, .mov (.t 2), none, none⟩,
        ⟨some 47, .conv .i64 (.t 46), none, none⟩,
        ⟨some 48, .mov (.t 9), none, none⟩,
        ⟨some 49, .bin .mul (.c (.int .i64 7)) (.t 48), none, none⟩,
        ⟨some 50, .bin .add (.t 47) (.t 49), none, none⟩,
        ⟨some 51, .bin .rem (.t 50) (.c (.int .i64 64)), none, none⟩,
        ⟨some 52, .bin .shr (.t 45) (.t 51), none, none⟩,
        ⟨some 10, .mov (.t 52), none, none⟩])
    (.seq (.reg [⟨some 53, .mov (.t 7), none, none⟩,
        ⟨some 54, .mov (.t 10), none, none⟩,
        ⟨some 55, .call fid_gamma_Put [(.t 53), (.t 54)], none, none⟩])
    (.seq (.reg [⟨some 56, .mov (.t 8), none, none⟩,
        ⟨some 57, .mov (.t 10), none, none⟩,
        ⟨some 58, .call fid_archipelagoref1_GammaPut [(.t 56), (.t 57)], none, none⟩])
    (.seq (.regD [0, 1, 2, 3, 4, 5, 6, 7, 8, 9, 10, 11, 12, 13, 14] [⟨some 59, .mov (.t 7), none, none⟩,
        ⟨some 60, .call fid_bits_Writer_Len [(.t 59)], none, none⟩,
        ⟨some 61, .mov (.t 8), none, none⟩,
        ⟨some 62, .nilck (.t 61), none, none⟩,
        ⟨some 63, .faddr 0 (.t 62), none, none⟩,
        ⟨some 64, .load 1 false (.t 63), none, some (0, 1)⟩,
        ⟨some 65, .len .sl (.t 64), none, some (0, 1)⟩,
        ⟨some 66, .bin .neq (.t 60) (.t 65), none, none⟩,
        ⟨some 67, .mov (.t 66), none, none⟩,
        ⟨some 68, .mov (.t 10), (some (67, false)), none⟩,
        ⟨some 69, .call fid_gamma_Size [(.t 68)], (some (67, false)), none⟩,
        ⟨some 70, .mov (.t 10), (some (67, false)), none⟩,
        ⟨some 71, .call fid_archipelagoref1_GammaSize [(.t 70)], (some (67, false)), none⟩,
        ⟨some 72, .bin .neq (.t 69) (.t 71), (some (67, false)), none⟩,
        ⟨some 73, .pick (.t 67) (.c (.bool true)) (.t 72), none, none⟩])
    (.cond (.t 73)
    (.seq (.reg [⟨some 6, .mov (.c (.bool false)), none, none⟩])
      (.ret))
    (.skip)))))))
  (.reg [⟨some 40, .mov (.t 9), none, none⟩,
      ⟨some 41, .bin .add (.t 40) (.c (.int .i64 1)), none, none⟩,
      ⟨some 9, .mov (.t 41), none, none⟩])))
def archipelagolaw3_GammaTells_b1 : IC :=
  (.seq (.seq (.reg [⟨some 101, .mov (.t 16), none, none⟩,
      ⟨some 102, .bin .lss (.t 101) (.c (.int .i64 30)), none, none⟩])
  (.cond (.t 102)
  (.skip)
  (.exit 4)))
  (.seq (.block 5
  (.seq (.reg [⟨some 106, .mov (.t 14), none, none⟩,
        ⟨some 107, .call fid_gamma_Take [(.t 106)], none, none⟩,
        ⟨some 105, .mov (.t 107), none, none⟩,
        ⟨some 108, .extract (.t 105) 0, none, none⟩,
        ⟨some 109, .extract (.t 105) 1, none, none⟩,
        ⟨some 17, .mov (.t 108), none, none⟩,
        ⟨some 18, .mov (.t 109), none, none⟩])
    (.seq (.reg [⟨some 111, .mov (.t 15), none, none⟩,
        ⟨some 112, .call fid_archipelagoref1_GammaTake [(.t 111)], none, none⟩,
        ⟨some 110, .mov (.t 112), none, none⟩,
        ⟨some 113, .extract (.t 110) 0, none, none⟩,
        ⟨some 114, .extract (.t 110) 1, none, none⟩,
        ⟨some 19, .mov (.t 113), none, none⟩,
        ⟨some 20, .mov (.t 114), none, none⟩])
    (.seq (.reg [⟨some 115, .mov (.t 17), none, none⟩,
        ⟨some 116, .mov (.t 19), none, none⟩,
        ⟨some 117, .bin .neq (.t 115) (.t 116), none, none⟩,
        ⟨some 118, .mov (.t 117), none, none⟩,
        ⟨some 119, .mov (.t 18), (some (118, false)), none⟩,
        ⟨some 120, .mov (.t 20), (some (118, false)), none⟩,
        ⟨some 121, .eq .bool true (.t 119) (.t 120), (some (118, false)), none⟩,
        ⟨some 122, .pick (.t 118) (.c (.bool true)) (.t 121), none, none⟩,
        ⟨some 123, .mov (.t 122), none, none⟩,
        ⟨some 124, .mov (.t 14), (some (123, false)), none⟩,
        ⟨some 125, .call fid_bits_Reader_Left [(.t 124)], (some (123, false)), none⟩,
        ⟨some 126, .mov (.t 15), (some (123, false)), none⟩,
        ⟨some 127, .call fid_archipelagoref1_Reader_Left [(.t 126)], (some (123, false)), none⟩,
        ⟨some 128, .bin .neq (.t 125) (.t 127), (some (123, false)), none⟩,
        ⟨some 129, .pick (.t 123) (.c (.bool true)) (.t 128), none, none⟩])
    (.cond (.t 129)
    (.seq (.reg [⟨some 6, .mov (.c (.bool false)), none, none⟩])
      (.ret))
    (.skip))))))
  (.reg [⟨some 103, .mov (.t 16), none, none⟩,
      ⟨some 104, .bin .add (.t 103) (.c (.int .i64 1)), none, none⟩,
      ⟨some 16, .mov (.t 104), none, none⟩])))
def archipelagolaw3_GammaTells_b2 : IC :=
  (.seq (.reg [⟨some 93, .bin .lss (.t 92) (.t 91), none, none⟩])
  (.seq (.cond (.t 93)
  (.skip)
  (.exit 2))
  (.seq (.block 3
  (.seq (.reg [⟨some 94, .iaddr 1 (.t 90) (.t 92), none, none⟩,
        ⟨some 95, .load 1 false (.t 94), none, none⟩,
        ⟨some 13, .mov (.t 95), none, none⟩])
    (.seq (.reg [⟨some 96, .mov (.t 13), none, none⟩,
        ⟨some 97, .call fid_bits_NewReader [(.t 96)], none, none⟩,
        ⟨some 98, .mov (.t 13), none, none⟩,
        ⟨some 99, .build [.nils, (.int .i64 0)] [(0, 1, (.t 98))], none, none⟩,
        ⟨some 100, .box (.t 99), none, none⟩,
        ⟨some 14, .mov (.t 97), none, none⟩,
        ⟨some 15, .mov (.t 100), none, none⟩])
    (.seq (.reg [⟨some 16, .mov (.c (.int .i64 0)), none, none⟩])
    (.block 4
    (.loop [14, 15, 16, 90, 91, 92] archipelagolaw3_GammaTells_b1))))))
  (.reg [⟨some 130, .bin .add (.t 92) (.c (.int .i64 1)), none, none⟩,
      ⟨some 92, .mov (.t 130), none, none⟩]))))
def ir_archipelagolaw3_GammaTells : IFn :=
  { params := 3, results := [.tmp 6], body :=
  (.seq (.reg [⟨some 6, .mov (.c (.bool false)), none, none⟩])
  (.seq (.seq (.reg [⟨some 23, .call fid_archipelagolaw3_known [], none, none⟩,
      ⟨some 24, .un .not (.t 23), none, none⟩])
  (.cond (.t 24)
  (.seq (.reg [⟨some 6, .mov (.c (.bool false)), none, none⟩])
    (.ret))
  (.skip)))
  (.seq (.seq (.reg [⟨some 25, .mov (.t 0), none, none⟩,
      ⟨some 26, .len .sl (.t 25), none, none⟩,
      ⟨some 27, .bin .gtr (.t 26) (.c (.int .i64 20)), none, none⟩,
      ⟨some 28, .mov (.t 27), none, none⟩,
      ⟨some 29, .mov (.t 1), (some (28, false)), none⟩,
      ⟨some 30, .len .sl (.t 29), (some (28, false)), none⟩,
      ⟨some 31, .bin .gtr (.t 30) (.c (.int .i64 60)), (some (28, false)), none⟩,
      ⟨some 32, .pick (.t 28) (.c (.bool true)) (.t 31), none, none⟩])
  (.cond (.t 32)
  (.seq (.reg [⟨some 6, .mov (.c (.bool true)), none, none⟩])
    (.ret))
  (.skip)))
  (.seq (.reg [⟨some 33, .call fid_bits_NewWriter [], none, none⟩,
      ⟨some 34, .build [.nils] [], none, none⟩,
      ⟨some 35, .box (.t 34), none, none⟩,
      ⟨some 7, .mov (.t 33), none, none⟩,
      ⟨some 8, .mov (.t 35), none, none⟩])
  (.seq (.seq (.reg [⟨some 9, .mov (.c (.int .i64 0)), none, none⟩])
  (.block 0
  (.loop [0, 1, 2, 7, 8, 9] archipelagolaw3_GammaTells_b0)))
  (.seq (.reg [⟨some 74, .mov (.t 8), none, none⟩,
      ⟨some 75, .call fid_archipelagoref1_Writer_Bytes [(.t 74)], none, none⟩,
      ⟨some 11, .mov (.t 75), none, none⟩])
  (.seq (.seq (.regD [0, 1, 2, 3, 4, 5] [⟨some 76, .mov (.t 7), none, none⟩,
      ⟨some 77, .call fid_bits_Writer_Bytes [(.t 76)], none, none⟩,
      ⟨some 78, .toStr (.t 77), none, none⟩,
      ⟨some 79, .mov (.t 11), none, none⟩,
      ⟨some 80, .toStr (.t 79), none, some (0, 1)⟩,
      ⟨some 81, .bin .neq (.t 78) (.t 80), none, none⟩])
  (.cond (.t 81)
  (.seq (.reg [⟨some 6, .mov (.c (.bool false)), none, none⟩])
    (.ret))
  (.skip)))
  (.seq (.seq (.reg [⟨some 82, .mov (.t 1), none, none⟩,
      ⟨some 83, .mov (.t 11), none, none⟩,
      ⟨some 84, .mov (.t 2), none, none⟩,
      ⟨some 85, .bin .rem (.t 84) (.c (.int .u8 10)), none, none⟩,
      ⟨some 86, .conv .i64 (.t 85), none, none⟩,
      ⟨some 87, .mkslice 1 1 [(.int .u8 0)] (.t 86) (.t 86), none, none⟩,
      ⟨some 88, .mov (.t 1), none, none⟩,
      ⟨some 89, .append 1 1 (.t 87) (.t 88), none, none⟩,
      ⟨some 90, .mkrow 1 3 [.nils] [(0, (.t 82)), (1, (.t 83)), (2, (.t 89))], none, none⟩,
      ⟨some 91, .len .sl (.t 90), none, none⟩,
      ⟨some 92, .mov (.c (.int .i64 0)), none, none⟩])
  (.block 2
  (.loop [90, 91, 92] archipelagolaw3_GammaTells_b2)))
  (.seq (.reg [⟨some 132, .call fid_gamma_Take [(.c .nilp)], none, none⟩,
      ⟨some 131, .mov (.t 132), none, none⟩,
      ⟨some 133, .extract (.t 131) 0, none, none⟩,
      ⟨some 134, .extract (.t 131) 1, none, none⟩,
      ⟨some 21, .mov (.t 133), none, none⟩,
      ⟨some 22, .mov (.t 134), none, none⟩])
  (.seq (.reg [⟨some 135, .mov (.t 22), none, none⟩,
      ⟨some 136, .un .not (.t 135), none, none⟩,
      ⟨some 6, .mov (.t 136), none, none⟩])
  (.ret))))))))))) }
def archipelagolaw3_GammaBack_b0 : IC :=
  (.seq (.seq (.reg [⟨some 19, .mov (.t 7), none, none⟩,
      ⟨some 20, .mov (.t 0), none, none⟩,
      ⟨some 21, .len .sl (.t 20), none, none⟩,
      ⟨some 22, .bin .lss (.t 19) (.t 21), none, none⟩])
  (.cond (.t 22)
  (.skip)
  (.exit 0)))
  (.seq (.block 1
  (.seq (.reg [⟨some 25, .mov (.t 0), none, none⟩,
        ⟨some 26, .mov (.t 7), none, none⟩,
        ⟨some 27, .iaddr 1 (.t 25) (.t 26), none, none⟩,
        ⟨some 28, .load 1 false (.t 27), none, none⟩,
        ⟨some 29, .mov (.t 1), none, none⟩,
        ⟨some 30, .conv .i64 (.t 29), none, none⟩,
        ⟨some 31, .mov (.t 7), none, none⟩,
        ⟨some 32, .bin .mul (.c (.int .i64 11)) (.t 31), none, none⟩,
        ⟨some 33, .bin .add (.t 30) (.t 32), none, none⟩,
        ⟨some 34, .bin .rem (.t 33) (.c (.int .i64 64)), none, none⟩,
        ⟨some 35, .bin .shr (.t 28) (.t 34), none, none⟩,
        ⟨some 36, .bin .or (.t 35) (.c (.int .u64 1)), none, none⟩,
        ⟨some 8, .mov (.t 36), none, none⟩])
    (.seq (.reg [⟨some 37, .mov (.t 5), none, none⟩,
        ⟨some 38, .mov (.t 8), none, none⟩,
        ⟨some 39, .call fid_gamma_Put [(.t 37), (.t 38)], none, none⟩])
    (.reg [⟨some 40, .mov (.t 6), none, none⟩,
        ⟨some 41, .mov (.t 8), none, none⟩,
        ⟨some 42, .call fid_gamma_Size [(.t 41)], none, none⟩,
        ⟨some 43, .bin .add (.t 40) (.t 42), none, none⟩,
        ⟨some 6, .mov (.t 43), none, none⟩]))))
  (.reg [⟨some 23, .mov (.t 7), none, none⟩,
      ⟨some 24, .bin .add (.t 23) (.c (.int .i64 1)), none, none⟩,
      ⟨some 7, .mov (.t 24), none, none⟩])))
def archipelagolaw3_GammaBack_b1 : IC :=
  (.seq (.seq (.reg [⟨some 47, .mov (.t 10), none, none⟩,
      ⟨some 48, .mov (.t 0), none, none⟩,
      ⟨some 49, .len .sl (.t 48), none, none⟩,
      ⟨some 50, .bin .lss (.t 47) (.t 49), none, none⟩])
  (.cond (.t 50)
  (.skip)
  (.exit 2)))
  (.seq (.block 3
  (.seq (.reg [⟨some 54, .mov (.t 9), none, none⟩,
        ⟨some 55, .call fid_gamma_Take [(.t 54)], none, none⟩,
        ⟨some 53, .mov (.t 55), none, none⟩,
        ⟨some 56, .extract (.t 53) 0, none, none⟩,
        ⟨some 57, .extract (.t 53) 1, none, none⟩,
        ⟨some 11, .mov (.t 56), none, none⟩,
        ⟨some 12, .mov (.t 57), none, none⟩])
    (.seq (.reg [⟨some 58, .mov (.t 12), none, none⟩,
        ⟨some 59, .un .not (.t 58), none, none⟩,
        ⟨some 60, .mov (.t 59), none, none⟩,
        ⟨some 61, .mov (.t 11), (some (60, false)), none⟩,
        ⟨some 62, .mov (.t 0), (some (60, false)), none⟩,
        ⟨some 63, .mov (.t 10), (some (60, false)), none⟩,
        ⟨some 64, .iaddr 1 (.t 62) (.t 63), (some (60, false)), none⟩,
        ⟨some 65, .load 1 false (.t 64), (some (60, false)), none⟩,
        ⟨some 66, .mov (.t 1), (some (60, false)), none⟩,
        ⟨some 67, .conv .i64 (.t 66), (some (60, false)), none⟩,
        ⟨some 68, .mov (.t 10), (some (60, false)), none⟩,
        ⟨some 69, .bin .mul (.c (.int .i64 11)) (.t 68), (some (60, false)), none⟩,
        ⟨some 70, .bin .add (.t 67) (.t 69), (some (60, false)), none⟩,
        ⟨some 71, .bin .rem (.t 70) (.c (.int .i64 64)), (some (60, false)), none⟩,
        ⟨some 72, .bin .shr (.t 65) (.t 71), (some (60, false)), none⟩,
        ⟨some 73, .bin .or (.t 72) (.c (.int .u64 1)), (some (60, false)), none⟩,
        ⟨some 74, .bin .neq (.t 61) (.t 73), (some (60, false)), none⟩,
        ⟨some 75, .pick (.t 60) (.c (.bool true)) (.t 74), none, none⟩])
    (.cond (.t 75)
    (.seq (.reg [⟨some 4, .mov (.c (.bool false)), none, none⟩])
      (.ret))
    (.skip)))))
  (.reg [⟨some 51, .mov (.t 10), none, none⟩,
      ⟨some 52, .bin .add (.t 51) (.c (.int .i64 1)), none, none⟩,
      ⟨some 10, .mov (.t 52), none, none⟩])))
def ir_archipelagolaw3_GammaBack : IFn :=
  { params := 2, results := [.tmp 4], body :=
  (.seq (.reg [⟨some 4, .mov (.c (.bool false)), none, none⟩])
  (.seq (.seq (.reg [⟨some 13, .call fid_archipelagolaw3_known [], none, none⟩,
      ⟨some 14, .un .not (.t 13), none, none⟩])
  (.cond (.t 14)
  (.seq (.reg [⟨some 4, .mov (.c (.bool false)), none, none⟩])
    (.ret))
  (.skip)))
  (.seq (.seq (.reg [⟨some 15, .mov (.t 0), none, none⟩,
      ⟨some 16, .len .sl (.t 15), none, none⟩,
      ⟨some 17, .bin .gtr (.t 16) (.c (.int .i64 20)), none, none⟩])
  (.cond (.t 17)
  (.seq (.reg [⟨some 4, .mov (.c (.bool true)), none, none⟩])
    (.ret))
  (.skip)))
  (.seq (.reg [⟨some 18, .call fid_bits_NewWriter [], none, none⟩,
      ⟨some 5, .mov (.t 18), none, none⟩])
  (.seq (.reg [⟨some 6, .mov (.c (.int .i64 0)), none, none⟩])
  (.seq (.seq (.reg [⟨some 7, .mov (.c (.int .i64 0)), none, none⟩])
  (.block 0
  (.loop [0, 1, 5, 6, 7] archipelagolaw3_GammaBack_b0)))
  (.seq (.reg [⟨some 44, .mov (.t 5), none, none⟩,
      ⟨some 45, .call fid_bits_Writer_Bytes [(.t 44)], none, none⟩,
      ⟨some 46, .call fid_bits_NewReader [(.t 45)], none, none⟩,
      ⟨some 9, .mov (.t 46), none, none⟩])
  (.seq (.seq (.reg [⟨some 10, .mov (.c (.int .i64 0)), none, none⟩])
  (.block 2
  (.loop [0, 1, 5, 6, 9, 10] archipelagolaw3_GammaBack_b1)))
  (.seq (.reg [⟨some 76, .mov (.t 5), none, none⟩,
      ⟨some 77, .call fid_bits_Writer_Len [(.t 76)], none, none⟩,
      ⟨some 78, .mov (.t 6), none, none⟩,
      ⟨some 79, .bin .eql (.t 77) (.t 78), none, none⟩,
      ⟨some 80, .mov (.t 79), none, none⟩,
      ⟨some 81, .mov (.t 9), (some (80, true)), none⟩,
      ⟨some 82, .call fid_bits_Reader_Left [(.t 81)], (some (80, true)), none⟩,
      ⟨some 83, .mov (.t 6), (some (80, true)), none⟩,
      ⟨some 84, .bin .rem (.t 83) (.c (.int .i64 8)), (some (80, true)), none⟩,
      ⟨some 85, .bin .sub (.c (.int .i64 8)) (.t 84), (some (80, true)), none⟩,
      ⟨some 86, .bin .rem (.t 85) (.c (.int .i64 8)), (some (80, true)), none⟩,
      ⟨some 87, .bin .eql (.t 82) (.t 86), (some (80, true)), none⟩,
      ⟨some 88, .pick (.t 80) (.t 87) (.c (.bool false)), none, none⟩,
      ⟨some 4, .mov (.t 88), none, none⟩])
  (.ret)))))))))) }
def archipelagolaw3_GammaSizes_b0 : IC :=
  (.seq (.seq (.reg [⟨some 29, .mov (.t 12), none, none⟩,
      ⟨some 30, .bin .gtr (.t 29) (.c (.int .u64 1)), none, none⟩])
  (.cond (.t 30)
  (.skip)
  (.exit 0)))
  (.seq (.block 1
  (.reg [⟨some 33, .mov (.t 11), none, none⟩,
        ⟨some 34, .bin .add (.t 33) (.c (.int .i64 1)), none, none⟩,
        ⟨some 11, .mov (.t 34), none, none⟩]))
  (.reg [⟨some 31, .mov (.t 12), none, none⟩,
      ⟨some 32, .bin .shr (.t 31) (.c (.int .u64 1)), none, none⟩,
      ⟨some 12, .mov (.t 32), none, none⟩])))
def ir_archipelagolaw3_GammaSizes : IFn :=
  { params := 4, results := [.tmp 8], body :=
  (.seq (.reg [⟨some 8, .mov (.c (.bool false)), none, none⟩])
  (.seq (.seq (.reg [⟨some 13, .call fid_archipelagolaw3_known [], none, none⟩,
      ⟨some 14, .un .not (.t 13), none, none⟩])
  (.cond (.t 14)
  (.seq (.reg [⟨some 8, .mov (.c (.bool false)), none, none⟩])
    (.ret))
  (.skip)))
  (.seq (.reg [⟨some 15, .mov (.t 0), none, none⟩,
      ⟨some 16, .mov (.t 2), none, none⟩,
      ⟨some 17, .bin .rem (.t 16) (.c (.int .u8 64)), none, none⟩,
      ⟨some 18, .bin .shr (.t 15) (.t 17), none, none⟩,
      ⟨some 19, .mov (.t 1), none, none⟩,
      ⟨some 20, .mov (.t 3), none, none⟩,
      ⟨some 21, .bin .rem (.t 20) (.c (.int .u8 64)), none, none⟩,
      ⟨some 22, .bin .shr (.t 19) (.t 21), none, none⟩,
      ⟨some 9, .mov (.t 18), none, none⟩,
      ⟨some 10, .mov (.t 22), none, none⟩])
  (.seq (.seq (.reg [⟨some 23, .mov (.t 9), none, none⟩,
      ⟨some 24, .mov (.t 10), none, none⟩,
      ⟨some 25, .bin .gtr (.t 23) (.t 24), none, none⟩])
  (.cond (.t 25)
  (.reg [⟨some 26, .mov (.t 10), none, none⟩,
        ⟨some 27, .mov (.t 9), none, none⟩,
        ⟨some 9, .mov (.t 26), none, none⟩,
        ⟨some 10, .mov (.t 27), none, none⟩])
  (.skip)))
  (.seq (.reg [⟨some 11, .mov (.c (.int .i64 0)), none, none⟩])
  (.seq (.seq (.reg [⟨some 28, .mov (.t 10), none, none⟩,
      ⟨some 12, .mov (.t 28), none, none⟩])
  (.block 0
  (.loop [9, 10, 11, 12] archipelagolaw3_GammaSizes_b0)))
  (.seq (.reg [⟨some 35, .mov (.t 9), none, none⟩,
      ⟨some 36, .call fid_gamma_Size [(.t 35)], none, none⟩,
      ⟨some 37, .mov (.t 10), none, none⟩,
      ⟨some 38, .call fid_gamma_Size [(.t 37)], none, none⟩,
      ⟨some 39, .bin .leq (.t 36) (.t 38), none, none⟩,
      ⟨some 40, .mov (.t 39), none, none⟩,
      ⟨some 41, .mov (.t 10), (some (40, true)), none⟩,
      ⟨some 42, .bin .eql (.t 41) (.c (.int .u64 0)), (some (40, true)), none⟩,
      ⟨some 43, .mov (.t 42), (some (40, true)), none⟩,
      ⟨some 44, .mov (.t 10), (some (43, true)), none⟩,
      ⟨some 45, .call fid_gamma_Size [(.t 44)], (some (43, true)), none⟩,
      ⟨some 46, .bin .eql (.t 45) (.c (.int .i64 0)), (some (43, true)), none⟩,
      ⟨some 47, .pick (.t 43) (.t 46) (.c (.bool false)), (some (40, true)), none⟩,
      ⟨some 48, .mov (.t 47), (some (40, true)), none⟩,
      ⟨some 49, .mov (.t 10), (some (48, false)), none⟩,
      ⟨some 50, .bin .gtr (.t 49) (.c (.int .u64 0)), (some (48, false)), none⟩,
      ⟨some 51, .mov (.t 50), (some (48, false)), none⟩,
      ⟨some 52, .mov (.t 10), (some (51, true)), none⟩,
      ⟨some 53, .call fid_gamma_Size [(.t 52)], (some (51, true)), none⟩,
      ⟨some 54, .mov (.t 11), (some (51, true)), none⟩,
      ⟨some 55, .bin .mul (.c (.int .i64 2)) (.t 54), (some (51, true)), none⟩,
      ⟨some 56, .bin .add (.t 55) (.c (.int .i64 1)), (some (51, true)), none⟩,
      ⟨some 57, .bin .eql (.t 53) (.t 56), (some (51, true)), none⟩,
      ⟨some 58, .pick (.t 51) (.t 57) (.c (.bool false)), (some (48, false)), none⟩,
      ⟨some 59, .pick (.t 48) (.c (.bool true)) (.t 58), (some (40, true)), none⟩,
      ⟨some 60, .pick (.t 40) (.t 59) (.c (.bool false)), none, none⟩,
      ⟨some 8, .mov (.t 60), none, none⟩])
  (.ret)))))))) }
def ir_archipelagolaw3_GammaCuts : IFn :=
  { params := 4, results := [.tmp 8], body :=
  (.seq (.reg [⟨some 8, .mov (.c (.bool false)), none, none⟩])
  (.seq (.seq (.reg [⟨some 19, .call fid_archipelagolaw3_known [], none, none⟩,
      ⟨some 20, .un .not (.t 19), none, none⟩])
  (.cond (.t 20)
  (.seq (.reg [⟨some 8, .mov (.c (.bool false)), none, none⟩])
    (.ret))
  (.skip)))
  (.seq (.reg [⟨some 21, .mov (.t 0), none, none⟩,
      ⟨some 22, .mov (.t 1), none, none⟩,
      ⟨some 23, .bin .rem (.t 22) (.c (.int .u8 64)), none, none⟩,
      ⟨some 24, .bin .shr (.t 21) (.t 23), none, none⟩,
      ⟨some 25, .bin .or (.t 24) (.c (.int .u64 2)), none, none⟩,
      ⟨some 9, .mov (.t 25), none, none⟩])
  (.seq (.reg [⟨some 26, .call fid_bits_NewWriter [], none, none⟩,
      ⟨some 10, .mov (.t 26), none, none⟩])
  (.seq (.reg [⟨some 27, .mov (.t 2), none, none⟩,
      ⟨some 28, .bin .rem (.t 27) (.c (.int .u8 8)), none, none⟩,
      ⟨some 29, .conv .i64 (.t 28), none, none⟩,
      ⟨some 11, .mov (.t 29), none, none⟩])
  (.seq (.reg [⟨some 30, .mov (.t 10), none, none⟩,
      ⟨some 31, .mov (.t 11), none, none⟩,
      ⟨some 32, .call fid_bits_Writer_Put [(.t 30), (.c (.int .u64 0)), (.t 31)], none, none⟩])
  (.seq (.reg [⟨some 33, .mov (.t 10), none, none⟩,
      ⟨some 34, .mov (.t 9), none, none⟩,
      ⟨some 35, .call fid_gamma_Put [(.t 33), (.t 34)], none, none⟩])
  (.seq (.reg [⟨some 36, .mov (.t 10), none, none⟩,
      ⟨some 37, .call fid_bits_Writer_Len [(.t 36)], none, none⟩,
      ⟨some 12, .mov (.t 37), none, none⟩])
  (.seq (.reg [⟨some 38, .mov (.t 10), none, none⟩,
      ⟨some 39, .call fid_bits_Writer_Bytes [(.t 38)], none, none⟩,
      ⟨some 13, .mov (.t 39), none, none⟩])
  (.seq (.seq (.reg [⟨some 40, .mov (.t 13), none, none⟩,
      ⟨some 41, .len .sl (.t 40), none, none⟩,
      ⟨some 42, .bin .eql (.t 41) (.c (.int .i64 0)), none, none⟩])
  (.cond (.t 42)
  (.seq (.reg [⟨some 8, .mov (.c (.bool false)), none, none⟩])
    (.ret))
  (.skip)))
  (.seq (.reg [⟨some 43, .mov (.t 3), none, none⟩,
      ⟨some 44, .conv .i64 (.t 43), none, none⟩,
      ⟨some 45, .mov (.t 13), none, none⟩,
      ⟨some 46, .len .sl (.t 45), none, none⟩,
      ⟨some 47, .bin .rem (.t 44) (.t 46), none, none⟩,
      ⟨some 14, .mov (.t 47), none, none⟩])
  (.seq (.reg [⟨some 48, .mov (.t 13), none, none⟩,
      ⟨some 49, .mov (.t 14), none, none⟩,
      ⟨some 50, .slice false 1 (.t 48) none (some (.t 49)) none, none, none⟩,
      ⟨some 51, .call fid_bits_NewReader [(.t 50)], none, none⟩,
      ⟨some 15, .mov (.t 51), none, none⟩])
  (.seq (.reg [⟨some 52, .mov (.t 15), none, none⟩,
      ⟨some 53, .mov (.t 11), none, none⟩,
      ⟨some 54, .mov (.t 14), none, none⟩,
      ⟨some 55, .bin .mul (.c (.int .i64 8)) (.t 54), none, none⟩,
      ⟨some 56, .minmax true [(.t 53), (.t 55)], none, none⟩,
      ⟨some 57, .call fid_bits_Reader_Take [(.t 52), (.t 56)], none, none⟩])
  (.seq (.reg [⟨some 58, .mov (.t 15), none, none⟩,
      ⟨some 59, .call fid_bits_Reader_Left [(.t 58)], none, none⟩,
      ⟨some 16, .mov (.t 59), none, none⟩])
  (.seq (.reg [⟨some 61, .mov (.t 15), none, none⟩,
      ⟨some 62, .call fid_gamma_Take [(.t 61)], none, none⟩,
      ⟨some 60, .mov (.t 62), none, none⟩,
      ⟨some 63, .extract (.t 60) 0, none, none⟩,
      ⟨some 64, .extract (.t 60) 1, none, none⟩,
      ⟨some 17, .mov (.t 63), none, none⟩,
      ⟨some 18, .mov (.t 64), none, none⟩])
  (.seq (.reg [⟨some 65, .mov (.t 18), none, none⟩,
      ⟨some 66, .un .not (.t 65), none, none⟩,
      ⟨some 67, .mov (.t 66), none, none⟩,
      ⟨some 68, .mov (.t 15), (some (67, true)), none⟩,
      ⟨some 69, .call fid_bits_Reader_Left [(.t 68)], (some (67, true)), none⟩,
      ⟨some 70, .mov (.t 16), (some (67, true)), none⟩,
      ⟨some 71, .bin .eql (.t 69) (.t 70), (some (67, true)), none⟩,
      ⟨some 72, .pick (.t 67) (.t 71) (.c (.bool false)), none, none⟩,
      ⟨some 73, .mov (.t 72), none, none⟩,
      ⟨some 74, .mov (.t 12), (some (73, true)), none⟩,
      ⟨some 75, .mov (.t 11), (some (73, true)), none⟩,
      ⟨some 76, .mov (.t 9), (some (73, true)), none⟩,
      ⟨some 77, .call fid_gamma_Size [(.t 76)], (some (73, true)), none⟩,
      ⟨some 78, .bin .add (.t 75) (.t 77), (some (73, true)), none⟩,
      ⟨some 79, .bin .eql (.t 74) (.t 78), (some (73, true)), none⟩,
      ⟨some 80, .pick (.t 73) (.t 79) (.c (.bool false)), none, none⟩,
      ⟨some 8, .mov (.t 80), none, none⟩])
  (.ret))))))))))))))))) }
end Go.Ab
