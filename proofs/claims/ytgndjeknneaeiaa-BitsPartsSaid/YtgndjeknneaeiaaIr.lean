/- The functions as the abstract machine has them (printed by wip/irgen.py). -/
import Derived.Test.YtgndjeknneaeiaaAbs1
namespace Go.Ab
open Go
def fid_archipelagolaw1_BitsWrite : Nat := 3
def fid_archipelagolaw1_BitsRead : Nat := 4
def fid_archipelagolaw1_BitsBack : Nat := 5
def fid_archipelagolaw1_BitsFlip : Nat := 6
def fid_archipelagolaw1_BitsParts : Nat := 7
def fid_archipelagolaw1_BitsEnds : Nat := 8
def fid_archipelagolaw1_known : Nat := 9
def fid_bits_NewWriter : Nat := 10
def fid_bits_Writer_Put : Nat := 11
def fid_archipelagoref1_Writer_Put : Nat := 12
def fid_bits_Writer_Len : Nat := 13
def fid_bits_Writer_Bytes : Nat := 14
def fid_archipelagoref1_Writer_Bytes : Nat := 15
def fid_bits_NewReader : Nat := 16
def fid_bits_Reader_Take : Nat := 17
def fid_archipelagoref1_Reader_Take : Nat := 18
def fid_bits_Reader_Left : Nat := 19
def fid_archipelagoref1_Reader_Left : Nat := 20
def fid_bits_Flip : Nat := 21
def fid_archipelagoref1_Flip : Nat := 22
def fid_bits_bound : Nat := 23
def fid_slices_Clone_byte_byte : Nat := 24
def ir_bits_NewWriter : IFn :=
  { params := 0, results := [.tmp 0], body :=
  (.seq (.reg [⟨some 0, .mov (.c .nilp), none, none⟩])
  (.seq (.reg [⟨some 1, .build [.nils, (.int .i64 0)] [], none, none⟩,
      ⟨some 2, .box (.t 1), none, none⟩,
      ⟨some 0, .mov (.t 2), none, none⟩])
  (.ret))) }
def ir_bits_bound : IFn :=
  { params := 1, results := [.tmp 2], body :=
  (.seq (.reg [⟨some 2, .mov (.c (.int .i64 0)), none, none⟩])
  (.seq (.reg [⟨some 3, .mov (.t 0), none, none⟩,
      ⟨some 4, .minmax false [(.t 3), (.c (.int .i64 0))], none, none⟩,
      ⟨some 5, .minmax true [(.t 4), (.c (.int .i64 64))], none, none⟩,
      ⟨some 2, .mov (.t 5), none, none⟩])
  (.ret))) }
def bits_Writer_Put_b0 : IC :=
  (.seq (.seq (.reg [⟨some 10, .mov (.t 6), none, none⟩,
      ⟨some 11, .bin .geq (.t 10) (.c (.int .i64 0)), none, none⟩])
  (.cond (.t 11)
  (.skip)
  (.exit 0)))
  (.seq (.block 1
  (.seq (.seq (.reg [⟨some 14, .mov (.t 0), none, none⟩,
        ⟨some 15, .nilck (.t 14), none, none⟩,
        ⟨some 16, .faddr 1 (.t 15), none, none⟩,
        ⟨some 17, .load 1 false (.t 16), none, none⟩,
        ⟨some 18, .bin .rem (.t 17) (.c (.int .i64 8)), none, none⟩,
        ⟨some 19, .bin .eql (.t 18) (.c (.int .i64 0)), none, none⟩])
    (.cond (.t 19)
    (.reg [⟨some 20, .mov (.t 0), none, none⟩,
          ⟨some 21, .mov (.t 0), none, none⟩,
          ⟨some 22, .nilck (.t 21), none, none⟩,
          ⟨some 23, .faddr 0 (.t 22), none, none⟩,
          ⟨some 24, .load 1 false (.t 23), none, none⟩,
          ⟨some 25, .mkrow 1 1 [(.int .u8 0)] [(0, (.c (.int .u8 0)))], none, none⟩,
          ⟨some 26, .append 1 1 (.t 24) (.t 25), none, none⟩,
          ⟨some 27, .nilck (.t 20), none, none⟩,
          ⟨some 28, .faddr 0 (.t 27), none, none⟩,
          ⟨none, .store 1 (.t 28) (.t 26), none, none⟩])
    (.skip)))
    (.seq (.regD [0, 1, 2, 3, 4, 5, 6, 7, 8, 9, 10, 11, 12, 13, 14, 15, 16, 17, 18, 19, 20, 21, 22, 23, 24] [⟨some 29, .mov (.t 0), none, none⟩,
        ⟨some 30, .nilck (.t 29), none, none⟩,
        ⟨some 31, .faddr 0 (.t 30), none, none⟩,
        ⟨some 32, .load 1 false (.t 31), none, none⟩,
        ⟨some 33, .mov (.t 0), none, none⟩,
        ⟨some 34, .nilck (.t 33), none, none⟩,
        ⟨some 35, .faddr 1 (.t 34), none, none⟩,
        ⟨some 36, .load 1 false (.t 35), none, none⟩,
        ⟨some 37, .bin .quo (.t 36) (.c (.int .i64 8)), none, none⟩,
        ⟨some 38, .iaddr 1 (.t 32) (.t 37), none, none⟩,
        ⟨some 39, .load 1 false (.t 38), none, none⟩,
        ⟨some 40, .mov (.t 1), none, none⟩,
        ⟨some 41, .mov (.t 6), none, none⟩,
        ⟨some 42, .bin .shr (.t 40) (.t 41), none, none⟩,
        ⟨some 43, .bin .and (.t 42) (.c (.int .u64 1)), none, none⟩,
        ⟨some 44, .conv .u8 (.t 43), none, none⟩,
        ⟨some 45, .mov (.t 0), none, none⟩,
        ⟨some 46, .nilck (.t 45), none, none⟩,
        ⟨some 47, .faddr 1 (.t 46), none, none⟩,
        ⟨some 48, .load 1 false (.t 47), none, none⟩,
        ⟨some 49, .bin .rem (.t 48) (.c (.int .i64 8)), none, none⟩,
        ⟨some 50, .bin .shl (.t 44) (.t 49), none, none⟩,
        ⟨some 51, .bin .or (.t 39) (.t 50), none, none⟩,
        ⟨some 52, .iaddr 1 (.t 32) (.t 37), none, none⟩,
        ⟨none, .store 1 (.t 52) (.t 51), none, none⟩])
    (.reg [⟨some 53, .mov (.t 0), none, none⟩,
        ⟨some 54, .nilck (.t 53), none, none⟩,
        ⟨some 55, .faddr 1 (.t 54), none, none⟩,
        ⟨some 56, .load 1 false (.t 55), none, none⟩,
        ⟨some 57, .bin .add (.t 56) (.c (.int .i64 1)), none, none⟩,
        ⟨some 58, .nilck (.t 53), none, none⟩,
        ⟨some 59, .faddr 1 (.t 58), none, none⟩,
        ⟨none, .store 1 (.t 59) (.t 57), none, none⟩]))))
  (.reg [⟨some 12, .mov (.t 6), none, none⟩,
      ⟨some 13, .bin .sub (.t 12) (.c (.int .i64 1)), none, none⟩,
      ⟨some 6, .mov (.t 13), none, none⟩])))
def ir_bits_Writer_Put : IFn :=
  { params := 3, results := [], body :=
  (.seq (.reg [⟨some 7, .mov (.t 2), none, none⟩,
      ⟨some 8, .call fid_bits_bound [(.t 7)], none, none⟩,
      ⟨some 9, .bin .sub (.t 8) (.c (.int .i64 1)), none, none⟩,
      ⟨some 6, .mov (.t 9), none, none⟩])
  (.block 0
  (.loop [0, 1, 6] bits_Writer_Put_b0))) }
def ir_bits_Writer_Len : IFn :=
  { params := 1, results := [.tmp 2], body :=
  (.seq (.reg [⟨some 2, .mov (.c (.int .i64 0)), none, none⟩])
  (.seq (.reg [⟨some 3, .mov (.t 0), none, none⟩,
      ⟨some 4, .nilck (.t 3), none, none⟩,
      ⟨some 5, .faddr 1 (.t 4), none, none⟩,
      ⟨some 6, .load 1 false (.t 5), none, none⟩,
      ⟨some 2, .mov (.t 6), none, none⟩])
  (.ret))) }
def ir_slices_Clone_byte_byte : IFn :=
  { params := 1, results := [.tmp 2], body :=
  (.seq (.reg [⟨some 2, .mov (.c .nils), none, none⟩])
  (.seq (.seq (.reg [⟨some 3, .mov (.t 0), none, none⟩,
      ⟨some 4, .eq .slice false (.t 3) (.c .nils), none, none⟩])
  (.cond (.t 4)
  (.seq (.reg [⟨some 2, .mov (.c .nils), none, none⟩])
    (.ret))
  (.skip)))
  (.seq (.reg [⟨some 5, .mkrow 1 0 [(.int .u8 0)] [], none, none⟩,
      ⟨some 6, .mov (.t 0), none, none⟩,
      ⟨some 7, .append 1 1 (.t 5) (.t 6), none, none⟩,
      ⟨some 2, .mov (.t 7), none, none⟩])
  (.ret)))) }
def ir_bits_Writer_Bytes : IFn :=
  { params := 1, results := [.tmp 2], body :=
  (.seq (.reg [⟨some 2, .mov (.c .nils), none, none⟩])
  (.seq (.reg [⟨some 3, .mov (.t 0), none, none⟩,
      ⟨some 4, .nilck (.t 3), none, none⟩,
      ⟨some 5, .faddr 0 (.t 4), none, none⟩,
      ⟨some 6, .load 1 false (.t 5), none, none⟩,
      ⟨some 7, .call fid_slices_Clone_byte_byte [(.t 6)], none, none⟩,
      ⟨some 2, .mov (.t 7), none, none⟩])
  (.ret))) }
def ir_bits_NewReader : IFn :=
  { params := 1, results := [.tmp 2], body :=
  (.seq (.reg [⟨some 2, .mov (.c .nilp), none, none⟩])
  (.seq (.reg [⟨some 3, .mov (.t 0), none, none⟩,
      ⟨some 4, .build [.nils, (.int .i64 0)] [(0, 1, (.t 3))], none, none⟩,
      ⟨some 5, .box (.t 4), none, none⟩,
      ⟨some 2, .mov (.t 5), none, none⟩])
  (.ret))) }
def ir_bits_Reader_Left : IFn :=
  { params := 1, results := [.tmp 2], body :=
  (.seq (.reg [⟨some 2, .mov (.c (.int .i64 0)), none, none⟩])
  (.seq (.regD [0, 1, 2, 3, 4, 5, 6, 7, 8, 9, 10, 11] [⟨some 3, .mov (.t 0), none, none⟩,
      ⟨some 4, .nilck (.t 3), none, none⟩,
      ⟨some 5, .faddr 0 (.t 4), none, none⟩,
      ⟨some 6, .load 1 false (.t 5), none, none⟩,
      ⟨some 7, .len .sl (.t 6), none, none⟩,
      ⟨some 8, .bin .mul (.t 7) (.c (.int .i64 8)), none, none⟩,
      ⟨some 9, .mov (.t 0), none, none⟩,
      ⟨some 10, .nilck (.t 9), none, none⟩,
      ⟨some 11, .faddr 1 (.t 10), none, none⟩,
      ⟨some 12, .load 1 false (.t 11), none, none⟩,
      ⟨some 13, .bin .sub (.t 8) (.t 12), none, none⟩,
      ⟨some 2, .mov (.t 13), none, none⟩])
  (.ret))) }
def bits_Reader_Take_b0 : IC :=
  (.seq (.reg [⟨some 15, .bin .lss (.t 14) (.t 13), none, none⟩])
  (.seq (.cond (.t 15)
  (.skip)
  (.exit 0))
  (.seq (.block 1
  (.seq (.regD [0, 1, 2, 3, 4, 5, 6, 7, 8, 9, 10, 11, 12, 13, 14, 15, 16, 17, 18, 19, 20, 21, 22] [⟨some 16, .mov (.t 6), none, none⟩,
        ⟨some 17, .bin .shl (.t 16) (.c (.int .u64 1)), none, none⟩,
        ⟨some 18, .mov (.t 0), none, none⟩,
        ⟨some 19, .nilck (.t 18), none, none⟩,
        ⟨some 20, .faddr 0 (.t 19), none, none⟩,
        ⟨some 21, .load 1 false (.t 20), none, none⟩,
        ⟨some 22, .mov (.t 0), none, none⟩,
        ⟨some 23, .nilck (.t 22), none, none⟩,
        ⟨some 24, .faddr 1 (.t 23), none, none⟩,
        ⟨some 25, .load 1 false (.t 24), none, none⟩,
        ⟨some 26, .bin .quo (.t 25) (.c (.int .i64 8)), none, none⟩,
        ⟨some 27, .iaddr 1 (.t 21) (.t 26), none, none⟩,
        ⟨some 28, .load 1 false (.t 27), none, none⟩,
        ⟨some 29, .mov (.t 0), none, none⟩,
        ⟨some 30, .nilck (.t 29), none, none⟩,
        ⟨some 31, .faddr 1 (.t 30), none, none⟩,
        ⟨some 32, .load 1 false (.t 31), none, none⟩,
        ⟨some 33, .bin .rem (.t 32) (.c (.int .i64 8)), none, none⟩,
        ⟨some 34, .bin .shr (.t 28) (.t 33), none, none⟩,
        ⟨some 35, .bin .and (.t 34) (.c (.int .u8 1)), none, none⟩,
        ⟨some 36, .conv .u64 (.t 35), none, none⟩,
        ⟨some 37, .bin .or (.t 17) (.t 36), none, none⟩,
        ⟨some 6, .mov (.t 37), none, none⟩])
    (.reg [⟨some 38, .mov (.t 0), none, none⟩,
        ⟨some 39, .nilck (.t 38), none, none⟩,
        ⟨some 40, .faddr 1 (.t 39), none, none⟩,
        ⟨some 41, .load 1 false (.t 40), none, none⟩,
        ⟨some 42, .bin .add (.t 41) (.c (.int .i64 1)), none, none⟩,
        ⟨some 43, .nilck (.t 38), none, none⟩,
        ⟨some 44, .faddr 1 (.t 43), none, none⟩,
        ⟨none, .store 1 (.t 44) (.t 42), none, none⟩])))
  (.reg [⟨some 45, .bin .add (.t 14) (.c (.int .i64 1)), none, none⟩,
      ⟨some 14, .mov (.t 45), none, none⟩]))))
def ir_bits_Reader_Take : IFn :=
  { params := 2, results := [.tmp 4, .tmp 5], body :=
  (.seq (.reg [⟨some 4, .mov (.c (.int .u64 0)), none, none⟩,
      ⟨some 5, .mov (.c (.bool false)), none, none⟩])
  (.seq (.reg [⟨some 7, .mov (.t 1), none, none⟩,
      ⟨some 8, .call fid_bits_bound [(.t 7)], none, none⟩,
      ⟨some 1, .mov (.t 8), none, none⟩])
  (.seq (.seq (.reg [⟨some 9, .mov (.t 1), none, none⟩,
      ⟨some 10, .mov (.t 0), none, none⟩,
      ⟨some 11, .call fid_bits_Reader_Left [(.t 10)], none, none⟩,
      ⟨some 12, .bin .gtr (.t 9) (.t 11), none, none⟩])
  (.cond (.t 12)
  (.seq (.reg [⟨some 4, .mov (.c (.int .u64 0)), none, none⟩,
        ⟨some 5, .mov (.c (.bool false)), none, none⟩])
    (.ret))
  (.skip)))
  (.seq (.reg [⟨some 6, .mov (.c (.int .u64 0)), none, none⟩])
  (.seq (.seq (.reg [⟨some 13, .mov (.t 1), none, none⟩,
      ⟨some 14, .mov (.c (.int .i64 0)), none, none⟩])
  (.block 0
  (.loop [0, 6, 13, 14] bits_Reader_Take_b0)))
  (.seq (.reg [⟨some 46, .mov (.t 6), none, none⟩,
      ⟨some 4, .mov (.t 46), none, none⟩,
      ⟨some 5, .mov (.c (.bool true)), none, none⟩])
  (.ret))))))) }
def bits_Flip_b0 : IC :=
  (.seq (.seq (.reg [⟨some 12, .mov (.t 2), none, none⟩,
      ⟨some 13, .mov (.t 8), none, none⟩,
      ⟨some 14, .bin .shr (.t 12) (.t 13), none, none⟩,
      ⟨some 15, .bin .neq (.t 14) (.c (.int .u32 0)), none, none⟩])
  (.cond (.t 15)
  (.skip)
  (.exit 0)))
  (.seq (.block 1
  (.seq (.seq (.reg [⟨some 18, .mov (.t 2), none, none⟩,
        ⟨some 19, .mov (.t 8), none, none⟩,
        ⟨some 20, .bin .shr (.t 18) (.t 19), none, none⟩,
        ⟨some 21, .bin .and (.t 20) (.c (.int .u32 1)), none, none⟩,
        ⟨some 22, .bin .eql (.t 21) (.c (.int .u32 0)), none, none⟩,
        ⟨some 23, .mov (.t 22), none, none⟩,
        ⟨some 24, .mov (.t 1), (some (23, false)), none⟩,
        ⟨some 25, .mov (.t 8), (some (23, false)), none⟩,
        ⟨some 26, .bin .sub (.c (.int .i64 9223372036854775807)) (.t 25), (some (23, false)), none⟩,
        ⟨some 27, .bin .gtr (.t 24) (.t 26), (some (23, false)), none⟩,
        ⟨some 28, .pick (.t 23) (.c (.bool true)) (.t 27), none, none⟩])
    (.cond (.t 28)
    (.exit 1)
    (.skip)))
    (.seq (.reg [⟨some 29, .mov (.t 1), none, none⟩,
        ⟨some 30, .mov (.t 8), none, none⟩,
        ⟨some 31, .bin .add (.t 29) (.t 30), none, none⟩,
        ⟨some 9, .mov (.t 31), none, none⟩])
    (.seq (.reg [⟨some 32, .mov (.t 9), none, none⟩,
        ⟨some 33, .bin .geq (.t 32) (.c (.int .i64 0)), none, none⟩,
        ⟨some 34, .mov (.t 33), none, none⟩,
        ⟨some 35, .mov (.t 9), (some (34, true)), none⟩,
        ⟨some 36, .mov (.t 0), (some (34, true)), none⟩,
        ⟨some 37, .len .sl (.t 36), (some (34, true)), none⟩,
        ⟨some 38, .bin .mul (.t 37) (.c (.int .i64 8)), (some (34, true)), none⟩,
        ⟨some 39, .bin .lss (.t 35) (.t 38), (some (34, true)), none⟩,
        ⟨some 40, .pick (.t 34) (.t 39) (.c (.bool false)), none, none⟩])
    (.cond (.t 40)
    (.regD [0, 1, 2, 3, 4, 5, 6, 7, 8, 9, 10] [⟨some 41, .mov (.t 7), none, none⟩,
          ⟨some 42, .mov (.t 9), none, none⟩,
          ⟨some 43, .bin .quo (.t 42) (.c (.int .i64 8)), none, none⟩,
          ⟨some 44, .iaddr 1 (.t 41) (.t 43), none, none⟩,
          ⟨some 45, .load 1 false (.t 44), none, none⟩,
          ⟨some 46, .mov (.t 9), none, none⟩,
          ⟨some 47, .bin .rem (.t 46) (.c (.int .i64 8)), none, none⟩,
          ⟨some 48, .bin .shl (.c (.int .u8 1)) (.t 47), none, none⟩,
          ⟨some 49, .bin .xor (.t 45) (.t 48), none, none⟩,
          ⟨some 50, .iaddr 1 (.t 41) (.t 43), none, none⟩,
          ⟨none, .store 1 (.t 50) (.t 49), none, none⟩])
    (.skip))))))
  (.reg [⟨some 16, .mov (.t 8), none, none⟩,
      ⟨some 17, .bin .add (.t 16) (.c (.int .i64 1)), none, none⟩,
      ⟨some 8, .mov (.t 17), none, none⟩])))
def ir_bits_Flip : IFn :=
  { params := 3, results := [.tmp 6], body :=
  (.seq (.reg [⟨some 6, .mov (.c .nils), none, none⟩])
  (.seq (.reg [⟨some 10, .mov (.t 0), none, none⟩,
      ⟨some 11, .call fid_slices_Clone_byte_byte [(.t 10)], none, none⟩,
      ⟨some 7, .mov (.t 11), none, none⟩])
  (.seq (.seq (.reg [⟨some 8, .mov (.c (.int .i64 0)), none, none⟩])
  (.block 0
  (.loop [0, 1, 2, 7, 8] bits_Flip_b0)))
  (.seq (.reg [⟨some 51, .mov (.t 7), none, none⟩,
      ⟨some 6, .mov (.t 51), none, none⟩])
  (.ret))))) }
def ir_archipelagolaw1_known : IFn :=
  { params := 0, results := [.tmp 0], body :=
  (.seq (.reg [⟨some 0, .mov (.c (.bool false)), none, none⟩])
  (.seq (.reg [⟨some 9, .call fid_bits_NewWriter [], none, none⟩,
      ⟨some 1, .mov (.t 9), none, none⟩])
  (.seq (.seq (.reg [⟨some 10, .mov (.t 1), none, none⟩,
      ⟨some 11, .eq .ptr false (.t 10) (.c .nilp), none, none⟩])
  (.cond (.t 11)
  (.seq (.reg [⟨some 0, .mov (.c (.bool false)), none, none⟩])
    (.ret))
  (.skip)))
  (.seq (.reg [⟨some 12, .mov (.t 1), none, none⟩,
      ⟨some 13, .call fid_bits_Writer_Put [(.t 12), (.c (.int .u64 1)), (.c (.int .i64 2))], none, none⟩])
  (.seq (.reg [⟨some 14, .mov (.t 1), none, none⟩,
      ⟨some 15, .call fid_bits_Writer_Put [(.t 14), (.c (.int .u64 5)), (.c (.int .i64 3))], none, none⟩])
  (.seq (.reg [⟨some 16, .mov (.t 1), none, none⟩,
      ⟨some 17, .call fid_bits_Writer_Bytes [(.t 16)], none, none⟩,
      ⟨some 18, .call fid_bits_NewReader [(.t 17)], none, none⟩,
      ⟨some 2, .mov (.t 18), none, none⟩])
  (.seq (.reg [⟨some 20, .mov (.t 2), none, none⟩,
      ⟨some 21, .call fid_bits_Reader_Take [(.t 20), (.c (.int .i64 5))], none, none⟩,
      ⟨some 19, .mov (.t 21), none, none⟩,
      ⟨some 22, .extract (.t 19) 0, none, none⟩,
      ⟨some 23, .extract (.t 19) 1, none, none⟩,
      ⟨some 3, .mov (.t 22), none, none⟩,
      ⟨some 4, .mov (.t 23), none, none⟩])
  (.seq (.reg [⟨some 24, .mov (.t 2), none, none⟩,
      ⟨some 25, .call fid_bits_Reader_Left [(.t 24)], none, none⟩,
      ⟨some 5, .mov (.t 25), none, none⟩])
  (.seq (.reg [⟨some 27, .mov (.t 2), none, none⟩,
      ⟨some 28, .call fid_bits_Reader_Take [(.t 27), (.c (.int .i64 4))], none, none⟩,
      ⟨some 26, .mov (.t 28), none, none⟩,
      ⟨some 29, .extract (.t 26) 0, none, none⟩,
      ⟨some 30, .extract (.t 26) 1, none, none⟩,
      ⟨some 6, .mov (.t 29), none, none⟩,
      ⟨some 7, .mov (.t 30), none, none⟩])
  (.seq (.reg [⟨some 31, .mkrow 1 2 [(.int .u8 0)] [(0, (.c (.int .u8 0))), (1, (.c (.int .u8 0)))], none, none⟩,
      ⟨some 32, .call fid_bits_Flip [(.t 31), (.c (.int .i64 7)), (.c (.int .u32 3))], none, none⟩,
      ⟨some 8, .mov (.t 32), none, none⟩])
  (.seq (.reg [⟨some 33, .mov (.t 1), none, none⟩,
      ⟨some 34, .call fid_bits_Writer_Len [(.t 33)], none, none⟩,
      ⟨some 35, .bin .eql (.t 34) (.c (.int .i64 5)), none, none⟩,
      ⟨some 36, .mov (.t 35), none, none⟩,
      ⟨some 37, .mov (.t 4), (some (36, true)), none⟩,
      ⟨some 38, .pick (.t 36) (.t 37) (.c (.bool false)), none, none⟩,
      ⟨some 39, .mov (.t 38), none, none⟩,
      ⟨some 40, .mov (.t 3), (some (39, true)), none⟩,
      ⟨some 41, .bin .eql (.t 40) (.c (.int .u64 13)), (some (39, true)), none⟩,
      ⟨some 42, .pick (.t 39) (.t 41) (.c (.bool false)), none, none⟩,
      ⟨some 43, .mov (.t 42), none, none⟩,
      ⟨some 44, .mov (.t 5), (some (43, true)), none⟩,
      ⟨some 45, .bin .eql (.t 44) (.c (.int .i64 3)), (some (43, true)), none⟩,
      ⟨some 46, .pick (.t 43) (.t 45) (.c (.bool false)), none, none⟩,
      ⟨some 47, .mov (.t 46), none, none⟩,
      ⟨some 48, .mov (.t 7), (some (47, true)), none⟩,
      ⟨some 49, .un .not (.t 48), (some (47, true)), none⟩,
      ⟨some 50, .pick (.t 47) (.t 49) (.c (.bool false)), none, none⟩,
      ⟨some 51, .mov (.t 50), none, none⟩,
      ⟨some 52, .mov (.t 8), (some (51, true)), none⟩,
      ⟨some 53, .len .sl (.t 52), (some (51, true)), none⟩,
      ⟨some 54, .bin .eql (.t 53) (.c (.int .i64 2)), (some (51, true)), none⟩,
      ⟨some 55, .pick (.t 51) (.t 54) (.c (.bool false)), none, none⟩,
      ⟨some 56, .mov (.t 55), none, none⟩,
      ⟨some 57, .mov (.t 8), (some (56, true)), none⟩,
      ⟨some 58, .iaddr 1 (.t 57) (.c (.int .i64 0)), (some (56, true)), none⟩,
      ⟨some 59, .load 1 false (.t 58), (some (56, true)), none⟩,
      ⟨some 60, .bin .eql (.t 59) (.c (.int .u8 128)), (some (56, true)), none⟩,
      ⟨some 61, .pick (.t 56) (.t 60) (.c (.bool false)), none, none⟩,
      ⟨some 62, .mov (.t 61), none, none⟩,
      ⟨some 63, .mov (.t 8), (some (62, true)), none⟩,
      ⟨some 64, .iaddr 1 (.t 63) (.c (.int .i64 1)), (some (62, true)), none⟩,
      ⟨some 65, .load 1 false (.t 64), (some (62, true)), none⟩,
      ⟨some 66, .bin .eql (.t 65) (.c (.int .u8 1)), (some (62, true)), none⟩,
      ⟨some 67, .pick (.t 62) (.t 66) (.c (.bool false)), none, none⟩,
      ⟨some 0, .mov (.t 67), none, none⟩])
  (.ret)))))))))))) }
def archipelagoref1_Writer_Put_b0 : IC :=
  (.seq (.seq (.reg [⟨some 11, .mov (.t 6), none, none⟩,
      ⟨some 12, .bin .geq (.t 11) (.c (.int .i64 0)), none, none⟩])
  (.cond (.t 12)
  (.skip)
  (.exit 0)))
  (.seq (.block 1
  (.regD [1, 2, 3, 4, 5, 6, 7, 8, 9, 10, 11, 0, 12, 13, 14] [⟨some 16, .mov (.t 0), none, none⟩,
        ⟨some 17, .nilck (.t 16), none, none⟩,
        ⟨some 18, .faddr 0 (.t 17), none, none⟩,
        ⟨some 19, .load 1 false (.t 18), none, none⟩,
        ⟨some 20, .mov (.t 1), none, none⟩,
        ⟨some 21, .mov (.t 6), none, none⟩,
        ⟨some 22, .bin .shr (.t 20) (.t 21), none, none⟩,
        ⟨some 23, .bin .and (.t 22) (.c (.int .u64 1)), none, none⟩,
        ⟨some 24, .bin .eql (.t 23) (.c (.int .u64 1)), none, none⟩,
        ⟨some 25, .mkrow 1 1 [(.bool false)] [(0, (.t 24))], none, none⟩,
        ⟨some 26, .append 1 1 (.t 19) (.t 25), none, none⟩,
        ⟨some 15, .mov (.t 0), none, none⟩,
        ⟨some 27, .nilck (.t 15), none, none⟩,
        ⟨some 28, .faddr 0 (.t 27), none, none⟩,
        ⟨none, .store 1 (.t 28) (.t 26), none, none⟩]))
  (.reg [⟨some 13, .mov (.t 6), none, none⟩,
      ⟨some 14, .bin .sub (.t 13) (.c (.int .i64 1)), none, none⟩,
      ⟨some 6, .mov (.t 14), none, none⟩])))
def ir_archipelagoref1_Writer_Put : IFn :=
  { params := 3, results := [], body :=
  (.seq (.reg [⟨some 7, .mov (.t 2), none, none⟩,
      ⟨some 8, .minmax false [(.t 7), (.c (.int .i64 0))], none, none⟩,
      ⟨some 9, .minmax true [(.t 8), (.c (.int .i64 64))], none, none⟩,
      ⟨some 10, .bin .sub (.t 9) (.c (.int .i64 1)), none, none⟩,
      ⟨some 6, .mov (.t 10), none, none⟩])
  (.block 0
  (.loop [0, 1, 6] archipelagoref1_Writer_Put_b0))) }
def archipelagoref1_Writer_Bytes_b0 : IC :=
  (.seq (.seq (.reg [⟨some 13, .mov (.t 4), none, none⟩,
      ⟨some 14, .mov (.t 0), none, none⟩,
      ⟨some 15, .nilck (.t 14), none, none⟩,
      ⟨some 16, .faddr 0 (.t 15), none, none⟩,
      ⟨some 17, .load 1 false (.t 16), none, none⟩,
      ⟨some 18, .len .sl (.t 17), none, none⟩,
      ⟨some 19, .bin .lss (.t 13) (.t 18), none, none⟩])
  (.cond (.t 19)
  (.skip)
  (.exit 0)))
  (.seq (.block 1
  (.seq (.reg [⟨some 22, .mov (.t 0), none, none⟩,
        ⟨some 23, .nilck (.t 22), none, none⟩,
        ⟨some 24, .faddr 0 (.t 23), none, none⟩,
        ⟨some 25, .load 1 false (.t 24), none, none⟩,
        ⟨some 26, .mov (.t 4), none, none⟩,
        ⟨some 27, .iaddr 1 (.t 25) (.t 26), none, none⟩,
        ⟨some 28, .load 1 false (.t 27), none, none⟩])
    (.cond (.t 28)
    (.regD [0, 1, 2, 3, 4, 5, 6, 7, 8, 9, 10] [⟨some 29, .mov (.t 3), none, none⟩,
          ⟨some 30, .mov (.t 4), none, none⟩,
          ⟨some 31, .bin .quo (.t 30) (.c (.int .i64 8)), none, none⟩,
          ⟨some 32, .iaddr 1 (.t 29) (.t 31), none, none⟩,
          ⟨some 33, .load 1 false (.t 32), none, none⟩,
          ⟨some 34, .mov (.t 4), none, none⟩,
          ⟨some 35, .bin .rem (.t 34) (.c (.int .i64 8)), none, none⟩,
          ⟨some 36, .bin .shl (.c (.int .u8 1)) (.t 35), none, none⟩,
          ⟨some 37, .bin .or (.t 33) (.t 36), none, none⟩,
          ⟨some 38, .iaddr 1 (.t 29) (.t 31), none, none⟩,
          ⟨none, .store 1 (.t 38) (.t 37), none, none⟩])
    (.skip))))
  (.reg [⟨some 20, .mov (.t 4), none, none⟩,
      ⟨some 21, .bin .add (.t 20) (.c (.int .i64 1)), none, none⟩,
      ⟨some 4, .mov (.t 21), none, none⟩])))
def ir_archipelagoref1_Writer_Bytes : IFn :=
  { params := 1, results := [.tmp 2], body :=
  (.seq (.reg [⟨some 2, .mov (.c .nils), none, none⟩])
  (.seq (.reg [⟨some 5, .mov (.t 0), none, none⟩,
      ⟨some 6, .nilck (.t 5), none, none⟩,
      ⟨some 7, .faddr 0 (.t 6), none, none⟩,
      ⟨some 8, .load 1 false (.t 7), none, none⟩,
      ⟨some 9, .len .sl (.t 8), none, none⟩,
      ⟨some 10, .bin .add (.t 9) (.c (.int .i64 7)), none, none⟩,
      ⟨some 11, .bin .quo (.t 10) (.c (.int .i64 8)), none, none⟩,
      ⟨some 12, .mkslice 1 1 [(.int .u8 0)] (.t 11) (.t 11), none, none⟩,
      ⟨some 3, .mov (.t 12), none, none⟩])
  (.seq (.seq (.reg [⟨some 4, .mov (.c (.int .i64 0)), none, none⟩])
  (.block 0
  (.loop [0, 3, 4] archipelagoref1_Writer_Bytes_b0)))
  (.seq (.reg [⟨some 39, .mov (.t 3), none, none⟩,
      ⟨some 2, .mov (.t 39), none, none⟩])
  (.ret))))) }
def archipelagolaw1_BitsWrite_b0 : IC :=
  (.seq (.seq (.reg [⟨some 15, .mov (.t 5), none, none⟩,
      ⟨some 16, .mov (.t 0), none, none⟩,
      ⟨some 17, .len .sl (.t 16), none, none⟩,
      ⟨some 18, .bin .lss (.t 15) (.t 17), none, none⟩])
  (.cond (.t 18)
  (.skip)
  (.exit 0)))
  (.seq (.block 1
  (.seq (.reg [⟨some 21, .mov (.t 0), none, none⟩,
        ⟨some 22, .mov (.t 5), none, none⟩,
        ⟨some 23, .iaddr 2 (.t 21) (.t 22), none, none⟩,
        ⟨some 24, .faddr 1 (.t 23), none, none⟩,
        ⟨some 25, .load 1 false (.t 24), none, none⟩,
        ⟨some 6, .mov (.t 25), none, none⟩])
    (.seq (.seq (.reg [⟨some 26, .mov (.t 5), none, none⟩,
        ⟨some 27, .bin .rem (.t 26) (.c (.int .i64 3)), none, none⟩,
        ⟨some 28, .bin .gtr (.t 27) (.c (.int .i64 0)), none, none⟩])
    (.cond (.t 28)
    (.reg [⟨some 29, .mov (.t 6), none, none⟩,
          ⟨some 30, .bin .and (.t 29) (.c (.int .i64 31)), none, none⟩,
          ⟨some 6, .mov (.t 30), none, none⟩])
    (.skip)))
    (.seq (.reg [⟨some 31, .mov (.t 3), none, none⟩,
        ⟨some 32, .mov (.t 0), none, none⟩,
        ⟨some 33, .mov (.t 5), none, none⟩,
        ⟨some 34, .iaddr 2 (.t 32) (.t 33), none, none⟩,
        ⟨some 35, .faddr 0 (.t 34), none, none⟩,
        ⟨some 36, .load 1 false (.t 35), none, none⟩,
        ⟨some 37, .mov (.t 6), none, none⟩,
        ⟨some 38, .call fid_bits_Writer_Put [(.t 31), (.t 36), (.t 37)], none, none⟩])
    (.seq (.reg [⟨some 39, .mov (.t 4), none, none⟩,
        ⟨some 40, .mov (.t 0), none, none⟩,
        ⟨some 41, .mov (.t 5), none, none⟩,
        ⟨some 42, .iaddr 2 (.t 40) (.t 41), none, none⟩,
        ⟨some 43, .faddr 0 (.t 42), none, none⟩,
        ⟨some 44, .load 1 false (.t 43), none, none⟩,
        ⟨some 45, .mov (.t 6), none, none⟩,
        ⟨some 46, .call fid_archipelagoref1_Writer_Put [(.t 39), (.t 44), (.t 45)], none, none⟩])
    (.seq (.regD [0, 1, 2, 3, 4, 5, 6, 7] [⟨some 47, .mov (.t 3), none, none⟩,
        ⟨some 48, .call fid_bits_Writer_Len [(.t 47)], none, none⟩,
        ⟨some 49, .mov (.t 4), none, none⟩,
        ⟨some 50, .nilck (.t 49), none, none⟩,
        ⟨some 51, .faddr 0 (.t 50), none, none⟩,
        ⟨some 52, .load 1 false (.t 51), none, some (0, 1)⟩,
        ⟨some 53, .len .sl (.t 52), none, some (0, 1)⟩,
        ⟨some 54, .bin .neq (.t 48) (.t 53), none, none⟩])
    (.cond (.t 54)
    (.seq (.reg [⟨some 2, .mov (.c (.bool false)), none, none⟩])
      (.ret))
    (.skip))))))))
  (.reg [⟨some 19, .mov (.t 5), none, none⟩,
      ⟨some 20, .bin .add (.t 19) (.c (.int .i64 1)), none, none⟩,
      ⟨some 5, .mov (.t 20), none, none⟩])))
def ir_archipelagolaw1_BitsWrite : IFn :=
  { params := 1, results := [.tmp 2], body :=
  (.seq (.reg [⟨some 2, .mov (.c (.bool false)), none, none⟩])
  (.seq (.seq (.reg [⟨some 7, .call fid_archipelagolaw1_known [], none, none⟩,
      ⟨some 8, .un .not (.t 7), none, none⟩])
  (.cond (.t 8)
  (.seq (.reg [⟨some 2, .mov (.c (.bool false)), none, none⟩])
    (.ret))
  (.skip)))
  (.seq (.seq (.reg [⟨some 9, .mov (.t 0), none, none⟩,
      ⟨some 10, .len .sl (.t 9), none, none⟩,
      ⟨some 11, .bin .gtr (.t 10) (.c (.int .i64 40)), none, none⟩])
  (.cond (.t 11)
  (.seq (.reg [⟨some 2, .mov (.c (.bool true)), none, none⟩])
    (.ret))
  (.skip)))
  (.seq (.reg [⟨some 12, .call fid_bits_NewWriter [], none, none⟩,
      ⟨some 13, .build [.nils] [], none, none⟩,
      ⟨some 14, .box (.t 13), none, none⟩,
      ⟨some 3, .mov (.t 12), none, none⟩,
      ⟨some 4, .mov (.t 14), none, none⟩])
  (.seq (.seq (.reg [⟨some 5, .mov (.c (.int .i64 0)), none, none⟩])
  (.block 0
  (.loop [0, 3, 4, 5] archipelagolaw1_BitsWrite_b0)))
  (.seq (.regD [0, 1, 3, 4, 2, 5, 6, 7] [⟨some 55, .mov (.t 3), none, none⟩,
      ⟨some 56, .call fid_bits_Writer_Bytes [(.t 55)], none, none⟩,
      ⟨some 58, .mov (.t 4), none, none⟩,
      ⟨some 59, .call fid_archipelagoref1_Writer_Bytes [(.t 58)], none, none⟩,
      ⟨some 57, .toStr (.t 56), none, some (1, 2)⟩,
      ⟨some 60, .toStr (.t 59), none, none⟩,
      ⟨some 61, .bin .eql (.t 57) (.t 60), none, none⟩,
      ⟨some 2, .mov (.t 61), none, none⟩])
  (.ret))))))) }
def ir_archipelagoref1_Reader_Left : IFn :=
  { params := 1, results := [.tmp 2], body :=
  (.seq (.reg [⟨some 2, .mov (.c (.int .i64 0)), none, none⟩])
  (.seq (.regD [0, 1, 2, 3, 4, 5, 6, 7, 8, 9, 10, 11] [⟨some 3, .mov (.t 0), none, none⟩,
      ⟨some 4, .nilck (.t 3), none, none⟩,
      ⟨some 5, .faddr 0 (.t 4), none, none⟩,
      ⟨some 6, .load 1 false (.t 5), none, none⟩,
      ⟨some 7, .len .sl (.t 6), none, none⟩,
      ⟨some 8, .bin .mul (.c (.int .i64 8)) (.t 7), none, none⟩,
      ⟨some 9, .mov (.t 0), none, none⟩,
      ⟨some 10, .nilck (.t 9), none, none⟩,
      ⟨some 11, .faddr 1 (.t 10), none, none⟩,
      ⟨some 12, .load 1 false (.t 11), none, none⟩,
      ⟨some 13, .bin .sub (.t 8) (.t 12), none, none⟩,
      ⟨some 2, .mov (.t 13), none, none⟩])
  (.ret))) }
def archipelagoref1_Reader_Take_b0 : IC :=
  (.seq (.seq (.reg [⟨some 15, .mov (.t 7), none, none⟩,
      ⟨some 16, .mov (.t 1), none, none⟩,
      ⟨some 17, .bin .lss (.t 15) (.t 16), none, none⟩])
  (.cond (.t 17)
  (.skip)
  (.exit 0)))
  (.seq (.block 1
  (.seq (.regD [0, 1, 2, 3, 4, 5, 6, 7, 8, 9, 10, 11, 12, 13, 14, 15, 16, 17, 18, 19, 20, 21, 22] [⟨some 20, .mov (.t 6), none, none⟩,
        ⟨some 21, .bin .shl (.t 20) (.c (.int .u64 1)), none, none⟩,
        ⟨some 22, .mov (.t 0), none, none⟩,
        ⟨some 23, .nilck (.t 22), none, none⟩,
        ⟨some 24, .faddr 0 (.t 23), none, none⟩,
        ⟨some 25, .load 1 false (.t 24), none, none⟩,
        ⟨some 26, .mov (.t 0), none, none⟩,
        ⟨some 27, .nilck (.t 26), none, none⟩,
        ⟨some 28, .faddr 1 (.t 27), none, none⟩,
        ⟨some 29, .load 1 false (.t 28), none, none⟩,
        ⟨some 30, .bin .quo (.t 29) (.c (.int .i64 8)), none, none⟩,
        ⟨some 31, .iaddr 1 (.t 25) (.t 30), none, none⟩,
        ⟨some 32, .load 1 false (.t 31), none, none⟩,
        ⟨some 33, .mov (.t 0), none, none⟩,
        ⟨some 34, .nilck (.t 33), none, none⟩,
        ⟨some 35, .faddr 1 (.t 34), none, none⟩,
        ⟨some 36, .load 1 false (.t 35), none, none⟩,
        ⟨some 37, .bin .rem (.t 36) (.c (.int .i64 8)), none, none⟩,
        ⟨some 38, .bin .shr (.t 32) (.t 37), none, none⟩,
        ⟨some 39, .bin .and (.t 38) (.c (.int .u8 1)), none, none⟩,
        ⟨some 40, .conv .u64 (.t 39), none, none⟩,
        ⟨some 41, .bin .or (.t 21) (.t 40), none, none⟩,
        ⟨some 6, .mov (.t 41), none, none⟩])
    (.reg [⟨some 42, .mov (.t 0), none, none⟩,
        ⟨some 43, .nilck (.t 42), none, none⟩,
        ⟨some 44, .faddr 1 (.t 43), none, none⟩,
        ⟨some 45, .load 1 false (.t 44), none, none⟩,
        ⟨some 46, .bin .add (.t 45) (.c (.int .i64 1)), none, none⟩,
        ⟨some 47, .nilck (.t 42), none, none⟩,
        ⟨some 48, .faddr 1 (.t 47), none, none⟩,
        ⟨none, .store 1 (.t 48) (.t 46), none, none⟩])))
  (.reg [⟨some 18, .mov (.t 7), none, none⟩,
      ⟨some 19, .bin .add (.t 18) (.c (.int .i64 1)), none, none⟩,
      ⟨some 7, .mov (.t 19), none, none⟩])))
def ir_archipelagoref1_Reader_Take : IFn :=
  { params := 2, results := [.tmp 4, .tmp 5], body :=
  (.seq (.reg [⟨some 4, .mov (.c (.int .u64 0)), none, none⟩,
      ⟨some 5, .mov (.c (.bool false)), none, none⟩])
  (.seq (.reg [⟨some 8, .mov (.t 1), none, none⟩,
      ⟨some 9, .minmax false [(.t 8), (.c (.int .i64 0))], none, none⟩,
      ⟨some 10, .minmax true [(.t 9), (.c (.int .i64 64))], none, none⟩,
      ⟨some 1, .mov (.t 10), none, none⟩])
  (.seq (.seq (.reg [⟨some 11, .mov (.t 1), none, none⟩,
      ⟨some 12, .mov (.t 0), none, none⟩,
      ⟨some 13, .call fid_archipelagoref1_Reader_Left [(.t 12)], none, none⟩,
      ⟨some 14, .bin .gtr (.t 11) (.t 13), none, none⟩])
  (.cond (.t 14)
  (.seq (.reg [⟨some 4, .mov (.c (.int .u64 0)), none, none⟩,
        ⟨some 5, .mov (.c (.bool false)), none, none⟩])
    (.ret))
  (.skip)))
  (.seq (.reg [⟨some 6, .mov (.c (.int .u64 0)), none, none⟩])
  (.seq (.seq (.reg [⟨some 7, .mov (.c (.int .i64 0)), none, none⟩])
  (.block 0
  (.loop [0, 1, 6, 7] archipelagoref1_Reader_Take_b0)))
  (.seq (.reg [⟨some 49, .mov (.t 6), none, none⟩,
      ⟨some 4, .mov (.t 49), none, none⟩,
      ⟨some 5, .mov (.c (.bool true)), none, none⟩])
  (.ret))))))) }
def archipelagolaw1_BitsRead_b0 : IC :=
  (.seq (.seq (.reg [⟨some 28, .mov (.t 7), none, none⟩,
      ⟨some 29, .mov (.t 1), none, none⟩,
      ⟨some 30, .len .sl (.t 29), none, none⟩,
      ⟨some 31, .bin .lss (.t 28) (.t 30), none, none⟩])
  (.cond (.t 31)
  (.skip)
  (.exit 0)))
  (.seq (.block 1
  (.seq (.reg [⟨some 34, .mov (.t 1), none, none⟩,
        ⟨some 35, .mov (.t 7), none, none⟩,
        ⟨some 36, .iaddr 1 (.t 34) (.t 35), none, none⟩,
        ⟨some 37, .load 1 false (.t 36), none, none⟩,
        ⟨some 8, .mov (.t 37), none, none⟩])
    (.seq (.seq (.reg [⟨some 38, .mov (.t 7), none, none⟩,
        ⟨some 39, .bin .rem (.t 38) (.c (.int .i64 3)), none, none⟩,
        ⟨some 40, .bin .gtr (.t 39) (.c (.int .i64 0)), none, none⟩])
    (.cond (.t 40)
    (.reg [⟨some 41, .mov (.t 8), none, none⟩,
          ⟨some 42, .bin .and (.t 41) (.c (.int .i64 15)), none, none⟩,
          ⟨some 8, .mov (.t 42), none, none⟩])
    (.skip)))
    (.seq (.reg [⟨some 44, .mov (.t 5), none, none⟩,
        ⟨some 45, .mov (.t 8), none, none⟩,
        ⟨some 46, .call fid_bits_Reader_Take [(.t 44), (.t 45)], none, none⟩,
        ⟨some 43, .mov (.t 46), none, none⟩,
        ⟨some 47, .extract (.t 43) 0, none, none⟩,
        ⟨some 48, .extract (.t 43) 1, none, none⟩,
        ⟨some 9, .mov (.t 47), none, none⟩,
        ⟨some 10, .mov (.t 48), none, none⟩])
    (.seq (.reg [⟨some 50, .mov (.t 6), none, none⟩,
        ⟨some 51, .mov (.t 8), none, none⟩,
        ⟨some 52, .call fid_archipelagoref1_Reader_Take [(.t 50), (.t 51)], none, none⟩,
        ⟨some 49, .mov (.t 52), none, none⟩,
        ⟨some 53, .extract (.t 49) 0, none, none⟩,
        ⟨some 54, .extract (.t 49) 1, none, none⟩,
        ⟨some 11, .mov (.t 53), none, none⟩,
        ⟨some 12, .mov (.t 54), none, none⟩])
    (.seq (.reg [⟨some 55, .mov (.t 9), none, none⟩,
        ⟨some 56, .mov (.t 11), none, none⟩,
        ⟨some 57, .bin .neq (.t 55) (.t 56), none, none⟩,
        ⟨some 58, .mov (.t 57), none, none⟩,
        ⟨some 59, .mov (.t 10), (some (58, false)), none⟩,
        ⟨some 60, .mov (.t 12), (some (58, false)), none⟩,
        ⟨some 61, .eq .bool true (.t 59) (.t 60), (some (58, false)), none⟩,
        ⟨some 62, .pick (.t 58) (.c (.bool true)) (.t 61), none, none⟩,
        ⟨some 63, .mov (.t 62), none, none⟩,
        ⟨some 64, .mov (.t 5), (some (63, false)), none⟩,
        ⟨some 65, .call fid_bits_Reader_Left [(.t 64)], (some (63, false)), none⟩,
        ⟨some 66, .mov (.t 6), (some (63, false)), none⟩,
        ⟨some 67, .call fid_archipelagoref1_Reader_Left [(.t 66)], (some (63, false)), none⟩,
        ⟨some 68, .bin .neq (.t 65) (.t 67), (some (63, false)), none⟩,
        ⟨some 69, .pick (.t 63) (.c (.bool true)) (.t 68), none, none⟩])
    (.cond (.t 69)
    (.seq (.reg [⟨some 4, .mov (.c (.bool false)), none, none⟩])
      (.ret))
    (.skip))))))))
  (.reg [⟨some 32, .mov (.t 7), none, none⟩,
      ⟨some 33, .bin .add (.t 32) (.c (.int .i64 1)), none, none⟩,
      ⟨some 7, .mov (.t 33), none, none⟩])))
def ir_archipelagolaw1_BitsRead : IFn :=
  { params := 2, results := [.tmp 4], body :=
  (.seq (.reg [⟨some 4, .mov (.c (.bool false)), none, none⟩])
  (.seq (.seq (.reg [⟨some 13, .call fid_archipelagolaw1_known [], none, none⟩,
      ⟨some 14, .un .not (.t 13), none, none⟩])
  (.cond (.t 14)
  (.seq (.reg [⟨some 4, .mov (.c (.bool false)), none, none⟩])
    (.ret))
  (.skip)))
  (.seq (.seq (.reg [⟨some 15, .mov (.t 0), none, none⟩,
      ⟨some 16, .len .sl (.t 15), none, none⟩,
      ⟨some 17, .bin .gtr (.t 16) (.c (.int .i64 60)), none, none⟩,
      ⟨some 18, .mov (.t 17), none, none⟩,
      ⟨some 19, .mov (.t 1), (some (18, false)), none⟩,
      ⟨some 20, .len .sl (.t 19), (some (18, false)), none⟩,
      ⟨some 21, .bin .gtr (.t 20) (.c (.int .i64 40)), (some (18, false)), none⟩,
      ⟨some 22, .pick (.t 18) (.c (.bool true)) (.t 21), none, none⟩])
  (.cond (.t 22)
  (.seq (.reg [⟨some 4, .mov (.c (.bool true)), none, none⟩])
    (.ret))
  (.skip)))
  (.seq (.reg [⟨some 23, .mov (.t 0), none, none⟩,
      ⟨some 24, .call fid_bits_NewReader [(.t 23)], none, none⟩,
      ⟨some 25, .mov (.t 0), none, none⟩,
      ⟨some 26, .build [.nils, (.int .i64 0)] [(0, 1, (.t 25))], none, none⟩,
      ⟨some 27, .box (.t 26), none, none⟩,
      ⟨some 5, .mov (.t 24), none, none⟩,
      ⟨some 6, .mov (.t 27), none, none⟩])
  (.seq (.seq (.reg [⟨some 7, .mov (.c (.int .i64 0)), none, none⟩])
  (.block 0
  (.loop [1, 5, 6, 7] archipelagolaw1_BitsRead_b0)))
  (.seq (.reg [⟨some 4, .mov (.c (.bool true)), none, none⟩])
  (.ret))))))) }
def archipelagolaw1_BitsBack_b0 : IC :=
  (.seq (.seq (.reg [⟨some 19, .mov (.t 4), none, none⟩,
      ⟨some 20, .mov (.t 0), none, none⟩,
      ⟨some 21, .len .sl (.t 20), none, none⟩,
      ⟨some 22, .bin .lss (.t 19) (.t 21), none, none⟩])
  (.cond (.t 22)
  (.skip)
  (.exit 0)))
  (.seq (.block 1
  (.regD [0, 1, 2, 3, 4, 5, 6, 7, 8, 9, 10, 11, 12] [⟨some 25, .mov (.t 3), none, none⟩,
        ⟨some 26, .mov (.t 0), none, none⟩,
        ⟨some 27, .mov (.t 4), none, none⟩,
        ⟨some 28, .iaddr 2 (.t 26) (.t 27), none, none⟩,
        ⟨some 29, .faddr 0 (.t 28), none, none⟩,
        ⟨some 30, .load 1 false (.t 29), none, none⟩,
        ⟨some 31, .mov (.t 0), none, none⟩,
        ⟨some 32, .mov (.t 4), none, none⟩,
        ⟨some 33, .iaddr 2 (.t 31) (.t 32), none, none⟩,
        ⟨some 34, .faddr 1 (.t 33), none, none⟩,
        ⟨some 35, .load 1 false (.t 34), none, none⟩,
        ⟨some 36, .bin .and (.t 35) (.c (.int .i64 63)), none, none⟩,
        ⟨some 37, .call fid_bits_Writer_Put [(.t 25), (.t 30), (.t 36)], none, none⟩]))
  (.reg [⟨some 23, .mov (.t 4), none, none⟩,
      ⟨some 24, .bin .add (.t 23) (.c (.int .i64 1)), none, none⟩,
      ⟨some 4, .mov (.t 24), none, none⟩])))
def archipelagolaw1_BitsBack_b1 : IC :=
  (.seq (.seq (.reg [⟨some 41, .mov (.t 6), none, none⟩,
      ⟨some 42, .mov (.t 0), none, none⟩,
      ⟨some 43, .len .sl (.t 42), none, none⟩,
      ⟨some 44, .bin .lss (.t 41) (.t 43), none, none⟩])
  (.cond (.t 44)
  (.skip)
  (.exit 2)))
  (.seq (.block 3
  (.seq (.reg [⟨some 47, .mov (.t 0), none, none⟩,
        ⟨some 48, .mov (.t 6), none, none⟩,
        ⟨some 49, .iaddr 2 (.t 47) (.t 48), none, none⟩,
        ⟨some 50, .faddr 1 (.t 49), none, none⟩,
        ⟨some 51, .load 1 false (.t 50), none, none⟩,
        ⟨some 52, .bin .and (.t 51) (.c (.int .i64 63)), none, none⟩,
        ⟨some 7, .mov (.t 52), none, none⟩])
    (.seq (.reg [⟨some 54, .mov (.t 5), none, none⟩,
        ⟨some 55, .mov (.t 7), none, none⟩,
        ⟨some 56, .call fid_bits_Reader_Take [(.t 54), (.t 55)], none, none⟩,
        ⟨some 53, .mov (.t 56), none, none⟩,
        ⟨some 57, .extract (.t 53) 0, none, none⟩,
        ⟨some 58, .extract (.t 53) 1, none, none⟩,
        ⟨some 8, .mov (.t 57), none, none⟩,
        ⟨some 9, .mov (.t 58), none, none⟩])
    (.seq (.regD [0, 1, 2, 3, 4, 5, 6, 7, 8, 9, 10, 11, 12, 13, 14] [⟨some 59, .mov (.t 9), none, none⟩,
        ⟨some 60, .un .not (.t 59), none, none⟩,
        ⟨some 61, .mov (.t 60), none, none⟩,
        ⟨some 62, .mov (.t 8), (some (61, false)), none⟩,
        ⟨some 63, .mov (.t 0), (some (61, false)), none⟩,
        ⟨some 64, .mov (.t 6), (some (61, false)), none⟩,
        ⟨some 65, .iaddr 2 (.t 63) (.t 64), (some (61, false)), none⟩,
        ⟨some 66, .faddr 0 (.t 65), (some (61, false)), none⟩,
        ⟨some 67, .load 1 false (.t 66), (some (61, false)), none⟩,
        ⟨some 68, .mov (.t 7), (some (61, false)), none⟩,
        ⟨some 69, .bin .shl (.c (.int .u64 1)) (.t 68), (some (61, false)), none⟩,
        ⟨some 70, .bin .sub (.t 69) (.c (.int .u64 1)), (some (61, false)), none⟩,
        ⟨some 71, .bin .and (.t 67) (.t 70), (some (61, false)), none⟩,
        ⟨some 72, .bin .neq (.t 62) (.t 71), (some (61, false)), none⟩,
        ⟨some 73, .pick (.t 61) (.c (.bool true)) (.t 72), none, none⟩])
    (.cond (.t 73)
    (.seq (.reg [⟨some 2, .mov (.c (.bool false)), none, none⟩])
      (.ret))
    (.skip))))))
  (.reg [⟨some 45, .mov (.t 6), none, none⟩,
      ⟨some 46, .bin .add (.t 45) (.c (.int .i64 1)), none, none⟩,
      ⟨some 6, .mov (.t 46), none, none⟩])))
def ir_archipelagolaw1_BitsBack : IFn :=
  { params := 1, results := [.tmp 2], body :=
  (.seq (.reg [⟨some 2, .mov (.c (.bool false)), none, none⟩])
  (.seq (.seq (.reg [⟨some 13, .call fid_archipelagolaw1_known [], none, none⟩,
      ⟨some 14, .un .not (.t 13), none, none⟩])
  (.cond (.t 14)
  (.seq (.reg [⟨some 2, .mov (.c (.bool false)), none, none⟩])
    (.ret))
  (.skip)))
  (.seq (.seq (.reg [⟨some 15, .mov (.t 0), none, none⟩,
      ⟨some 16, .len .sl (.t 15), none, none⟩,
      ⟨some 17, .bin .gtr (.t 16) (.c (.int .i64 40)), none, none⟩])
  (.cond (.t 17)
  (.seq (.reg [⟨some 2, .mov (.c (.bool true)), none, none⟩])
    (.ret))
  (.skip)))
  (.seq (.reg [⟨some 18, .call fid_bits_NewWriter [], none, none⟩,
      ⟨some 3, .mov (.t 18), none, none⟩])
  (.seq (.seq (.reg [⟨some 4, .mov (.c (.int .i64 0)), none, none⟩])
  (.block 0
  (.loop [0, 3, 4] archipelagolaw1_BitsBack_b0)))
  (.seq (.reg [⟨some 38, .mov (.t 3), none, none⟩,
      ⟨some 39, .call fid_bits_Writer_Bytes [(.t 38)], none, none⟩,
      ⟨some 40, .call fid_bits_NewReader [(.t 39)], none, none⟩,
      ⟨some 5, .mov (.t 40), none, none⟩])
  (.seq (.seq (.reg [⟨some 6, .mov (.c (.int .i64 0)), none, none⟩])
  (.block 2
  (.loop [0, 5, 6] archipelagolaw1_BitsBack_b1)))
  (.seq (.reg [⟨some 74, .mov (.t 5), none, none⟩,
      ⟨some 75, .call fid_bits_Reader_Left [(.t 74)], none, none⟩,
      ⟨some 10, .mov (.t 75), none, none⟩])
  (.seq (.reg [⟨some 77, .mov (.t 5), none, none⟩,
      ⟨some 78, .mov (.t 10), none, none⟩,
      ⟨some 79, .call fid_bits_Reader_Take [(.t 77), (.t 78)], none, none⟩,
      ⟨some 76, .mov (.t 79), none, none⟩,
      ⟨some 80, .extract (.t 76) 0, none, none⟩,
      ⟨some 81, .extract (.t 76) 1, none, none⟩,
      ⟨some 11, .mov (.t 80), none, none⟩,
      ⟨some 12, .mov (.t 81), none, none⟩])
  (.seq (.reg [⟨some 82, .mov (.t 10), none, none⟩,
      ⟨some 83, .bin .lss (.t 82) (.c (.int .i64 8)), none, none⟩,
      ⟨some 84, .mov (.t 83), none, none⟩,
      ⟨some 85, .mov (.t 12), (some (84, true)), none⟩,
      ⟨some 86, .pick (.t 84) (.t 85) (.c (.bool false)), none, none⟩,
      ⟨some 87, .mov (.t 86), none, none⟩,
      ⟨some 88, .mov (.t 11), (some (87, true)), none⟩,
      ⟨some 89, .bin .eql (.t 88) (.c (.int .u64 0)), (some (87, true)), none⟩,
      ⟨some 90, .pick (.t 87) (.t 89) (.c (.bool false)), none, none⟩,
      ⟨some 2, .mov (.t 90), none, none⟩])
  (.ret))))))))))) }
def archipelagoref1_Flip_b0 : IC :=
  (.seq (.seq (.reg [⟨some 11, .mov (.t 8), none, none⟩,
      ⟨some 12, .bin .lss (.t 11) (.c (.int .i64 32)), none, none⟩])
  (.cond (.t 12)
  (.skip)
  (.exit 0)))
  (.seq (.block 1
  (.seq (.reg [⟨some 15, .mov (.t 2), none, none⟩,
        ⟨some 16, .mov (.t 8), none, none⟩,
        ⟨some 17, .bin .shr (.t 15) (.t 16), none, none⟩,
        ⟨some 18, .bin .and (.t 17) (.c (.int .u32 1)), none, none⟩,
        ⟨some 19, .bin .eql (.t 18) (.c (.int .u32 1)), none, none⟩,
        ⟨some 20, .mov (.t 19), none, none⟩,
        ⟨some 21, .mov (.t 1), (some (20, true)), none⟩,
        ⟨some 22, .mov (.t 8), (some (20, true)), none⟩,
        ⟨some 23, .un .neg (.t 22), (some (20, true)), none⟩,
        ⟨some 24, .bin .geq (.t 21) (.t 23), (some (20, true)), none⟩,
        ⟨some 25, .pick (.t 20) (.t 24) (.c (.bool false)), none, none⟩,
        ⟨some 26, .mov (.t 25), none, none⟩,
        ⟨some 27, .mov (.t 1), (some (26, true)), none⟩,
        ⟨some 28, .mov (.t 0), (some (26, true)), none⟩,
        ⟨some 29, .len .sl (.t 28), (some (26, true)), none⟩,
        ⟨some 30, .bin .mul (.c (.int .i64 8)) (.t 29), (some (26, true)), none⟩,
        ⟨some 31, .mov (.t 8), (some (26, true)), none⟩,
        ⟨some 32, .bin .sub (.t 30) (.t 31), (some (26, true)), none⟩,
        ⟨some 33, .bin .lss (.t 27) (.t 32), (some (26, true)), none⟩,
        ⟨some 34, .pick (.t 26) (.t 33) (.c (.bool false)), none, none⟩])
    (.cond (.t 34)
    (.regD [0, 1, 2, 3, 4, 5, 6, 7, 8, 9, 10, 11, 12, 13, 14] [⟨some 35, .mov (.t 7), none, none⟩,
          ⟨some 36, .mov (.t 1), none, none⟩,
          ⟨some 37, .mov (.t 8), none, none⟩,
          ⟨some 38, .bin .add (.t 36) (.t 37), none, none⟩,
          ⟨some 39, .bin .quo (.t 38) (.c (.int .i64 8)), none, none⟩,
          ⟨some 40, .iaddr 1 (.t 35) (.t 39), none, none⟩,
          ⟨some 41, .load 1 false (.t 40), none, none⟩,
          ⟨some 42, .mov (.t 1), none, none⟩,
          ⟨some 43, .mov (.t 8), none, none⟩,
          ⟨some 44, .bin .add (.t 42) (.t 43), none, none⟩,
          ⟨some 45, .bin .rem (.t 44) (.c (.int .i64 8)), none, none⟩,
          ⟨some 46, .bin .shl (.c (.int .u8 1)) (.t 45), none, none⟩,
          ⟨some 47, .bin .xor (.t 41) (.t 46), none, none⟩,
          ⟨some 48, .iaddr 1 (.t 35) (.t 39), none, none⟩,
          ⟨none, .store 1 (.t 48) (.t 47), none, none⟩])
    (.skip))))
  (.reg [⟨some 13, .mov (.t 8), none, none⟩,
      ⟨some 14, .bin .add (.t 13) (.c (.int .i64 1)), none, none⟩,
      ⟨some 8, .mov (.t 14), none, none⟩])))
def ir_archipelagoref1_Flip : IFn :=
  { params := 3, results := [.tmp 6], body :=
  (.seq (.reg [⟨some 6, .mov (.c .nils), none, none⟩])
  (.seq (.reg [⟨some 9, .mov (.t 0), none, none⟩,
      ⟨some 10, .append 1 1 (.c .nils) (.t 9), none, none⟩,
      ⟨some 7, .mov (.t 10), none, none⟩])
  (.seq (.seq (.reg [⟨some 8, .mov (.c (.int .i64 0)), none, none⟩])
  (.block 0
  (.loop [0, 1, 2, 7, 8] archipelagoref1_Flip_b0)))
  (.seq (.reg [⟨some 49, .mov (.t 7), none, none⟩,
      ⟨some 6, .mov (.t 49), none, none⟩])
  (.ret))))) }
def archipelagolaw1_BitsFlip_b0 : IC :=
  (.seq (.reg [⟨some 29, .bin .lss (.t 28) (.t 27), none, none⟩])
  (.seq (.cond (.t 29)
  (.skip)
  (.exit 0))
  (.seq (.block 1
  (.seq (.reg [⟨some 30, .iaddr 1 (.t 26) (.t 28), none, none⟩,
        ⟨some 31, .load 1 false (.t 30), none, none⟩,
        ⟨some 10, .mov (.t 31), none, none⟩])
    (.seq (.reg [⟨some 32, .mov (.t 0), none, none⟩,
        ⟨some 33, .mov (.t 10), none, none⟩,
        ⟨some 34, .mov (.t 3), none, none⟩,
        ⟨some 35, .call fid_bits_Flip [(.t 32), (.t 33), (.t 34)], none, none⟩,
        ⟨some 11, .mov (.t 35), none, none⟩])
    (.seq (.regD [2, 3, 4, 5, 0, 1, 6, 7, 8, 9, 10, 11, 12, 13, 14, 15, 16, 17] [⟨some 38, .mov (.t 0), none, none⟩,
        ⟨some 39, .mov (.t 10), none, none⟩,
        ⟨some 40, .mov (.t 3), none, none⟩,
        ⟨some 41, .call fid_archipelagoref1_Flip [(.t 38), (.t 39), (.t 40)], none, none⟩,
        ⟨some 36, .mov (.t 11), none, none⟩,
        ⟨some 37, .toStr (.t 36), none, some (0, 1)⟩,
        ⟨some 42, .toStr (.t 41), none, none⟩,
        ⟨some 43, .bin .neq (.t 37) (.t 42), none, none⟩,
        ⟨some 44, .mov (.t 43), none, none⟩,
        ⟨some 45, .mov (.t 11), (some (44, false)), none⟩,
        ⟨some 46, .mov (.t 10), (some (44, false)), none⟩,
        ⟨some 47, .mov (.t 3), (some (44, false)), none⟩,
        ⟨some 48, .call fid_bits_Flip [(.t 45), (.t 46), (.t 47)], (some (44, false)), none⟩,
        ⟨some 49, .toStr (.t 48), (some (44, false)), none⟩,
        ⟨some 50, .mov (.t 0), (some (44, false)), none⟩,
        ⟨some 51, .toStr (.t 50), (some (44, false)), some (1, 2)⟩,
        ⟨some 52, .bin .neq (.t 49) (.t 51), (some (44, false)), none⟩,
        ⟨some 53, .pick (.t 44) (.c (.bool true)) (.t 52), none, none⟩])
    (.cond (.t 53)
    (.seq (.reg [⟨some 8, .mov (.c (.bool false)), none, none⟩])
      (.ret))
    (.skip))))))
  (.reg [⟨some 54, .bin .add (.t 28) (.c (.int .i64 1)), none, none⟩,
      ⟨some 28, .mov (.t 54), none, none⟩]))))
def ir_archipelagolaw1_BitsFlip : IFn :=
  { params := 4, results := [.tmp 8], body :=
  (.seq (.reg [⟨some 8, .mov (.c (.bool false)), none, none⟩])
  (.seq (.seq (.reg [⟨some 12, .call fid_archipelagolaw1_known [], none, none⟩,
      ⟨some 13, .un .not (.t 12), none, none⟩])
  (.cond (.t 13)
  (.seq (.reg [⟨some 8, .mov (.c (.bool false)), none, none⟩])
    (.ret))
  (.skip)))
  (.seq (.seq (.reg [⟨some 14, .mov (.t 0), none, none⟩,
      ⟨some 15, .len .sl (.t 14), none, none⟩,
      ⟨some 16, .bin .gtr (.t 15) (.c (.int .i64 60)), none, none⟩])
  (.cond (.t 16)
  (.seq (.reg [⟨some 8, .mov (.c (.bool true)), none, none⟩])
    (.ret))
  (.skip)))
  (.seq (.seq (.reg [⟨some 17, .mov (.t 1), none, none⟩,
      ⟨some 18, .mov (.t 2), none, none⟩,
      ⟨some 19, .conv .i64 (.t 18), none, none⟩,
      ⟨some 20, .mov (.t 0), none, none⟩,
      ⟨some 21, .len .sl (.t 20), none, none⟩,
      ⟨some 22, .bin .mul (.c (.int .i64 8)) (.t 21), none, none⟩,
      ⟨some 23, .bin .add (.t 22) (.c (.int .i64 40)), none, none⟩,
      ⟨some 24, .bin .rem (.t 19) (.t 23), none, none⟩,
      ⟨some 25, .bin .sub (.t 24) (.c (.int .i64 35)), none, none⟩,
      ⟨some 26, .mkrow 1 2 [(.int .i64 0)] [(0, (.t 17)), (1, (.t 25))], none, none⟩,
      ⟨some 27, .len .sl (.t 26), none, none⟩,
      ⟨some 28, .mov (.c (.int .i64 0)), none, none⟩])
  (.block 0
  (.loop [0, 3, 26, 27, 28] archipelagolaw1_BitsFlip_b0)))
  (.seq (.reg [⟨some 8, .mov (.c (.bool true)), none, none⟩])
  (.ret)))))) }
def archipelagolaw1_BitsParts_b0 : IC :=
  (.seq (.seq (.reg [⟨some 23, .mov (.t 8), none, none⟩,
      ⟨some 24, .mov (.t 1), none, none⟩,
      ⟨some 25, .len .sl (.t 24), none, none⟩,
      ⟨some 26, .bin .lss (.t 23) (.t 25), none, none⟩,
      ⟨some 27, .mov (.t 26), none, none⟩,
      ⟨some 28, .mov (.t 7), (some (27, true)), none⟩,
      ⟨some 29, .bin .gtr (.t 28) (.c (.int .i64 0)), (some (27, true)), none⟩,
      ⟨some 30, .pick (.t 27) (.t 29) (.c (.bool false)), none, none⟩])
  (.cond (.t 30)
  (.skip)
  (.exit 0)))
  (.seq (.block 1
  (.seq (.reg [⟨some 33, .mov (.t 1), none, none⟩,
        ⟨some 34, .mov (.t 8), none, none⟩,
        ⟨some 35, .iaddr 1 (.t 33) (.t 34), none, none⟩,
        ⟨some 36, .load 1 false (.t 35), none, none⟩,
        ⟨some 37, .bin .rem (.t 36) (.c (.int .u8 16)), none, none⟩,
        ⟨some 38, .conv .i64 (.t 37), none, none⟩,
        ⟨some 39, .mov (.t 7), none, none⟩,
        ⟨some 40, .minmax true [(.t 38), (.t 39)], none, none⟩,
        ⟨some 9, .mov (.t 40), none, none⟩])
    (.seq (.reg [⟨some 41, .mov (.t 7), none, none⟩,
        ⟨some 42, .mov (.t 9), none, none⟩,
        ⟨some 43, .bin .sub (.t 41) (.t 42), none, none⟩,
        ⟨some 7, .mov (.t 43), none, none⟩])
    (.reg [⟨some 44, .mov (.t 6), none, none⟩,
        ⟨some 45, .mov (.t 0), none, none⟩,
        ⟨some 46, .mov (.t 7), none, none⟩,
        ⟨some 47, .bin .shr (.t 45) (.t 46), none, none⟩,
        ⟨some 48, .mov (.t 9), none, none⟩,
        ⟨some 49, .call fid_bits_Writer_Put [(.t 44), (.t 47), (.t 48)], none, none⟩]))))
  (.reg [⟨some 31, .mov (.t 8), none, none⟩,
      ⟨some 32, .bin .add (.t 31) (.c (.int .i64 1)), none, none⟩,
      ⟨some 8, .mov (.t 32), none, none⟩])))
def ir_archipelagolaw1_BitsParts : IFn :=
  { params := 2, results := [.tmp 4], body :=
  (.seq (.reg [⟨some 4, .mov (.c (.bool false)), none, none⟩])
  (.seq (.seq (.reg [⟨some 13, .call fid_archipelagolaw1_known [], none, none⟩,
      ⟨some 14, .un .not (.t 13), none, none⟩])
  (.cond (.t 14)
  (.seq (.reg [⟨some 4, .mov (.c (.bool false)), none, none⟩])
    (.ret))
  (.skip)))
  (.seq (.seq (.reg [⟨some 15, .mov (.t 1), none, none⟩,
      ⟨some 16, .len .sl (.t 15), none, none⟩,
      ⟨some 17, .bin .gtr (.t 16) (.c (.int .i64 20)), none, none⟩])
  (.cond (.t 17)
  (.seq (.reg [⟨some 4, .mov (.c (.bool true)), none, none⟩])
    (.ret))
  (.skip)))
  (.seq (.reg [⟨some 18, .call fid_bits_NewWriter [], none, none⟩,
      ⟨some 19, .call fid_bits_NewWriter [], none, none⟩,
      ⟨some 5, .mov (.t 18), none, none⟩,
      ⟨some 6, .mov (.t 19), none, none⟩])
  (.seq (.reg [⟨some 20, .mov (.t 5), none, none⟩,
      ⟨some 21, .mov (.t 0), none, none⟩,
      ⟨some 22, .call fid_bits_Writer_Put [(.t 20), (.t 21), (.c (.int .i64 64))], none, none⟩])
  (.seq (.reg [⟨some 7, .mov (.c (.int .i64 64)), none, none⟩])
  (.seq (.seq (.reg [⟨some 8, .mov (.c (.int .i64 0)), none, none⟩])
  (.block 0
  (.loop [0, 1, 5, 6, 7, 8] archipelagolaw1_BitsParts_b0)))
  (.seq (.reg [⟨some 50, .mov (.t 6), none, none⟩,
      ⟨some 51, .mov (.t 0), none, none⟩,
      ⟨some 52, .mov (.t 7), none, none⟩,
      ⟨some 53, .call fid_bits_Writer_Put [(.t 50), (.t 51), (.t 52)], none, none⟩])
  (.seq (.reg [⟨some 54, .mov (.t 6), none, none⟩,
      ⟨some 55, .call fid_bits_Writer_Bytes [(.t 54)], none, none⟩,
      ⟨some 56, .call fid_bits_NewReader [(.t 55)], none, none⟩,
      ⟨some 10, .mov (.t 56), none, none⟩])
  (.seq (.reg [⟨some 58, .mov (.t 10), none, none⟩,
      ⟨some 59, .call fid_bits_Reader_Take [(.t 58), (.c (.int .i64 64))], none, none⟩,
      ⟨some 57, .mov (.t 59), none, none⟩,
      ⟨some 60, .extract (.t 57) 0, none, none⟩,
      ⟨some 61, .extract (.t 57) 1, none, none⟩,
      ⟨some 11, .mov (.t 60), none, none⟩,
      ⟨some 12, .mov (.t 61), none, none⟩])
  (.seq (.regD [0, 1, 3, 4, 2, 5, 6, 7, 8, 9, 10, 11, 12, 13, 14, 15, 16, 17, 18, 19, 20, 21, 22, 23, 24, 25] [⟨some 62, .mov (.t 5), none, none⟩,
      ⟨some 63, .call fid_bits_Writer_Bytes [(.t 62)], none, none⟩,
      ⟨some 65, .mov (.t 6), none, none⟩,
      ⟨some 66, .call fid_bits_Writer_Bytes [(.t 65)], none, none⟩,
      ⟨some 64, .toStr (.t 63), none, some (1, 2)⟩,
      ⟨some 67, .toStr (.t 66), none, none⟩,
      ⟨some 68, .bin .eql (.t 64) (.t 67), none, none⟩,
      ⟨some 69, .mov (.t 68), none, none⟩,
      ⟨some 70, .mov (.t 12), (some (69, true)), none⟩,
      ⟨some 71, .pick (.t 69) (.t 70) (.c (.bool false)), none, none⟩,
      ⟨some 72, .mov (.t 71), none, none⟩,
      ⟨some 73, .mov (.t 11), (some (72, true)), none⟩,
      ⟨some 74, .mov (.t 0), (some (72, true)), none⟩,
      ⟨some 75, .bin .eql (.t 73) (.t 74), (some (72, true)), none⟩,
      ⟨some 76, .pick (.t 72) (.t 75) (.c (.bool false)), none, none⟩,
      ⟨some 77, .mov (.t 76), none, none⟩,
      ⟨some 78, .mov (.t 10), (some (77, true)), none⟩,
      ⟨some 79, .call fid_bits_Reader_Left [(.t 78)], (some (77, true)), none⟩,
      ⟨some 80, .bin .eql (.t 79) (.c (.int .i64 0)), (some (77, true)), none⟩,
      ⟨some 81, .pick (.t 77) (.t 80) (.c (.bool false)), none, none⟩,
      ⟨some 82, .mov (.t 81), none, none⟩,
      ⟨some 83, .mov (.t 6), (some (82, true)), none⟩,
      ⟨some 84, .call fid_bits_Writer_Len [(.t 83)], (some (82, true)), none⟩,
      ⟨some 85, .bin .eql (.t 84) (.c (.int .i64 64)), (some (82, true)), none⟩,
      ⟨some 86, .pick (.t 82) (.t 85) (.c (.bool false)), none, none⟩,
      ⟨some 4, .mov (.t 86), none, none⟩])
  (.ret)))))))))))) }
def archipelagolaw1_BitsEnds_b0 : IC :=
  (.seq (.seq (.reg [⟨some 32, .mov (.t 9), none, none⟩,
      ⟨some 33, .mov (.t 8), none, none⟩,
      ⟨some 34, .bin .lss (.t 32) (.t 33), none, none⟩])
  (.cond (.t 34)
  (.skip)
  (.exit 0)))
  (.seq (.block 1
  (.reg [⟨some 37, .mov (.t 7), none, none⟩,
        ⟨some 38, .call fid_bits_Reader_Take [(.t 37), (.c (.int .i64 1))], none, none⟩]))
  (.reg [⟨some 35, .mov (.t 9), none, none⟩,
      ⟨some 36, .bin .add (.t 35) (.c (.int .i64 1)), none, none⟩,
      ⟨some 9, .mov (.t 36), none, none⟩])))
def ir_archipelagolaw1_BitsEnds : IFn :=
  { params := 3, results := [.tmp 6], body :=
  (.seq (.reg [⟨some 6, .mov (.c (.bool false)), none, none⟩])
  (.seq (.seq (.reg [⟨some 18, .call fid_archipelagolaw1_known [], none, none⟩,
      ⟨some 19, .un .not (.t 18), none, none⟩])
  (.cond (.t 19)
  (.seq (.reg [⟨some 6, .mov (.c (.bool false)), none, none⟩])
    (.ret))
  (.skip)))
  (.seq (.seq (.reg [⟨some 20, .mov (.t 0), none, none⟩,
      ⟨some 21, .len .sl (.t 20), none, none⟩,
      ⟨some 22, .bin .gtr (.t 21) (.c (.int .i64 30)), none, none⟩])
  (.cond (.t 22)
  (.seq (.reg [⟨some 6, .mov (.c (.bool true)), none, none⟩])
    (.ret))
  (.skip)))
  (.seq (.reg [⟨some 23, .mov (.t 0), none, none⟩,
      ⟨some 24, .call fid_bits_NewReader [(.t 23)], none, none⟩,
      ⟨some 7, .mov (.t 24), none, none⟩])
  (.seq (.reg [⟨some 25, .mov (.t 1), none, none⟩,
      ⟨some 26, .conv .i64 (.t 25), none, none⟩,
      ⟨some 27, .mov (.t 0), none, none⟩,
      ⟨some 28, .len .sl (.t 27), none, none⟩,
      ⟨some 29, .bin .mul (.c (.int .i64 8)) (.t 28), none, none⟩,
      ⟨some 30, .minmax true [(.t 26), (.t 29)], none, none⟩,
      ⟨some 31, .bin .quo (.t 30) (.c (.int .i64 3)), none, none⟩,
      ⟨some 8, .mov (.t 31), none, none⟩])
  (.seq (.seq (.reg [⟨some 9, .mov (.c (.int .i64 0)), none, none⟩])
  (.block 0
  (.loop [0, 2, 7, 8, 9] archipelagolaw1_BitsEnds_b0)))
  (.seq (.reg [⟨some 39, .mov (.t 7), none, none⟩,
      ⟨some 40, .call fid_bits_Reader_Left [(.t 39)], none, none⟩,
      ⟨some 10, .mov (.t 40), none, none⟩])
  (.seq (.reg [⟨some 41, .mov (.t 2), none, none⟩,
      ⟨some 42, .minmax false [(.t 41), (.c (.int .i64 65))], none, none⟩,
      ⟨some 11, .mov (.t 42), none, none⟩])
  (.seq (.reg [⟨some 44, .mov (.t 7), none, none⟩,
      ⟨some 45, .mov (.t 11), none, none⟩,
      ⟨some 46, .call fid_bits_Reader_Take [(.t 44), (.t 45)], none, none⟩,
      ⟨some 43, .mov (.t 46), none, none⟩,
      ⟨some 47, .extract (.t 43) 0, none, none⟩,
      ⟨some 48, .extract (.t 43) 1, none, none⟩,
      ⟨some 12, .mov (.t 47), none, none⟩,
      ⟨some 13, .mov (.t 48), none, none⟩])
  (.seq (.seq (.reg [⟨some 49, .mov (.t 10), none, none⟩,
      ⟨some 50, .bin .lss (.t 49) (.c (.int .i64 64)), none, none⟩])
  (.cond (.t 50)
  (.seq (.reg [⟨some 52, .mov (.t 7), none, none⟩,
        ⟨some 53, .mov (.t 10), none, none⟩,
        ⟨some 54, .bin .add (.t 53) (.c (.int .i64 1)), none, none⟩,
        ⟨some 55, .call fid_bits_Reader_Take [(.t 52), (.t 54)], none, none⟩,
        ⟨some 51, .mov (.t 55), none, none⟩,
        ⟨some 56, .extract (.t 51) 0, none, none⟩,
        ⟨some 57, .extract (.t 51) 1, none, none⟩,
        ⟨some 14, .mov (.t 56), none, none⟩,
        ⟨some 15, .mov (.t 57), none, none⟩])
    (.seq (.reg [⟨some 58, .mov (.t 13), none, none⟩,
        ⟨some 59, .un .not (.t 58), none, none⟩,
        ⟨some 60, .mov (.t 59), none, none⟩,
        ⟨some 61, .mov (.t 12), (some (60, true)), none⟩,
        ⟨some 62, .bin .eql (.t 61) (.c (.int .u64 0)), (some (60, true)), none⟩,
        ⟨some 63, .pick (.t 60) (.t 62) (.c (.bool false)), none, none⟩,
        ⟨some 64, .mov (.t 63), none, none⟩,
        ⟨some 65, .mov (.t 15), (some (64, true)), none⟩,
        ⟨some 66, .un .not (.t 65), (some (64, true)), none⟩,
        ⟨some 67, .pick (.t 64) (.t 66) (.c (.bool false)), none, none⟩,
        ⟨some 68, .mov (.t 67), none, none⟩,
        ⟨some 69, .mov (.t 14), (some (68, true)), none⟩,
        ⟨some 70, .bin .eql (.t 69) (.c (.int .u64 0)), (some (68, true)), none⟩,
        ⟨some 71, .pick (.t 68) (.t 70) (.c (.bool false)), none, none⟩,
        ⟨some 72, .mov (.t 71), none, none⟩,
        ⟨some 73, .mov (.t 7), (some (72, true)), none⟩,
        ⟨some 74, .call fid_bits_Reader_Left [(.t 73)], (some (72, true)), none⟩,
        ⟨some 75, .mov (.t 10), (some (72, true)), none⟩,
        ⟨some 76, .bin .eql (.t 74) (.t 75), (some (72, true)), none⟩,
        ⟨some 77, .pick (.t 72) (.t 76) (.c (.bool false)), none, none⟩,
        ⟨some 78, .mov (.t 77), none, none⟩,
        ⟨some 79, .mov (.t 10), (some (78, true)), none⟩,
        ⟨some 80, .mov (.t 0), (some (78, true)), none⟩,
        ⟨some 81, .len .sl (.t 80), (some (78, true)), none⟩,
        ⟨some 82, .bin .mul (.c (.int .i64 8)) (.t 81), (some (78, true)), none⟩,
        ⟨some 83, .mov (.t 8), (some (78, true)), none⟩,
        ⟨some 84, .bin .sub (.t 82) (.t 83), (some (78, true)), none⟩,
        ⟨some 85, .bin .eql (.t 79) (.t 84), (some (78, true)), none⟩,
        ⟨some 86, .pick (.t 78) (.t 85) (.c (.bool false)), none, none⟩,
        ⟨some 6, .mov (.t 86), none, none⟩])
    (.ret)))
  (.skip)))
  (.seq (.reg [⟨some 88, .mov (.t 7), none, none⟩,
      ⟨some 89, .mov (.t 2), none, none⟩,
      ⟨some 90, .minmax true [(.t 89), (.c (.int .i64 0))], none, none⟩,
      ⟨some 91, .call fid_bits_Reader_Take [(.t 88), (.t 90)], none, none⟩,
      ⟨some 87, .mov (.t 91), none, none⟩,
      ⟨some 92, .extract (.t 87) 0, none, none⟩,
      ⟨some 93, .extract (.t 87) 1, none, none⟩,
      ⟨some 16, .mov (.t 92), none, none⟩,
      ⟨some 17, .mov (.t 93), none, none⟩])
  (.seq (.reg [⟨some 94, .mov (.t 13), none, none⟩,
      ⟨some 95, .mov (.t 94), none, none⟩,
      ⟨some 96, .mov (.t 7), (some (95, true)), none⟩,
      ⟨some 97, .call fid_bits_Reader_Left [(.t 96)], (some (95, true)), none⟩,
      ⟨some 98, .mov (.t 10), (some (95, true)), none⟩,
      ⟨some 99, .bin .sub (.t 98) (.c (.int .i64 64)), (some (95, true)), none⟩,
      ⟨some 100, .bin .eql (.t 97) (.t 99), (some (95, true)), none⟩,
      ⟨some 101, .pick (.t 95) (.t 100) (.c (.bool false)), none, none⟩,
      ⟨some 102, .mov (.t 101), none, none⟩,
      ⟨some 103, .mov (.t 17), (some (102, true)), none⟩,
      ⟨some 104, .pick (.t 102) (.t 103) (.c (.bool false)), none, none⟩,
      ⟨some 105, .mov (.t 104), none, none⟩,
      ⟨some 106, .mov (.t 16), (some (105, true)), none⟩,
      ⟨some 107, .bin .eql (.t 106) (.c (.int .u64 0)), (some (105, true)), none⟩,
      ⟨some 108, .pick (.t 105) (.t 107) (.c (.bool false)), none, none⟩,
      ⟨some 6, .mov (.t 108), none, none⟩])
  (.ret))))))))))))) }
end Go.Ab
