/- The functions as the abstract machine has them (printed by wip/irgen.py). -/
import Derived.Test.YtnikphikjkfooaaAbs1
namespace Go.Ab
open Go
def fid_archipelagolaw19_IndexTells : Nat := 3
def fid_archipelagolaw19_IndexReads : Nat := 4
def fid_archipelagolaw19_IndexFinds : Nat := 5
def fid_archipelagolaw19_IndexBursts : Nat := 6
def fid_archipelagolaw19_known : Nat := 7
def fid_archipelagolaw19_rows : Nat := 8
def fid_archipelagolaw19_bent : Nat := 9
def fid_index_Put : Nat := 10
def fid_archipelagoref18_RowsPut : Nat := 11
def fid_index_Right : Nat := 12
def fid_archipelagoref18_RowsRight : Nat := 13
def fid_index_Find : Nat := 14
def fid_archipelagoref18_Find : Nat := 15
def fid_index_Offset : Nat := 16
def fid_archipelagoref18_Offset : Nat := 17
def fid_archipelagoref18_Put : Nat := 18
def fid_archipelagoref1_Fixed : Nat := 19
def fid_archipelagoref1_Seal : Nat := 20
def fid_index_Read : Nat := 23
def fid_archipelagoref18_SameRows : Nat := 25
def fid_index_put : Nat := 27
def fid_crc_Seal : Nat := 28
def fid_sort_Search : Nat := 29
def fid_index_Find_1 : Nat := 30
def fid_archipelagoref18_Right : Nat := 31
def fid_archipelagoref1_Sum : Nat := 32
def fid_head_Blocks : Nat := 36
def fid_crc_Open : Nat := 37
def fid_index_take : Nat := 38
def fid_slices_Clone_byte_byte : Nat := 40
def fid_crc_Sum : Nat := 41
def fid_archipelagoref1_Next : Nat := 42
def fid_head_Right : Nat := 43
def fid_slices_Equal_byte_byte : Nat := 44
def fid_crc_step : Nat := 45
def index_Right_b0 : IC :=
  (.seq (.reg [⟨some 9, .bin .lss (.t 8) (.t 7), none, none⟩])
  (.seq (.cond (.t 9)
  (.skip)
  (.exit 0))
  (.seq (.block 1
  (.seq (.reg [⟨some 10, .iaddr 3 (.t 6) (.t 8), none, none⟩,
        ⟨some 11, .load 3 true (.t 10), none, none⟩,
        ⟨some 5, .box (.c (.agg [(.int .i64 0), (.int .i64 0), (.int .u32 0)])), none, none⟩,
        ⟨none, .store 3 (.t 5) (.t 11), none, none⟩])
    (.seq (.seq (.reg [⟨some 12, .faddr 0 (.t 5), none, none⟩,
        ⟨some 13, .load 1 false (.t 12), none, none⟩,
        ⟨some 14, .bin .lss (.t 13) (.c (.int .i64 1)), none, none⟩,
        ⟨some 15, .mov (.t 14), none, none⟩,
        ⟨some 16, .faddr 0 (.t 5), (some (15, false)), none⟩,
        ⟨some 17, .load 1 false (.t 16), (some (15, false)), none⟩,
        ⟨some 18, .bin .gtr (.t 17) (.c (.int .i64 4294967295)), (some (15, false)), none⟩,
        ⟨some 19, .pick (.t 15) (.c (.bool true)) (.t 18), none, none⟩,
        ⟨some 20, .mov (.t 19), none, none⟩,
        ⟨some 21, .faddr 1 (.t 5), (some (20, false)), none⟩,
        ⟨some 22, .load 1 false (.t 21), (some (20, false)), none⟩,
        ⟨some 23, .mov (.t 3), (some (20, false)), none⟩,
        ⟨some 24, .bin .lss (.t 22) (.t 23), (some (20, false)), none⟩,
        ⟨some 25, .pick (.t 20) (.c (.bool true)) (.t 24), none, none⟩,
        ⟨some 26, .mov (.t 25), none, none⟩,
        ⟨some 27, .faddr 1 (.t 5), (some (26, false)), none⟩,
        ⟨some 28, .load 1 false (.t 27), (some (26, false)), none⟩,
        ⟨some 29, .bin .gtr (.t 28) (.c (.int .i64 4611686018427387903)), (some (26, false)), none⟩,
        ⟨some 30, .pick (.t 26) (.c (.bool true)) (.t 29), none, none⟩])
    (.cond (.t 30)
    (.seq (.reg [⟨some 2, .mov (.c (.bool false)), none, none⟩])
      (.ret))
    (.skip)))
    (.reg [⟨some 31, .faddr 1 (.t 5), none, none⟩,
        ⟨some 32, .load 1 false (.t 31), none, none⟩,
        ⟨some 3, .mov (.t 32), none, none⟩]))))
  (.reg [⟨some 33, .bin .add (.t 8) (.c (.int .i64 1)), none, none⟩,
      ⟨some 8, .mov (.t 33), none, none⟩]))))
def ir_index_Right : IFn :=
  { params := 1, results := [.tmp 2], body :=
  (.seq (.reg [⟨some 2, .mov (.c (.bool false)), none, none⟩])
  (.seq (.reg [⟨some 3, .mov (.c (.int .i64 0)), none, none⟩])
  (.seq (.seq (.reg [⟨some 6, .mov (.t 0), none, none⟩,
      ⟨some 7, .len .sl (.t 6), none, none⟩,
      ⟨some 8, .mov (.c (.int .i64 0)), none, none⟩])
  (.block 0
  (.loop [3, 6, 7, 8] index_Right_b0)))
  (.seq (.reg [⟨some 2, .mov (.c (.bool true)), none, none⟩])
  (.ret))))) }
def index_put_b0 : IC :=
  (.seq (.reg [⟨some 8, .bin .lss (.t 7) (.t 6), none, none⟩])
  (.seq (.cond (.t 8)
  (.skip)
  (.exit 0))
  (.seq (.block 1
  (.seq (.reg [⟨some 9, .mov (.t 5), none, none⟩,
        ⟨some 10, .mov (.t 0), none, none⟩,
        ⟨some 11, .conv .u8 (.t 10), none, none⟩,
        ⟨some 12, .mkrow 1 1 [(.int .u8 0)] [(0, (.t 11))], none, none⟩,
        ⟨some 13, .append 1 1 (.t 9) (.t 12), none, none⟩,
        ⟨some 5, .mov (.t 13), none, none⟩])
    (.reg [⟨some 14, .mov (.t 0), none, none⟩,
        ⟨some 15, .bin .shr (.t 14) (.c (.int .u64 8)), none, none⟩,
        ⟨some 0, .mov (.t 15), none, none⟩])))
  (.reg [⟨some 16, .bin .add (.t 7) (.c (.int .i64 1)), none, none⟩,
      ⟨some 7, .mov (.t 16), none, none⟩]))))
def ir_index_put : IFn :=
  { params := 2, results := [.tmp 4], body :=
  (.seq (.reg [⟨some 4, .mov (.c .nils), none, none⟩])
  (.seq (.reg [⟨some 5, .mov (.c .nils), none, none⟩])
  (.seq (.seq (.reg [⟨some 6, .mov (.t 1), none, none⟩,
      ⟨some 7, .mov (.c (.int .i64 0)), none, none⟩])
  (.block 0
  (.loop [0, 5, 6, 7] index_put_b0)))
  (.seq (.reg [⟨some 17, .mov (.t 5), none, none⟩,
      ⟨some 4, .mov (.t 17), none, none⟩])
  (.ret))))) }
def ir_slices_Clone_byte_byte : IFn :=
  { params := 1, results := [.tmp 2], body :=
  (.seq (.reg [⟨some 2, .mov (.c .nils), none, none⟩])
  (.seq (.seq (.reg [⟨some 3, .mov (.t 0), none, none⟩,
      ⟨some 4, .eq .slice false (.t 3) (.c .nils), none, none⟩])
  (.cond (.t 4)
  (.seq (.reg [⟨some 2, .mov (.c .nils), none, none⟩])
    (.ret))
  (.skip)))
  (.seq (.reg [⟨some 5, .mkrow 1 0 [(.int .u8 0)] [], none, none⟩,
      ⟨some 6, .mov (.t 0), none, none⟩,
      ⟨some 7, .append 1 1 (.t 5) (.t 6), none, none⟩,
      ⟨some 2, .mov (.t 7), none, none⟩])
  (.ret)))) }
def crc_step_b0 : IC :=
  (.seq (.reg [⟨some 10, .bin .lss (.t 9) (.c (.int .i64 8)), none, none⟩])
  (.seq (.cond (.t 10)
  (.skip)
  (.exit 0))
  (.seq (.block 1
  (.seq (.reg [⟨some 11, .mov (.t 0), none, none⟩,
        ⟨some 12, .bin .and (.t 11) (.c (.int .u32 1)), none, none⟩,
        ⟨some 13, .bin .eql (.t 12) (.c (.int .u32 1)), none, none⟩])
    (.cond (.t 13)
    (.reg [⟨some 14, .mov (.t 0), none, none⟩,
          ⟨some 15, .bin .shr (.t 14) (.c (.int .u64 1)), none, none⟩,
          ⟨some 16, .bin .xor (.t 15) (.c (.int .u32 3988292384)), none, none⟩,
          ⟨some 0, .mov (.t 16), none, none⟩])
    (.reg [⟨some 17, .mov (.t 0), none, none⟩,
          ⟨some 18, .bin .shr (.t 17) (.c (.int .u64 1)), none, none⟩,
          ⟨some 0, .mov (.t 18), none, none⟩]))))
  (.reg [⟨some 19, .bin .add (.t 9) (.c (.int .i64 1)), none, none⟩,
      ⟨some 9, .mov (.t 19), none, none⟩]))))
def ir_crc_step : IFn :=
  { params := 2, results := [.tmp 4], body :=
  (.seq (.reg [⟨some 4, .mov (.c (.int .u32 0)), none, none⟩])
  (.seq (.reg [⟨some 5, .mov (.t 0), none, none⟩,
      ⟨some 6, .mov (.t 1), none, none⟩,
      ⟨some 7, .conv .u32 (.t 6), none, none⟩,
      ⟨some 8, .bin .xor (.t 5) (.t 7), none, none⟩,
      ⟨some 0, .mov (.t 8), none, none⟩])
  (.seq (.seq (.reg [⟨some 9, .mov (.c (.int .i64 0)), none, none⟩])
  (.block 0
  (.loop [0, 9] crc_step_b0)))
  (.seq (.reg [⟨some 20, .mov (.t 0), none, none⟩,
      ⟨some 4, .mov (.t 20), none, none⟩])
  (.ret))))) }
def crc_Sum_b0 : IC :=
  (.seq (.reg [⟨some 17, .bin .lss (.t 16) (.t 15), none, none⟩])
  (.seq (.cond (.t 17)
  (.skip)
  (.exit 2))
  (.seq (.block 3
  (.seq (.reg [⟨some 18, .iaddr 1 (.t 14) (.t 16), none, none⟩,
        ⟨some 19, .load 1 false (.t 18), none, none⟩,
        ⟨some 7, .mov (.t 19), none, none⟩])
    (.reg [⟨some 20, .mov (.t 3), none, none⟩,
        ⟨some 21, .mov (.t 7), none, none⟩,
        ⟨some 22, .call fid_crc_step [(.t 20), (.t 21)], none, none⟩,
        ⟨some 3, .mov (.t 22), none, none⟩])))
  (.reg [⟨some 23, .bin .add (.t 16) (.c (.int .i64 1)), none, none⟩,
      ⟨some 16, .mov (.t 23), none, none⟩]))))
def crc_Sum_b1 : IC :=
  (.seq (.reg [⟨some 11, .bin .lss (.t 10) (.t 9), none, none⟩])
  (.seq (.cond (.t 11)
  (.skip)
  (.exit 0))
  (.seq (.block 1
  (.seq (.reg [⟨some 12, .iaddr 1 (.t 8) (.t 10), none, none⟩,
        ⟨some 13, .load 1 false (.t 12), none, none⟩,
        ⟨some 5, .mov (.t 13), none, none⟩])
    (.seq (.reg [⟨some 14, .mov (.t 5), none, none⟩,
        ⟨some 15, .len .sl (.t 14), none, none⟩,
        ⟨some 16, .mov (.c (.int .i64 0)), none, none⟩])
    (.block 2
    (.loop [3, 8, 9, 10, 14, 15, 16] crc_Sum_b0)))))
  (.reg [⟨some 24, .bin .add (.t 10) (.c (.int .i64 1)), none, none⟩,
      ⟨some 10, .mov (.t 24), none, none⟩]))))
def ir_crc_Sum : IFn :=
  { params := 1, results := [.tmp 2], body :=
  (.seq (.reg [⟨some 2, .mov (.c (.int .u32 0)), none, none⟩])
  (.seq (.reg [⟨some 3, .mov (.c (.int .u32 4294967295)), none, none⟩])
  (.seq (.seq (.reg [⟨some 8, .mov (.t 0), none, none⟩,
      ⟨some 9, .len .sl (.t 8), none, none⟩,
      ⟨some 10, .mov (.c (.int .i64 0)), none, none⟩])
  (.block 0
  (.loop [3, 8, 9, 10] crc_Sum_b1)))
  (.seq (.reg [⟨some 25, .mov (.t 3), none, none⟩,
      ⟨some 26, .un .xor (.t 25), none, none⟩,
      ⟨some 2, .mov (.t 26), none, none⟩])
  (.ret))))) }
def crc_Seal_b0 : IC :=
  (.seq (.reg [⟨some 11, .bin .lss (.t 10) (.c (.int .i64 4)), none, none⟩])
  (.seq (.cond (.t 11)
  (.skip)
  (.exit 0))
  (.seq (.block 1
  (.seq (.reg [⟨some 12, .mov (.t 3), none, none⟩,
        ⟨some 13, .mov (.t 4), none, none⟩,
        ⟨some 14, .conv .u8 (.t 13), none, none⟩,
        ⟨some 15, .mkrow 1 1 [(.int .u8 0)] [(0, (.t 14))], none, none⟩,
        ⟨some 16, .append 1 1 (.t 12) (.t 15), none, none⟩,
        ⟨some 3, .mov (.t 16), none, none⟩])
    (.reg [⟨some 17, .mov (.t 4), none, none⟩,
        ⟨some 18, .bin .shr (.t 17) (.c (.int .u64 8)), none, none⟩,
        ⟨some 4, .mov (.t 18), none, none⟩])))
  (.reg [⟨some 19, .bin .add (.t 10) (.c (.int .i64 1)), none, none⟩,
      ⟨some 10, .mov (.t 19), none, none⟩]))))
def ir_crc_Seal : IFn :=
  { params := 1, results := [.tmp 2], body :=
  (.seq (.reg [⟨some 2, .mov (.c .nils), none, none⟩])
  (.seq (.reg [⟨some 5, .mov (.t 0), none, none⟩,
      ⟨some 6, .call fid_slices_Clone_byte_byte [(.t 5)], none, none⟩,
      ⟨some 7, .mov (.t 0), none, none⟩,
      ⟨some 8, .mkrow 1 1 [.nils] [(0, (.t 7))], none, none⟩,
      ⟨some 9, .call fid_crc_Sum [(.t 8)], none, none⟩,
      ⟨some 3, .mov (.t 6), none, none⟩,
      ⟨some 4, .mov (.t 9), none, none⟩])
  (.seq (.seq (.reg [⟨some 10, .mov (.c (.int .i64 0)), none, none⟩])
  (.block 0
  (.loop [3, 4, 10] crc_Seal_b0)))
  (.seq (.reg [⟨some 20, .mov (.t 3), none, none⟩,
      ⟨some 2, .mov (.t 20), none, none⟩])
  (.ret))))) }
def index_Put_b0 : IC :=
  (.seq (.reg [⟨some 13, .bin .lss (.t 12) (.t 11), none, none⟩])
  (.seq (.cond (.t 13)
  (.skip)
  (.exit 0))
  (.seq (.block 1
  (.seq (.reg [⟨some 14, .iaddr 3 (.t 10) (.t 12), none, none⟩,
        ⟨some 15, .load 3 true (.t 14), none, none⟩,
        ⟨some 6, .box (.c (.agg [(.int .i64 0), (.int .i64 0), (.int .u32 0)])), none, none⟩,
        ⟨none, .store 3 (.t 6) (.t 15), none, none⟩])
    (.seq (.reg [⟨some 16, .mov (.t 4), none, none⟩,
        ⟨some 17, .faddr 0 (.t 6), none, none⟩,
        ⟨some 18, .load 1 false (.t 17), none, none⟩,
        ⟨some 19, .conv .u64 (.t 18), none, none⟩,
        ⟨some 20, .call fid_index_put [(.t 19), (.c (.int .i64 4))], none, none⟩,
        ⟨some 21, .append 1 1 (.t 16) (.t 20), none, none⟩,
        ⟨some 4, .mov (.t 21), none, none⟩])
    (.seq (.reg [⟨some 22, .mov (.t 4), none, none⟩,
        ⟨some 23, .faddr 1 (.t 6), none, none⟩,
        ⟨some 24, .load 1 false (.t 23), none, none⟩,
        ⟨some 25, .conv .u64 (.t 24), none, none⟩,
        ⟨some 26, .call fid_index_put [(.t 25), (.c (.int .i64 8))], none, none⟩,
        ⟨some 27, .append 1 1 (.t 22) (.t 26), none, none⟩,
        ⟨some 4, .mov (.t 27), none, none⟩])
    (.reg [⟨some 28, .mov (.t 4), none, none⟩,
        ⟨some 29, .faddr 2 (.t 6), none, none⟩,
        ⟨some 30, .load 1 false (.t 29), none, none⟩,
        ⟨some 31, .conv .u64 (.t 30), none, none⟩,
        ⟨some 32, .call fid_index_put [(.t 31), (.c (.int .i64 4))], none, none⟩,
        ⟨some 33, .append 1 1 (.t 28) (.t 32), none, none⟩,
        ⟨some 4, .mov (.t 33), none, none⟩])))))
  (.reg [⟨some 34, .bin .add (.t 12) (.c (.int .i64 1)), none, none⟩,
      ⟨some 12, .mov (.t 34), none, none⟩]))))
def ir_index_Put : IFn :=
  { params := 1, results := [.tmp 2, .tmp 3], body :=
  (.seq (.reg [⟨some 2, .mov (.c .nils), none, none⟩,
      ⟨some 3, .mov (.c (.bool false)), none, none⟩])
  (.seq (.seq (.reg [⟨some 7, .mov (.t 0), none, none⟩,
      ⟨some 8, .call fid_index_Right [(.t 7)], none, none⟩,
      ⟨some 9, .un .not (.t 8), none, none⟩])
  (.cond (.t 9)
  (.seq (.reg [⟨some 2, .mov (.c .nils), none, none⟩,
        ⟨some 3, .mov (.c (.bool false)), none, none⟩])
    (.ret))
  (.skip)))
  (.seq (.reg [⟨some 4, .mov (.c .nils), none, none⟩])
  (.seq (.seq (.reg [⟨some 10, .mov (.t 0), none, none⟩,
      ⟨some 11, .len .sl (.t 10), none, none⟩,
      ⟨some 12, .mov (.c (.int .i64 0)), none, none⟩])
  (.block 0
  (.loop [4, 10, 11, 12] index_Put_b0)))
  (.seq (.reg [⟨some 35, .mov (.t 4), none, none⟩,
      ⟨some 36, .append 1 1 (.t 35) (.c (.str [88, 71, 84, 49])), none, none⟩,
      ⟨some 37, .call fid_crc_Seal [(.t 36)], none, none⟩,
      ⟨some 2, .mov (.t 37), none, none⟩,
      ⟨some 3, .mov (.c (.bool true)), none, none⟩])
  (.ret)))))) }
def sort_Search_b0 : IC :=
  (.seq (.seq (.reg [⟨some 9, .mov (.t 5), none, none⟩,
      ⟨some 10, .mov (.t 6), none, none⟩,
      ⟨some 11, .bin .lss (.t 9) (.t 10), none, none⟩])
  (.cond (.t 11)
  (.skip)
  (.exit 0)))
  (.block 1
  (.seq (.reg [⟨some 12, .mov (.t 5), none, none⟩,
        ⟨some 13, .mov (.t 6), none, none⟩,
        ⟨some 14, .bin .add (.t 12) (.t 13), none, none⟩,
        ⟨some 15, .conv .u64 (.t 14), none, none⟩,
        ⟨some 16, .bin .shr (.t 15) (.c (.int .u64 1)), none, none⟩,
        ⟨some 17, .conv .i64 (.t 16), none, none⟩,
        ⟨some 7, .mov (.t 17), none, none⟩])
    (.seq (.reg [⟨some 18, .mov (.t 1), none, none⟩,
        ⟨some 19, .mov (.t 7), none, none⟩,
        ⟨some 20, .callv (.t 18) [(.t 19)], none, none⟩,
        ⟨some 21, .un .not (.t 20), none, none⟩])
    (.cond (.t 21)
    (.reg [⟨some 22, .mov (.t 7), none, none⟩,
          ⟨some 23, .bin .add (.t 22) (.c (.int .i64 1)), none, none⟩,
          ⟨some 5, .mov (.t 23), none, none⟩])
    (.reg [⟨some 24, .mov (.t 7), none, none⟩,
          ⟨some 6, .mov (.t 24), none, none⟩]))))))
def ir_sort_Search : IFn :=
  { params := 2, results := [.tmp 4], body :=
  (.seq (.reg [⟨some 4, .mov (.c (.int .i64 0)), none, none⟩])
  (.seq (.reg [⟨some 8, .mov (.t 0), none, none⟩,
      ⟨some 5, .mov (.c (.int .i64 0)), none, none⟩,
      ⟨some 6, .mov (.t 8), none, none⟩])
  (.seq (.block 0
  (.loop [1, 5, 6] sort_Search_b0))
  (.seq (.reg [⟨some 25, .mov (.t 5), none, none⟩,
      ⟨some 4, .mov (.t 25), none, none⟩])
  (.ret))))) }
def ir_index_Find_1 : IFn :=
  { params := 3, results := [.tmp 4], body :=
  (.seq (.reg [⟨some 4, .mov (.c (.bool false)), none, none⟩])
  (.seq (.regD [0, 1, 2, 3, 4, 5, 6, 7] [⟨some 5, .load 1 false (.t 1), none, none⟩,
      ⟨some 6, .mov (.t 0), none, none⟩,
      ⟨some 7, .iaddr 3 (.t 5) (.t 6), none, none⟩,
      ⟨some 8, .faddr 1 (.t 7), none, none⟩,
      ⟨some 9, .load 1 false (.t 8), none, none⟩,
      ⟨some 10, .load 1 false (.t 2), none, none⟩,
      ⟨some 11, .bin .gtr (.t 9) (.t 10), none, none⟩,
      ⟨some 4, .mov (.t 11), none, none⟩])
  (.ret))) }
def ir_index_Find : IFn :=
  { params := 2, results := [.tmp 4], body :=
  (.seq (.reg [⟨some 2, .box (.t 0), none, none⟩,
      ⟨some 3, .box (.t 1), none, none⟩,
      ⟨some 4, .mov (.c (.int .i64 0)), none, none⟩])
  (.seq (.seq (.reg [⟨some 5, .load 1 false (.t 2), none, none⟩,
      ⟨some 6, .call fid_index_Right [(.t 5)], none, none⟩,
      ⟨some 7, .un .not (.t 6), none, none⟩])
  (.cond (.t 7)
  (.seq (.reg [⟨some 4, .mov (.c (.int .i64 (-1))), none, none⟩])
    (.ret))
  (.skip)))
  (.seq (.reg [⟨some 8, .load 1 false (.t 2), none, none⟩,
      ⟨some 9, .len .sl (.t 8), none, none⟩,
      ⟨some 10, .mkfn (.func fid_index_Find_1) [] [(.t 2), (.t 3)], none, none⟩,
      ⟨some 11, .call fid_sort_Search [(.t 9), (.t 10)], none, none⟩,
      ⟨some 12, .bin .sub (.t 11) (.c (.int .i64 1)), none, none⟩,
      ⟨some 4, .mov (.t 12), none, none⟩])
  (.ret)))) }
def index_Offset_b0 : IC :=
  (.seq (.reg [⟨some 26, .bin .lss (.t 25) (.t 24), none, none⟩])
  (.seq (.cond (.t 26)
  (.skip)
  (.exit 0))
  (.seq (.block 1
  (.seq (.reg [⟨some 27, .iaddr 3 (.t 23) (.t 25), none, none⟩,
        ⟨some 28, .load 3 true (.t 27), none, none⟩,
        ⟨some 7, .box (.c (.agg [(.int .i64 0), (.int .i64 0), (.int .u32 0)])), none, none⟩,
        ⟨none, .store 3 (.t 7) (.t 28), none, none⟩])
    (.reg [⟨some 29, .mov (.t 5), none, none⟩,
        ⟨some 30, .faddr 0 (.t 7), none, none⟩,
        ⟨some 31, .load 1 false (.t 30), none, none⟩,
        ⟨some 32, .bin .add (.t 29) (.t 31), none, none⟩,
        ⟨some 5, .mov (.t 32), none, none⟩])))
  (.reg [⟨some 33, .bin .add (.t 25) (.c (.int .i64 1)), none, none⟩,
      ⟨some 25, .mov (.t 33), none, none⟩]))))
def ir_index_Offset : IFn :=
  { params := 2, results := [.tmp 4], body :=
  (.seq (.reg [⟨some 4, .mov (.c (.int .i64 0)), none, none⟩])
  (.seq (.seq (.reg [⟨some 8, .mov (.t 1), none, none⟩,
      ⟨some 9, .bin .lss (.t 8) (.c (.int .i64 0)), none, none⟩,
      ⟨some 10, .mov (.t 9), none, none⟩,
      ⟨some 11, .mov (.t 1), (some (10, false)), none⟩,
      ⟨some 12, .mov (.t 0), (some (10, false)), none⟩,
      ⟨some 13, .len .sl (.t 12), (some (10, false)), none⟩,
      ⟨some 14, .bin .geq (.t 11) (.t 13), (some (10, false)), none⟩,
      ⟨some 15, .pick (.t 10) (.c (.bool true)) (.t 14), none, none⟩,
      ⟨some 16, .mov (.t 15), none, none⟩,
      ⟨some 17, .mov (.t 0), (some (16, false)), none⟩,
      ⟨some 18, .call fid_index_Right [(.t 17)], (some (16, false)), none⟩,
      ⟨some 19, .un .not (.t 18), (some (16, false)), none⟩,
      ⟨some 20, .pick (.t 16) (.c (.bool true)) (.t 19), none, none⟩])
  (.cond (.t 20)
  (.seq (.reg [⟨some 4, .mov (.c (.int .i64 0)), none, none⟩])
    (.ret))
  (.skip)))
  (.seq (.reg [⟨some 5, .mov (.c (.int .i64 24)), none, none⟩])
  (.seq (.seq (.reg [⟨some 21, .mov (.t 0), none, none⟩,
      ⟨some 22, .mov (.t 1), none, none⟩,
      ⟨some 23, .slice false 3 (.t 21) none (some (.t 22)) none, none, none⟩,
      ⟨some 24, .len .sl (.t 23), none, none⟩,
      ⟨some 25, .mov (.c (.int .i64 0)), none, none⟩])
  (.block 0
  (.loop [5, 23, 24, 25] index_Offset_b0)))
  (.seq (.reg [⟨some 34, .mov (.t 5), none, none⟩,
      ⟨some 4, .mov (.t 34), none, none⟩])
  (.ret)))))) }
def archipelagoref1_Fixed_b0 : IC :=
  (.seq (.seq (.reg [⟨some 7, .mov (.t 6), none, none⟩,
      ⟨some 8, .mov (.t 1), none, none⟩,
      ⟨some 9, .bin .lss (.t 7) (.t 8), none, none⟩])
  (.cond (.t 9)
  (.skip)
  (.exit 0)))
  (.seq (.block 1
  (.reg [⟨some 12, .mov (.t 5), none, none⟩,
        ⟨some 13, .mov (.t 0), none, none⟩,
        ⟨some 14, .mov (.t 6), none, none⟩,
        ⟨some 15, .bin .mul (.c (.int .i64 8)) (.t 14), none, none⟩,
        ⟨some 16, .bin .shr (.t 13) (.t 15), none, none⟩,
        ⟨some 17, .conv .u8 (.t 16), none, none⟩,
        ⟨some 18, .mkrow 1 1 [(.int .u8 0)] [(0, (.t 17))], none, none⟩,
        ⟨some 19, .append 1 1 (.t 12) (.t 18), none, none⟩,
        ⟨some 5, .mov (.t 19), none, none⟩]))
  (.reg [⟨some 10, .mov (.t 6), none, none⟩,
      ⟨some 11, .bin .add (.t 10) (.c (.int .i64 1)), none, none⟩,
      ⟨some 6, .mov (.t 11), none, none⟩])))
def ir_archipelagoref1_Fixed : IFn :=
  { params := 2, results := [.tmp 4], body :=
  (.seq (.reg [⟨some 4, .mov (.c .nils), none, none⟩])
  (.seq (.reg [⟨some 5, .mov (.c .nils), none, none⟩])
  (.seq (.seq (.reg [⟨some 6, .mov (.c (.int .i64 0)), none, none⟩])
  (.block 0
  (.loop [0, 1, 5, 6] archipelagoref1_Fixed_b0)))
  (.seq (.reg [⟨some 20, .mov (.t 5), none, none⟩,
      ⟨some 4, .mov (.t 20), none, none⟩])
  (.ret))))) }
def archipelagoref1_Next_b0 : IC :=
  (.seq (.seq (.reg [⟨some 12, .mov (.t 6), none, none⟩,
      ⟨some 13, .bin .lss (.t 12) (.c (.int .i64 8)), none, none⟩])
  (.cond (.t 13)
  (.skip)
  (.exit 0)))
  (.seq (.block 1
  (.seq (.reg [⟨some 16, .mov (.t 5), none, none⟩,
        ⟨some 17, .bin .and (.t 16) (.c (.int .u32 1)), none, none⟩,
        ⟨some 18, .bin .eql (.t 17) (.c (.int .u32 1)), none, none⟩])
    (.cond (.t 18)
    (.reg [⟨some 19, .mov (.t 5), none, none⟩,
          ⟨some 20, .bin .shr (.t 19) (.c (.int .u64 1)), none, none⟩,
          ⟨some 21, .bin .xor (.t 20) (.c (.int .u32 3988292384)), none, none⟩,
          ⟨some 5, .mov (.t 21), none, none⟩])
    (.reg [⟨some 22, .mov (.t 5), none, none⟩,
          ⟨some 23, .bin .shr (.t 22) (.c (.int .u64 1)), none, none⟩,
          ⟨some 5, .mov (.t 23), none, none⟩]))))
  (.reg [⟨some 14, .mov (.t 6), none, none⟩,
      ⟨some 15, .bin .add (.t 14) (.c (.int .i64 1)), none, none⟩,
      ⟨some 6, .mov (.t 15), none, none⟩])))
def ir_archipelagoref1_Next : IFn :=
  { params := 2, results := [.tmp 4], body :=
  (.seq (.reg [⟨some 4, .mov (.c (.int .u32 0)), none, none⟩])
  (.seq (.reg [⟨some 7, .mov (.t 0), none, none⟩,
      ⟨some 8, .un .xor (.t 7), none, none⟩,
      ⟨some 9, .mov (.t 1), none, none⟩,
      ⟨some 10, .conv .u32 (.t 9), none, none⟩,
      ⟨some 11, .bin .xor (.t 8) (.t 10), none, none⟩,
      ⟨some 5, .mov (.t 11), none, none⟩])
  (.seq (.seq (.reg [⟨some 6, .mov (.c (.int .i64 0)), none, none⟩])
  (.block 0
  (.loop [5, 6] archipelagoref1_Next_b0)))
  (.seq (.reg [⟨some 24, .mov (.t 5), none, none⟩,
      ⟨some 25, .un .xor (.t 24), none, none⟩,
      ⟨some 4, .mov (.t 25), none, none⟩])
  (.ret))))) }
def archipelagoref1_Sum_b0 : IC :=
  (.seq (.seq (.reg [⟨some 12, .mov (.t 5), none, none⟩,
      ⟨some 13, .mov (.t 0), none, none⟩,
      ⟨some 14, .mov (.t 4), none, none⟩,
      ⟨some 15, .iaddr 1 (.t 13) (.t 14), none, none⟩,
      ⟨some 16, .load 1 false (.t 15), none, none⟩,
      ⟨some 17, .len .sl (.t 16), none, none⟩,
      ⟨some 18, .bin .lss (.t 12) (.t 17), none, none⟩])
  (.cond (.t 18)
  (.skip)
  (.exit 2)))
  (.seq (.block 3
  (.reg [⟨some 21, .mov (.t 3), none, none⟩,
        ⟨some 22, .mov (.t 0), none, none⟩,
        ⟨some 23, .mov (.t 4), none, none⟩,
        ⟨some 24, .iaddr 1 (.t 22) (.t 23), none, none⟩,
        ⟨some 25, .load 1 false (.t 24), none, none⟩,
        ⟨some 26, .mov (.t 5), none, none⟩,
        ⟨some 27, .iaddr 1 (.t 25) (.t 26), none, none⟩,
        ⟨some 28, .load 1 false (.t 27), none, none⟩,
        ⟨some 29, .call fid_archipelagoref1_Next [(.t 21), (.t 28)], none, none⟩,
        ⟨some 3, .mov (.t 29), none, none⟩]))
  (.reg [⟨some 19, .mov (.t 5), none, none⟩,
      ⟨some 20, .bin .add (.t 19) (.c (.int .i64 1)), none, none⟩,
      ⟨some 5, .mov (.t 20), none, none⟩])))
def archipelagoref1_Sum_b1 : IC :=
  (.seq (.seq (.reg [⟨some 6, .mov (.t 4), none, none⟩,
      ⟨some 7, .mov (.t 0), none, none⟩,
      ⟨some 8, .len .sl (.t 7), none, none⟩,
      ⟨some 9, .bin .lss (.t 6) (.t 8), none, none⟩])
  (.cond (.t 9)
  (.skip)
  (.exit 0)))
  (.seq (.block 1
  (.seq (.reg [⟨some 5, .mov (.c (.int .i64 0)), none, none⟩])
    (.block 2
    (.loop [0, 3, 4, 5] archipelagoref1_Sum_b0))))
  (.reg [⟨some 10, .mov (.t 4), none, none⟩,
      ⟨some 11, .bin .add (.t 10) (.c (.int .i64 1)), none, none⟩,
      ⟨some 4, .mov (.t 11), none, none⟩])))
def ir_archipelagoref1_Sum : IFn :=
  { params := 1, results := [.tmp 2], body :=
  (.seq (.reg [⟨some 2, .mov (.c (.int .u32 0)), none, none⟩])
  (.seq (.reg [⟨some 3, .mov (.c (.int .u32 0)), none, none⟩])
  (.seq (.seq (.reg [⟨some 4, .mov (.c (.int .i64 0)), none, none⟩])
  (.block 0
  (.loop [0, 3, 4] archipelagoref1_Sum_b1)))
  (.seq (.reg [⟨some 30, .mov (.t 3), none, none⟩,
      ⟨some 2, .mov (.t 30), none, none⟩])
  (.ret))))) }
def ir_archipelagoref1_Seal : IFn :=
  { params := 1, results := [.tmp 2], body :=
  (.seq (.reg [⟨some 2, .mov (.c .nils), none, none⟩])
  (.seq (.reg [⟨some 3, .mov (.t 0), none, none⟩,
      ⟨some 4, .append 1 1 (.c .nils) (.t 3), none, none⟩,
      ⟨some 5, .mov (.t 0), none, none⟩,
      ⟨some 6, .mkrow 1 1 [.nils] [(0, (.t 5))], none, none⟩,
      ⟨some 7, .call fid_archipelagoref1_Sum [(.t 6)], none, none⟩,
      ⟨some 8, .conv .u64 (.t 7), none, none⟩,
      ⟨some 9, .call fid_archipelagoref1_Fixed [(.t 8), (.c (.int .i64 4))], none, none⟩,
      ⟨some 10, .append 1 1 (.t 4) (.t 9), none, none⟩,
      ⟨some 2, .mov (.t 10), none, none⟩])
  (.ret))) }
def ir_archipelagoref18_Right : IFn :=
  { params := 1, results := [.tmp 2], body :=
  (.seq (.reg [⟨some 1, .box (.t 0), none, none⟩,
      ⟨some 2, .mov (.c (.bool false)), none, none⟩])
  (.seq (.reg [⟨some 3, .faddr 0 (.t 1), none, none⟩,
      ⟨some 4, .load 1 false (.t 3), none, none⟩,
      ⟨some 5, .bin .leq (.t 4) (.c (.int .u64 4294967296)), none, none⟩,
      ⟨some 6, .mov (.t 5), none, none⟩,
      ⟨some 7, .faddr 1 (.t 1), (some (6, true)), none⟩,
      ⟨some 8, .load 1 false (.t 7), (some (6, true)), none⟩,
      ⟨some 9, .bin .geq (.t 8) (.c (.int .i64 1)), (some (6, true)), none⟩,
      ⟨some 10, .pick (.t 6) (.t 9) (.c (.bool false)), none, none⟩,
      ⟨some 11, .mov (.t 10), none, none⟩,
      ⟨some 12, .faddr 1 (.t 1), (some (11, true)), none⟩,
      ⟨some 13, .load 1 false (.t 12), (some (11, true)), none⟩,
      ⟨some 14, .bin .leq (.t 13) (.c (.int .i64 1048576)), (some (11, true)), none⟩,
      ⟨some 15, .pick (.t 11) (.t 14) (.c (.bool false)), none, none⟩,
      ⟨some 16, .mov (.t 15), none, none⟩,
      ⟨some 17, .faddr 2 (.t 1), (some (16, true)), none⟩,
      ⟨some 18, .load 1 false (.t 17), (some (16, true)), none⟩,
      ⟨some 19, .bin .geq (.t 18) (.c (.int .i64 0)), (some (16, true)), none⟩,
      ⟨some 20, .pick (.t 16) (.t 19) (.c (.bool false)), none, none⟩,
      ⟨some 21, .mov (.t 20), none, none⟩,
      ⟨some 22, .faddr 2 (.t 1), (some (21, true)), none⟩,
      ⟨some 23, .load 1 false (.t 22), (some (21, true)), none⟩,
      ⟨some 24, .bin .leq (.t 23) (.c (.int .i64 2147483648)), (some (21, true)), none⟩,
      ⟨some 25, .pick (.t 21) (.t 24) (.c (.bool false)), none, none⟩,
      ⟨some 2, .mov (.t 25), none, none⟩])
  (.ret))) }
def ir_archipelagoref18_Put : IFn :=
  { params := 1, results := [.tmp 2], body :=
  (.seq (.reg [⟨some 1, .box (.t 0), none, none⟩,
      ⟨some 2, .mov (.c .nils), none, none⟩])
  (.seq (.seq (.reg [⟨some 4, .load 3 true (.t 1), none, none⟩,
      ⟨some 5, .call fid_archipelagoref18_Right [(.t 4)], none, none⟩,
      ⟨some 6, .un .not (.t 5), none, none⟩])
  (.cond (.t 6)
  (.seq (.reg [⟨some 2, .mov (.c .nils), none, none⟩])
    (.ret))
  (.skip)))
  (.seq (.reg [⟨some 7, .mkrow 1 4 [(.int .u8 0)] [(0, (.c (.int .u8 84))), (1, (.c (.int .u8 71))), (2, (.c (.int .u8 88))), (3, (.c (.int .u8 49)))], none, none⟩,
      ⟨some 8, .cvs (.t 7), none, none⟩,
      ⟨some 9, .faddr 0 (.t 1), none, none⟩,
      ⟨some 10, .load 1 false (.t 9), none, none⟩,
      ⟨some 11, .call fid_archipelagoref1_Fixed [(.t 10), (.c (.int .i64 8))], none, none⟩,
      ⟨some 12, .append 1 1 (.t 8) (.t 11), none, none⟩,
      ⟨some 3, .mov (.t 12), none, none⟩])
  (.seq (.regD [1, 2, 3, 4, 0, 5, 6, 7, 8, 9, 10, 11] [⟨some 14, .faddr 1 (.t 1), none, none⟩,
      ⟨some 15, .load 1 false (.t 14), none, none⟩,
      ⟨some 16, .conv .u64 (.t 15), none, none⟩,
      ⟨some 17, .call fid_archipelagoref1_Fixed [(.t 16), (.c (.int .i64 4))], none, none⟩,
      ⟨some 13, .mov (.t 3), none, none⟩,
      ⟨some 18, .append 1 1 (.t 13) (.t 17), none, none⟩,
      ⟨some 19, .faddr 2 (.t 1), none, none⟩,
      ⟨some 20, .load 1 false (.t 19), none, some (0, 2)⟩,
      ⟨some 21, .conv .u64 (.t 20), none, none⟩,
      ⟨some 22, .call fid_archipelagoref1_Fixed [(.t 21), (.c (.int .i64 4))], none, none⟩,
      ⟨some 23, .append 1 1 (.t 18) (.t 22), none, none⟩,
      ⟨some 3, .mov (.t 23), none, none⟩])
  (.seq (.reg [⟨some 24, .mov (.t 3), none, none⟩,
      ⟨some 25, .call fid_archipelagoref1_Seal [(.t 24)], none, none⟩,
      ⟨some 2, .mov (.t 25), none, none⟩])
  (.ret)))))) }
def ir_head_Right : IFn :=
  { params := 1, results := [.tmp 2], body :=
  (.seq (.reg [⟨some 1, .box (.t 0), none, none⟩,
      ⟨some 2, .mov (.c (.bool false)), none, none⟩])
  (.seq (.reg [⟨some 3, .faddr 0 (.t 1), none, none⟩,
      ⟨some 4, .load 1 false (.t 3), none, none⟩,
      ⟨some 5, .bin .leq (.t 4) (.c (.int .u64 4294967296)), none, none⟩,
      ⟨some 6, .mov (.t 5), none, none⟩,
      ⟨some 7, .faddr 1 (.t 1), (some (6, true)), none⟩,
      ⟨some 8, .load 1 false (.t 7), (some (6, true)), none⟩,
      ⟨some 9, .bin .geq (.t 8) (.c (.int .i64 1)), (some (6, true)), none⟩,
      ⟨some 10, .pick (.t 6) (.t 9) (.c (.bool false)), none, none⟩,
      ⟨some 11, .mov (.t 10), none, none⟩,
      ⟨some 12, .faddr 1 (.t 1), (some (11, true)), none⟩,
      ⟨some 13, .load 1 false (.t 12), (some (11, true)), none⟩,
      ⟨some 14, .bin .leq (.t 13) (.c (.int .i64 1048576)), (some (11, true)), none⟩,
      ⟨some 15, .pick (.t 11) (.t 14) (.c (.bool false)), none, none⟩,
      ⟨some 16, .mov (.t 15), none, none⟩,
      ⟨some 17, .faddr 2 (.t 1), (some (16, true)), none⟩,
      ⟨some 18, .load 1 false (.t 17), (some (16, true)), none⟩,
      ⟨some 19, .bin .geq (.t 18) (.c (.int .i64 0)), (some (16, true)), none⟩,
      ⟨some 20, .pick (.t 16) (.t 19) (.c (.bool false)), none, none⟩,
      ⟨some 21, .mov (.t 20), none, none⟩,
      ⟨some 22, .faddr 2 (.t 1), (some (21, true)), none⟩,
      ⟨some 23, .load 1 false (.t 22), (some (21, true)), none⟩,
      ⟨some 24, .bin .leq (.t 23) (.c (.int .i64 2147483648)), (some (21, true)), none⟩,
      ⟨some 25, .pick (.t 21) (.t 24) (.c (.bool false)), none, none⟩,
      ⟨some 2, .mov (.t 25), none, none⟩])
  (.ret))) }
def ir_head_Blocks : IFn :=
  { params := 1, results := [.tmp 2], body :=
  (.seq (.reg [⟨some 1, .box (.t 0), none, none⟩,
      ⟨some 2, .mov (.c (.int .i64 0)), none, none⟩])
  (.seq (.seq (.reg [⟨some 3, .load 3 true (.t 1), none, none⟩,
      ⟨some 4, .call fid_head_Right [(.t 3)], none, none⟩,
      ⟨some 5, .un .not (.t 4), none, none⟩])
  (.cond (.t 5)
  (.seq (.reg [⟨some 2, .mov (.c (.int .i64 0)), none, none⟩])
    (.ret))
  (.skip)))
  (.seq (.reg [⟨some 6, .faddr 2 (.t 1), none, none⟩,
      ⟨some 7, .load 1 false (.t 6), none, none⟩,
      ⟨some 8, .faddr 1 (.t 1), none, none⟩,
      ⟨some 9, .load 1 false (.t 8), none, none⟩,
      ⟨some 10, .bin .add (.t 7) (.t 9), none, none⟩,
      ⟨some 11, .bin .sub (.t 10) (.c (.int .i64 1)), none, none⟩,
      ⟨some 12, .faddr 1 (.t 1), none, none⟩,
      ⟨some 13, .load 1 false (.t 12), none, none⟩,
      ⟨some 14, .bin .quo (.t 11) (.t 13), none, none⟩,
      ⟨some 2, .mov (.t 14), none, none⟩])
  (.ret)))) }
def slices_Equal_byte_byte_b0 : IC :=
  (.seq (.reg [⟨some 14, .bin .lss (.t 13) (.t 12), none, none⟩])
  (.seq (.cond (.t 14)
  (.skip)
  (.exit 0))
  (.seq (.block 1
  (.seq (.reg [⟨some 15, .mov (.t 13), none, none⟩,
        ⟨some 5, .mov (.t 15), none, none⟩])
    (.seq (.regD [0, 1, 2, 3, 4, 5, 6, 7, 8] [⟨some 16, .mov (.t 0), none, none⟩,
        ⟨some 17, .mov (.t 5), none, none⟩,
        ⟨some 18, .iaddr 1 (.t 16) (.t 17), none, none⟩,
        ⟨some 19, .load 1 false (.t 18), none, none⟩,
        ⟨some 20, .mov (.t 1), none, none⟩,
        ⟨some 21, .mov (.t 5), none, none⟩,
        ⟨some 22, .iaddr 1 (.t 20) (.t 21), none, none⟩,
        ⟨some 23, .load 1 false (.t 22), none, none⟩,
        ⟨some 24, .bin .neq (.t 19) (.t 23), none, none⟩])
    (.cond (.t 24)
    (.seq (.reg [⟨some 4, .mov (.c (.bool false)), none, none⟩])
      (.ret))
    (.skip)))))
  (.reg [⟨some 25, .bin .add (.t 13) (.c (.int .i64 1)), none, none⟩,
      ⟨some 13, .mov (.t 25), none, none⟩]))))
def ir_slices_Equal_byte_byte : IFn :=
  { params := 2, results := [.tmp 4], body :=
  (.seq (.reg [⟨some 4, .mov (.c (.bool false)), none, none⟩])
  (.seq (.seq (.reg [⟨some 6, .mov (.t 0), none, none⟩,
      ⟨some 7, .len .sl (.t 6), none, none⟩,
      ⟨some 8, .mov (.t 1), none, none⟩,
      ⟨some 9, .len .sl (.t 8), none, none⟩,
      ⟨some 10, .bin .neq (.t 7) (.t 9), none, none⟩])
  (.cond (.t 10)
  (.seq (.reg [⟨some 4, .mov (.c (.bool false)), none, none⟩])
    (.ret))
  (.skip)))
  (.seq (.seq (.reg [⟨some 11, .mov (.t 0), none, none⟩,
      ⟨some 12, .len .sl (.t 11), none, none⟩,
      ⟨some 13, .mov (.c (.int .i64 0)), none, none⟩])
  (.block 0
  (.loop [0, 1, 12, 13] slices_Equal_byte_byte_b0)))
  (.seq (.reg [⟨some 4, .mov (.c (.bool true)), none, none⟩])
  (.ret))))) }
def ir_crc_Open : IFn :=
  { params := 1, results := [.tmp 2, .tmp 3], body :=
  (.seq (.reg [⟨some 2, .mov (.c .nils), none, none⟩,
      ⟨some 3, .mov (.c (.bool false)), none, none⟩])
  (.seq (.reg [⟨some 5, .mov (.t 0), none, none⟩,
      ⟨some 6, .len .sl (.t 5), none, none⟩,
      ⟨some 7, .bin .sub (.t 6) (.c (.int .i64 4)), none, none⟩,
      ⟨some 4, .mov (.t 7), none, none⟩])
  (.seq (.seq (.reg [⟨some 8, .mov (.t 4), none, none⟩,
      ⟨some 9, .bin .lss (.t 8) (.c (.int .i64 0)), none, none⟩,
      ⟨some 10, .mov (.t 9), none, none⟩,
      ⟨some 11, .mov (.t 0), (some (10, false)), none⟩,
      ⟨some 12, .mov (.t 4), (some (10, false)), none⟩,
      ⟨some 13, .slice false 1 (.t 11) none (some (.t 12)) none, (some (10, false)), none⟩,
      ⟨some 14, .call fid_crc_Seal [(.t 13)], (some (10, false)), none⟩,
      ⟨some 15, .mov (.t 0), (some (10, false)), none⟩,
      ⟨some 16, .call fid_slices_Equal_byte_byte [(.t 14), (.t 15)], (some (10, false)), none⟩,
      ⟨some 17, .un .not (.t 16), (some (10, false)), none⟩,
      ⟨some 18, .pick (.t 10) (.c (.bool true)) (.t 17), none, none⟩])
  (.cond (.t 18)
  (.seq (.reg [⟨some 2, .mov (.c .nils), none, none⟩,
        ⟨some 3, .mov (.c (.bool false)), none, none⟩])
    (.ret))
  (.skip)))
  (.seq (.reg [⟨some 19, .mov (.t 0), none, none⟩,
      ⟨some 20, .mov (.t 4), none, none⟩,
      ⟨some 21, .slice false 1 (.t 19) none (some (.t 20)) none, none, none⟩,
      ⟨some 22, .call fid_slices_Clone_byte_byte [(.t 21)], none, none⟩,
      ⟨some 2, .mov (.t 22), none, none⟩,
      ⟨some 3, .mov (.c (.bool true)), none, none⟩])
  (.ret))))) }
def index_take_b0 : IC :=
  (.seq (.reg [⟨some 9, .bin .lss (.t 8) (.t 7), none, none⟩])
  (.seq (.cond (.t 9)
  (.skip)
  (.exit 0))
  (.seq (.block 1
  (.seq (.reg [⟨some 10, .mov (.t 8), none, none⟩,
        ⟨some 11, .iaddr 1 (.t 6) (.t 8), none, none⟩,
        ⟨some 12, .load 1 false (.t 11), none, none⟩,
        ⟨some 4, .mov (.t 10), none, none⟩,
        ⟨some 5, .mov (.t 12), none, none⟩])
    (.reg [⟨some 13, .mov (.t 3), none, none⟩,
        ⟨some 14, .mov (.t 5), none, none⟩,
        ⟨some 15, .conv .u64 (.t 14), none, none⟩,
        ⟨some 16, .mov (.t 4), none, none⟩,
        ⟨some 17, .bin .mul (.c (.int .i64 8)) (.t 16), none, none⟩,
        ⟨some 18, .bin .shl (.t 15) (.t 17), none, none⟩,
        ⟨some 19, .bin .or (.t 13) (.t 18), none, none⟩,
        ⟨some 3, .mov (.t 19), none, none⟩])))
  (.reg [⟨some 20, .bin .add (.t 8) (.c (.int .i64 1)), none, none⟩,
      ⟨some 8, .mov (.t 20), none, none⟩]))))
def ir_index_take : IFn :=
  { params := 1, results := [.tmp 2], body :=
  (.seq (.reg [⟨some 2, .mov (.c (.int .u64 0)), none, none⟩])
  (.seq (.reg [⟨some 3, .mov (.c (.int .u64 0)), none, none⟩])
  (.seq (.seq (.reg [⟨some 6, .mov (.t 0), none, none⟩,
      ⟨some 7, .len .sl (.t 6), none, none⟩,
      ⟨some 8, .mov (.c (.int .i64 0)), none, none⟩])
  (.block 0
  (.loop [3, 6, 7, 8] index_take_b0)))
  (.seq (.reg [⟨some 21, .mov (.t 3), none, none⟩,
      ⟨some 2, .mov (.t 21), none, none⟩])
  (.ret))))) }
def index_Read_b0 : IC :=
  (.seq (.seq (.reg [⟨some 51, .mov (.t 12), none, none⟩,
      ⟨some 52, .len .sl (.t 51), none, none⟩,
      ⟨some 53, .bin .gtr (.t 52) (.c (.int .i64 0)), none, none⟩])
  (.cond (.t 53)
  (.skip)
  (.exit 0)))
  (.seq (.block 1
  (.seq (.regD [0, 1, 2, 4, 5, 6, 8, 9, 10, 3, 7, 11, 12, 13, 14] [⟨some 56, .mov (.t 12), none, none⟩,
        ⟨some 57, .slice false 1 (.t 56) none (some (.c (.int .i64 4))) none, none, none⟩,
        ⟨some 58, .call fid_index_take [(.t 57)], none, none⟩,
        ⟨some 60, .mov (.t 12), none, none⟩,
        ⟨some 61, .slice false 1 (.t 60) (some (.c (.int .i64 4))) (some (.c (.int .i64 12))) none, none, none⟩,
        ⟨some 62, .call fid_index_take [(.t 61)], none, none⟩,
        ⟨some 64, .mov (.t 12), none, none⟩,
        ⟨some 65, .slice false 1 (.t 64) (some (.c (.int .i64 12))) (some (.c (.int .i64 16))) none, none, none⟩,
        ⟨some 66, .call fid_index_take [(.t 65)], none, none⟩,
        ⟨some 59, .conv .i64 (.t 58), none, none⟩,
        ⟨some 63, .conv .i64 (.t 62), none, none⟩,
        ⟨some 67, .conv .u32 (.t 66), none, none⟩,
        ⟨some 68, .build [(.int .i64 0), (.int .i64 0), (.int .u32 0)] [(0, 1, (.t 59)), (1, 1, (.t 63)), (2, 1, (.t 67))], none, none⟩,
        ⟨some 13, .box (.c (.agg [(.int .i64 0), (.int .i64 0), (.int .u32 0)])), none, none⟩,
        ⟨none, .store 3 (.t 13) (.t 68), none, none⟩])
    (.regD [0, 1, 2, 3, 4, 5, 6, 7, 8, 9] [⟨some 69, .mov (.t 10), none, none⟩,
        ⟨some 70, .load 3 true (.t 13), none, none⟩,
        ⟨some 71, .mkrow 3 1 [(.int .i64 0), (.int .i64 0), (.int .u32 0)] [(0, (.t 70))], none, none⟩,
        ⟨some 72, .append 3 24 (.t 69) (.t 71), none, none⟩,
        ⟨some 73, .mov (.t 11), none, none⟩,
        ⟨some 74, .faddr 0 (.t 13), none, none⟩,
        ⟨some 75, .load 1 false (.t 74), none, some (0, 1)⟩,
        ⟨some 76, .bin .sub (.t 73) (.t 75), none, none⟩,
        ⟨some 10, .mov (.t 72), none, none⟩,
        ⟨some 11, .mov (.t 76), none, none⟩])))
  (.reg [⟨some 54, .mov (.t 12), none, none⟩,
      ⟨some 55, .slice false 1 (.t 54) (some (.c (.int .i64 16))) none none, none, none⟩,
      ⟨some 12, .mov (.t 55), none, none⟩])))
def ir_index_Read : IFn :=
  { params := 2, results := [.tmp 4, .tmp 5], body :=
  (.seq (.reg [⟨some 3, .box (.t 1), none, none⟩,
      ⟨some 4, .mov (.c .nils), none, none⟩,
      ⟨some 5, .mov (.c (.int .i64 0)), none, none⟩])
  (.seq (.reg [⟨some 14, .load 3 true (.t 3), none, none⟩,
      ⟨some 15, .call fid_head_Blocks [(.t 14)], none, none⟩,
      ⟨some 16, .bin .mul (.t 15) (.c (.int .i64 16)), none, none⟩,
      ⟨some 17, .bin .add (.t 16) (.c (.int .i64 8)), none, none⟩,
      ⟨some 6, .mov (.t 17), none, none⟩])
  (.seq (.seq (.reg [⟨some 18, .mov (.t 0), none, none⟩,
      ⟨some 19, .len .sl (.t 18), none, none⟩,
      ⟨some 20, .bin .sub (.t 19) (.c (.int .i64 24)), none, none⟩,
      ⟨some 21, .mov (.t 6), none, none⟩,
      ⟨some 22, .bin .lss (.t 20) (.t 21), none, none⟩])
  (.cond (.t 22)
  (.seq (.reg [⟨some 4, .mov (.c .nils), none, none⟩,
        ⟨some 5, .mov (.c (.int .i64 20)), none, none⟩])
    (.ret))
  (.skip)))
  (.seq (.reg [⟨some 24, .mov (.t 0), none, none⟩,
      ⟨some 25, .mov (.t 0), none, none⟩,
      ⟨some 26, .len .sl (.t 25), none, none⟩,
      ⟨some 27, .mov (.t 6), none, none⟩,
      ⟨some 28, .bin .sub (.t 26) (.t 27), none, none⟩,
      ⟨some 29, .slice false 1 (.t 24) (some (.t 28)) none none, none, none⟩,
      ⟨some 30, .call fid_crc_Open [(.t 29)], none, none⟩,
      ⟨some 23, .mov (.t 30), none, none⟩,
      ⟨some 31, .extract (.t 23) 0, none, none⟩,
      ⟨some 32, .extract (.t 23) 1, none, none⟩,
      ⟨some 7, .mov (.t 31), none, none⟩,
      ⟨some 8, .mov (.t 32), none, none⟩])
  (.seq (.seq (.reg [⟨some 33, .mov (.t 8), none, none⟩,
      ⟨some 34, .un .not (.t 33), none, none⟩])
  (.cond (.t 34)
  (.seq (.reg [⟨some 4, .mov (.c .nils), none, none⟩,
        ⟨some 5, .mov (.c (.int .i64 28)), none, none⟩])
    (.ret))
  (.skip)))
  (.seq (.reg [⟨some 35, .mov (.t 7), none, none⟩,
      ⟨some 36, .len .sl (.t 35), none, none⟩,
      ⟨some 37, .bin .sub (.t 36) (.c (.int .i64 4)), none, none⟩,
      ⟨some 9, .mov (.t 37), none, none⟩])
  (.seq (.seq (.reg [⟨some 38, .mov (.t 7), none, none⟩,
      ⟨some 39, .mov (.t 9), none, none⟩,
      ⟨some 40, .slice false 1 (.t 38) (some (.t 39)) none none, none, none⟩,
      ⟨some 41, .toStr (.t 40), none, none⟩,
      ⟨some 42, .bin .neq (.t 41) (.c (.str [88, 71, 84, 49])), none, none⟩])
  (.cond (.t 42)
  (.seq (.reg [⟨some 4, .mov (.c .nils), none, none⟩,
        ⟨some 5, .mov (.c (.int .i64 27)), none, none⟩])
    (.ret))
  (.skip)))
  (.seq (.reg [⟨some 10, .mov (.c .nils), none, none⟩])
  (.seq (.reg [⟨some 43, .mov (.t 0), none, none⟩,
      ⟨some 44, .len .sl (.t 43), none, none⟩,
      ⟨some 45, .bin .sub (.t 44) (.c (.int .i64 24)), none, none⟩,
      ⟨some 46, .mov (.t 6), none, none⟩,
      ⟨some 47, .bin .sub (.t 45) (.t 46), none, none⟩,
      ⟨some 11, .mov (.t 47), none, none⟩])
  (.seq (.seq (.reg [⟨some 48, .mov (.t 7), none, none⟩,
      ⟨some 49, .mov (.t 9), none, none⟩,
      ⟨some 50, .slice false 1 (.t 48) none (some (.t 49)) none, none, none⟩,
      ⟨some 12, .mov (.t 50), none, none⟩])
  (.block 0
  (.loop [10, 11, 12] index_Read_b0)))
  (.seq (.seq (.reg [⟨some 77, .mov (.t 10), none, none⟩,
      ⟨some 78, .call fid_index_Right [(.t 77)], none, none⟩,
      ⟨some 79, .un .not (.t 78), none, none⟩,
      ⟨some 80, .mov (.t 79), none, none⟩,
      ⟨some 81, .mov (.t 11), (some (80, false)), none⟩,
      ⟨some 82, .bin .neq (.t 81) (.c (.int .i64 0)), (some (80, false)), none⟩,
      ⟨some 83, .pick (.t 80) (.c (.bool true)) (.t 82), none, none⟩])
  (.cond (.t 83)
  (.seq (.reg [⟨some 4, .mov (.c .nils), none, none⟩,
        ⟨some 5, .mov (.c (.int .i64 21)), none, none⟩])
    (.ret))
  (.skip)))
  (.seq (.reg [⟨some 84, .mov (.t 10), none, none⟩,
      ⟨some 4, .mov (.t 84), none, none⟩,
      ⟨some 5, .mov (.c (.int .i64 0)), none, none⟩])
  (.ret))))))))))))) }
def archipelagoref18_SameRows_b0 : IC :=
  (.seq (.seq (.reg [⟨some 11, .mov (.t 5), none, none⟩,
      ⟨some 12, .mov (.t 0), none, none⟩,
      ⟨some 13, .len .sl (.t 12), none, none⟩,
      ⟨some 14, .bin .lss (.t 11) (.t 13), none, none⟩])
  (.cond (.t 14)
  (.skip)
  (.exit 0)))
  (.seq (.block 1
  (.seq (.regD [0, 1, 2, 3, 4, 5, 6, 7, 8] [⟨some 17, .mov (.t 0), none, none⟩,
        ⟨some 18, .mov (.t 5), none, none⟩,
        ⟨some 19, .iaddr 3 (.t 17) (.t 18), none, none⟩,
        ⟨some 20, .load 3 true (.t 19), none, none⟩,
        ⟨some 21, .mov (.t 1), none, none⟩,
        ⟨some 22, .mov (.t 5), none, none⟩,
        ⟨some 23, .iaddr 3 (.t 21) (.t 22), none, none⟩,
        ⟨some 24, .load 3 true (.t 23), none, none⟩,
        ⟨some 25, .eq (.struct [.int, .int, .int]) true (.t 20) (.t 24), none, none⟩])
    (.cond (.t 25)
    (.seq (.reg [⟨some 4, .mov (.c (.bool false)), none, none⟩])
      (.ret))
    (.skip))))
  (.reg [⟨some 15, .mov (.t 5), none, none⟩,
      ⟨some 16, .bin .add (.t 15) (.c (.int .i64 1)), none, none⟩,
      ⟨some 5, .mov (.t 16), none, none⟩])))
def ir_archipelagoref18_SameRows : IFn :=
  { params := 2, results := [.tmp 4], body :=
  (.seq (.reg [⟨some 4, .mov (.c (.bool false)), none, none⟩])
  (.seq (.seq (.reg [⟨some 6, .mov (.t 0), none, none⟩,
      ⟨some 7, .len .sl (.t 6), none, none⟩,
      ⟨some 8, .mov (.t 1), none, none⟩,
      ⟨some 9, .len .sl (.t 8), none, none⟩,
      ⟨some 10, .bin .neq (.t 7) (.t 9), none, none⟩])
  (.cond (.t 10)
  (.seq (.reg [⟨some 4, .mov (.c (.bool false)), none, none⟩])
    (.ret))
  (.skip)))
  (.seq (.seq (.reg [⟨some 5, .mov (.c (.int .i64 0)), none, none⟩])
  (.block 0
  (.loop [0, 1, 5] archipelagoref18_SameRows_b0)))
  (.seq (.reg [⟨some 4, .mov (.c (.bool true)), none, none⟩])
  (.ret))))) }
def ir_archipelagolaw19_known : IFn :=
  { params := 0, results := [.tmp 0], body :=
  (.seq (.reg [⟨some 0, .mov (.c (.bool false)), none, none⟩])
  (.seq (.reg [⟨some 12, .build [(.int .i64 0), (.int .i64 0), (.int .u32 0)] [(0, 1, (.c (.int .i64 2))), (1, 1, (.c (.int .i64 5))), (2, 1, (.c (.int .u32 7)))], none, none⟩,
      ⟨some 13, .build [(.int .i64 0), (.int .i64 0), (.int .u32 0)] [(0, 1, (.c (.int .i64 1))), (1, 1, (.c (.int .i64 9))), (2, 1, (.c (.int .u32 8)))], none, none⟩,
      ⟨some 14, .mkrow 3 2 [(.int .i64 0), (.int .i64 0), (.int .u32 0)] [(0, (.t 12)), (1, (.t 13))], none, none⟩,
      ⟨some 1, .mov (.t 14), none, none⟩])
  (.seq (.reg [⟨some 16, .mov (.t 1), none, none⟩,
      ⟨some 17, .call fid_index_Put [(.t 16)], none, none⟩,
      ⟨some 15, .mov (.t 17), none, none⟩,
      ⟨some 18, .extract (.t 15) 0, none, none⟩,
      ⟨some 19, .extract (.t 15) 1, none, none⟩,
      ⟨some 2, .mov (.t 18), none, none⟩,
      ⟨some 3, .mov (.t 19), none, none⟩])
  (.seq (.reg [⟨some 21, .build [(.int .i64 0), (.int .i64 0), (.int .u32 0)] [], none, none⟩,
      ⟨some 22, .mkrow 3 1 [(.int .i64 0), (.int .i64 0), (.int .u32 0)] [(0, (.t 21))], none, none⟩,
      ⟨some 23, .call fid_index_Put [(.t 22)], none, none⟩,
      ⟨some 20, .mov (.t 23), none, none⟩,
      ⟨some 24, .extract (.t 20) 0, none, none⟩,
      ⟨some 25, .extract (.t 20) 1, none, none⟩,
      ⟨some 4, .mov (.t 24), none, none⟩,
      ⟨some 5, .mov (.t 25), none, none⟩])
  (.seq (.reg [⟨some 26, .build [(.int .u64 0), (.int .i64 0), (.int .i64 0)] [(0, 1, (.c (.int .u64 2))), (1, 1, (.c (.int .i64 1))), (2, 1, (.c (.int .i64 2)))], none, none⟩,
      ⟨some 6, .box (.c (.agg [(.int .u64 0), (.int .i64 0), (.int .i64 0)])), none, none⟩,
      ⟨none, .store 3 (.t 6) (.t 26), none, none⟩])
  (.seq (.reg [⟨some 27, .load 3 true (.t 6), none, none⟩,
      ⟨some 28, .call fid_archipelagoref18_Put [(.t 27)], none, none⟩,
      ⟨some 29, .mkrow 1 3 [(.int .u8 0)] [(0, (.c (.int .u8 97))), (1, (.c (.int .u8 98))), (2, (.c (.int .u8 99)))], none, none⟩,
      ⟨some 30, .append 1 1 (.t 28) (.t 29), none, none⟩,
      ⟨some 31, .mov (.t 2), none, none⟩,
      ⟨some 32, .append 1 1 (.t 30) (.t 31), none, none⟩,
      ⟨some 7, .mov (.t 32), none, none⟩])
  (.seq (.reg [⟨some 34, .mov (.t 7), none, none⟩,
      ⟨some 35, .load 3 true (.t 6), none, none⟩,
      ⟨some 36, .call fid_index_Read [(.t 34), (.t 35)], none, none⟩,
      ⟨some 33, .mov (.t 36), none, none⟩,
      ⟨some 37, .extract (.t 33) 0, none, none⟩,
      ⟨some 38, .extract (.t 33) 1, none, none⟩,
      ⟨some 8, .mov (.t 37), none, none⟩,
      ⟨some 9, .mov (.t 38), none, none⟩])
  (.seq (.reg [⟨some 40, .mov (.t 2), none, none⟩,
      ⟨some 41, .load 3 true (.t 6), none, none⟩,
      ⟨some 42, .call fid_index_Read [(.t 40), (.t 41)], none, none⟩,
      ⟨some 39, .mov (.t 42), none, none⟩,
      ⟨some 43, .extract (.t 39) 0, none, none⟩,
      ⟨some 44, .extract (.t 39) 1, none, none⟩,
      ⟨some 10, .mov (.t 43), none, none⟩,
      ⟨some 11, .mov (.t 44), none, none⟩])
  (.seq (.reg [⟨some 45, .mov (.t 3), none, none⟩,
      ⟨some 46, .mov (.t 45), none, none⟩,
      ⟨some 47, .mov (.t 2), (some (46, true)), none⟩,
      ⟨some 48, .len .sl (.t 47), (some (46, true)), none⟩,
      ⟨some 49, .bin .eql (.t 48) (.c (.int .i64 40)), (some (46, true)), none⟩,
      ⟨some 50, .pick (.t 46) (.t 49) (.c (.bool false)), none, none⟩,
      ⟨some 51, .mov (.t 50), none, none⟩,
      ⟨some 52, .mov (.t 5), (some (51, true)), none⟩,
      ⟨some 53, .un .not (.t 52), (some (51, true)), none⟩,
      ⟨some 54, .pick (.t 51) (.t 53) (.c (.bool false)), none, none⟩,
      ⟨some 55, .mov (.t 54), none, none⟩,
      ⟨some 56, .mov (.t 9), (some (55, true)), none⟩,
      ⟨some 57, .bin .eql (.t 56) (.c (.int .i64 0)), (some (55, true)), none⟩,
      ⟨some 58, .pick (.t 55) (.t 57) (.c (.bool false)), none, none⟩,
      ⟨some 59, .mov (.t 58), none, none⟩,
      ⟨some 60, .mov (.t 8), (some (59, true)), none⟩,
      ⟨some 61, .mov (.t 1), (some (59, true)), none⟩,
      ⟨some 62, .call fid_archipelagoref18_SameRows [(.t 60), (.t 61)], (some (59, true)), none⟩,
      ⟨some 63, .pick (.t 59) (.t 62) (.c (.bool false)), none, none⟩,
      ⟨some 64, .mov (.t 63), none, none⟩,
      ⟨some 65, .mov (.t 11), (some (64, true)), none⟩,
      ⟨some 66, .bin .eql (.t 65) (.c (.int .i64 20)), (some (64, true)), none⟩,
      ⟨some 67, .pick (.t 64) (.t 66) (.c (.bool false)), none, none⟩,
      ⟨some 68, .mov (.t 67), none, none⟩,
      ⟨some 69, .mov (.t 1), (some (68, true)), none⟩,
      ⟨some 70, .call fid_index_Find [(.t 69), (.c (.int .i64 8))], (some (68, true)), none⟩,
      ⟨some 71, .bin .eql (.t 70) (.c (.int .i64 0)), (some (68, true)), none⟩,
      ⟨some 72, .pick (.t 68) (.t 71) (.c (.bool false)), none, none⟩,
      ⟨some 73, .mov (.t 72), none, none⟩,
      ⟨some 74, .mov (.t 1), (some (73, true)), none⟩,
      ⟨some 75, .call fid_index_Find [(.t 74), (.c (.int .i64 4))], (some (73, true)), none⟩,
      ⟨some 76, .bin .eql (.t 75) (.c (.int .i64 (-1))), (some (73, true)), none⟩,
      ⟨some 77, .pick (.t 73) (.t 76) (.c (.bool false)), none, none⟩,
      ⟨some 78, .mov (.t 77), none, none⟩,
      ⟨some 79, .mov (.t 1), (some (78, true)), none⟩,
      ⟨some 80, .call fid_index_Offset [(.t 79), (.c (.int .i64 1))], (some (78, true)), none⟩,
      ⟨some 81, .bin .eql (.t 80) (.c (.int .i64 26)), (some (78, true)), none⟩,
      ⟨some 82, .pick (.t 78) (.t 81) (.c (.bool false)), none, none⟩,
      ⟨some 83, .mov (.t 82), none, none⟩,
      ⟨some 84, .mov (.t 1), (some (83, true)), none⟩,
      ⟨some 85, .call fid_index_Right [(.t 84)], (some (83, true)), none⟩,
      ⟨some 86, .pick (.t 83) (.t 85) (.c (.bool false)), none, none⟩,
      ⟨some 0, .mov (.t 86), none, none⟩])
  (.ret)))))))))) }
def archipelagolaw19_rows_b0 : IC :=
  (.seq (.seq (.reg [⟨some 6, .mov (.t 5), none, none⟩,
      ⟨some 7, .mov (.t 0), none, none⟩,
      ⟨some 8, .len .sl (.t 7), none, none⟩,
      ⟨some 9, .bin .lss (.t 6) (.t 8), none, none⟩])
  (.cond (.t 9)
  (.skip)
  (.exit 0)))
  (.seq (.block 1
  (.seq (.reg [⟨some 12, .mov (.t 4), none, none⟩,
        ⟨some 13, .mov (.t 0), none, none⟩,
        ⟨some 14, .mov (.t 5), none, none⟩,
        ⟨some 15, .iaddr 1 (.t 13) (.t 14), none, none⟩,
        ⟨some 16, .load 1 false (.t 15), none, none⟩,
        ⟨some 17, .bin .rem (.t 16) (.c (.int .u16 3)), none, none⟩,
        ⟨some 18, .conv .i64 (.t 17), none, none⟩,
        ⟨some 19, .bin .add (.t 12) (.t 18), none, none⟩,
        ⟨some 4, .mov (.t 19), none, none⟩])
    (.regD [0, 1, 2, 3, 4, 5, 6, 7, 8, 9, 10, 11, 12, 13, 14, 15, 16, 17, 18] [⟨some 20, .mov (.t 3), none, none⟩,
        ⟨some 21, .mov (.t 0), none, none⟩,
        ⟨some 22, .mov (.t 5), none, none⟩,
        ⟨some 23, .iaddr 1 (.t 21) (.t 22), none, none⟩,
        ⟨some 24, .load 1 false (.t 23), none, none⟩,
        ⟨some 25, .bin .rem (.t 24) (.c (.int .u16 50)), none, none⟩,
        ⟨some 26, .conv .i64 (.t 25), none, none⟩,
        ⟨some 27, .bin .add (.t 26) (.c (.int .i64 1)), none, none⟩,
        ⟨some 28, .mov (.t 4), none, none⟩,
        ⟨some 29, .mov (.t 0), none, none⟩,
        ⟨some 30, .mov (.t 5), none, none⟩,
        ⟨some 31, .iaddr 1 (.t 29) (.t 30), none, none⟩,
        ⟨some 32, .load 1 false (.t 31), none, none⟩,
        ⟨some 33, .conv .u32 (.t 32), none, none⟩,
        ⟨some 34, .bin .mul (.t 33) (.c (.int .u32 77777)), none, none⟩,
        ⟨some 35, .build [(.int .i64 0), (.int .i64 0), (.int .u32 0)] [(0, 1, (.t 27)), (1, 1, (.t 28)), (2, 1, (.t 34))], none, none⟩,
        ⟨some 36, .mkrow 3 1 [(.int .i64 0), (.int .i64 0), (.int .u32 0)] [(0, (.t 35))], none, none⟩,
        ⟨some 37, .append 3 24 (.t 20) (.t 36), none, none⟩,
        ⟨some 3, .mov (.t 37), none, none⟩])))
  (.reg [⟨some 10, .mov (.t 5), none, none⟩,
      ⟨some 11, .bin .add (.t 10) (.c (.int .i64 1)), none, none⟩,
      ⟨some 5, .mov (.t 11), none, none⟩])))
def ir_archipelagolaw19_rows : IFn :=
  { params := 1, results := [.tmp 2], body :=
  (.seq (.reg [⟨some 2, .mov (.c .nils), none, none⟩])
  (.seq (.reg [⟨some 3, .mov (.c .nils), none, none⟩])
  (.seq (.reg [⟨some 4, .mov (.c (.int .i64 0)), none, none⟩])
  (.seq (.seq (.reg [⟨some 5, .mov (.c (.int .i64 0)), none, none⟩])
  (.block 0
  (.loop [0, 3, 4, 5] archipelagolaw19_rows_b0)))
  (.seq (.reg [⟨some 38, .mov (.t 3), none, none⟩,
      ⟨some 2, .mov (.t 38), none, none⟩])
  (.ret)))))) }
def ir_archipelagolaw19_bent : IFn :=
  { params := 4, results := [.tmp 8], body :=
  (.seq (.reg [⟨some 8, .mov (.c .nils), none, none⟩])
  (.seq (.reg [⟨some 11, .mov (.t 0), none, none⟩,
      ⟨some 12, .append 3 24 (.c .nils) (.t 11), none, none⟩,
      ⟨some 9, .mov (.t 12), none, none⟩])
  (.seq (.seq (.reg [⟨some 13, .mov (.t 9), none, none⟩,
      ⟨some 14, .len .sl (.t 13), none, none⟩,
      ⟨some 15, .bin .eql (.t 14) (.c (.int .i64 0)), none, none⟩])
  (.cond (.t 15)
  (.seq (.reg [⟨some 16, .mov (.t 3), none, none⟩,
        ⟨some 17, .mov (.t 3), none, none⟩,
        ⟨some 18, .build [(.int .i64 0), (.int .i64 0), (.int .u32 0)] [(0, 1, (.t 16)), (1, 1, (.t 17))], none, none⟩,
        ⟨some 19, .mkrow 3 1 [(.int .i64 0), (.int .i64 0), (.int .u32 0)] [(0, (.t 18))], none, none⟩,
        ⟨some 8, .mov (.t 19), none, none⟩])
    (.ret))
  (.skip)))
  (.seq (.reg [⟨some 20, .mov (.t 2), none, none⟩,
      ⟨some 21, .conv .i64 (.t 20), none, none⟩,
      ⟨some 22, .mov (.t 9), none, none⟩,
      ⟨some 23, .len .sl (.t 22), none, none⟩,
      ⟨some 24, .bin .rem (.t 21) (.t 23), none, none⟩,
      ⟨some 10, .mov (.t 24), none, none⟩])
  (.seq (.seq (.reg [⟨some 25, .mov (.t 1), none, none⟩,
      ⟨some 26, .bin .rem (.t 25) (.c (.int .u8 4)), none, none⟩])
  (.block 0
  (.seq (.reg [⟨some 40, .bin .eql (.t 26) (.c (.int .u8 0)), none, none⟩,
        ⟨some 39, .mov (.t 40), none, none⟩])
    (.cond (.t 39)
    (.reg [⟨some 41, .mov (.t 9), none, none⟩,
          ⟨some 42, .mov (.t 10), none, none⟩,
          ⟨some 43, .mov (.t 3), none, none⟩,
          ⟨some 44, .iaddr 3 (.t 41) (.t 42), none, none⟩,
          ⟨some 45, .faddr 0 (.t 44), none, none⟩,
          ⟨none, .store 1 (.t 45) (.t 43), none, none⟩])
    (.seq (.reg [⟨some 47, .bin .eql (.t 26) (.c (.int .u8 1)), none, none⟩,
          ⟨some 46, .mov (.t 47), none, none⟩])
      (.cond (.t 46)
      (.reg [⟨some 48, .mov (.t 9), none, none⟩,
            ⟨some 49, .mov (.t 10), none, none⟩,
            ⟨some 50, .mov (.t 3), none, none⟩,
            ⟨some 51, .iaddr 3 (.t 48) (.t 49), none, none⟩,
            ⟨some 52, .faddr 1 (.t 51), none, none⟩,
            ⟨none, .store 1 (.t 52) (.t 50), none, none⟩])
      (.seq (.reg [⟨some 54, .bin .eql (.t 26) (.c (.int .u8 2)), none, none⟩,
            ⟨some 53, .mov (.t 54), none, none⟩])
        (.cond (.t 53)
        (.reg [⟨some 55, .mov (.t 9), none, none⟩,
              ⟨some 56, .mov (.t 10), none, none⟩,
              ⟨some 57, .mov (.t 3), none, none⟩,
              ⟨some 58, .conv .u32 (.t 57), none, none⟩,
              ⟨some 59, .iaddr 3 (.t 55) (.t 56), none, none⟩,
              ⟨some 60, .faddr 2 (.t 59), none, none⟩,
              ⟨none, .store 1 (.t 60) (.t 58), none, none⟩])
        (.regD [0, 1, 3, 4, 5, 6, 7, 8, 9, 10, 11, 2, 12, 13] [⟨some 27, .mov (.t 9), none, none⟩,
              ⟨some 28, .mov (.t 10), none, none⟩,
              ⟨some 30, .mov (.t 9), none, none⟩,
              ⟨some 31, .iaddr 3 (.t 30) (.c (.int .i64 0)), none, none⟩,
              ⟨some 32, .load 3 true (.t 31), none, none⟩,
              ⟨some 33, .mov (.t 9), none, none⟩,
              ⟨some 34, .mov (.t 10), none, none⟩,
              ⟨some 35, .iaddr 3 (.t 33) (.t 34), none, none⟩,
              ⟨some 36, .load 3 true (.t 35), none, none⟩,
              ⟨some 37, .iaddr 3 (.t 27) (.t 28), none, none⟩,
              ⟨none, .store 3 (.t 37) (.t 32), none, none⟩,
              ⟨some 29, .mov (.t 9), none, none⟩,
              ⟨some 38, .iaddr 3 (.t 29) (.c (.int .i64 0)), none, none⟩,
              ⟨none, .store 3 (.t 38) (.t 36), none, none⟩])))))))))
  (.seq (.reg [⟨some 61, .mov (.t 9), none, none⟩,
      ⟨some 8, .mov (.t 61), none, none⟩])
  (.ret))))))) }
def archipelagoref18_RowsRight_b0 : IC :=
  (.seq (.seq (.reg [⟨some 4, .mov (.t 3), none, none⟩,
      ⟨some 5, .mov (.t 0), none, none⟩,
      ⟨some 6, .len .sl (.t 5), none, none⟩,
      ⟨some 7, .bin .lss (.t 4) (.t 6), none, none⟩])
  (.cond (.t 7)
  (.skip)
  (.exit 0)))
  (.seq (.block 1
  (.seq (.regD [0, 1, 2, 3, 4, 5, 6, 7, 8, 9, 10, 11, 12, 13, 14, 15, 16, 17, 18, 19, 20, 21, 22, 23, 24, 25, 26, 27, 28, 29, 30, 31, 32, 33, 34, 35, 36, 37, 38, 39, 40, 41, 42, 43, 44, 45, 46, 47] [⟨some 10, .mov (.t 0), none, none⟩,
        ⟨some 11, .mov (.t 3), none, none⟩,
        ⟨some 12, .iaddr 3 (.t 10) (.t 11), none, none⟩,
        ⟨some 13, .faddr 0 (.t 12), none, none⟩,
        ⟨some 14, .load 1 false (.t 13), none, none⟩,
        ⟨some 15, .bin .lss (.t 14) (.c (.int .i64 1)), none, none⟩,
        ⟨some 16, .mov (.t 15), none, none⟩,
        ⟨some 17, .mov (.t 0), (some (16, false)), none⟩,
        ⟨some 18, .mov (.t 3), (some (16, false)), none⟩,
        ⟨some 19, .iaddr 3 (.t 17) (.t 18), (some (16, false)), none⟩,
        ⟨some 20, .faddr 0 (.t 19), (some (16, false)), none⟩,
        ⟨some 21, .load 1 false (.t 20), (some (16, false)), none⟩,
        ⟨some 22, .bin .gtr (.t 21) (.c (.int .i64 4294967295)), (some (16, false)), none⟩,
        ⟨some 23, .pick (.t 16) (.c (.bool true)) (.t 22), none, none⟩,
        ⟨some 24, .mov (.t 23), none, none⟩,
        ⟨some 25, .mov (.t 0), (some (24, false)), none⟩,
        ⟨some 26, .mov (.t 3), (some (24, false)), none⟩,
        ⟨some 27, .iaddr 3 (.t 25) (.t 26), (some (24, false)), none⟩,
        ⟨some 28, .faddr 1 (.t 27), (some (24, false)), none⟩,
        ⟨some 29, .load 1 false (.t 28), (some (24, false)), none⟩,
        ⟨some 30, .bin .lss (.t 29) (.c (.int .i64 0)), (some (24, false)), none⟩,
        ⟨some 31, .pick (.t 24) (.c (.bool true)) (.t 30), none, none⟩,
        ⟨some 32, .mov (.t 31), none, none⟩,
        ⟨some 33, .mov (.t 0), (some (32, false)), none⟩,
        ⟨some 34, .mov (.t 3), (some (32, false)), none⟩,
        ⟨some 35, .iaddr 3 (.t 33) (.t 34), (some (32, false)), none⟩,
        ⟨some 36, .faddr 1 (.t 35), (some (32, false)), none⟩,
        ⟨some 37, .load 1 false (.t 36), (some (32, false)), none⟩,
        ⟨some 38, .bin .gtr (.t 37) (.c (.int .i64 4611686018427387903)), (some (32, false)), none⟩,
        ⟨some 39, .pick (.t 32) (.c (.bool true)) (.t 38), none, none⟩,
        ⟨some 40, .mov (.t 39), none, none⟩,
        ⟨some 41, .mov (.t 3), (some (40, false)), none⟩,
        ⟨some 42, .bin .gtr (.t 41) (.c (.int .i64 0)), (some (40, false)), none⟩,
        ⟨some 43, .mov (.t 42), (some (40, false)), none⟩,
        ⟨some 44, .mov (.t 0), (some (43, true)), none⟩,
        ⟨some 45, .mov (.t 3), (some (43, true)), none⟩,
        ⟨some 46, .iaddr 3 (.t 44) (.t 45), (some (43, true)), none⟩,
        ⟨some 47, .faddr 1 (.t 46), (some (43, true)), none⟩,
        ⟨some 48, .load 1 false (.t 47), (some (43, true)), none⟩,
        ⟨some 49, .mov (.t 0), (some (43, true)), none⟩,
        ⟨some 50, .mov (.t 3), (some (43, true)), none⟩,
        ⟨some 51, .bin .sub (.t 50) (.c (.int .i64 1)), (some (43, true)), none⟩,
        ⟨some 52, .iaddr 3 (.t 49) (.t 51), (some (43, true)), none⟩,
        ⟨some 53, .faddr 1 (.t 52), (some (43, true)), none⟩,
        ⟨some 54, .load 1 false (.t 53), (some (43, true)), none⟩,
        ⟨some 55, .bin .lss (.t 48) (.t 54), (some (43, true)), none⟩,
        ⟨some 56, .pick (.t 43) (.t 55) (.c (.bool false)), (some (40, false)), none⟩,
        ⟨some 57, .pick (.t 40) (.c (.bool true)) (.t 56), none, none⟩])
    (.cond (.t 57)
    (.seq (.reg [⟨some 2, .mov (.c (.bool false)), none, none⟩])
      (.ret))
    (.skip))))
  (.reg [⟨some 8, .mov (.t 3), none, none⟩,
      ⟨some 9, .bin .add (.t 8) (.c (.int .i64 1)), none, none⟩,
      ⟨some 3, .mov (.t 9), none, none⟩])))
def ir_archipelagoref18_RowsRight : IFn :=
  { params := 1, results := [.tmp 2], body :=
  (.seq (.reg [⟨some 2, .mov (.c (.bool false)), none, none⟩])
  (.seq (.seq (.reg [⟨some 3, .mov (.c (.int .i64 0)), none, none⟩])
  (.block 0
  (.loop [0, 3] archipelagoref18_RowsRight_b0)))
  (.seq (.reg [⟨some 2, .mov (.c (.bool true)), none, none⟩])
  (.ret)))) }
def archipelagoref18_RowsPut_b0 : IC :=
  (.seq (.seq (.reg [⟨some 9, .mov (.t 5), none, none⟩,
      ⟨some 10, .mov (.t 0), none, none⟩,
      ⟨some 11, .len .sl (.t 10), none, none⟩,
      ⟨some 12, .bin .lss (.t 9) (.t 11), none, none⟩])
  (.cond (.t 12)
  (.skip)
  (.exit 0)))
  (.seq (.block 1
  (.seq (.reg [⟨some 15, .mov (.t 4), none, none⟩,
        ⟨some 16, .mov (.t 0), none, none⟩,
        ⟨some 17, .mov (.t 5), none, none⟩,
        ⟨some 18, .iaddr 3 (.t 16) (.t 17), none, none⟩,
        ⟨some 19, .faddr 0 (.t 18), none, none⟩,
        ⟨some 20, .load 1 false (.t 19), none, none⟩,
        ⟨some 21, .conv .u64 (.t 20), none, none⟩,
        ⟨some 22, .call fid_archipelagoref1_Fixed [(.t 21), (.c (.int .i64 4))], none, none⟩,
        ⟨some 23, .append 1 1 (.t 15) (.t 22), none, none⟩,
        ⟨some 4, .mov (.t 23), none, none⟩])
    (.regD [1, 2, 3, 4, 5, 6, 7, 0, 8, 9, 10, 11, 12, 13, 14, 15, 16, 17] [⟨some 25, .mov (.t 0), none, none⟩,
        ⟨some 26, .mov (.t 5), none, none⟩,
        ⟨some 27, .iaddr 3 (.t 25) (.t 26), none, none⟩,
        ⟨some 28, .faddr 1 (.t 27), none, none⟩,
        ⟨some 29, .load 1 false (.t 28), none, none⟩,
        ⟨some 30, .conv .u64 (.t 29), none, none⟩,
        ⟨some 31, .call fid_archipelagoref1_Fixed [(.t 30), (.c (.int .i64 8))], none, none⟩,
        ⟨some 24, .mov (.t 4), none, none⟩,
        ⟨some 32, .append 1 1 (.t 24) (.t 31), none, none⟩,
        ⟨some 33, .mov (.t 0), none, none⟩,
        ⟨some 34, .mov (.t 5), none, none⟩,
        ⟨some 35, .iaddr 3 (.t 33) (.t 34), none, none⟩,
        ⟨some 36, .faddr 2 (.t 35), none, none⟩,
        ⟨some 37, .load 1 false (.t 36), none, some (0, 2)⟩,
        ⟨some 38, .conv .u64 (.t 37), none, none⟩,
        ⟨some 39, .call fid_archipelagoref1_Fixed [(.t 38), (.c (.int .i64 4))], none, none⟩,
        ⟨some 40, .append 1 1 (.t 32) (.t 39), none, none⟩,
        ⟨some 4, .mov (.t 40), none, none⟩])))
  (.reg [⟨some 13, .mov (.t 5), none, none⟩,
      ⟨some 14, .bin .add (.t 13) (.c (.int .i64 1)), none, none⟩,
      ⟨some 5, .mov (.t 14), none, none⟩])))
def ir_archipelagoref18_RowsPut : IFn :=
  { params := 1, results := [.tmp 2, .tmp 3], body :=
  (.seq (.reg [⟨some 2, .mov (.c .nils), none, none⟩,
      ⟨some 3, .mov (.c (.bool false)), none, none⟩])
  (.seq (.seq (.reg [⟨some 6, .mov (.t 0), none, none⟩,
      ⟨some 7, .call fid_archipelagoref18_RowsRight [(.t 6)], none, none⟩,
      ⟨some 8, .un .not (.t 7), none, none⟩])
  (.cond (.t 8)
  (.seq (.reg [⟨some 2, .mov (.c .nils), none, none⟩,
        ⟨some 3, .mov (.c (.bool false)), none, none⟩])
    (.ret))
  (.skip)))
  (.seq (.reg [⟨some 4, .mov (.c .nils), none, none⟩])
  (.seq (.seq (.reg [⟨some 5, .mov (.c (.int .i64 0)), none, none⟩])
  (.block 0
  (.loop [0, 4, 5] archipelagoref18_RowsPut_b0)))
  (.seq (.reg [⟨some 41, .mov (.t 4), none, none⟩,
      ⟨some 42, .append 1 1 (.t 41) (.c (.str [88, 71, 84, 49])), none, none⟩,
      ⟨some 43, .call fid_archipelagoref1_Seal [(.t 42)], none, none⟩,
      ⟨some 2, .mov (.t 43), none, none⟩,
      ⟨some 3, .mov (.c (.bool true)), none, none⟩])
  (.ret)))))) }
def archipelagoref18_Find_b0 : IC :=
  (.seq (.seq (.reg [⟨some 7, .mov (.t 6), none, none⟩,
      ⟨some 8, .mov (.t 0), none, none⟩,
      ⟨some 9, .len .sl (.t 8), none, none⟩,
      ⟨some 10, .bin .lss (.t 7) (.t 9), none, none⟩,
      ⟨some 11, .mov (.t 10), none, none⟩,
      ⟨some 12, .mov (.t 0), (some (11, true)), none⟩,
      ⟨some 13, .call fid_archipelagoref18_RowsRight [(.t 12)], (some (11, true)), none⟩,
      ⟨some 14, .pick (.t 11) (.t 13) (.c (.bool false)), none, none⟩])
  (.cond (.t 14)
  (.skip)
  (.exit 0)))
  (.seq (.block 1
  (.seq (.reg [⟨some 17, .mov (.t 0), none, none⟩,
        ⟨some 18, .mov (.t 6), none, none⟩,
        ⟨some 19, .iaddr 3 (.t 17) (.t 18), none, none⟩,
        ⟨some 20, .faddr 1 (.t 19), none, none⟩,
        ⟨some 21, .load 1 false (.t 20), none, none⟩,
        ⟨some 22, .mov (.t 1), none, none⟩,
        ⟨some 23, .bin .leq (.t 21) (.t 22), none, none⟩])
    (.cond (.t 23)
    (.reg [⟨some 24, .mov (.t 6), none, none⟩,
          ⟨some 5, .mov (.t 24), none, none⟩])
    (.skip))))
  (.reg [⟨some 15, .mov (.t 6), none, none⟩,
      ⟨some 16, .bin .add (.t 15) (.c (.int .i64 1)), none, none⟩,
      ⟨some 6, .mov (.t 16), none, none⟩])))
def ir_archipelagoref18_Find : IFn :=
  { params := 2, results := [.tmp 4], body :=
  (.seq (.reg [⟨some 4, .mov (.c (.int .i64 0)), none, none⟩])
  (.seq (.reg [⟨some 5, .mov (.c (.int .i64 (-1))), none, none⟩])
  (.seq (.seq (.reg [⟨some 6, .mov (.c (.int .i64 0)), none, none⟩])
  (.block 0
  (.loop [0, 1, 5, 6] archipelagoref18_Find_b0)))
  (.seq (.reg [⟨some 25, .mov (.t 5), none, none⟩,
      ⟨some 4, .mov (.t 25), none, none⟩])
  (.ret))))) }
def archipelagoref18_Offset_b0 : IC :=
  (.seq (.seq (.reg [⟨some 20, .mov (.t 6), none, none⟩,
      ⟨some 21, .mov (.t 1), none, none⟩,
      ⟨some 22, .bin .lss (.t 20) (.t 21), none, none⟩])
  (.cond (.t 22)
  (.skip)
  (.exit 0)))
  (.seq (.block 1
  (.reg [⟨some 25, .mov (.t 5), none, none⟩,
        ⟨some 26, .mov (.t 0), none, none⟩,
        ⟨some 27, .mov (.t 6), none, none⟩,
        ⟨some 28, .iaddr 3 (.t 26) (.t 27), none, none⟩,
        ⟨some 29, .faddr 0 (.t 28), none, none⟩,
        ⟨some 30, .load 1 false (.t 29), none, none⟩,
        ⟨some 31, .bin .add (.t 25) (.t 30), none, none⟩,
        ⟨some 5, .mov (.t 31), none, none⟩]))
  (.reg [⟨some 23, .mov (.t 6), none, none⟩,
      ⟨some 24, .bin .add (.t 23) (.c (.int .i64 1)), none, none⟩,
      ⟨some 6, .mov (.t 24), none, none⟩])))
def ir_archipelagoref18_Offset : IFn :=
  { params := 2, results := [.tmp 4], body :=
  (.seq (.reg [⟨some 4, .mov (.c (.int .i64 0)), none, none⟩])
  (.seq (.seq (.reg [⟨some 7, .mov (.t 1), none, none⟩,
      ⟨some 8, .bin .lss (.t 7) (.c (.int .i64 0)), none, none⟩,
      ⟨some 9, .mov (.t 8), none, none⟩,
      ⟨some 10, .mov (.t 1), (some (9, false)), none⟩,
      ⟨some 11, .mov (.t 0), (some (9, false)), none⟩,
      ⟨some 12, .len .sl (.t 11), (some (9, false)), none⟩,
      ⟨some 13, .bin .geq (.t 10) (.t 12), (some (9, false)), none⟩,
      ⟨some 14, .pick (.t 9) (.c (.bool true)) (.t 13), none, none⟩,
      ⟨some 15, .mov (.t 14), none, none⟩,
      ⟨some 16, .mov (.t 0), (some (15, false)), none⟩,
      ⟨some 17, .call fid_archipelagoref18_RowsRight [(.t 16)], (some (15, false)), none⟩,
      ⟨some 18, .un .not (.t 17), (some (15, false)), none⟩,
      ⟨some 19, .pick (.t 15) (.c (.bool true)) (.t 18), none, none⟩])
  (.cond (.t 19)
  (.seq (.reg [⟨some 4, .mov (.c (.int .i64 0)), none, none⟩])
    (.ret))
  (.skip)))
  (.seq (.reg [⟨some 5, .mov (.c (.int .i64 24)), none, none⟩])
  (.seq (.seq (.reg [⟨some 6, .mov (.c (.int .i64 0)), none, none⟩])
  (.block 0
  (.loop [0, 1, 5, 6] archipelagoref18_Offset_b0)))
  (.seq (.reg [⟨some 32, .mov (.t 5), none, none⟩,
      ⟨some 4, .mov (.t 32), none, none⟩])
  (.ret)))))) }
def archipelagolaw19_IndexTells_b0 : IC :=
  (.seq (.reg [⟨some 88, .bin .lss (.t 87) (.t 86), none, none⟩])
  (.seq (.cond (.t 88)
  (.skip)
  (.exit 2))
  (.seq (.block 3
  (.seq (.reg [⟨some 89, .iaddr 1 (.t 85) (.t 87), none, none⟩,
        ⟨some 90, .load 1 false (.t 89), none, none⟩,
        ⟨some 23, .mov (.t 90), none, none⟩])
    (.seq (.reg [⟨some 91, .mov (.t 17), none, none⟩,
        ⟨some 92, .mov (.t 23), none, none⟩,
        ⟨some 93, .call fid_index_Find [(.t 91), (.t 92)], none, none⟩,
        ⟨some 94, .mov (.t 17), none, none⟩,
        ⟨some 95, .mov (.t 23), none, none⟩,
        ⟨some 96, .call fid_archipelagoref18_Find [(.t 94), (.t 95)], none, none⟩,
        ⟨some 97, .bin .neq (.t 93) (.t 96), none, none⟩])
    (.cond (.t 97)
    (.seq (.reg [⟨some 14, .mov (.c (.bool false)), none, none⟩])
      (.ret))
    (.skip)))))
  (.reg [⟨some 98, .bin .add (.t 87) (.c (.int .i64 1)), none, none⟩,
      ⟨some 87, .mov (.t 98), none, none⟩]))))
def archipelagolaw19_IndexTells_b1 : IC :=
  (.seq (.reg [⟨some 52, .bin .lss (.t 51) (.t 50), none, none⟩])
  (.seq (.cond (.t 52)
  (.skip)
  (.exit 0))
  (.seq (.block 1
  (.seq (.reg [⟨some 53, .iaddr 1 (.t 49) (.t 51), none, none⟩,
        ⟨some 54, .load 1 false (.t 53), none, none⟩,
        ⟨some 17, .mov (.t 54), none, none⟩])
    (.seq (.reg [⟨some 56, .mov (.t 17), none, none⟩,
        ⟨some 57, .call fid_index_Put [(.t 56)], none, none⟩,
        ⟨some 55, .mov (.t 57), none, none⟩,
        ⟨some 58, .extract (.t 55) 0, none, none⟩,
        ⟨some 59, .extract (.t 55) 1, none, none⟩,
        ⟨some 18, .mov (.t 58), none, none⟩,
        ⟨some 19, .mov (.t 59), none, none⟩])
    (.seq (.reg [⟨some 61, .mov (.t 17), none, none⟩,
        ⟨some 62, .call fid_archipelagoref18_RowsPut [(.t 61)], none, none⟩,
        ⟨some 60, .mov (.t 62), none, none⟩,
        ⟨some 63, .extract (.t 60) 0, none, none⟩,
        ⟨some 64, .extract (.t 60) 1, none, none⟩,
        ⟨some 20, .mov (.t 63), none, none⟩,
        ⟨some 21, .mov (.t 64), none, none⟩])
    (.seq (.seq (.reg [⟨some 65, .mov (.t 19), none, none⟩,
        ⟨some 66, .mov (.t 21), none, none⟩,
        ⟨some 67, .eq .bool true (.t 65) (.t 66), none, none⟩,
        ⟨some 68, .mov (.t 67), none, none⟩,
        ⟨some 69, .mov (.t 18), (some (68, false)), none⟩,
        ⟨some 70, .toStr (.t 69), (some (68, false)), none⟩,
        ⟨some 71, .mov (.t 20), (some (68, false)), none⟩,
        ⟨some 72, .toStr (.t 71), (some (68, false)), none⟩,
        ⟨some 73, .bin .neq (.t 70) (.t 72), (some (68, false)), none⟩,
        ⟨some 74, .pick (.t 68) (.c (.bool true)) (.t 73), none, none⟩,
        ⟨some 75, .mov (.t 74), none, none⟩,
        ⟨some 76, .mov (.t 17), (some (75, false)), none⟩,
        ⟨some 77, .call fid_index_Right [(.t 76)], (some (75, false)), none⟩,
        ⟨some 78, .mov (.t 17), (some (75, false)), none⟩,
        ⟨some 79, .call fid_archipelagoref18_RowsRight [(.t 78)], (some (75, false)), none⟩,
        ⟨some 80, .eq .bool true (.t 77) (.t 79), (some (75, false)), none⟩,
        ⟨some 81, .pick (.t 75) (.c (.bool true)) (.t 80), none, none⟩])
    (.cond (.t 81)
    (.seq (.reg [⟨some 14, .mov (.c (.bool false)), none, none⟩])
      (.ret))
    (.skip)))
    (.seq (.seq (.reg [⟨some 82, .mov (.t 5), none, none⟩,
        ⟨some 83, .mov (.t 5), none, none⟩,
        ⟨some 84, .bin .and (.t 83) (.c (.int .i64 31)), none, none⟩,
        ⟨some 85, .mkrow 1 4 [(.int .i64 0)] [(0, (.t 82)), (1, (.t 84)), (2, (.c (.int .i64 (-1)))), (3, (.c (.int .i64 4611686018427387903)))], none, none⟩,
        ⟨some 86, .len .sl (.t 85), none, none⟩,
        ⟨some 87, .mov (.c (.int .i64 0)), none, none⟩])
    (.block 2
    (.loop [5, 6, 17, 49, 50, 51, 85, 86, 87] archipelagolaw19_IndexTells_b0)))
    (.seq (.reg [⟨some 99, .mov (.t 17), none, none⟩,
        ⟨some 100, .mov (.t 6), none, none⟩,
        ⟨some 101, .call fid_index_Offset [(.t 99), (.t 100)], none, none⟩,
        ⟨some 102, .mov (.t 17), none, none⟩,
        ⟨some 103, .mov (.t 6), none, none⟩,
        ⟨some 104, .call fid_archipelagoref18_Offset [(.t 102), (.t 103)], none, none⟩,
        ⟨some 105, .bin .neq (.t 101) (.t 104), none, none⟩,
        ⟨some 106, .mov (.t 105), none, none⟩,
        ⟨some 107, .mov (.t 17), (some (106, false)), none⟩,
        ⟨some 108, .mov (.t 6), (some (106, false)), none⟩,
        ⟨some 109, .bin .and (.t 108) (.c (.int .i64 15)), (some (106, false)), none⟩,
        ⟨some 110, .call fid_index_Offset [(.t 107), (.t 109)], (some (106, false)), none⟩,
        ⟨some 111, .mov (.t 17), (some (106, false)), none⟩,
        ⟨some 112, .mov (.t 6), (some (106, false)), none⟩,
        ⟨some 113, .bin .and (.t 112) (.c (.int .i64 15)), (some (106, false)), none⟩,
        ⟨some 114, .call fid_archipelagoref18_Offset [(.t 111), (.t 113)], (some (106, false)), none⟩,
        ⟨some 115, .bin .neq (.t 110) (.t 114), (some (106, false)), none⟩,
        ⟨some 116, .pick (.t 106) (.c (.bool true)) (.t 115), none, none⟩])
    (.cond (.t 116)
    (.seq (.reg [⟨some 14, .mov (.c (.bool false)), none, none⟩])
      (.ret))
    (.skip)))))))))
  (.reg [⟨some 117, .bin .add (.t 51) (.c (.int .i64 1)), none, none⟩,
      ⟨some 51, .mov (.t 117), none, none⟩]))))
def ir_archipelagolaw19_IndexTells : IFn :=
  { params := 7, results := [.tmp 14], body :=
  (.seq (.reg [⟨some 14, .mov (.c (.bool false)), none, none⟩])
  (.seq (.seq (.reg [⟨some 24, .call fid_archipelagolaw19_known [], none, none⟩,
      ⟨some 25, .un .not (.t 24), none, none⟩])
  (.cond (.t 25)
  (.seq (.reg [⟨some 14, .mov (.c (.bool false)), none, none⟩])
    (.ret))
  (.skip)))
  (.seq (.seq (.reg [⟨some 26, .mov (.t 0), none, none⟩,
      ⟨some 27, .len .sl (.t 26), none, none⟩,
      ⟨some 28, .bin .gtr (.t 27) (.c (.int .i64 20)), none, none⟩,
      ⟨some 29, .mov (.t 28), none, none⟩,
      ⟨some 30, .mov (.t 1), (some (29, false)), none⟩,
      ⟨some 31, .len .sl (.t 30), (some (29, false)), none⟩,
      ⟨some 32, .bin .gtr (.t 31) (.c (.int .i64 20)), (some (29, false)), none⟩,
      ⟨some 33, .pick (.t 29) (.c (.bool true)) (.t 32), none, none⟩])
  (.cond (.t 33)
  (.seq (.reg [⟨some 14, .mov (.c (.bool true)), none, none⟩])
    (.ret))
  (.skip)))
  (.seq (.reg [⟨some 34, .mov (.t 1), none, none⟩,
      ⟨some 35, .call fid_archipelagolaw19_rows [(.t 34)], none, none⟩,
      ⟨some 15, .mov (.t 35), none, none⟩])
  (.seq (.seq (.reg [⟨some 36, .mov (.t 0), none, none⟩,
      ⟨some 37, .mov (.t 15), none, none⟩,
      ⟨some 38, .mov (.t 15), none, none⟩,
      ⟨some 39, .mov (.t 2), none, none⟩,
      ⟨some 40, .mov (.t 3), none, none⟩,
      ⟨some 41, .mov (.t 4), none, none⟩,
      ⟨some 42, .call fid_archipelagolaw19_bent [(.t 38), (.t 39), (.t 40), (.t 41)], none, none⟩,
      ⟨some 43, .mov (.t 15), none, none⟩,
      ⟨some 44, .mov (.t 2), none, none⟩,
      ⟨some 45, .mov (.t 3), none, none⟩,
      ⟨some 46, .mov (.t 4), none, none⟩,
      ⟨some 47, .bin .and (.t 46) (.c (.int .i64 31)), none, none⟩,
      ⟨some 48, .call fid_archipelagolaw19_bent [(.t 43), (.t 44), (.t 45), (.t 47)], none, none⟩,
      ⟨some 49, .mkrow 1 4 [.nils] [(0, (.t 36)), (1, (.t 37)), (2, (.t 42)), (3, (.t 48))], none, none⟩,
      ⟨some 50, .len .sl (.t 49), none, none⟩,
      ⟨some 51, .mov (.c (.int .i64 0)), none, none⟩])
  (.block 0
  (.loop [5, 6, 49, 50, 51] archipelagolaw19_IndexTells_b1)))
  (.seq (.reg [⟨some 14, .mov (.c (.bool true)), none, none⟩])
  (.ret))))))) }
def archipelagolaw19_IndexFinds_b0 : IC :=
  (.seq (.reg [⟨some 27, .bin .lss (.t 26) (.t 25), none, none⟩])
  (.seq (.cond (.t 27)
  (.skip)
  (.exit 0))
  (.seq (.block 1
  (.seq (.reg [⟨some 28, .iaddr 1 (.t 24) (.t 26), none, none⟩,
        ⟨some 29, .load 1 false (.t 28), none, none⟩,
        ⟨some 9, .mov (.t 29), none, none⟩])
    (.seq (.reg [⟨some 30, .mov (.t 7), none, none⟩,
        ⟨some 31, .mov (.t 9), none, none⟩,
        ⟨some 32, .call fid_index_Find [(.t 30), (.t 31)], none, none⟩,
        ⟨some 10, .mov (.t 32), none, none⟩])
    (.seq (.reg [⟨some 33, .mov (.t 10), none, none⟩,
        ⟨some 34, .bin .lss (.t 33) (.c (.int .i64 (-1))), none, none⟩,
        ⟨some 35, .mov (.t 34), none, none⟩,
        ⟨some 36, .mov (.t 10), (some (35, false)), none⟩,
        ⟨some 37, .mov (.t 7), (some (35, false)), none⟩,
        ⟨some 38, .len .sl (.t 37), (some (35, false)), none⟩,
        ⟨some 39, .bin .geq (.t 36) (.t 38), (some (35, false)), none⟩,
        ⟨some 40, .pick (.t 35) (.c (.bool true)) (.t 39), none, none⟩,
        ⟨some 41, .mov (.t 40), none, none⟩,
        ⟨some 42, .mov (.t 10), (some (41, false)), none⟩,
        ⟨some 43, .bin .geq (.t 42) (.c (.int .i64 0)), (some (41, false)), none⟩,
        ⟨some 44, .mov (.t 43), (some (41, false)), none⟩,
        ⟨some 45, .mov (.t 7), (some (44, true)), none⟩,
        ⟨some 46, .mov (.t 10), (some (44, true)), none⟩,
        ⟨some 47, .iaddr 3 (.t 45) (.t 46), (some (44, true)), none⟩,
        ⟨some 48, .faddr 1 (.t 47), (some (44, true)), none⟩,
        ⟨some 49, .load 1 false (.t 48), (some (44, true)), none⟩,
        ⟨some 50, .mov (.t 9), (some (44, true)), none⟩,
        ⟨some 51, .bin .gtr (.t 49) (.t 50), (some (44, true)), none⟩,
        ⟨some 52, .pick (.t 44) (.t 51) (.c (.bool false)), (some (41, false)), none⟩,
        ⟨some 53, .pick (.t 41) (.c (.bool true)) (.t 52), none, none⟩,
        ⟨some 54, .mov (.t 53), none, none⟩,
        ⟨some 55, .mov (.t 10), (some (54, false)), none⟩,
        ⟨some 56, .bin .add (.t 55) (.c (.int .i64 1)), (some (54, false)), none⟩,
        ⟨some 57, .mov (.t 7), (some (54, false)), none⟩,
        ⟨some 58, .len .sl (.t 57), (some (54, false)), none⟩,
        ⟨some 59, .bin .lss (.t 56) (.t 58), (some (54, false)), none⟩,
        ⟨some 60, .mov (.t 59), (some (54, false)), none⟩,
        ⟨some 61, .mov (.t 7), (some (60, true)), none⟩,
        ⟨some 62, .mov (.t 10), (some (60, true)), none⟩,
        ⟨some 63, .bin .add (.t 62) (.c (.int .i64 1)), (some (60, true)), none⟩,
        ⟨some 64, .iaddr 3 (.t 61) (.t 63), (some (60, true)), none⟩,
        ⟨some 65, .faddr 1 (.t 64), (some (60, true)), none⟩,
        ⟨some 66, .load 1 false (.t 65), (some (60, true)), none⟩,
        ⟨some 67, .mov (.t 9), (some (60, true)), none⟩,
        ⟨some 68, .bin .leq (.t 66) (.t 67), (some (60, true)), none⟩,
        ⟨some 69, .pick (.t 60) (.t 68) (.c (.bool false)), (some (54, false)), none⟩,
        ⟨some 70, .pick (.t 54) (.c (.bool true)) (.t 69), none, none⟩])
    (.cond (.t 70)
    (.seq (.reg [⟨some 6, .mov (.c (.bool false)), none, none⟩])
      (.ret))
    (.skip))))))
  (.reg [⟨some 71, .bin .add (.t 26) (.c (.int .i64 1)), none, none⟩,
      ⟨some 26, .mov (.t 71), none, none⟩]))))
def archipelagolaw19_IndexFinds_b1 : IC :=
  (.seq (.seq (.reg [⟨some 72, .mov (.t 12), none, none⟩,
      ⟨some 73, .mov (.t 7), none, none⟩,
      ⟨some 74, .len .sl (.t 73), none, none⟩,
      ⟨some 75, .bin .lss (.t 72) (.t 74), none, none⟩])
  (.cond (.t 75)
  (.skip)
  (.exit 2)))
  (.seq (.block 3
  (.seq (.seq (.reg [⟨some 78, .mov (.t 7), none, none⟩,
        ⟨some 79, .mov (.t 12), none, none⟩,
        ⟨some 80, .call fid_index_Offset [(.t 78), (.t 79)], none, none⟩,
        ⟨some 81, .mov (.t 11), none, none⟩,
        ⟨some 82, .bin .neq (.t 80) (.t 81), none, none⟩])
    (.cond (.t 82)
    (.seq (.reg [⟨some 6, .mov (.c (.bool false)), none, none⟩])
      (.ret))
    (.skip)))
    (.reg [⟨some 83, .mov (.t 11), none, none⟩,
        ⟨some 84, .mov (.t 7), none, none⟩,
        ⟨some 85, .mov (.t 12), none, none⟩,
        ⟨some 86, .iaddr 3 (.t 84) (.t 85), none, none⟩,
        ⟨some 87, .faddr 0 (.t 86), none, none⟩,
        ⟨some 88, .load 1 false (.t 87), none, none⟩,
        ⟨some 89, .bin .add (.t 83) (.t 88), none, none⟩,
        ⟨some 11, .mov (.t 89), none, none⟩])))
  (.reg [⟨some 76, .mov (.t 12), none, none⟩,
      ⟨some 77, .bin .add (.t 76) (.c (.int .i64 1)), none, none⟩,
      ⟨some 12, .mov (.t 77), none, none⟩])))
def ir_archipelagolaw19_IndexFinds : IFn :=
  { params := 3, results := [.tmp 6], body :=
  (.seq (.reg [⟨some 6, .mov (.c (.bool false)), none, none⟩])
  (.seq (.seq (.reg [⟨some 13, .call fid_archipelagolaw19_known [], none, none⟩,
      ⟨some 14, .un .not (.t 13), none, none⟩])
  (.cond (.t 14)
  (.seq (.reg [⟨some 6, .mov (.c (.bool false)), none, none⟩])
    (.ret))
  (.skip)))
  (.seq (.seq (.reg [⟨some 15, .mov (.t 0), none, none⟩,
      ⟨some 16, .len .sl (.t 15), none, none⟩,
      ⟨some 17, .bin .gtr (.t 16) (.c (.int .i64 60)), none, none⟩])
  (.cond (.t 17)
  (.seq (.reg [⟨some 6, .mov (.c (.bool true)), none, none⟩])
    (.ret))
  (.skip)))
  (.seq (.reg [⟨some 18, .mov (.t 0), none, none⟩,
      ⟨some 19, .call fid_archipelagolaw19_rows [(.t 18)], none, none⟩,
      ⟨some 7, .mov (.t 19), none, none⟩])
  (.seq (.seq (.reg [⟨some 20, .mov (.t 1), none, none⟩,
      ⟨some 21, .bin .rem (.t 20) (.c (.int .u8 64)), none, none⟩,
      ⟨some 22, .conv .i64 (.t 21), none, none⟩,
      ⟨some 23, .mov (.t 2), none, none⟩,
      ⟨some 24, .mkrow 1 2 [(.int .i64 0)] [(0, (.t 22)), (1, (.t 23))], none, none⟩,
      ⟨some 25, .len .sl (.t 24), none, none⟩,
      ⟨some 26, .mov (.c (.int .i64 0)), none, none⟩])
  (.block 0
  (.loop [7, 24, 25, 26] archipelagolaw19_IndexFinds_b0)))
  (.seq (.reg [⟨some 11, .mov (.c (.int .i64 24)), none, none⟩])
  (.seq (.seq (.reg [⟨some 12, .mov (.c (.int .i64 0)), none, none⟩])
  (.block 2
  (.loop [7, 11, 12] archipelagolaw19_IndexFinds_b1)))
  (.seq (.reg [⟨some 90, .mov (.t 7), none, none⟩,
      ⟨some 91, .call fid_index_Offset [(.t 90), (.c (.int .i64 (-1)))], none, none⟩,
      ⟨some 92, .bin .eql (.t 91) (.c (.int .i64 0)), none, none⟩,
      ⟨some 93, .mov (.t 92), none, none⟩,
      ⟨some 94, .mov (.t 7), (some (93, true)), none⟩,
      ⟨some 95, .mov (.t 7), (some (93, true)), none⟩,
      ⟨some 96, .len .sl (.t 95), (some (93, true)), none⟩,
      ⟨some 97, .call fid_index_Offset [(.t 94), (.t 96)], (some (93, true)), none⟩,
      ⟨some 98, .bin .eql (.t 97) (.c (.int .i64 0)), (some (93, true)), none⟩,
      ⟨some 99, .pick (.t 93) (.t 98) (.c (.bool false)), none, none⟩,
      ⟨some 6, .mov (.t 99), none, none⟩])
  (.ret))))))))) }
end Go.Ab
