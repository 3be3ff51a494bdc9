/- Each function of the program reads as the abstract machine has it. -/
import Derived.Test.YtnikphikjkfooaaProg
import Derived.Test.YtnikphikjkfooaaAbs2
import Derived.Test.YtnikphikjkfooaaIr
import Derived.KernelRfl
namespace Go.Ab
open Go
theorem ok_index_Right : fnOf Proofs.Try.prog Proofs.Try.f12 ir_index_Right = some ir_index_Right := by kernel_rfl
theorem ok_index_put : fnOf Proofs.Try.prog Proofs.Try.f27 ir_index_put = some ir_index_put := by kernel_rfl
theorem ok_slices_Clone_byte_byte : fnOf Proofs.Try.prog Proofs.Try.f40 ir_slices_Clone_byte_byte = some ir_slices_Clone_byte_byte := by kernel_rfl
theorem ok_crc_step : fnOf Proofs.Try.prog Proofs.Try.f45 ir_crc_step = some ir_crc_step := by kernel_rfl
theorem ok_crc_Sum : fnOf Proofs.Try.prog Proofs.Try.f41 ir_crc_Sum = some ir_crc_Sum := by kernel_rfl
theorem ok_crc_Seal : fnOf Proofs.Try.prog Proofs.Try.f28 ir_crc_Seal = some ir_crc_Seal := by kernel_rfl
theorem ok_index_Put : fnOf Proofs.Try.prog Proofs.Try.f10 ir_index_Put = some ir_index_Put := by kernel_rfl
theorem ok_sort_Search : fnOf Proofs.Try.prog Proofs.Try.f29 ir_sort_Search = some ir_sort_Search := by kernel_rfl
theorem ok_index_Find_1 : fnOf Proofs.Try.prog Proofs.Try.f30 ir_index_Find_1 = some ir_index_Find_1 := by kernel_rfl
theorem ok_index_Find : fnOf Proofs.Try.prog Proofs.Try.f14 ir_index_Find = some ir_index_Find := by kernel_rfl
theorem ok_index_Offset : fnOf Proofs.Try.prog Proofs.Try.f16 ir_index_Offset = some ir_index_Offset := by kernel_rfl
theorem ok_archipelagoref1_Fixed : fnOf Proofs.Try.prog Proofs.Try.f19 ir_archipelagoref1_Fixed = some ir_archipelagoref1_Fixed := by kernel_rfl
theorem ok_archipelagoref1_Next : fnOf Proofs.Try.prog Proofs.Try.f42 ir_archipelagoref1_Next = some ir_archipelagoref1_Next := by kernel_rfl
theorem ok_archipelagoref1_Sum : fnOf Proofs.Try.prog Proofs.Try.f32 ir_archipelagoref1_Sum = some ir_archipelagoref1_Sum := by kernel_rfl
theorem ok_archipelagoref1_Seal : fnOf Proofs.Try.prog Proofs.Try.f20 ir_archipelagoref1_Seal = some ir_archipelagoref1_Seal := by kernel_rfl
theorem ok_archipelagoref18_Right : fnOf Proofs.Try.prog Proofs.Try.f31 ir_archipelagoref18_Right = some ir_archipelagoref18_Right := by kernel_rfl
theorem ok_archipelagoref18_Put : fnOf Proofs.Try.prog Proofs.Try.f18 ir_archipelagoref18_Put = some ir_archipelagoref18_Put := by kernel_rfl
theorem ok_head_Right : fnOf Proofs.Try.prog Proofs.Try.f43 ir_head_Right = some ir_head_Right := by kernel_rfl
theorem ok_head_Blocks : fnOf Proofs.Try.prog Proofs.Try.f36 ir_head_Blocks = some ir_head_Blocks := by kernel_rfl
theorem ok_slices_Equal_byte_byte : fnOf Proofs.Try.prog Proofs.Try.f44 ir_slices_Equal_byte_byte = some ir_slices_Equal_byte_byte := by kernel_rfl
theorem ok_crc_Open : fnOf Proofs.Try.prog Proofs.Try.f37 ir_crc_Open = some ir_crc_Open := by kernel_rfl
theorem ok_index_take : fnOf Proofs.Try.prog Proofs.Try.f38 ir_index_take = some ir_index_take := by kernel_rfl
theorem ok_index_Read : fnOf Proofs.Try.prog Proofs.Try.f23 ir_index_Read = some ir_index_Read := by kernel_rfl
theorem ok_archipelagoref18_SameRows : fnOf Proofs.Try.prog Proofs.Try.f25 ir_archipelagoref18_SameRows = some ir_archipelagoref18_SameRows := by kernel_rfl
theorem ok_archipelagolaw19_known : fnOf Proofs.Try.prog Proofs.Try.f7 ir_archipelagolaw19_known = some ir_archipelagolaw19_known := by kernel_rfl
theorem ok_archipelagolaw19_rows : fnOf Proofs.Try.prog Proofs.Try.f8 ir_archipelagolaw19_rows = some ir_archipelagolaw19_rows := by kernel_rfl
theorem ok_archipelagolaw19_bent : fnOf Proofs.Try.prog Proofs.Try.f9 ir_archipelagolaw19_bent = some ir_archipelagolaw19_bent := by kernel_rfl
theorem ok_archipelagoref18_RowsRight : fnOf Proofs.Try.prog Proofs.Try.f13 ir_archipelagoref18_RowsRight = some ir_archipelagoref18_RowsRight := by kernel_rfl
theorem ok_archipelagoref18_RowsPut : fnOf Proofs.Try.prog Proofs.Try.f11 ir_archipelagoref18_RowsPut = some ir_archipelagoref18_RowsPut := by kernel_rfl
theorem ok_archipelagoseat_Change : fnOf Proofs.Try.prog Proofs.Try.f21 ir_archipelagoseat_Change = some ir_archipelagoseat_Change := by kernel_rfl
theorem ok_archipelagoref1_Number : fnOf Proofs.Try.prog Proofs.Try.f35 ir_archipelagoref1_Number = some ir_archipelagoref1_Number := by kernel_rfl
theorem ok_archipelagoref1_Open : fnOf Proofs.Try.prog Proofs.Try.f39 ir_archipelagoref1_Open = some ir_archipelagoref1_Open := by kernel_rfl
theorem ok_archipelagoref18_Read : fnOf Proofs.Try.prog Proofs.Try.f33 ir_archipelagoref18_Read = some ir_archipelagoref18_Read := by kernel_rfl
theorem ok_archipelagoref18_Blocks : fnOf Proofs.Try.prog Proofs.Try.f34 ir_archipelagoref18_Blocks = some ir_archipelagoref18_Blocks := by kernel_rfl
theorem ok_archipelagoseat_Mend : fnOf Proofs.Try.prog Proofs.Try.f22 ir_archipelagoseat_Mend = some ir_archipelagoseat_Mend := by kernel_rfl
theorem ok_archipelagoref18_RowsRead : fnOf Proofs.Try.prog Proofs.Try.f24 ir_archipelagoref18_RowsRead = some ir_archipelagoref18_RowsRead := by kernel_rfl
theorem ok_archipelagolaw19_IndexReads : fnOf Proofs.Try.prog Proofs.Try.f4 ir_archipelagolaw19_IndexReads = some ir_archipelagolaw19_IndexReads := by kernel_rfl
end Go.Ab
