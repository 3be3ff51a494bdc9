/- Each function of the program reads as the abstract machine has it. -/
import Derived.Test.YtbkbelaogegpgaaProg
import Derived.Test.YtbkbelaogegpgaaAbs2
import Derived.Test.YtbkbelaogegpgaaIr
import Derived.KernelRfl
namespace Go.Ab
open Go
theorem ok_cmp_Or_int : fnOf Proofs.Try.prog Proofs.Try.f48 ir_cmp_Or_int = some ir_cmp_Or_int := by kernel_rfl
theorem ok_cmp_isNaN_int64 : fnOf Proofs.Try.prog Proofs.Try.f56 ir_cmp_isNaN_int64 = some ir_cmp_isNaN_int64 := by kernel_rfl
theorem ok_cmp_Compare_int64 : fnOf Proofs.Try.prog Proofs.Try.f49 ir_cmp_Compare_int64 = some ir_cmp_Compare_int64 := by kernel_rfl
theorem ok_cmp_isNaN_uint32 : fnOf Proofs.Try.prog Proofs.Try.f58 ir_cmp_isNaN_uint32 = some ir_cmp_isNaN_uint32 := by kernel_rfl
theorem ok_cmp_Compare_uint32 : fnOf Proofs.Try.prog Proofs.Try.f57 ir_cmp_Compare_uint32 = some ir_cmp_Compare_uint32 := by kernel_rfl
theorem ok_edge_compare : fnOf Proofs.Try.prog Proofs.Try.f50 ir_edge_compare = some ir_edge_compare := by kernel_rfl
theorem ok_edge_Before : fnOf Proofs.Try.prog Proofs.Try.f40 ir_edge_Before = some ir_edge_Before := by kernel_rfl
theorem ok_delta_right : fnOf Proofs.Try.prog Proofs.Try.f27 ir_delta_right = some ir_delta_right := by kernel_rfl
theorem ok_bits_NewWriter : fnOf Proofs.Try.prog Proofs.Try.f28 ir_bits_NewWriter = some ir_bits_NewWriter := by kernel_rfl
theorem ok_bits_bound : fnOf Proofs.Try.prog Proofs.Try.f52 ir_bits_bound = some ir_bits_bound := by kernel_rfl
theorem ok_bits_Writer_Put : fnOf Proofs.Try.prog Proofs.Try.f42 ir_bits_Writer_Put = some ir_bits_Writer_Put := by kernel_rfl
theorem ok_math_bits_Len64 : fnOf Proofs.Try.prog Proofs.Try.f51 ir_math_bits_Len64 = some ir_math_bits_Len64 := by kernel_rfl
theorem ok_gamma_Put : fnOf Proofs.Try.prog Proofs.Try.f41 ir_gamma_Put = some ir_gamma_Put := by kernel_rfl
theorem ok_delta_writer_put : fnOf Proofs.Try.prog Proofs.Try.f29 ir_delta_writer_put = some ir_delta_writer_put := by kernel_rfl
theorem ok_slices_Clone_byte_byte : fnOf Proofs.Try.prog Proofs.Try.f43 ir_slices_Clone_byte_byte = some ir_slices_Clone_byte_byte := by kernel_rfl
theorem ok_bits_Writer_Bytes : fnOf Proofs.Try.prog Proofs.Try.f30 ir_bits_Writer_Bytes = some ir_bits_Writer_Bytes := by kernel_rfl
theorem ok_delta_Put : fnOf Proofs.Try.prog Proofs.Try.f11 ir_delta_Put = some ir_delta_Put := by kernel_rfl
theorem ok_bits_NewReader : fnOf Proofs.Try.prog Proofs.Try.f31 ir_bits_NewReader = some ir_bits_NewReader := by kernel_rfl
theorem ok_bits_Reader_Left : fnOf Proofs.Try.prog Proofs.Try.f54 ir_bits_Reader_Left = some ir_bits_Reader_Left := by kernel_rfl
theorem ok_bits_Reader_Take : fnOf Proofs.Try.prog Proofs.Try.f45 ir_bits_Reader_Take = some ir_bits_Reader_Take := by kernel_rfl
theorem ok_gamma_Take : fnOf Proofs.Try.prog Proofs.Try.f53 ir_gamma_Take = some ir_gamma_Take := by kernel_rfl
theorem ok_delta_reader_num : fnOf Proofs.Try.prog Proofs.Try.f44 ir_delta_reader_num = some ir_delta_reader_num := by kernel_rfl
theorem ok_delta_reader_event : fnOf Proofs.Try.prog Proofs.Try.f32 ir_delta_reader_event = some ir_delta_reader_event := by kernel_rfl
theorem ok_edge_Right : fnOf Proofs.Try.prog Proofs.Try.f33 ir_edge_Right = some ir_edge_Right := by kernel_rfl
theorem ok_bytes_Equal : fnOf Proofs.Try.prog Proofs.Try.f34 ir_bytes_Equal = some ir_bytes_Equal := by kernel_rfl
theorem ok_delta_Read : fnOf Proofs.Try.prog Proofs.Try.f13 ir_delta_Read = some ir_delta_Read := by kernel_rfl
theorem ok_archipelagoref8_SameEvents : fnOf Proofs.Try.prog Proofs.Try.f15 ir_archipelagoref8_SameEvents = some ir_archipelagoref8_SameEvents := by kernel_rfl
theorem ok_archipelagolaw16_known : fnOf Proofs.Try.prog Proofs.Try.f7 ir_archipelagolaw16_known = some ir_archipelagolaw16_known := by kernel_rfl
theorem ok_archipelagoseat_Vertices : fnOf Proofs.Try.prog Proofs.Try.f18 ir_archipelagoseat_Vertices = some ir_archipelagoseat_Vertices := by kernel_rfl
theorem ok_archipelagoseat_Edge : fnOf Proofs.Try.prog Proofs.Try.f19 ir_archipelagoseat_Edge = some ir_archipelagoseat_Edge := by kernel_rfl
theorem ok_archipelagoref8_Less : fnOf Proofs.Try.prog Proofs.Try.f16 ir_archipelagoref8_Less = some ir_archipelagoref8_Less := by kernel_rfl
theorem ok_archipelagoref8_Before : fnOf Proofs.Try.prog Proofs.Try.f23 ir_archipelagoref8_Before = some ir_archipelagoref8_Before := by kernel_rfl
theorem ok_archipelagoseat_insert : fnOf Proofs.Try.prog Proofs.Try.f20 ir_archipelagoseat_insert = some ir_archipelagoseat_insert := by kernel_rfl
theorem ok_archipelagoref8_Find : fnOf Proofs.Try.prog Proofs.Try.f38 ir_archipelagoref8_Find = some ir_archipelagoref8_Find := by kernel_rfl
theorem ok_archipelagoref8_Has : fnOf Proofs.Try.prog Proofs.Try.f21 ir_archipelagoref8_Has = some ir_archipelagoref8_Has := by kernel_rfl
theorem ok_archipelagoref8_Rising : fnOf Proofs.Try.prog Proofs.Try.f39 ir_archipelagoref8_Rising = some ir_archipelagoref8_Rising := by kernel_rfl
theorem ok_archipelagoref8_Turn : fnOf Proofs.Try.prog Proofs.Try.f22 ir_archipelagoref8_Turn = some ir_archipelagoref8_Turn := by kernel_rfl
theorem ok_archipelagoseat_History : fnOf Proofs.Try.prog Proofs.Try.f8 ir_archipelagoseat_History = some ir_archipelagoseat_History := by kernel_rfl
theorem ok_archipelagoseat_Late : fnOf Proofs.Try.prog Proofs.Try.f9 ir_archipelagoseat_Late = some ir_archipelagoseat_Late := by kernel_rfl
theorem ok_archipelagoref1_Writer_Put : fnOf Proofs.Try.prog Proofs.Try.f25 ir_archipelagoref1_Writer_Put = some ir_archipelagoref1_Writer_Put := by kernel_rfl
theorem ok_archipelagoref1_length : fnOf Proofs.Try.prog Proofs.Try.f37 ir_archipelagoref1_length = some ir_archipelagoref1_length := by kernel_rfl
theorem ok_archipelagoref1_GammaPut : fnOf Proofs.Try.prog Proofs.Try.f24 ir_archipelagoref1_GammaPut = some ir_archipelagoref1_GammaPut := by kernel_rfl
theorem ok_archipelagoref1_Writer_Bytes : fnOf Proofs.Try.prog Proofs.Try.f26 ir_archipelagoref1_Writer_Bytes = some ir_archipelagoref1_Writer_Bytes := by kernel_rfl
theorem ok_archipelagoref15_DeltaPut : fnOf Proofs.Try.prog Proofs.Try.f10 ir_archipelagoref15_DeltaPut = some ir_archipelagoref15_DeltaPut := by kernel_rfl
theorem ok_archipelagoseat_Change : fnOf Proofs.Try.prog Proofs.Try.f12 ir_archipelagoseat_Change = some ir_archipelagoseat_Change := by kernel_rfl
theorem ok_archipelagoref1_Reader_Left : fnOf Proofs.Try.prog Proofs.Try.f55 ir_archipelagoref1_Reader_Left = some ir_archipelagoref1_Reader_Left := by kernel_rfl
theorem ok_archipelagoref1_Reader_Take : fnOf Proofs.Try.prog Proofs.Try.f47 ir_archipelagoref1_Reader_Take = some ir_archipelagoref1_Reader_Take := by kernel_rfl
theorem ok_archipelagoref1_GammaTake : fnOf Proofs.Try.prog Proofs.Try.f46 ir_archipelagoref1_GammaTake = some ir_archipelagoref1_GammaTake := by kernel_rfl
theorem ok_archipelagoref15_event : fnOf Proofs.Try.prog Proofs.Try.f35 ir_archipelagoref15_event = some ir_archipelagoref15_event := by kernel_rfl
theorem ok_archipelagoref8_Right : fnOf Proofs.Try.prog Proofs.Try.f36 ir_archipelagoref8_Right = some ir_archipelagoref8_Right := by kernel_rfl
theorem ok_archipelagoref15_DeltaRead : fnOf Proofs.Try.prog Proofs.Try.f14 ir_archipelagoref15_DeltaRead = some ir_archipelagoref15_DeltaRead := by kernel_rfl
theorem ok_archipelagolaw16_DeltaTells : fnOf Proofs.Try.prog Proofs.Try.f3 ir_archipelagolaw16_DeltaTells = some ir_archipelagolaw16_DeltaTells := by kernel_rfl
end Go.Ab
