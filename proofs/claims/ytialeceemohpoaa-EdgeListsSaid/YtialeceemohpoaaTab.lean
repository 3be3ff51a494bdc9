/- The table of functions (printed by wip/tabgen.py). -/
import Derived.Test.YtialeceemohpoaaIrOk
import Derived.Test.YtialeceemohpoaaProg
import Derived.Test.YtialeceemohpoaaAbsL
namespace Go.Ab
open Go
def tab : Tab := fun n => match n with
  | 8 => some ir_edge_Of
  | 9 => some ir_edge_Right
  | 19 => some ir_cmp_Or_int
  | 23 => some ir_cmp_isNaN_uint32
  | 21 => some ir_cmp_Compare_uint32
  | 18 => some ir_edge_compare
  | 11 => some ir_edge_Less
  | 13 => some ir_edge_Rising
  | 22 => some ir_cmp_isNaN_int64
  | 20 => some ir_cmp_Compare_int64
  | 15 => some ir_edge_Before
  | 7 => some ir_archipelagolaw8_known
  | 10 => some ir_archipelagoref8_Right
  | 12 => some ir_archipelagoref8_Less
  | 3 => some ir_archipelagolaw8_EdgeTells
  | 14 => some ir_archipelagoref8_Rising
  | 16 => some ir_archipelagoref8_Before
  | 4 => some ir_archipelagolaw8_EdgeLists
  | 17 => some ir_archipelagolaw8_few
  | 5 => some ir_archipelagolaw8_EdgeOrders
  | 6 => some ir_archipelagolaw8_EdgeNames
  | _ => none
theorem tab_ok : TabOk Proofs.Try.prog tab := by
  intro f i h
  unfold tab at h
  split at h
  · cases h; exact ⟨_, _, Proofs.Try.func8, ok_edge_Of⟩
  · cases h; exact ⟨_, _, Proofs.Try.func9, ok_edge_Right⟩
  · cases h; exact ⟨_, _, Proofs.Try.func19, ok_cmp_Or_int⟩
  · cases h; exact ⟨_, _, Proofs.Try.func23, ok_cmp_isNaN_uint32⟩
  · cases h; exact ⟨_, _, Proofs.Try.func21, ok_cmp_Compare_uint32⟩
  · cases h; exact ⟨_, _, Proofs.Try.func18, ok_edge_compare⟩
  · cases h; exact ⟨_, _, Proofs.Try.func11, ok_edge_Less⟩
  · cases h; exact ⟨_, _, Proofs.Try.func13, ok_edge_Rising⟩
  · cases h; exact ⟨_, _, Proofs.Try.func22, ok_cmp_isNaN_int64⟩
  · cases h; exact ⟨_, _, Proofs.Try.func20, ok_cmp_Compare_int64⟩
  · cases h; exact ⟨_, _, Proofs.Try.func15, ok_edge_Before⟩
  · cases h; exact ⟨_, _, Proofs.Try.func7, ok_archipelagolaw8_known⟩
  · cases h; exact ⟨_, _, Proofs.Try.func10, ok_archipelagoref8_Right⟩
  · cases h; exact ⟨_, _, Proofs.Try.func12, ok_archipelagoref8_Less⟩
  · cases h; exact ⟨_, _, Proofs.Try.func3, ok_archipelagolaw8_EdgeTells⟩
  · cases h; exact ⟨_, _, Proofs.Try.func14, ok_archipelagoref8_Rising⟩
  · cases h; exact ⟨_, _, Proofs.Try.func16, ok_archipelagoref8_Before⟩
  · cases h; exact ⟨_, _, Proofs.Try.func4, ok_archipelagolaw8_EdgeLists⟩
  · cases h; exact ⟨_, _, Proofs.Try.func17, ok_archipelagolaw8_few⟩
  · cases h; exact ⟨_, _, Proofs.Try.func5, ok_archipelagolaw8_EdgeOrders⟩
  · cases h; exact ⟨_, _, Proofs.Try.func6, ok_archipelagolaw8_EdgeNames⟩
  · cases h
theorem tab_mixed : Proofs.Try.prog.follows .mixedOrders = true := by kernel_rfl
theorem tab_edge_Of : tab fid_edge_Of = some ir_edge_Of := rfl
theorem tab_edge_Right : tab fid_edge_Right = some ir_edge_Right := rfl
theorem tab_cmp_Or_int : tab fid_cmp_Or_int = some ir_cmp_Or_int := rfl
theorem tab_cmp_isNaN_uint32 : tab fid_cmp_isNaN_uint32 = some ir_cmp_isNaN_uint32 := rfl
theorem tab_cmp_Compare_uint32 : tab fid_cmp_Compare_uint32 = some ir_cmp_Compare_uint32 := rfl
theorem tab_edge_compare : tab fid_edge_compare = some ir_edge_compare := rfl
theorem tab_edge_Less : tab fid_edge_Less = some ir_edge_Less := rfl
theorem tab_edge_Rising : tab fid_edge_Rising = some ir_edge_Rising := rfl
theorem tab_cmp_isNaN_int64 : tab fid_cmp_isNaN_int64 = some ir_cmp_isNaN_int64 := rfl
theorem tab_cmp_Compare_int64 : tab fid_cmp_Compare_int64 = some ir_cmp_Compare_int64 := rfl
theorem tab_edge_Before : tab fid_edge_Before = some ir_edge_Before := rfl
theorem tab_archipelagolaw8_known : tab fid_archipelagolaw8_known = some ir_archipelagolaw8_known := rfl
theorem tab_archipelagoref8_Right : tab fid_archipelagoref8_Right = some ir_archipelagoref8_Right := rfl
theorem tab_archipelagoref8_Less : tab fid_archipelagoref8_Less = some ir_archipelagoref8_Less := rfl
theorem tab_archipelagolaw8_EdgeTells : tab fid_archipelagolaw8_EdgeTells = some ir_archipelagolaw8_EdgeTells := rfl
theorem tab_archipelagoref8_Rising : tab fid_archipelagoref8_Rising = some ir_archipelagoref8_Rising := rfl
theorem tab_archipelagoref8_Before : tab fid_archipelagoref8_Before = some ir_archipelagoref8_Before := rfl
theorem tab_archipelagolaw8_EdgeLists : tab fid_archipelagolaw8_EdgeLists = some ir_archipelagolaw8_EdgeLists := rfl
theorem tab_archipelagolaw8_few : tab fid_archipelagolaw8_few = some ir_archipelagolaw8_few := rfl
theorem tab_archipelagolaw8_EdgeOrders : tab fid_archipelagolaw8_EdgeOrders = some ir_archipelagolaw8_EdgeOrders := rfl
theorem tab_archipelagolaw8_EdgeNames : tab fid_archipelagolaw8_EdgeNames = some ir_archipelagolaw8_EdgeNames := rfl
end Go.Ab
