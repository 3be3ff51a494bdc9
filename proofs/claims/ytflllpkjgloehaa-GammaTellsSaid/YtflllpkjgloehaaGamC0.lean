/- gamma's known, sizes. -/
import Derived.Test.YtflllpkjgloehaaGamB
namespace Go.Ab
open Go
set_option linter.unusedVariables false
set_option linter.unusedSimpArgs false
set_option maxRecDepth 10000

theorem gamma_known : GF gtab fid_archipelagolaw3_known [] [] 0 = some (.bool true, []) := GF_run 100 (by kernel_rfl)

theorem gl_mono {v w : Nat} (h : v ≤ w) : (gbits v).length ≤ (gbits w).length := by
  have := nb_mono h
  rw [gbits_length, gbits_length]; omega

theorem shr_any {v s : Nat} (hv : v < 18446744073709551616) : (v : Int).fdiv (2 ^ min s IntKind.u64.bits) = ((v / 2 ^ s : Nat) : Int) := by
  have := shr_nat (k := .u64) (a := v) (s := s) hv
  simp only [Int.toNat_natCast] at this
  exact this

end Go.Ab
