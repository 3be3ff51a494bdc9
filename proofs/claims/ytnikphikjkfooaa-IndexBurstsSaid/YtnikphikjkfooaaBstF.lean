/- IdxF, IdxG. -/
import Derived.Test.YtnikphikjkfooaaBstE
import Derived.Test.YtnikphikjkfooaaArgA
import Derived.Test.YtnikphikjkfooaaValN
import Derived.KernelRfl
namespace Go.Ab
open Go
set_option linter.unusedVariables false
set_option linter.unusedSimpArgs false
set_option maxRecDepth 10000
def findK (R : List Row3) (t : Int) : Nat → Int
 | 0 => -1
 | n + 1 => if (R.getD n (0, 0, 0)).2.1 ≤ t then (n : Int) else findK R t n
def findV (R : List Row3) (t : Int) : Int := if okN R R.length = true then findK R t R.length else -1
def offV (R : List Row3) (i : Int) : Int := if i < 0 ∨ (R.length : Int) ≤ i ∨ okN R R.length = false then 0 else offS R i.toNat
theorem index_known2 : GF gtab fid_archipelagolaw19_known [] [] 0 = some (.bool true, []) := GF_run 100 (by kernel_rfl)
theorem Zj1 {T : GTab} {fl : Fl} {lo : Nat} {env : GEnv} {h : GH} {Q : GEnv → GH → Prop} {ic : IC} {ks' : List K} (P : GEnv → GH → Prop) (k1 : Z T fl lo (.c ic :: .again P :: ks') env h Q) (k2 : ∀ env h, P env h → Z T fl lo ks' env h Q) : Z T fl lo (.c ic :: ks') env h Q := by
 unfold Z at k1 k2 ⊢
 simp only [post] at k1 ⊢
 refine k1.mono fun e env' h' m => ?_
 cases e with
 | norm => exact k2 _ _ m
 | exit j => exact m
 | ret => exact m
def isRw (w : U) (R : List Row3) : Prop := w = .list false 3 (ur R) ∨ (w = .nils ∧ R = [])
theorem putN_G : GF gtab fid_index_Put [.nils] [] 0 = some (.tup [.own 1 (un .u8 (rowsS [])), .bool true], []) := GF_run 200 (by kernel_rfl)
theorem put_w {w : U} {R : List Row3} (hw : isRw w R) (hl : R.length ≤ 1000) (hs : SumsOk R) : GF gtab fid_index_Put [w] [] 0 = some (if okN R R.length = true then .tup [.own 1 (un .u8 (rowsS R)), .bool true] else .tup [.nils, .bool false], []) := by
 rcases hw with rfl | ⟨rfl, rfl⟩
 ·exact iput_G hl hs
 ·rw [if_pos (show okN [] ([] : List Row3).length = true from rfl)]; exact putN_G
theorem wrap_u32_rng (n : Int) : 0 ≤ IntKind.u32.wrap n ∧ IntKind.u32.wrap n < 4294967296 := by
 have := Int.emod_nonneg n (b := 4294967296) (by omega)
 have := Int.emod_lt_of_pos n (b := 4294967296) (by omega)
 have e : IntKind.u32.wrap n = n % 4294967296 := rfl
 omega
theorem SumsOk.set {R : List Row3} (h : SumsOk R) {k : Nat} {r : Row3} (hr : 0 ≤ r.2.2 ∧ r.2.2 < 4294967296) : SumsOk (R.set k r) := fun x hx => by
 rcases List.mem_or_eq_of_mem_set hx with h1 | rfl
 ·exact h x h1
 ·exact hr
def rowU (xs : List U) : List (List U) := xs.map fun u => [u]
end Go.Ab
