/- How two edges stand, on the machine of values. -/
import Derived.Test.YtaoippgdkilacaaBitPure
import Derived.Test.YtaoippgdkilacaaGt
import Derived.Test.YtaoippgdkilacaaValN
import Derived.KernelRfl
import Derived.Test.YtaoippgdkilacaaAdjP
namespace Go.Ab
open Go
open Nat renaming reduceEqDiff → zpa, reduceLT → zpb, reduceAdd → zpc, reduceSub → zpd, reduceLeDiff → zpe, reduceMul → zpf
open Int renaming reduceToNat → zpg, reduceLT → zph, reduceLE → zpi, reduceEq → zpj, reduceNe → zpk, reduceBEq → zpl, reduceBNe → zpm, reduceAdd → zpn, reduceSub → zpo, reduceNeg → zpp
open List renaming replicate → zlr
set_option linter.unusedVariables false
set_option linter.unusedSimpArgs false
set_option maxRecDepth 10000

theorem isNaN32_G (a : Int) : GF gtab fid_cmp_isNaN_uint32 [.int .u32 a] [] 0 = some (.bool false, []) := by
  refine fn_cmp_isNaN_uint32 rfl ?_
  simp only [genvOf]
  refine Zr rfl (by simp (maxSteps := 2000000) only [gs,zlr,reduceIte,reduceCtorEq,zpa,zpb,zpc,zpd,zpe,zpf,zpg,zph,zpi,zpj,zpk,zpl,zpm,zpn,zpo,zpp]; rfl) ?_
  exact Zr rfl (by simp (maxSteps := 2000000) only [gs,zlr,reduceIte,reduceCtorEq,zpa,zpb,zpc,zpd,zpe,zpf,zpg,zph,zpi,zpj,zpk,zpl,zpm,zpn,zpo,zpp, bne_self_eq_false]; rfl) (Zq rfl ⟨_, rfl, rfl⟩)

/-- How two numbers stand. -/
def cmpI (a b : Int) : Int := if a < b then -1 else if a > b then 1 else 0

theorem cmp32_G (a b : Int) : GF gtab fid_cmp_Compare_uint32 [.int .u32 a, .int .u32 b] [] 0 = some (.int .i64 (cmpI a b), []) := by
  refine fn_cmp_Compare_uint32 rfl ?_
  simp only [genvOf]
  refine Zr rfl (by simp (maxSteps := 2000000) only [gs,zlr,reduceIte,reduceCtorEq,zpa,zpb,zpc,zpd,zpe,zpf,zpg,zph,zpi,zpj,zpk,zpl,zpm,zpn,zpo,zpp]; rfl) ?_
  refine Zr rfl (by simp (maxSteps := 2000000) only [gs,zlr,reduceIte,reduceCtorEq,zpa,zpb,zpc,zpd,zpe,zpf,zpg,zph,zpi,zpj,zpk,zpl,zpm,zpn,zpo,zpp, gc_cmp_isNaN_uint32, isNaN32_G]; rfl) ?_
  refine Zr rfl (by simp (maxSteps := 2000000) only [gs,zlr,reduceIte,reduceCtorEq,zpa,zpb,zpc,zpd,zpe,zpf,zpg,zph,zpi,zpj,zpk,zpl,zpm,zpn,zpo,zpp, gc_cmp_isNaN_uint32, isNaN32_G]; rfl) ?_
  refine Zr rfl (by simp (maxSteps := 2000000) only [gs,zlr,reduceIte,reduceCtorEq,zpa,zpb,zpc,zpd,zpe,zpf,zpg,zph,zpi,zpj,zpk,zpl,zpm,zpn,zpo,zpp]; rfl) (Zc rfl rfl (fun h => by cases h) (fun _ => ?_))
  refine Zr rfl (by simp (maxSteps := 2000000) only [gs,zlr,reduceIte,reduceCtorEq,zpa,zpb,zpc,zpd,zpe,zpf,zpg,zph,zpi,zpj,zpk,zpl,zpm,zpn,zpo,zpp]; rfl) (Zc rfl rfl (fun h => by cases h) (fun _ => ?_))
  refine Zr rfl (by simp (maxSteps := 2000000) only [gs,zlr,reduceIte,reduceCtorEq,zpa,zpb,zpc,zpd,zpe,zpf,zpg,zph,zpi,zpj,zpk,zpl,zpm,zpn,zpo,zpp]; rfl) (Zp rfl rfl (fun h0 => ?_) (fun h0 => ?_))
  · refine Zr rfl (by simp only [gs,zlr,reduceIte,reduceCtorEq,zpa,zpb,zpc,zpd,zpe,zpf,zpg,zph,zpi,zpj,zpk,zpl,zpm,zpn,zpo,zpp]; rfl) (Zq rfl ⟨_, rfl, ?_⟩)
    rw [cmpI, if_pos h0]; rfl
  refine Zr rfl (by simp (maxSteps := 2000000) only [gs,zlr,reduceIte,reduceCtorEq,zpa,zpb,zpc,zpd,zpe,zpf,zpg,zph,zpi,zpj,zpk,zpl,zpm,zpn,zpo,zpp]; rfl) (Zp rfl rfl (fun h => ?_) (fun h => ?_))
  · refine Zr rfl (by simp only [gs,zlr,reduceIte,reduceCtorEq,zpa,zpb,zpc,zpd,zpe,zpf,zpg,zph,zpi,zpj,zpk,zpl,zpm,zpn,zpo,zpp]; rfl) (Zq rfl ⟨_, rfl, ?_⟩)
    rw [cmpI, if_neg h0, if_pos h]; rfl
  · refine Zr rfl (by simp only [gs,zlr,reduceIte,reduceCtorEq,zpa,zpb,zpc,zpd,zpe,zpf,zpg,zph,zpi,zpj,zpk,zpl,zpm,zpn,zpo,zpp]; rfl) (Zq rfl ⟨_, rfl, ?_⟩)
    rw [cmpI, if_neg h0, if_neg h]; rfl

/-- The first of two that isn't nought. -/
theorem or2_G (a b : Int) : GF gtab fid_cmp_Or_int [.list false 1 [[.int .i64 a], [.int .i64 b]]] [] 0 = some (.int .i64 (if a ≠ 0 then a else b), []) := by
  refine fn_cmp_Or_int rfl ?_
  simp only [genvOf]
  refine Zr rfl (by simp (maxSteps := 2000000) only [gs,zlr,reduceIte,reduceCtorEq,zpa,zpb,zpc,zpd,zpe,zpf,zpg,zph,zpi,zpj,zpk,zpl,zpm,zpn,zpo,zpp]; rfl) ?_
  refine Zr rfl (by simp (maxSteps := 2000000) only [gs,zlr,reduceIte,reduceCtorEq,zpa,zpb,zpc,zpd,zpe,zpf,zpg,zph,zpi,zpj,zpk,zpl,zpm,zpn,zpo,zpp]; rfl) ?_
  refine Zr rfl (by simp (maxSteps := 2000000) only [gs,zlr,reduceIte,reduceCtorEq,zpa,zpb,zpc,zpd,zpe,zpf,zpg,zph,zpi,zpj,zpk,zpl,zpm,zpn,zpo,zpp]; rfl) ?_
  refine Zw rfl (fun n env h => h = [] ∧ ∃ i, GEnv.get env 3 = .int .i64 0 ∧ GEnv.get env 6 = .list false 1 [[.int .i64 a], [.int .i64 b]] ∧ GEnv.get env 7 = .int .i64 2 ∧ GEnv.get env 8 = .int .i64 (i : Nat) ∧ n + i = 2 ∧ (0 < i → a = 0) ∧ (1 < i → b = 0)) 2 ⟨rfl, 0, rfl, rfl, rfl, rfl, rfl, by omega, by omega⟩ ?_
  rintro n env h ⟨rfl, i, k3, k6, k7, k8, hn, ha, hb⟩
  simp only [GEnv.keep, k3, k6, k7, k8]
  match i, hn with
  | 0, hn =>
    refine Zr rfl (by simp (maxSteps := 2000000) only [gs,zlr,reduceIte,reduceCtorEq,zpa,zpb,zpc,zpd,zpe,zpf,zpg,zph,zpi,zpj,zpk,zpl,zpm,zpn,zpo,zpp]; rfl) (Zc rfl rfl (fun _ => ?_) (fun h => by cases h))
    refine Zr rfl (by simp (maxSteps := 2000000) only [gs,zlr,reduceIte,reduceCtorEq,zpa,zpb,zpc,zpd,zpe,zpf,zpg,zph,zpi,zpj,zpk,zpl,zpm,zpn,zpo,zpp]; rfl) ?_
    cases h0 : (a != 0) with
    | true =>
      refine Zr rfl (by simp (maxSteps := 2000000) only [gs,zlr,reduceIte,reduceCtorEq,zpa,zpb,zpc,zpd,zpe,zpf,zpg,zph,zpi,zpj,zpk,zpl,zpm,zpn,zpo,zpp, h0]; rfl) (Zc rfl rfl (fun _ => ?_) (fun h => by cases h))
      refine Zr rfl (by simp only [gs,zlr,reduceIte,reduceCtorEq,zpa,zpb,zpc,zpd,zpe,zpf,zpg,zph,zpi,zpj,zpk,zpl,zpm,zpn,zpo,zpp]; rfl) (Zq rfl ⟨_, rfl, ?_⟩)
      rw [if_pos (by simpa using h0)]; rfl
    | false =>
      refine Zr rfl (by simp (maxSteps := 2000000) only [gs,zlr,reduceIte,reduceCtorEq,zpa,zpb,zpc,zpd,zpe,zpf,zpg,zph,zpi,zpj,zpk,zpl,zpm,zpn,zpo,zpp, h0]; rfl) (Zc rfl rfl (fun h => by cases h) (fun _ => ?_))
      refine Zr rfl (by simp (maxSteps := 2000000) only [gs,zlr,reduceIte,reduceCtorEq,zpa,zpb,zpc,zpd,zpe,zpf,zpg,zph,zpi,zpj,zpk,zpl,zpm,zpn,zpo,zpp]; rfl) ?_
      exact Za rfl ⟨1, by omega, rfl, 1, rfl, rfl, rfl, rfl, rfl, fun _ => by simpa using h0, by omega⟩
  | 1, hn =>
    have ha := ha (by omega)
    subst ha
    refine Zr rfl (by simp (maxSteps := 2000000) only [gs,zlr,reduceIte,reduceCtorEq,zpa,zpb,zpc,zpd,zpe,zpf,zpg,zph,zpi,zpj,zpk,zpl,zpm,zpn,zpo,zpp]; rfl) (Zc rfl rfl (fun _ => ?_) (fun h => by cases h))
    refine Zr rfl (by simp (maxSteps := 2000000) only [gs,zlr,reduceIte,reduceCtorEq,zpa,zpb,zpc,zpd,zpe,zpf,zpg,zph,zpi,zpj,zpk,zpl,zpm,zpn,zpo,zpp]; rfl) ?_
    cases h0 : (b != 0) with
    | true =>
      refine Zr rfl (by simp (maxSteps := 2000000) only [gs,zlr,reduceIte,reduceCtorEq,zpa,zpb,zpc,zpd,zpe,zpf,zpg,zph,zpi,zpj,zpk,zpl,zpm,zpn,zpo,zpp, h0]; rfl) (Zc rfl rfl (fun _ => ?_) (fun h => by cases h))
      refine Zr rfl (by simp only [gs,zlr,reduceIte,reduceCtorEq,zpa,zpb,zpc,zpd,zpe,zpf,zpg,zph,zpi,zpj,zpk,zpl,zpm,zpn,zpo,zpp]; rfl) (Zq rfl ⟨_, rfl, rfl⟩)
    | false =>
      refine Zr rfl (by simp (maxSteps := 2000000) only [gs,zlr,reduceIte,reduceCtorEq,zpa,zpb,zpc,zpd,zpe,zpf,zpg,zph,zpi,zpj,zpk,zpl,zpm,zpn,zpo,zpp, h0]; rfl) (Zc rfl rfl (fun h => by cases h) (fun _ => ?_))
      refine Zr rfl (by simp (maxSteps := 2000000) only [gs,zlr,reduceIte,reduceCtorEq,zpa,zpb,zpc,zpd,zpe,zpf,zpg,zph,zpi,zpj,zpk,zpl,zpm,zpn,zpo,zpp]; rfl) ?_
      exact Za rfl ⟨0, by omega, rfl, 2, rfl, rfl, rfl, rfl, rfl, fun _ => rfl, fun _ => by simpa using h0⟩
  | 2, hn =>
    have ha := ha (by omega)
    have hb := hb (by omega)
    subst ha hb
    refine Zr rfl (by simp (maxSteps := 2000000) only [gs,zlr,reduceIte,reduceCtorEq,zpa,zpb,zpc,zpd,zpe,zpf,zpg,zph,zpi,zpj,zpk,zpl,zpm,zpn,zpo,zpp]; rfl) (Zc rfl rfl (fun h => by cases h) (fun _ => ?_))
    exact Zr rfl (by simp (maxSteps := 2000000) only [gs,zlr,reduceIte,reduceCtorEq,zpa,zpb,zpc,zpd,zpe,zpf,zpg,zph,zpi,zpj,zpk,zpl,zpm,zpn,zpo,zpp]; rfl) (Zq rfl ⟨_, rfl, rfl⟩)

/-- How two edges stand. -/
def cmpE (a b c d : Int) : Int := if cmpI a c ≠ 0 then cmpI a c else cmpI b d

theorem compare_G (a b c d : Int) : GF gtab fid_edge_compare [.agg [.int .u32 a, .int .u32 b], .agg [.int .u32 c, .int .u32 d]] [] 0 = some (.int .i64 (cmpE a b c d), []) := by
  refine fn_edge_compare rfl ?_
  simp only [genvOf]
  refine Zr rfl (by simp (maxSteps := 2000000) only [gs,zlr,reduceIte,reduceCtorEq,zpa,zpb,zpc,zpd,zpe,zpf,zpg,zph,zpi,zpj,zpk,zpl,zpm,zpn,zpo,zpp]; rfl) ?_
  exact Zd rfl (by simp (maxSteps := 2000000) only [gs,gd,zlr,id,reduceIte,reduceCtorEq,zpa,zpb,zpc,zpd,zpe,zpf,zpg,zph,zpi,zpj,zpk,zpl,zpm,zpn,zpo,zpp, gc_cmp_Compare_uint32, iq_cmp_Compare_uint32, cmp32_G, gc_cmp_Or_int, iq_cmp_Or_int, or2_G]; rfl) (Zq rfl ⟨_, rfl, rfl⟩)

def less (a b c d : Int) : Bool := decide (cmpE a b c d < 0)
theorem less_iff {a b c d : Int} : less a b c d = decide (a < c ∨ a = c ∧ b < d) := by
  unfold less cmpE cmpI
  rw [decide_eq_decide]
  by_cases h1 : a < c
  · simp [h1]
  · by_cases h2 : a > c
    · simp [h1, h2]; omega
    · have : a = c := by omega
      subst this
      by_cases h3 : b < d
      · simp [h3]
      · by_cases h4 : b > d
        · simp [h3, h4]
        · simp [h3, h4]

theorem wrap_u64_in {n : Int} (h : 0 ≤ n ∧ n ≤ 18446744073709551615) : IntKind.u64.wrap n = n := by
  obtain ⟨m, rfl⟩ : ∃ m : Nat, n = (m : Int) := ⟨n.toNat, by omega⟩
  rw [wrap_u64_nat, Nat.mod_eq_of_lt (by omega)]

theorem less_G (a b c d : Int) : GF gtab fid_edge_Less [.agg [.int .u32 a, .int .u32 b], .agg [.int .u32 c, .int .u32 d]] [] 0 = some (.bool (decide (a < c ∨ a = c ∧ b < d)), []) := by
  refine fn_edge_Less rfl ?_
  simp only [genvOf]
  refine Zr rfl (by simp (maxSteps := 2000000) only [gs,zlr,reduceIte,reduceCtorEq,zpa,zpb,zpc,zpd,zpe,zpf,zpg,zph,zpi,zpj,zpk,zpl,zpm,zpn,zpo,zpp]; rfl) ?_
  rw [← less_iff]
  unfold less
  exact Zr rfl (by simp (maxSteps := 2000000) only [gs,zlr,reduceIte,reduceCtorEq,zpa,zpb,zpc,zpd,zpe,zpf,zpg,zph,zpi,zpj,zpk,zpl,zpm,zpn,zpo,zpp, gc_edge_compare, compare_G]; rfl) (Zq rfl ⟨_, rfl, rfl⟩)

end Go.Ab

/- varint.Put, varint.Take, edge.Rising on the machine of values. -/
namespace Go.Ab
open Go
open Nat renaming reduceEqDiff → zpa, reduceLT → zpb, reduceAdd → zpc, reduceSub → zpd, reduceLeDiff → zpe, reduceMul → zpf
open Int renaming reduceToNat → zpg, reduceLT → zph, reduceLE → zpi, reduceEq → zpj, reduceNe → zpk, reduceBEq → zpl, reduceBNe → zpm, reduceAdd → zpn, reduceSub → zpo, reduceNeg → zpp
open List renaming replicate → zlr
set_option linter.unusedVariables false
set_option linter.unusedSimpArgs false
set_option maxRecDepth 10000

def uen (l : List Nd) : List (List U) := l.map fun e => [.int .u32 (e.1 : Int), .int .u32 (e.2 : Int)]
theorem uen_length (l : List Nd) : (uen l).length = l.length := by simp [uen]
theorem uen_get {l : List Nd} {i : Nat} {e : Nd} (h : l[i]? = some e) : (uen l)[i]? = some [.int .u32 (e.1 : Int), .int .u32 (e.2 : Int)] := by simp [uen, h]
theorem uen_append {a b : List Nd} : uen a ++ uen b = uen (a ++ b) := by simp [uen]
theorem uen_snoc {l : List Nd} {a b : Nat} : uen l ++ [[U.int .u32 (a : Int), .int .u32 (b : Int)]] = uen (l ++ [(a, b)]) := by simp [uen]
theorem snapLL_uen {h : GH} {l : List Nd} : snapLL h (uen l) = some (uen l, false) := snapLL_map (fun x => by simp [snapL, U.snap]) l
theorem rfLL_uen {l : List Nd} : rfLL (uen l) = true := rfLL_map (fun x => by simp [rfL, U.rf]) l

/-- A list of one's own, of bytes; of edges; what is shared of them. -/
def isOw (u : U) (bs : List Nat) : Prop := (u = .nils ∧ bs = []) ∨ u = .own 1 (un .u8 bs)
def isBa (u : U) (bs : List Nat) : Prop := u = .list false 1 (un .u8 bs) ∨ (u = .nils ∧ bs = [])
def isOe (u : U) (l : List Nd) : Prop := (u = .nils ∧ l = []) ∨ u = .own 2 (uen l)
def isEn (u : U) (l : List Nd) : Prop := u = .list false 2 (uen l) ∨ (u = .nils ∧ l = [])

theorem risingE_G {w : U} {l : List Nd} (hw : isEn w l) (hl : l.length ≤ 100000) : ∃ b : Bool, (b = true ↔ l.Pairwise ltN) ∧ GF gtab fid_edge_Rising [w] [] 0 = some (.bool b, []) := by
  have key : ∃ u h', GF gtab fid_edge_Rising [w] [] 0 = some (u, h') ∧ ∃ b : Bool, u = .bool b ∧ h' = [] ∧ (b = true ↔ l.Pairwise ltN) := by
    refine fnR_edge_Rising rfl ?_
    simp only [genvOf]
    rcases hw with rfl | ⟨rfl, rfl⟩
    · refine Zr rfl (by simp (maxSteps := 2000000) only [gs,zlr,reduceIte,reduceCtorEq,zpa,zpb,zpc,zpd,zpe,zpf,zpg,zph,zpi,zpj,zpk,zpl,zpm,zpn,zpo,zpp]; rfl) ?_
      refine Zr rfl (by simp (maxSteps := 2000000) only [gs,zlr,reduceIte,reduceCtorEq,zpa,zpb,zpc,zpd,zpe,zpf,zpg,zph,zpi,zpj,zpk,zpl,zpm,zpn,zpo,zpp, uen_length]; rfl) ?_
      refine Zw rfl (fun n env h => h = [] ∧ ∃ i : Nat, (∀ (j : Nat) (x y : Nd), j + 1 < i → l[j]? = some x → l[j + 1]? = some y → ltN x y) ∧ GEnv.get env 0 = .list false 2 (uen l) ∧ GEnv.get env 5 = .int .i64 ((l.length : Nat) : Int) ∧ GEnv.get env 6 = .int .i64 ((i : Nat) : Int) ∧ n + i = l.length) l.length ⟨rfl, 0, fun j x y h => absurd h (by omega), rfl, rfl, rfl, by omega⟩ ?_
      rintro n env h ⟨rfl, i, hadj, k0, k5, k6, hn⟩
      simp only [GEnv.keep, k0, k5, k6]
      refine Zr rfl (by simp (maxSteps := 2000000) only [gs,zlr,reduceIte,reduceCtorEq,zpa,zpb,zpc,zpd,zpe,zpf,zpg,zph,zpi,zpj,zpk,zpl,zpm,zpn,zpo,zpp]; rfl) (Zp rfl rfl (fun hi => ?_) (fun hi => ?_))
      · refine Zr rfl (by simp (maxSteps := 2000000) only [gs,zlr,reduceIte,reduceCtorEq,zpa,zpb,zpc,zpd,zpe,zpf,zpg,zph,zpi,zpj,zpk,zpl,zpm,zpn,zpo,zpp]; rfl) ?_
        have hinc : IntKind.i64.wrap ((i : Int) + 1) = ((i + 1 : Nat) : Int) := up64 (by omega)
        cases i with
        | zero =>
          refine Zd rfl (by simp (maxSteps := 2000000) only [gs,gd,zlr,id,reduceIte,reduceCtorEq,zpa,zpb,zpc,zpd,zpe,zpf,zpg,zph,zpi,zpj,zpk,zpl,zpm,zpn,zpo,zpp]; rfl) (Zc rfl rfl (fun h => by cases h) (fun _ => ?_))
          refine Zr rfl (by simp (maxSteps := 2000000) only [gs,zlr,reduceIte,reduceCtorEq,zpa,zpb,zpc,zpd,zpe,zpf,zpg,zph,zpi,zpj,zpk,zpl,zpm,zpn,zpo,zpp, hinc]; rfl) ?_
          exact Za rfl ⟨n - 1, by omega, rfl, 1, fun j x y h => absurd h (by omega), rfl, rfl, rfl, by omega⟩
        | succ i =>
          have gx : l[i]? = some (l[i]'(by omega)) := List.getElem?_eq_getElem _
          have gy : l[i + 1]? = some (l[i + 1]'(by omega)) := List.getElem?_eq_getElem _
          generalize l[i]'(by omega) = x at gx
          generalize l[i + 1]'(by omega) = y at gy
          have npos : (((i + 1 : Nat) : Int) > 0) = True := eq_true (by omega)
          have n0 : ((0 : Int) ≤ (i : Int)) = True := eq_true (by omega)
          have n1 : ((0 : Int) ≤ ((i + 1 : Nat) : Int)) = True := eq_true (by omega)
          have ws : IntKind.i64.wrap (((i + 1 : Nat) : Int) - 1) = (i : Int) := by rw [wrap_i64 (by omega) (by omega)]; omega
          cases hb : decide ((x.1 : Int) < (y.1 : Int) ∨ (x.1 : Int) = (y.1 : Int) ∧ (x.2 : Int) < (y.2 : Int)) with
          | true =>
            refine Zd rfl (by simp (maxSteps := 2000000) only [gs,gd,zlr,id,reduceIte,reduceCtorEq,zpa,zpb,zpc,zpd,zpe,zpf,zpg,zph,zpi,zpj,zpk,zpl,zpm,zpn,zpo,zpp, npos, ws, n0, n1, uen_get gx, uen_get gy, gc_edge_Less, iq_edge_Less, less_G, hb, decide_true]; rfl) (Zc rfl rfl (fun h => by cases h) (fun _ => ?_))
            refine Zr rfl (by simp (maxSteps := 2000000) only [gs,zlr,reduceIte,reduceCtorEq,zpa,zpb,zpc,zpd,zpe,zpf,zpg,zph,zpi,zpj,zpk,zpl,zpm,zpn,zpo,zpp, hinc]; rfl) ?_
            refine Za rfl ⟨n - 1, by omega, rfl, i + 1 + 1, fun j x' y' hj hx hy => ?_, rfl, rfl, rfl, by omega⟩
            by_cases hji : j = i
            · subst hji; rw [gx] at hx; rw [gy] at hy; cases hx; cases hy
              have := of_decide_eq_true hb
              unfold ltN; omega
            · exact hadj j x' y' (by omega) hx hy
          | false =>
            refine Zd rfl (by simp (maxSteps := 2000000) only [gs,gd,zlr,id,reduceIte,reduceCtorEq,zpa,zpb,zpc,zpd,zpe,zpf,zpg,zph,zpi,zpj,zpk,zpl,zpm,zpn,zpo,zpp, npos, ws, n0, n1, uen_get gx, uen_get gy, gc_edge_Less, iq_edge_Less, less_G, hb, decide_true]; rfl) (Zc rfl rfl (fun _ => ?_) (fun h => by cases h))
            exact Zr rfl (by simp (maxSteps := 2000000) only [gs,zlr,reduceIte,reduceCtorEq,zpa,zpb,zpc,zpd,zpe,zpf,zpg,zph,zpi,zpj,zpk,zpl,zpm,zpn,zpo,zpp]; rfl) (Zq rfl ⟨_, rfl, _, _, rfl, false, rfl, rfl, ⟨fun h => absurd h (by simp), fun h => by
              have hb := of_decide_eq_false hb
              have := List.pairwise_iff_getElem.1 h i (i + 1) (List.getElem?_eq_some_iff.1 gx).1 (List.getElem?_eq_some_iff.1 gy).1 (by omega)
              rw [(List.getElem?_eq_some_iff.1 gx).2, (List.getElem?_eq_some_iff.1 gy).2] at this
              unfold ltN at this
              exact absurd this (by omega)⟩⟩)
      · refine Zr rfl (by simp (maxSteps := 2000000) only [gs,zlr,reduceIte,reduceCtorEq,zpa,zpb,zpc,zpd,zpe,zpf,zpg,zph,zpi,zpj,zpk,zpl,zpm,zpn,zpo,zpp]; rfl) (Zq rfl ⟨_, rfl, _, _, rfl, true, rfl, rfl, ⟨fun _ => ?_, fun _ => rfl⟩⟩)
        have tr : ∀ (k j : Nat) (x y : Nd), j < k → k < l.length → l[j]? = some x → l[k]? = some y → ltN x y := by
          intro k
          induction k with
          | zero => intro j x y h; omega
          | succ k ih =>
            intro j x y hj hk hx hy
            have gz : l[k]? = some (l[k]'(by omega)) := List.getElem?_eq_getElem _
            generalize l[k]'(by omega) = z at gz
            have hzy := hadj k z y (by omega) gz hy
            by_cases hjk : j = k
            · subst hjk; rw [gz] at hx; cases hx; exact hzy
            · have := ih j x z (by omega) (by omega) hx gz
              unfold ltN at *; omega
        exact List.pairwise_iff_getElem.2 fun a b ha hb hab => tr b a _ _ hab hb (List.getElem?_eq_getElem ha) (List.getElem?_eq_getElem hb)
    · refine Zr rfl (by simp (maxSteps := 2000000) only [gs,zlr,reduceIte,reduceCtorEq,zpa,zpb,zpc,zpd,zpe,zpf,zpg,zph,zpi,zpj,zpk,zpl,zpm,zpn,zpo,zpp]; rfl) ?_
      refine Zr rfl (by simp (maxSteps := 2000000) only [gs,zlr,reduceIte,reduceCtorEq,zpa,zpb,zpc,zpd,zpe,zpf,zpg,zph,zpi,zpj,zpk,zpl,zpm,zpn,zpo,zpp]; rfl) ?_
      refine Zw rfl (fun n env h => h = [] ∧ GEnv.get env 0 = .nils ∧ GEnv.get env 5 = .int .i64 0 ∧ GEnv.get env 6 = .int .i64 0) 0 ⟨rfl, rfl, rfl, rfl⟩ ?_
      rintro n env h ⟨rfl, k0, k5, k6⟩
      simp only [GEnv.keep, k0, k5, k6]
      refine Zr rfl (by simp (maxSteps := 2000000) only [gs,zlr,reduceIte,reduceCtorEq,zpa,zpb,zpc,zpd,zpe,zpf,zpg,zph,zpi,zpj,zpk,zpl,zpm,zpn,zpo,zpp]; rfl) (Zc rfl rfl (fun h => by cases h) (fun _ => ?_))
      exact Zr rfl (by simp (maxSteps := 2000000) only [gs,zlr,reduceIte,reduceCtorEq,zpa,zpb,zpc,zpd,zpe,zpf,zpg,zph,zpi,zpj,zpk,zpl,zpm,zpn,zpo,zpp]; rfl) (Zq rfl ⟨_, rfl, _, _, rfl, true, rfl, rfl, ⟨fun _ => .nil, fun _ => rfl⟩⟩)
  obtain ⟨u, h', h1, b, rfl, rfl, h2⟩ := key
  exact ⟨b, h2, h1⟩

theorem vput_G {ls : List Nat} (hv : ∀ v ∈ ls, v < 18446744073709551616) (hne : ls ≠ []) (hr : (putL ls).length ≤ 1000000) :
    GF gtab fid_varint_Put [.list false 1 (un .u64 ls)] [] 0 = some (.own 1 (un .u8 (putL ls)), []) := by
  have hlen := putL_length ls
  refine fn_varint_Put rfl ?_
  simp only [genvOf]
  refine Zr rfl (by simp (maxSteps := 2000000) only [gs,zlr,reduceIte,reduceCtorEq,zpa,zpb,zpc,zpd,zpe,zpf,zpg,zph,zpi,zpj,zpk,zpl,zpm,zpn,zpo,zpp]; rfl) ?_
  refine Zr rfl (by simp (maxSteps := 2000000) only [gs,zlr,reduceIte,reduceCtorEq,zpa,zpb,zpc,zpd,zpe,zpf,zpg,zph,zpi,zpj,zpk,zpl,zpm,zpn,zpo,zpp]; rfl) ?_
  refine Zr rfl (by simp (maxSteps := 2000000) only [gs,zlr,reduceIte,reduceCtorEq,zpa,zpb,zpc,zpd,zpe,zpf,zpg,zph,zpi,zpj,zpk,zpl,zpm,zpn,zpo,zpp, un_length]; rfl) ?_
  refine Zw rfl (fun n env h => h = [] ∧ ∃ i : Nat, n + i = ls.length ∧ GEnv.get env 6 = .list false 1 (un .u64 ls) ∧ GEnv.get env 7 = .int .i64 ((ls.length : Nat) : Int) ∧ GEnv.get env 8 = .int .i64 ((i : Nat) : Int) ∧ isOw (GEnv.get env 3) (putL (ls.take i))) ls.length ⟨rfl, 0, by omega, rfl, rfl, rfl, .inl ⟨rfl, rfl⟩⟩ ?_
  rintro n env h ⟨rfl, i, hn, k6, k7, k8, k3⟩
  simp only [GEnv.keep, k6, k7, k8]
  generalize GEnv.get env 3 = s3 at k3 ⊢
  refine Zr rfl (by simp (maxSteps := 2000000) only [gs,zlr,reduceIte,reduceCtorEq,zpa,zpb,zpc,zpd,zpe,zpf,zpg,zph,zpi,zpj,zpk,zpl,zpm,zpn,zpo,zpp]; rfl) (Zp rfl rfl (fun hi => ?_) (fun hi => ?_))
  · have gx : ls[i]? = some (ls[i]'(by omega)) := List.getElem?_eq_getElem _
    have hvx := hv (ls[i]'(by omega)) (List.getElem_mem _)
    generalize ls[i]'(by omega) = v at gx hvx
    have n0 : ((0 : Int) ≤ (i : Int)) = True := eq_true (by omega)
    have htk : putL (ls.take (i + 1)) = putL (ls.take i) ++ putV v := by
      rw [List.take_add_one, gx, putL_append]; simp [putL]
    have hbd : (putL (ls.take i) ++ putV v).length ≤ 1000000 := by
      rw [← htk]
      have : putL ls = putL (ls.take (i + 1)) ++ putL (ls.drop (i + 1)) := by rw [← putL_append, List.take_append_drop]
      rw [this, List.length_append] at hr; omega
    generalize putL (ls.take i) = bs at k3 htk hbd
    refine Zr rfl (by simp (maxSteps := 2000000) only [gs,zlr,reduceIte,reduceCtorEq,zpa,zpb,zpc,zpd,zpe,zpf,zpg,zph,zpi,zpj,zpk,zpl,zpm,zpn,zpo,zpp, n0, un_get gx]; rfl) ?_
    refine Zw rfl (fun m env h => h = [] ∧ ∃ v' bs', m = v' ∧ v' < 18446744073709551616 ∧ bs' ++ putV v' = bs ++ putV v ∧ GEnv.get env 6 = .list false 1 (un .u64 ls) ∧ GEnv.get env 7 = .int .i64 ((ls.length : Nat) : Int) ∧ GEnv.get env 8 = .int .i64 ((i : Nat) : Int) ∧ GEnv.get env 5 = .int .u64 ((v' : Nat) : Int) ∧ isOw (GEnv.get env 3) bs') v ⟨rfl, v, bs, rfl, hvx, rfl, rfl, rfl, rfl, rfl, k3⟩ ?_
    rintro m env h ⟨rfl, v', bs', rfl, hv', hbs', j6, j7, j8, j5, j3⟩
    simp only [GEnv.keep, j6, j7, j8, j5]
    generalize GEnv.get env 3 = s3' at j3 ⊢
    have hl' := congrArg List.length hbs'
    have hpl := putV_length m
    rw [List.length_append] at hl'
    have hr1 : ((bs'.length + 1) * 1 ≤ room) = True := eq_true (by unfold room; omega)
    have hr0 : (1 ≤ room) = True := eq_true (by unfold room; omega)
    refine Zr rfl (by simp (maxSteps := 2000000) only [gs,zlr,reduceIte,reduceCtorEq,zpa,zpb,zpc,zpd,zpe,zpf,zpg,zph,zpi,zpj,zpk,zpl,zpm,zpn,zpo,zpp]; rfl) (Zp rfl rfl (fun hc => ?_) (fun hc => ?_))
    · have hor : bitsOf .or .u8 ((m % 256 : Nat) : Int) 128 = some ((m % 128 + 128 : Nat) : Int) := by
        have := or_u8 (a := m % 256) (b := 128) (by omega) (by omega)
        rw [or128 (by omega), show m % 256 % 128 = m % 128 by omega] at this
        exact this
      have hsh : ((m : Nat) : Int).fdiv (2 ^ min 7 IntKind.u64.bits) = ((m / 128 : Nat) : Int) := shr_nat (k := .u64) (a := m) (s := 7) hv'
      rw [putV_big (by omega)] at hbs'
      rcases j3 with ⟨rfl, rfl⟩ | rfl
      · have e1 : [[U.int .u8 ((m % 128 + 128 : Nat) : Int)]] = un .u8 [m % 128 + 128] := rfl
        refine Zr rfl (by simp (maxSteps := 2000000) only [gs,zlr,reduceIte,reduceCtorEq,zpa,zpb,zpc,zpd,zpe,zpf,zpg,zph,zpi,zpj,zpk,zpl,zpm,zpn,zpo,zpp, wrap_u8_nat, hor, e1, un_length, List.length_singleton, hr0]; rfl) ?_
        refine Zr rfl (by simp (maxSteps := 2000000) only [gs,zlr,reduceIte,reduceCtorEq,zpa,zpb,zpc,zpd,zpe,zpf,zpg,zph,zpi,zpj,zpk,zpl,zpm,zpn,zpo,zpp, hsh]; rfl) ?_
        exact Za rfl ⟨m / 128, by omega, rfl, m / 128, [m % 128 + 128], rfl, by omega, hbs', rfl, rfl, rfl, rfl, .inr rfl⟩
      · refine Zr rfl (by simp (maxSteps := 2000000) only [gs,zlr,reduceIte,reduceCtorEq,zpa,zpb,zpc,zpd,zpe,zpf,zpg,zph,zpi,zpj,zpk,zpl,zpm,zpn,zpo,zpp, wrap_u8_nat, hor, un_length, hr1, un_snoc]; rfl) ?_
        refine Zr rfl (by simp (maxSteps := 2000000) only [gs,zlr,reduceIte,reduceCtorEq,zpa,zpb,zpc,zpd,zpe,zpf,zpg,zph,zpi,zpj,zpk,zpl,zpm,zpn,zpo,zpp, hsh]; rfl) ?_
        exact Za rfl ⟨m / 128, by omega, rfl, m / 128, bs' ++ [m % 128 + 128], rfl, by omega, by rw [List.append_assoc]; exact hbs', rfl, rfl, rfl, rfl, .inr rfl⟩
    · rw [putV_small (by omega)] at hbs'
      have h256 : m % 256 = m := by omega
      have hinc := up64 (show i < 9223372036854775807 by omega)
      rcases j3 with ⟨rfl, rfl⟩ | rfl
      · have e1 : [[U.int .u8 ((m : Nat) : Int)]] = un .u8 [m] := rfl
        refine Zr rfl (by simp (maxSteps := 2000000) only [gs,zlr,reduceIte,reduceCtorEq,zpa,zpb,zpc,zpd,zpe,zpf,zpg,zph,zpi,zpj,zpk,zpl,zpm,zpn,zpo,zpp, wrap_u8_nat, h256, e1, un_length, List.length_singleton, hr0]; rfl) ?_
        refine Zr rfl (by simp (maxSteps := 2000000) only [gs,zlr,reduceIte,reduceCtorEq,zpa,zpb,zpc,zpd,zpe,zpf,zpg,zph,zpi,zpj,zpk,zpl,zpm,zpn,zpo,zpp, hinc]; rfl) ?_
        exact Za rfl ⟨n - 1, by omega, rfl, i + 1, by omega, rfl, rfl, rfl, .inr (by rw [htk, ← hbs']; rfl)⟩
      · refine Zr rfl (by simp (maxSteps := 2000000) only [gs,zlr,reduceIte,reduceCtorEq,zpa,zpb,zpc,zpd,zpe,zpf,zpg,zph,zpi,zpj,zpk,zpl,zpm,zpn,zpo,zpp, wrap_u8_nat, h256, un_length, hr1, un_snoc]; rfl) ?_
        refine Zr rfl (by simp (maxSteps := 2000000) only [gs,zlr,reduceIte,reduceCtorEq,zpa,zpb,zpc,zpd,zpe,zpf,zpg,zph,zpi,zpj,zpk,zpl,zpm,zpn,zpo,zpp, hinc]; rfl) ?_
        exact Za rfl ⟨n - 1, by omega, rfl, i + 1, by omega, rfl, rfl, rfl, .inr (by rw [htk, ← hbs']; rfl)⟩
  · have hil : i = ls.length := by omega
    subst hil
    rw [List.take_length] at k3
    rcases k3 with ⟨rfl, h0⟩ | rfl
    · cases ls with
      | nil => exact absurd rfl hne
      | cons v l =>
        have := putV_length v
        rw [putL_cons] at h0
        have := congrArg List.length h0
        rw [List.length_append, List.length_nil] at this; omega
    · refine Zr rfl (by simp only [gs,zlr,reduceIte,reduceCtorEq,zpa,zpb,zpc,zpd,zpe,zpf,zpg,zph,zpi,zpj,zpk,zpl,zpm,zpn,zpo,zpp]; rfl) (Zq rfl ⟨_, rfl, ?_⟩)
      simp only [gfin, outs, U.out, U.handed, GEnv.get, if_true, Nat.reduceEqDiff, if_false, rfLL_un, Option.map_some]
      rfl

theorem vtake_G {w : U} {bs : List Nat} {most : Nat} (hw : isBa w bs) (hb : ∀ c ∈ bs, c < 256) (hm : most < 18446744073709551616) (hl : bs.length ≤ 1000000) :
    GF gtab fid_varint_Take [w, .int .u64 (most : Int)] [] 0 = some (.tup [.int .u64 ((takeV most 0 0 bs).1 : Int), .int .i64 ((takeV most 0 0 bs).2.1 : Int), .int .i64 ((takeV most 0 0 bs).2.2 : Int)], []) := by
  refine fn_varint_Take rfl ?_
  simp only [genvOf]
  rcases hw with rfl | ⟨rfl, rfl⟩
  · refine Zr rfl (by simp (maxSteps := 2000000) only [gs,zlr,reduceIte,reduceCtorEq,zpa,zpb,zpc,zpd,zpe,zpf,zpg,zph,zpi,zpj,zpk,zpl,zpm,zpn,zpo,zpp]; rfl) ?_
    refine Zr rfl (by simp (maxSteps := 2000000) only [gs,zlr,reduceIte,reduceCtorEq,zpa,zpb,zpc,zpd,zpe,zpf,zpg,zph,zpi,zpj,zpk,zpl,zpm,zpn,zpo,zpp]; rfl) ?_
    refine Zr rfl (by simp (maxSteps := 2000000) only [gs,zlr,reduceIte,reduceCtorEq,zpa,zpb,zpc,zpd,zpe,zpf,zpg,zph,zpi,zpj,zpk,zpl,zpm,zpn,zpo,zpp, un_length]; rfl) ?_
    refine Zw rfl (fun n env h => h = [] ∧ ∃ i v : Nat, n + i = bs.length ∧ GEnv.get env 1 = .int .u64 (most : Int) ∧ GEnv.get env 7 = .int .u64 (v : Int) ∧ GEnv.get env 10 = .list false 1 (un .u8 bs) ∧ GEnv.get env 11 = .int .i64 ((bs.length : Nat) : Int) ∧ GEnv.get env 12 = .int .i64 (i : Int) ∧ v < 18446744073709551616 ∧ takeV most i v (bs.drop i) = takeV most 0 0 bs) bs.length ⟨rfl, 0, 0, by omega, rfl, rfl, rfl, rfl, rfl, by omega, rfl⟩ ?_
    rintro n env h ⟨rfl, i, v, hn, k1, k7, k10, k11, k12, hv, hT⟩
    simp only [GEnv.keep, k1, k7, k10, k11, k12]
    refine Zr rfl (by simp (maxSteps := 2000000) only [gs,zlr,reduceIte,reduceCtorEq,zpa,zpb,zpc,zpd,zpe,zpf,zpg,zph,zpi,zpj,zpk,zpl,zpm,zpn,zpo,zpp]; rfl) (Zp rfl rfl (fun hi => ?_) (fun hi => ?_))
    · have gx : bs[i]? = some (bs[i]'(by omega)) := List.getElem?_eq_getElem _
      have hc := hb (bs[i]'(by omega)) (List.getElem_mem _)
      have hdrop : bs.drop i = bs[i]'(by omega) :: bs.drop (i + 1) := List.drop_eq_getElem_cons (by omega)
      generalize bs[i]'(by omega) = c at gx hc hdrop
      have n0 : ((0 : Int) ≤ (i : Int)) = True := eq_true (by omega)
      refine Zr rfl (by simp (maxSteps := 2000000) only [gs,zlr,reduceIte,reduceCtorEq,zpa,zpb,zpc,zpd,zpe,zpf,zpg,zph,zpi,zpj,zpk,zpl,zpm,zpn,zpo,zpp, n0, un_get gx]; rfl) ?_
      refine Zj rfl (fun env h => h = [] ∧ GEnv.get env 30 = .bool ((((i : Int) == 9) && decide ((c : Int) > 1)) || (decide ((i : Int) > 0) && ((c : Int) == 0))) ∧ GEnv.get env 1 = .int .u64 (most : Int) ∧ GEnv.get env 7 = .int .u64 (v : Int) ∧ GEnv.get env 8 = .int .i64 (i : Int) ∧ GEnv.get env 9 = .int .u8 (c : Int) ∧ GEnv.get env 10 = .list false 1 (un .u8 bs) ∧ GEnv.get env 11 = .int .i64 ((bs.length : Nat) : Int) ∧ GEnv.get env 12 = .int .i64 (i : Int)) ?_ ?_
      · cases h9 : ((i : Int) == 9) <;> cases h1 : decide ((c : Int) > 1) <;> cases h0 : decide ((i : Int) > 0) <;> cases hz : ((c : Int) == 0) <;>
          exact Zr rfl (by simp (maxSteps := 2000000) only [gs,zlr,reduceIte,reduceCtorEq,zpa,zpb,zpc,zpd,zpe,zpf,zpg,zph,zpi,zpj,zpk,zpl,zpm,zpn,zpo,zpp, h9, h1, h0, hz]; rfl) (Za rfl ⟨rfl, rfl, rfl, rfl, rfl, rfl, rfl, rfl, rfl⟩)
      · rintro env h ⟨rfl, j30, j1, j7, j8, j9, j10, j11, j12⟩
        rw [hdrop, takeV] at hT
        refine Zc rfl j30 (fun hx => ?_) (fun hx => ?_)
        · have hbad : (i = 9 ∧ c > 1) ∨ (i > 0 ∧ c = 0) := by
            simp only [Bool.or_eq_true, Bool.and_eq_true, decide_eq_true_eq, beq_iff_eq] at hx; omega
          rw [if_pos hbad] at hT
          rw [← hT]
          exact Zr rfl (by simp (maxSteps := 2000000) only [gs,zlr,reduceIte,reduceCtorEq,zpa,zpb,zpc,zpd,zpe,zpf,zpg,zph,zpi,zpj,zpk,zpl,zpm,zpn,zpo,zpp]; rfl) (Zq rfl ⟨_, rfl, rfl⟩)
        · have hbad : ¬ ((i = 9 ∧ c > 1) ∨ (i > 0 ∧ c = 0)) := by
            rw [← Bool.not_eq_true] at hx
            simp only [Bool.or_eq_true, Bool.and_eq_true, decide_eq_true_eq, beq_iff_eq] at hx; omega
          rw [if_neg hbad] at hT
          have hand : bitsOf .and .u8 (c : Int) 127 = some ((c % 128 : Nat) : Int) := by
            have := and_u8 (a := c) (b := 127) hc (by omega)
            rw [and127 hc] at this; exact this
          have hmul : IntKind.i64.wrap (7 * (i : Int)) = ((7 * i : Nat) : Int) := by
            have := wrap_i64_nat (n := 7 * i) (by omega)
            rw [← this]; congr 1
          have hneg : (((7 * i : Nat) : Int) < 0) = False := eq_false (by omega)
          have hcv : IntKind.u64.wrap ((c % 128 : Nat) : Int) = ((c % 128 : Nat) : Int) := by rw [wrap_u64_nat, Nat.mod_eq_of_lt (by omega)]
          have hsl : IntKind.u64.wrap (((c % 128 : Nat) : Int) * 2 ^ min ((7 * i : Nat) : Int).toNat IntKind.u64.bits) = ((c % 128 * 2 ^ (7 * i) % 18446744073709551616 : Nat) : Int) := shl_u64
          have hor : bitsOf .or .u64 (v : Int) ((c % 128 * 2 ^ (7 * i) % 18446744073709551616 : Nat) : Int) = some ((v ||| (c % 128 * 2 ^ (7 * i) % 18446744073709551616) : Nat) : Int) := or_u64 hv (Nat.mod_lt _ (by omega))
          have hvn : (v ||| (c % 128 * 2 ^ (7 * i) % 18446744073709551616)) < 18446744073709551616 := Nat.or_lt_two_pow (n := 64) hv (Nat.mod_lt _ (by decide))
          simp only [Int.toNat_natCast] at hsl
          refine Zr rfl (by simp (maxSteps := 2000000) only [gs,zlr,reduceIte,reduceCtorEq,zpa,zpb,zpc,zpd,zpe,zpf,zpg,zph,zpi,zpj,zpk,zpl,zpm,zpn,zpo,zpp, j7, j9, j8, hand, hcv, hmul, hneg, hsl, hor]; rfl) ?_
          generalize (v ||| (c % 128 * 2 ^ (7 * i) % 18446744073709551616)) = v2 at hT hvn ⊢
          have hinc := up64 (show i < 9223372036854775807 by omega)
          refine Zr rfl (by simp (maxSteps := 2000000) only [gs,zlr,reduceIte,reduceCtorEq,zpa,zpb,zpc,zpd,zpe,zpf,zpg,zph,zpi,zpj,zpk,zpl,zpm,zpn,zpo,zpp, j9]; rfl) (Zp rfl rfl (fun hge => ?_) (fun hge => ?_))
          · rw [if_pos (by omega)] at hT
            refine Zr rfl (by simp (maxSteps := 2000000) only [gs,zlr,reduceIte,reduceCtorEq,zpa,zpb,zpc,zpd,zpe,zpf,zpg,zph,zpi,zpj,zpk,zpl,zpm,zpn,zpo,zpp, j12, hinc]; rfl) ?_
            exact Za rfl ⟨n - 1, by omega, rfl, i + 1, v2, by omega, j1, rfl, j10, j11, rfl, hvn, hT⟩
          · rw [if_neg (by omega)] at hT
            refine Zr rfl (by simp (maxSteps := 2000000) only [gs,zlr,reduceIte,reduceCtorEq,zpa,zpb,zpc,zpd,zpe,zpf,zpg,zph,zpi,zpj,zpk,zpl,zpm,zpn,zpo,zpp, j1]; rfl) (Zp rfl rfl (fun hmo => ?_) (fun hmo => ?_))
            · rw [if_pos (by omega)] at hT
              rw [← hT]
              exact Zr rfl (by simp (maxSteps := 2000000) only [gs,zlr,reduceIte,reduceCtorEq,zpa,zpb,zpc,zpd,zpe,zpf,zpg,zph,zpi,zpj,zpk,zpl,zpm,zpn,zpo,zpp]; rfl) (Zq rfl ⟨_, rfl, rfl⟩)
            · rw [if_neg (by omega)] at hT
              rw [← hT]
              exact Zr rfl (by simp (maxSteps := 2000000) only [gs,zlr,reduceIte,reduceCtorEq,zpa,zpb,zpc,zpd,zpe,zpf,zpg,zph,zpi,zpj,zpk,zpl,zpm,zpn,zpo,zpp, j8, hinc]; rfl) (Zq rfl ⟨_, rfl, rfl⟩)
    · have : i = bs.length := by omega
      subst this
      rw [List.drop_length, takeV] at hT
      rw [← hT]
      exact Zr rfl (by simp (maxSteps := 2000000) only [gs,zlr,reduceIte,reduceCtorEq,zpa,zpb,zpc,zpd,zpe,zpf,zpg,zph,zpi,zpj,zpk,zpl,zpm,zpn,zpo,zpp]; rfl) (Zq rfl ⟨_, rfl, rfl⟩)
  · refine Zr rfl (by simp (maxSteps := 2000000) only [gs,zlr,reduceIte,reduceCtorEq,zpa,zpb,zpc,zpd,zpe,zpf,zpg,zph,zpi,zpj,zpk,zpl,zpm,zpn,zpo,zpp]; rfl) ?_
    refine Zr rfl (by simp (maxSteps := 2000000) only [gs,zlr,reduceIte,reduceCtorEq,zpa,zpb,zpc,zpd,zpe,zpf,zpg,zph,zpi,zpj,zpk,zpl,zpm,zpn,zpo,zpp]; rfl) ?_
    refine Zr rfl (by simp (maxSteps := 2000000) only [gs,zlr,reduceIte,reduceCtorEq,zpa,zpb,zpc,zpd,zpe,zpf,zpg,zph,zpi,zpj,zpk,zpl,zpm,zpn,zpo,zpp]; rfl) ?_
    refine Zw rfl (fun n env h => h = [] ∧ GEnv.get env 1 = .int .u64 (most : Int) ∧ GEnv.get env 7 = .int .u64 0 ∧ GEnv.get env 10 = .nils ∧ GEnv.get env 11 = .int .i64 0 ∧ GEnv.get env 12 = .int .i64 0) 0 ⟨rfl, rfl, rfl, rfl, rfl, rfl⟩ ?_
    rintro n env h ⟨rfl, k1, k7, k10, k11, k12⟩
    simp only [GEnv.keep, k1, k7, k10, k11, k12]
    refine Zr rfl (by simp (maxSteps := 2000000) only [gs,zlr,reduceIte,reduceCtorEq,zpa,zpb,zpc,zpd,zpe,zpf,zpg,zph,zpi,zpj,zpk,zpl,zpm,zpn,zpo,zpp]; rfl) (Zc rfl rfl (fun h => by cases h) (fun _ => ?_))
    rw [takeV]
    exact Zr rfl (by simp (maxSteps := 2000000) only [gs,zlr,reduceIte,reduceCtorEq,zpa,zpb,zpc,zpd,zpe,zpf,zpg,zph,zpi,zpj,zpk,zpl,zpm,zpn,zpo,zpp]; rfl) (Zq rfl ⟨_, rfl, rfl⟩)

end Go.Ab

/- adj.Put on the machine of values. -/
namespace Go.Ab
open Go
open Nat renaming reduceEqDiff → zpa, reduceLT → zpb, reduceAdd → zpc, reduceSub → zpd, reduceLeDiff → zpe, reduceMul → zpf
open Int renaming reduceToNat → zpg, reduceLT → zph, reduceLE → zpi, reduceEq → zpj, reduceNe → zpk, reduceBEq → zpl, reduceBNe → zpm, reduceAdd → zpn, reduceSub → zpo, reduceNeg → zpp
open List renaming replicate → zlr
set_option linter.unusedVariables false
set_option linter.unusedSimpArgs false
set_option maxRecDepth 10000

/-- A join behind what stands first. -/
theorem Zj1 {T : GTab} {fl : Fl} {lo : Nat} {env : GEnv} {h : GH} {Q : GEnv → GH → Prop} {ic : IC} {ks' : List K} (P : GEnv → GH → Prop) (k1 : Z T fl lo (.c ic :: .again P :: ks') env h Q) (k2 : ∀ env h, P env h → Z T fl lo ks' env h Q) : Z T fl lo (.c ic :: ks') env h Q := by
  unfold Z at k1 k2 ⊢
  simp only [post] at k1 ⊢
  refine k1.mono fun e env' h' m => ?_
  cases e with
  | norm => exact k2 _ _ m
  | exit j => exact m
  | ret => exact m

theorem putL_ne {ls : List Nat} (h : ls ≠ []) : putL ls ≠ [] := by
  cases ls with
  | nil => exact absurd rfl h
  | cons v l =>
    intro h0
    have := putV_length v
    rw [putL_cons] at h0
    have := congrArg List.length h0
    rw [List.length_append, List.length_nil] at this; omega
theorem last_lt {A r : List Nd} {u v : Nat} {vs : List Nat} (h : Strict (A ++ (gfl (u, vs) ++ (u, v) :: r))) : lastOf u vs < v := by
  rcases List.eq_nil_or_concat vs with rfl | ⟨ys, y, rfl⟩
  · exact h.2 (u, v) (by simp)
  · rw [List.concat_eq_append, lastOf_append]
    have h1 := (List.pairwise_append.1 (List.pairwise_append.1 h.1).2.1).2.2 (u, y) (gfl_mem.2 ⟨rfl, by simp⟩) (u, v) (by simp)
    unfold ltN at h1
    simp only at h1
    omega
theorem gaps_lt {u : Nat} {vs : List Nat} (h : ∀ v ∈ vs, v ≤ 4294967295) : ∀ x ∈ gaps u vs, x < 18446744073709551616 := by
  induction vs generalizing u with
  | nil => intro x hx; cases hx
  | cons v vs ih =>
    intro x hx
    rw [gaps] at hx
    have := h v List.mem_cons_self
    rcases List.mem_cons.1 hx with rfl | hx
    · omega
    · exact ih (fun w hw => h w (List.mem_cons_of_mem _ hw)) x hx
theorem gbody_lt {n : Nat} {G : List Gr} (h : ∀ g ∈ G, g.1 ≤ 4294967295 ∧ g.2.length ≤ 4294967295 ∧ ∀ v ∈ g.2, v ≤ 4294967295) : ∀ x ∈ gbody n G, x < 18446744073709551616 := by
  induction G generalizing n with
  | nil => intro x hx; cases hx
  | cons g G ih =>
    intro x hx
    rw [gbody] at hx
    obtain ⟨h1, h2, h3⟩ := h g List.mem_cons_self
    rcases List.mem_cons.1 hx with rfl | hx
    · omega
    · rcases List.mem_cons.1 hx with rfl | hx
      · omega
      · rcases List.mem_append.1 hx with hx | hx
        · exact gaps_lt h3 x hx
        · exact ih (fun w hw => h w (List.mem_cons_of_mem _ hw)) x hx
theorem gbody_bytes {G : List Gr} (h : GoodG 0 G) (hl : (gflat G).length ≤ 10000) (hu : ∀ e ∈ gflat G, e.1 ≤ 4294967295 ∧ e.2 ≤ 4294967295) :
    (∀ x ∈ gbody 0 G, x < 18446744073709551616) ∧ G.length ≤ (gflat G).length ∧ (putL (gbody 0 G)).length ≤ 300000 := by
  have h1 : ∀ x ∈ gbody 0 G, x < 18446744073709551616 := gbody_lt fun g hg => by
    obtain ⟨v, vs, hv⟩ := List.exists_cons_of_ne_nil (GoodG_mem h g hg).2.2
    have hm : ∀ w ∈ g.2, g.1 ≤ 4294967295 ∧ w ≤ 4294967295 := fun w hw => hu (g.1, w) (gflat_mem.2 ⟨g, hg, rfl, hw⟩)
    have := gflat_len g hg
    exact ⟨(hm v (by rw [hv]; simp)).1, by omega, fun w hw => (hm w hw).2⟩
  have h2 : G.length ≤ (gflat G).length := by
    clear h1 hl hu
    generalize 0 = n at h
    induction G generalizing n with
    | nil => simp
    | cons g G ih =>
      have := ih _ h.2.2.2
      have : 1 ≤ g.2.length := List.length_pos_iff.2 h.2.1
      rw [gflat_cons, List.length_append, List.length_cons]
      simp only [gfl, List.length_map]
      omega
  have h3 := putL_len h1
  rw [← gbody_len] at h3
  exact ⟨h1, h2, by omega⟩

theorem aput_R {w : U} {l : List Nd} (hw : isEn w l) (hl : l.length ≤ 10000) (hu : ∀ e ∈ l, e.1 ≤ 4294967295 ∧ e.2 ≤ 4294967295) :
    (∃ G, GoodG 0 G ∧ gflat G = l ∧ GF gtab fid_adj_Put [w] [] 0 = some (.tup [.own 1 (un .u8 (genc G)), .int .i64 0], [])) ∨ (¬ Strict l ∧ GF gtab fid_adj_Put [w] [] 0 = some (.tup [.nils, .int .i64 23], [])) := by
  have key : ∃ u h', GF gtab fid_adj_Put [w] [] 0 = some (u, h') ∧ h' = [] ∧ ((∃ G, GoodG 0 G ∧ gflat G = l ∧ u = .tup [.own 1 (un .u8 (genc G)), .int .i64 0]) ∨ (¬ Strict l ∧ u = .tup [.nils, .int .i64 23])) := by
    rcases hw with rfl | ⟨rfl, rfl⟩
    · refine fnR_adj_Put rfl ?_
      simp only [genvOf]
      obtain ⟨b, hb, hG⟩ := risingE_G (w := .list false 2 (uen l)) (.inl rfl) (show l.length ≤ 100000 by omega)
      refine Zr rfl (by simp (maxSteps := 2000000) only [gs,zlr,reduceIte,reduceCtorEq,zpa,zpb,zpc,zpd,zpe,zpf,zpg,zph,zpi,zpj,zpk,zpl,zpm,zpn,zpo,zpp]; rfl) ?_
      cases b with
      | false =>
        refine Zr rfl (by simp (maxSteps := 2000000) only [gs,zlr,reduceIte,reduceCtorEq,zpa,zpb,zpc,zpd,zpe,zpf,zpg,zph,zpi,zpj,zpk,zpl,zpm,zpn,zpo,zpp, snapLL_uen, gc_edge_Rising, hG]; rfl) (Zc rfl rfl (fun _ => ?_) (fun h => by cases h))
        exact Zr rfl (by simp (maxSteps := 2000000) only [gs,zlr,reduceIte,reduceCtorEq,zpa,zpb,zpc,zpd,zpe,zpf,zpg,zph,zpi,zpj,zpk,zpl,zpm,zpn,zpo,zpp]; rfl) (Zq rfl ⟨_, rfl, _, _, rfl, rfl, .inr ⟨fun hs => absurd (hb.2 hs.1) (by simp), rfl⟩⟩)
      | true =>
        have hris := hb.1 rfl
        refine Zr rfl (by simp (maxSteps := 2000000) only [gs,zlr,reduceIte,reduceCtorEq,zpa,zpb,zpc,zpd,zpe,zpf,zpg,zph,zpi,zpj,zpk,zpl,zpm,zpn,zpo,zpp, snapLL_uen, gc_edge_Rising, hG]; rfl) (Zc rfl rfl (fun h => by cases h) (fun _ => ?_))
        refine Zr rfl (by simp (maxSteps := 2000000) only [gs,zlr,reduceIte,reduceCtorEq,zpa,zpb,zpc,zpd,zpe,zpf,zpg,zph,zpi,zpj,zpk,zpl,zpm,zpn,zpo,zpp]; rfl) ?_
        refine Zr rfl (by simp (maxSteps := 2000000) only [gs,zlr,reduceIte,reduceCtorEq,zpa,zpb,zpc,zpd,zpe,zpf,zpg,zph,zpi,zpj,zpk,zpl,zpm,zpn,zpo,zpp]; rfl) ?_
        refine Zr rfl (by simp (maxSteps := 2000000) only [gs,zlr,reduceIte,reduceCtorEq,zpa,zpb,zpc,zpd,zpe,zpf,zpg,zph,zpi,zpj,zpk,zpl,zpm,zpn,zpo,zpp]; rfl) ?_
        refine Zw rfl (fun n env h => h = [] ∧ ∃ G rest, l = gflat G ++ rest ∧ GoodG 0 G ∧ n = rest.length ∧ (∀ e ∈ rest, gnx 0 G ≤ e.1) ∧ GEnv.get env 0 = .list false 2 (uen l) ∧ isOw (GEnv.get env 4) (putL (gbody 0 G)) ∧ GEnv.get env 5 = .int .u64 ((G.length : Nat) : Int) ∧ GEnv.get env 6 = .int .u64 ((gnx 0 G : Nat) : Int) ∧ GEnv.get env 7 = .int .i64 (((gflat G).length : Nat) : Int)) l.length ⟨rfl, [], l, rfl, trivial, rfl, fun e he => Nat.zero_le _, rfl, .inl ⟨rfl, rfl⟩, rfl, rfl, rfl⟩ ?_
        rintro n env h ⟨rfl, G, rest, hL, hg, rfl, hnx, k0, k4, k5, k6, k7⟩
        simp only [GEnv.keep, k0, k5, k6, k7]
        generalize GEnv.get env 4 = s4 at k4 ⊢
        have hlen : l.length = (gflat G).length + rest.length := by rw [hL, List.length_append]
        have hug : ∀ e ∈ gflat G, e.1 ≤ 4294967295 ∧ e.2 ≤ 4294967295 := fun e he => hu e (by rw [hL]; exact List.mem_append_left _ he)
        obtain ⟨hb1, hb2, hb3⟩ := gbody_bytes hg (by omega) hug
        refine Zr rfl (by simp (maxSteps := 2000000) only [gs,zlr,reduceIte,reduceCtorEq,zpa,zpb,zpc,zpd,zpe,zpf,zpg,zph,zpi,zpj,zpk,zpl,zpm,zpn,zpo,zpp, uen_length]; rfl) (Zp rfl rfl (fun hi => ?_) (fun hi => ?_))
        · obtain ⟨e, rest', rfl⟩ := List.exists_cons_of_ne_nil (l := rest) (fun h0 => by rw [h0, List.length_nil] at hlen; omega)
          have gx : l[(gflat G).length]? = some e := by rw [hL, List.getElem?_append_right (Nat.le_refl _), Nat.sub_self]; rfl
          have n0 : ((0 : Int) ≤ (((gflat G).length : Nat) : Int)) = True := eq_true (by omega)
          have hue := hu e (List.mem_of_getElem? gx)
          have hcu : IntKind.u64.wrap (e.1 : Int) = (e.1 : Int) := by rw [wrap_u64_nat, Nat.mod_eq_of_lt (by omega)]
          have hnu := hnx e List.mem_cons_self
          refine Zr rfl (by simp (maxSteps := 2000000) only [gs,zlr,reduceIte,reduceCtorEq,zpa,zpb,zpc,zpd,zpe,zpf,zpg,zph,zpi,zpj,zpk,zpl,zpm,zpn,zpo,zpp, n0, uen_get gx]; rfl) ?_
          refine Zr rfl (by simp (maxSteps := 2000000) only [gs,zlr,reduceIte,reduceCtorEq,zpa,zpb,zpc,zpd,zpe,zpf,zpg,zph,zpi,zpj,zpk,zpl,zpm,zpn,zpo,zpp]; rfl) ?_
          refine Zr rfl (by simp (maxSteps := 2000000) only [gs,zlr,reduceIte,reduceCtorEq,zpa,zpb,zpc,zpd,zpe,zpf,zpg,zph,zpi,zpj,zpk,zpl,zpm,zpn,zpo,zpp, hcu]; rfl) ?_
          refine Z_nrm 1 (Zj1 (fun env h => h = [] ∧ ∃ vs r3, vs ≠ [] ∧ e :: rest' = gfl (e.1, vs) ++ r3 ∧ Inc e.1 vs ∧ (∀ x r4, r3 = x :: r4 → x.1 ≠ e.1) ∧ GEnv.get env 0 = .list false 2 (uen l) ∧ GEnv.get env 4 = s4 ∧ GEnv.get env 5 = .int .u64 ((G.length : Nat) : Int) ∧ GEnv.get env 6 = .int .u64 ((gnx 0 G : Nat) : Int) ∧ GEnv.get env 7 = .int .i64 (((gflat G).length + vs.length : Nat) : Int) ∧ GEnv.get env 8 = .int .u32 (e.1 : Int) ∧ GEnv.get env 9 = .int .i64 (((gflat G).length : Nat) : Int) ∧ GEnv.get env 10 = .own 1 (un .u8 (putL (gaps e.1 vs)))) ?_ ?_)
          · refine Zw rfl (fun m env h => h = [] ∧ ∃ vs r3, e :: rest' = gfl (e.1, vs) ++ r3 ∧ Inc e.1 vs ∧ m = r3.length ∧ GEnv.get env 0 = .list false 2 (uen l) ∧ GEnv.get env 4 = s4 ∧ GEnv.get env 5 = .int .u64 ((G.length : Nat) : Int) ∧ GEnv.get env 6 = .int .u64 ((gnx 0 G : Nat) : Int) ∧ GEnv.get env 7 = .int .i64 (((gflat G).length + vs.length : Nat) : Int) ∧ GEnv.get env 8 = .int .u32 (e.1 : Int) ∧ GEnv.get env 9 = .int .i64 (((gflat G).length : Nat) : Int) ∧ isOw (GEnv.get env 10) (putL (gaps e.1 vs)) ∧ GEnv.get env 11 = .int .u64 ((lastOf e.1 vs : Nat) : Int)) (rest'.length + 1) ⟨rfl, [], e :: rest', rfl, trivial, rfl, rfl, rfl, rfl, rfl, rfl, rfl, rfl, .inl ⟨rfl, rfl⟩, rfl⟩ ?_
            rintro m env h ⟨rfl, vs, r3, hR, hinc, rfl, j0, j4, j5, j6, j7, j8, j9, j10, j11⟩
            simp only [GEnv.keep, j0, j4, j5, j6, j7, j8, j9, j11]
            generalize GEnv.get env 10 = s10 at j10 ⊢
            have hlR := congrArg List.length hR
            simp only [List.length_append, List.length_cons, gfl, List.length_map] at hlR hlen
            have huv : ∀ v ∈ vs, v ≤ 4294967295 := fun v hv => (hu (e.1, v) (by rw [hL, hR]; exact List.mem_append_right _ (List.mem_append_left _ (gfl_mem.2 ⟨rfl, hv⟩)))).2
            have hgl := putL_len (gaps_lt (u := e.1) huv)
            rw [gaps_length] at hgl
            have hlast : lastOf e.1 vs ≤ 4294967295 := by
              rcases List.eq_nil_or_concat vs with rfl | ⟨ys, y, rfl⟩
              · exact hue.1
              · rw [List.concat_eq_append, lastOf_append]; exact huv y (by simp)
            have hnil : vs = [] → r3 = e :: rest' := fun h0 => by subst h0; simpa [gfl] using hR.symm
            cases r3 with
            | nil =>
              have hne : vs ≠ [] := fun h0 => absurd (hnil h0) (by simp)
              have c1 : decide ((((gflat G).length + vs.length : Nat) : Int) < (l.length : Int)) = false := decide_eq_false (by simp only [List.length_nil] at hlR; omega)
              refine Zr rfl (by simp (maxSteps := 2000000) only [gs,zlr,reduceIte,reduceCtorEq,zpa,zpb,zpc,zpd,zpe,zpf,zpg,zph,zpi,zpj,zpk,zpl,zpm,zpn,zpo,zpp, uen_length, c1]; rfl) (Zc rfl rfl (fun h => by cases h) (fun _ => ?_))
              rcases j10 with ⟨rfl, h0⟩ | rfl
              · exact absurd h0 (putL_ne (fun h => hne (List.eq_nil_of_length_eq_zero (by rw [← gaps_length (u := e.1), h]; rfl))))
              · exact Za rfl ⟨rfl, vs, [], hne, hR, hinc, fun x r4 h => absurd h (by simp), rfl, rfl, rfl, rfl, rfl, rfl, rfl, rfl⟩
            | cons x r4 =>
              have gy : l[(gflat G).length + vs.length]? = some x := by
                rw [hL, List.getElem?_append_right (by omega), show (gflat G).length + vs.length - (gflat G).length = vs.length by omega, hR, List.getElem?_append_right (by simp [gfl])]
                simp [gfl]
              have c1 : decide ((((gflat G).length + vs.length : Nat) : Int) < (l.length : Int)) = true := decide_eq_true (by simp only [List.length_cons] at hlR; omega)
              have n1 : ((0 : Int) ≤ (((gflat G).length + vs.length : Nat) : Int)) = True := eq_true (by omega)
              by_cases hx : x.1 = e.1
              · have hx' : ((x.1 : Int) == (e.1 : Int)) = true := by rw [hx]; exact beq_self_eq_true _
                have hux := hu x (List.mem_of_getElem? gy)
                have hcv : IntKind.u64.wrap (x.2 : Int) = (x.2 : Int) := by rw [wrap_u64_nat, Nat.mod_eq_of_lt (by omega)]
                refine Zr rfl (by simp (maxSteps := 2000000) only [gs,zlr,reduceIte,reduceCtorEq,zpa,zpb,zpc,zpd,zpe,zpf,zpg,zph,zpi,zpj,zpk,zpl,zpm,zpn,zpo,zpp, uen_length, c1, n1, uen_get gy, hx']; rfl) (Zc rfl rfl (fun _ => ?_) (fun h => by cases h))
                refine Zr rfl (by simp (maxSteps := 2000000) only [gs,zlr,reduceIte,reduceCtorEq,zpa,zpb,zpc,zpd,zpe,zpf,zpg,zph,zpi,zpj,zpk,zpl,zpm,zpn,zpo,zpp, n1, uen_get gy, hcv]; rfl) ?_
                refine Zr rfl (by simp (maxSteps := 2000000) only [gs,zlr,reduceIte,reduceCtorEq,zpa,zpb,zpc,zpd,zpe,zpf,zpg,zph,zpi,zpj,zpk,zpl,zpm,zpn,zpo,zpp]; rfl) (Zp rfl rfl (fun hle => ?_) (fun hle => ?_))
                · refine Zr rfl (by simp (maxSteps := 2000000) only [gs,zlr,reduceIte,reduceCtorEq,zpa,zpb,zpc,zpd,zpe,zpf,zpg,zph,zpi,zpj,zpk,zpl,zpm,zpn,zpo,zpp]; rfl) (Zq rfl ⟨_, rfl, _, _, rfl, rfl, .inr ⟨fun hs => ?_, rfl⟩⟩)
                  rw [hL, hR, show x = (e.1, x.2) from Prod.ext hx rfl] at hs
                  have := last_lt hs
                  omega
                · have w1 : IntKind.u64.wrap ((x.2 : Int) - ((lastOf e.1 vs : Nat) : Int)) = ((x.2 - lastOf e.1 vs : Nat) : Int) := by
                    rw [show (x.2 : Int) - ((lastOf e.1 vs : Nat) : Int) = ((x.2 - lastOf e.1 vs : Nat) : Int) by omega, wrap_u64_nat, Nat.mod_eq_of_lt (by omega)]
                  have w2 : IntKind.u64.wrap (((x.2 - lastOf e.1 vs : Nat) : Int) - 1) = ((x.2 - lastOf e.1 vs - 1 : Nat) : Int) := by
                    rw [show ((x.2 - lastOf e.1 vs : Nat) : Int) - 1 = ((x.2 - lastOf e.1 vs - 1 : Nat) : Int) by omega, wrap_u64_nat, Nat.mod_eq_of_lt (by omega)]
                  have hp1 : (putL [x.2 - lastOf e.1 vs - 1]).length ≤ 10 := putL_len (l := [x.2 - lastOf e.1 vs - 1]) (fun v hv => by rw [List.mem_singleton.1 hv]; omega)
                  have hP := vput_G (ls := [x.2 - lastOf e.1 vs - 1]) (fun v hv => by rw [List.mem_singleton.1 hv]; omega) (by simp) (by omega)
                  have e1 : [[U.int .u64 ((x.2 - lastOf e.1 vs - 1 : Nat) : Int)]] = un .u64 [x.2 - lastOf e.1 vs - 1] := rfl
                  have hvl : vs.length ≤ 10000 := by omega
                  have hr0 : ((putL [x.2 - lastOf e.1 vs - 1]).length * 1 ≤ room) = True := eq_true (by unfold room; omega)
                  have hr1 : (((putL (gaps e.1 vs)).length + (putL [x.2 - lastOf e.1 vs - 1]).length) * 1 ≤ room) = True := eq_true (by unfold room; omega)
                  have hap : putL (gaps e.1 vs) ++ putL [x.2 - lastOf e.1 vs - 1] = putL (gaps e.1 (vs ++ [x.2])) := by rw [gaps_append, putL_append]
                  have hup : IntKind.i64.wrap ((((gflat G).length + vs.length : Nat) : Int) + 1) = (((gflat G).length + vs.length + 1 : Nat) : Int) := up64 (by omega)
                  have hR' : e :: rest' = gfl (e.1, vs ++ [x.2]) ++ r4 := by
                    rw [hR]
                    have : x = (e.1, x.2) := Prod.ext hx rfl
                    rw [this]
                    simp [gfl]
                  have hI' : Inc e.1 (vs ++ [x.2]) := Inc_append.2 ⟨hinc, by omega⟩
                  rcases j10 with ⟨rfl, h0⟩ | rfl
                  · rw [h0, List.nil_append] at hap
                    rw [hap] at hr0
                    refine Zr rfl (by simp (maxSteps := 2000000) only [gs,zlr,reduceIte,reduceCtorEq,zpa,zpb,zpc,zpd,zpe,zpf,zpg,zph,zpi,zpj,zpk,zpl,zpm,zpn,zpo,zpp, w1, w2, e1, snapLL_un, gc_varint_Put, hP, un_length, hr0, hap]; rfl) ?_
                    refine Zr rfl (by simp (maxSteps := 2000000) only [gs,zlr,reduceIte,reduceCtorEq,zpa,zpb,zpc,zpd,zpe,zpf,zpg,zph,zpi,zpj,zpk,zpl,zpm,zpn,zpo,zpp]; rfl) ?_
                    refine Zr rfl (by simp (maxSteps := 2000000) only [gs,zlr,reduceIte,reduceCtorEq,zpa,zpb,zpc,zpd,zpe,zpf,zpg,zph,zpi,zpj,zpk,zpl,zpm,zpn,zpo,zpp, hup]; rfl) ?_
                    exact Za rfl ⟨r4.length, by simp only [List.length_cons]; omega, rfl, vs ++ [x.2], r4, hR', hI', rfl, rfl, rfl, rfl, rfl, by rw [List.length_append]; rfl, rfl, rfl, .inr rfl, by rw [lastOf_append]; rfl⟩
                  · refine Zr rfl (by simp (maxSteps := 2000000) only [gs,zlr,reduceIte,reduceCtorEq,zpa,zpb,zpc,zpd,zpe,zpf,zpg,zph,zpi,zpj,zpk,zpl,zpm,zpn,zpo,zpp, w1, w2, e1, snapLL_un, gc_varint_Put, hP, un_length, hr1, un_append, hap]; rfl) ?_
                    refine Zr rfl (by simp (maxSteps := 2000000) only [gs,zlr,reduceIte,reduceCtorEq,zpa,zpb,zpc,zpd,zpe,zpf,zpg,zph,zpi,zpj,zpk,zpl,zpm,zpn,zpo,zpp]; rfl) ?_
                    refine Zr rfl (by simp (maxSteps := 2000000) only [gs,zlr,reduceIte,reduceCtorEq,zpa,zpb,zpc,zpd,zpe,zpf,zpg,zph,zpi,zpj,zpk,zpl,zpm,zpn,zpo,zpp, hup]; rfl) ?_
                    exact Za rfl ⟨r4.length, by simp only [List.length_cons]; omega, rfl, vs ++ [x.2], r4, hR', hI', rfl, rfl, rfl, rfl, rfl, by rw [List.length_append]; rfl, rfl, rfl, .inr rfl, by rw [lastOf_append]; rfl⟩
              · have hne : vs ≠ [] := fun h0 => by have := hnil h0; rw [List.cons.injEq] at this; exact hx (by rw [this.1])
                have hx' : ((x.1 : Int) == (e.1 : Int)) = false := beq_eq_false_iff_ne.2 (by omega)
                refine Zr rfl (by simp (maxSteps := 2000000) only [gs,zlr,reduceIte,reduceCtorEq,zpa,zpb,zpc,zpd,zpe,zpf,zpg,zph,zpi,zpj,zpk,zpl,zpm,zpn,zpo,zpp, uen_length, c1, n1, uen_get gy, hx']; rfl) (Zc rfl rfl (fun h => by cases h) (fun _ => ?_))
                rcases j10 with ⟨rfl, h0⟩ | rfl
                · exact absurd h0 (putL_ne (fun h => hne (List.eq_nil_of_length_eq_zero (by rw [← gaps_length (u := e.1), h]; rfl))))
                · exact Za rfl ⟨rfl, vs, x :: r4, hne, hR, hinc, fun y r5 h => by rw [List.cons.injEq] at h; rw [← h.1]; exact hx, rfl, rfl, rfl, rfl, rfl, rfl, rfl, rfl⟩
          · rintro env h ⟨rfl, vs, r3, hne, hR, hinc, hst, j0, j4, j5, j6, j7, j8, j9, j10⟩
            have hlR := congrArg List.length hR
            simp only [List.length_append, List.length_cons, gfl, List.length_map] at hlR hlen
            have huv : ∀ v ∈ vs, v ≤ 4294967295 := fun v hv => (hu (e.1, v) (by rw [hL, hR]; exact List.mem_append_right _ (List.mem_append_left _ (gfl_mem.2 ⟨rfl, hv⟩)))).2
            have hgl := putL_len (gaps_lt (u := e.1) huv)
            rw [gaps_length] at hgl
            have w1 : IntKind.u64.wrap ((e.1 : Int) - ((gnx 0 G : Nat) : Int)) = ((e.1 - gnx 0 G : Nat) : Int) := by
              rw [show (e.1 : Int) - ((gnx 0 G : Nat) : Int) = ((e.1 - gnx 0 G : Nat) : Int) by omega, wrap_u64_nat, Nat.mod_eq_of_lt (by omega)]
            have w2 : IntKind.i64.wrap ((((gflat G).length + vs.length : Nat) : Int) - (((gflat G).length : Nat) : Int)) = ((vs.length : Nat) : Int) := by
              rw [show (((gflat G).length + vs.length : Nat) : Int) - (((gflat G).length : Nat) : Int) = ((vs.length : Nat) : Int) by omega]
              exact wrap_i64_nat (by omega)
            have w3 : IntKind.u64.wrap ((vs.length : Nat) : Int) = ((vs.length : Nat) : Int) := by rw [wrap_u64_nat, Nat.mod_eq_of_lt (by omega)]
            have w4 : IntKind.u64.wrap (((G.length : Nat) : Int) + 1) = ((G.length + 1 : Nat) : Int) := by
              rw [show ((G.length : Nat) : Int) + 1 = ((G.length + 1 : Nat) : Int) by omega, wrap_u64_nat, Nat.mod_eq_of_lt (by omega)]
            have w5 : IntKind.u64.wrap ((e.1 : Int) + 1) = ((e.1 + 1 : Nat) : Int) := by
              rw [show (e.1 : Int) + 1 = ((e.1 + 1 : Nat) : Int) by omega, wrap_u64_nat, Nat.mod_eq_of_lt (by omega)]
            have hlt : ∀ v ∈ [e.1 - gnx 0 G, vs.length], v < 18446744073709551616 := fun v hv => by
              simp only [List.mem_cons, List.not_mem_nil, or_false] at hv; omega
            have hp1 : (putL [e.1 - gnx 0 G, vs.length]).length ≤ 20 := putL_len hlt
            have hP := vput_G (ls := [e.1 - gnx 0 G, vs.length]) hlt (by simp) (by omega)
            have e1 : [[U.int .u64 ((e.1 - gnx 0 G : Nat) : Int)], [U.int .u64 ((vs.length : Nat) : Int)]] = un .u64 [e.1 - gnx 0 G, vs.length] := rfl
            have hgb : gbody 0 (G ++ [(e.1, vs)]) = gbody 0 G ++ ([e.1 - gnx 0 G, vs.length] ++ gaps e.1 vs) := gbody_append
            have hap : putL (gbody 0 G) ++ putL [e.1 - gnx 0 G, vs.length] ++ putL (gaps e.1 vs) = putL (gbody 0 (G ++ [(e.1, vs)])) := by
              rw [hgb, putL_append, putL_append, List.append_assoc]
            have hvl : vs.length ≤ 10000 := by omega
            have hr0 : ((putL [e.1 - gnx 0 G, vs.length]).length * 1 ≤ room) = True := eq_true (by unfold room; omega)
            have hr1 : (((putL (gbody 0 G)).length + (putL [e.1 - gnx 0 G, vs.length]).length) * 1 ≤ room) = True := eq_true (by unfold room; omega)
            have hr2 : (((putL [e.1 - gnx 0 G, vs.length]).length + (putL (gaps e.1 vs)).length) * 1 ≤ room) = True := eq_true (by unfold room; omega)
            have hr3 : (((putL (gbody 0 G) ++ putL [e.1 - gnx 0 G, vs.length]).length + (putL (gaps e.1 vs)).length) * 1 ≤ room) = True := eq_true (by rw [List.length_append]; unfold room; omega)
            have hg' : GoodG 0 (G ++ [(e.1, vs)]) := GoodG_append.2 ⟨hg, hnu, hne, hinc⟩
            have hL' : l = gflat (G ++ [(e.1, vs)]) ++ r3 := by rw [hL, hR, gflat_append, gflat_one, List.append_assoc]
            have hnx' : ∀ y ∈ r3, gnx 0 (G ++ [(e.1, vs)]) ≤ y.1 := fun y hy => by
              rw [gnx_append]
              have pr : (gfl (e.1, vs) ++ r3).Pairwise ltN := by
                rw [← hR]; rw [hL] at hris; exact (List.pairwise_append.1 hris).2.1
              obtain ⟨_, p2, p3⟩ := List.pairwise_append.1 pr
              obtain ⟨v, vs', hv⟩ := List.exists_cons_of_ne_nil hne
              have hm : (e.1, v) ∈ gfl (e.1, vs) := gfl_mem.2 ⟨rfl, by rw [hv]; simp⟩
              cases r3 with
              | nil => cases hy
              | cons x r4 =>
                have q1 := p3 _ hm x (by simp)
                have q2 := hst x r4 rfl
                unfold ltN at q1
                simp only at q1
                rcases List.mem_cons.1 hy with rfl | hy
                · show e.1 + 1 ≤ _; omega
                · have q3 := (List.pairwise_cons.1 p2).1 y hy
                  unfold ltN at q3
                  show e.1 + 1 ≤ _; omega
            have hfl : (gflat (G ++ [(e.1, vs)])).length = (gflat G).length + vs.length := by rw [gflat_append, gflat_one, List.length_append]; simp [gfl]
            rcases k4 with ⟨rfl, h0⟩ | rfl
            · rw [h0, List.nil_append] at hap
              refine Zr rfl (by simp (maxSteps := 2000000) only [gs,zlr,reduceIte,reduceCtorEq,zpa,zpb,zpc,zpd,zpe,zpf,zpg,zph,zpi,zpj,zpk,zpl,zpm,zpn,zpo,zpp, j4, j8, j6, j7, j9, j10, hcu, w1, w2, w3, e1, snapLL_un, gc_varint_Put, hP, un_length, hr0, hr2, un_append, hap]; rfl) ?_
              refine Zr rfl (by simp (maxSteps := 2000000) only [gs,zlr,reduceIte,reduceCtorEq,zpa,zpb,zpc,zpd,zpe,zpf,zpg,zph,zpi,zpj,zpk,zpl,zpm,zpn,zpo,zpp, j5, j8, hcu, w4, w5]; rfl) ?_
              exact Za rfl ⟨r3.length, by have := List.length_pos_iff.2 hne; simp only [List.length_cons]; omega, rfl, G ++ [(e.1, vs)], r3, hL', hg', rfl, hnx', j0, .inr rfl, by rw [List.length_append]; rfl, by rw [gnx_append]; rfl, by rw [hfl]; exact j7⟩
            · refine Zr rfl (by simp (maxSteps := 2000000) only [gs,zlr,reduceIte,reduceCtorEq,zpa,zpb,zpc,zpd,zpe,zpf,zpg,zph,zpi,zpj,zpk,zpl,zpm,zpn,zpo,zpp, j4, j8, j6, j7, j9, j10, hcu, w1, w2, w3, e1, snapLL_un, gc_varint_Put, hP, un_length, hr1, hr3, un_append, hap]; rfl) ?_
              refine Zr rfl (by simp (maxSteps := 2000000) only [gs,zlr,reduceIte,reduceCtorEq,zpa,zpb,zpc,zpd,zpe,zpf,zpg,zph,zpi,zpj,zpk,zpl,zpm,zpn,zpo,zpp, j5, j8, hcu, w4, w5]; rfl) ?_
              exact Za rfl ⟨r3.length, by have := List.length_pos_iff.2 hne; simp only [List.length_cons]; omega, rfl, G ++ [(e.1, vs)], r3, hL', hg', rfl, hnx', j0, .inr rfl, by rw [List.length_append]; rfl, by rw [gnx_append]; rfl, by rw [hfl]; exact j7⟩
        · have h0 : rest = [] := List.eq_nil_of_length_eq_zero (by omega)
          subst h0
          rw [List.append_nil] at hL
          have hlt : ∀ v ∈ [G.length], v < 18446744073709551616 := fun v hv => by
            simp only [List.mem_cons, List.not_mem_nil, or_false] at hv; omega
          have hp1 : (putL [G.length]).length ≤ 10 := putL_len hlt
          have hP := vput_G (ls := [G.length]) hlt (by simp) (by omega)
          have e1 : [[U.int .u64 ((G.length : Nat) : Int)]] = un .u64 [G.length] := rfl
          have hap : putL [G.length] ++ putL (gbody 0 G) = genc G := by rw [← putL_append]; rfl
          have hr0 : ((putL [G.length]).length * 1 ≤ room) = True := eq_true (by unfold room; omega)
          have hr1 : (((putL [G.length]).length + (putL (gbody 0 G)).length) * 1 ≤ room) = True := eq_true (by unfold room; omega)
          rcases k4 with ⟨rfl, h0⟩ | rfl
          · rw [h0, List.append_nil] at hap
            rw [hap] at hr0
            refine Zr rfl (by simp (maxSteps := 2000000) only [gs,zlr,reduceIte,reduceCtorEq,zpa,zpb,zpc,zpd,zpe,zpf,zpg,zph,zpi,zpj,zpk,zpl,zpm,zpn,zpo,zpp, e1, snapLL_un, gc_varint_Put, hP, un_length, List.length_nil, Nat.add_zero, List.append_nil, hr0, hap]; rfl) (Zq rfl ⟨_, rfl, ?_⟩)
            simp only [gfin, outs, U.out, U.handed, GEnv.get, if_true, Nat.reduceEqDiff, if_false, rfLL_un, Option.map_some]
            exact ⟨_, _, rfl, rfl, .inl ⟨G, hg, hL.symm, rfl⟩⟩
          · refine Zr rfl (by simp (maxSteps := 2000000) only [gs,zlr,reduceIte,reduceCtorEq,zpa,zpb,zpc,zpd,zpe,zpf,zpg,zph,zpi,zpj,zpk,zpl,zpm,zpn,zpo,zpp, e1, snapLL_un, gc_varint_Put, hP, un_length, hr1, un_append, hap]; rfl) (Zq rfl ⟨_, rfl, ?_⟩)
            simp only [gfin, outs, U.out, U.handed, GEnv.get, if_true, Nat.reduceEqDiff, if_false, rfLL_un, Option.map_some]
            exact ⟨_, _, rfl, rfl, .inl ⟨G, hg, hL.symm, rfl⟩⟩
    · have hG : GF gtab fid_adj_Put [.nils] [] 0 = some (.tup [.own 1 [[.int .u8 0]], .int .i64 0], []) := GF_run 60 (by kernel_rfl)
      refine ⟨_, _, hG, rfl, .inl ⟨[], trivial, rfl, ?_⟩⟩
      rw [genc, gbody]
      simp [putL, putV_small, un]
  obtain ⟨u, h', h1, rfl, h2 | h2⟩ := key
  · obtain ⟨G, a, b, rfl⟩ := h2
    exact .inl ⟨G, a, b, h1⟩
  · obtain ⟨a, rfl⟩ := h2
    exact .inr ⟨a, h1⟩

end Go.Ab
