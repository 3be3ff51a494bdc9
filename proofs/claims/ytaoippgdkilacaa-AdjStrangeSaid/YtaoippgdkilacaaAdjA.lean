/- varint.Put, varint.Take, edge.Rising on the machine of values. -/
import Derived.Test.YtaoippgdkilacaaCmpA
import Derived.Test.YtaoippgdkilacaaAdjP
import Derived.Test.YtaoippgdkilacaaValN
namespace Go.Ab
open Go
set_option linter.unusedVariables false
set_option linter.unusedSimpArgs false
set_option maxRecDepth 10000

def uen (l : List Nd) : List (List U) := l.map fun e => [.int .u32 (e.1 : Int), .int .u32 (e.2 : Int)]
theorem uen_length (l : List Nd) : (uen l).length = l.length := by simp [uen]
theorem uen_get {l : List Nd} {i : Nat} {e : Nd} (h : l[i]? = some e) : (uen l)[i]? = some [.int .u32 (e.1 : Int), .int .u32 (e.2 : Int)] := by simp [uen, h]
theorem uen_append {a b : List Nd} : uen a ++ uen b = uen (a ++ b) := by simp [uen]
theorem uen_snoc {l : List Nd} {a b : Nat} : uen l ++ [[U.int .u32 (a : Int), .int .u32 (b : Int)]] = uen (l ++ [(a, b)]) := by simp [uen]
theorem uen_one {a b : Nat} : [[U.int .u32 (a : Int), .int .u32 (b : Int)]] = uen [(a, b)] := rfl
theorem snapLL_uen {h : GH} {l : List Nd} : snapLL h (uen l) = some (uen l, false) := snapLL_map (fun x => by simp [snapL, U.snap]) l
theorem rfLL_uen {l : List Nd} : rfLL (uen l) = true := rfLL_map (fun x => by simp [rfL, U.rf]) l

/-- A list of one's own, of bytes; of edges; what is shared of them. -/
def isOw (u : U) (bs : List Nat) : Prop := (u = .nils ∧ bs = []) ∨ u = .own 1 (un .u8 bs)
def isBa (u : U) (bs : List Nat) : Prop := u = .list false 1 (un .u8 bs) ∨ (u = .nils ∧ bs = [])
def isOe (u : U) (l : List Nd) : Prop := (u = .nils ∧ l = []) ∨ u = .own 2 (uen l)
def isEn (u : U) (l : List Nd) : Prop := u = .list false 2 (uen l) ∨ (u = .nils ∧ l = [])

theorem risingE_G {w : U} {l : List Nd} (hw : isEn w l) (hl : l.length ≤ 100000) : ∃ b : Bool, (b = true ↔ l.Pairwise ltN) ∧ GF gtab fid_edge_Rising [w] [] 0 = some (.bool b, []) := by
  have key : ∃ u h', GF gtab fid_edge_Rising [w] [] 0 = some (u, h') ∧ ∃ b : Bool, u = .bool b ∧ h' = [] ∧ (b = true ↔ l.Pairwise ltN) := by
    refine fnR_edge_Rising rfl ?_
    simp only [genvOf]
    rcases hw with rfl | ⟨rfl, rfl⟩
    · refine Zr rfl (by simp (maxSteps := 2000000) only [gs,List.replicate,reduceIte,reduceCtorEq,Nat.reduceEqDiff,Nat.reduceLT,Nat.reduceAdd,Nat.reduceSub,Nat.reduceLeDiff,Nat.reduceMul,Int.reduceToNat,Int.reduceLT,Int.reduceLE,Int.reduceEq,Int.reduceNe,Int.reduceBEq,Int.reduceBNe,Int.reduceAdd,Int.reduceSub,Int.reduceNeg]; rfl) ?_
      refine Zr rfl (by simp (maxSteps := 2000000) only [gs,List.replicate,reduceIte,reduceCtorEq,Nat.reduceEqDiff,Nat.reduceLT,Nat.reduceAdd,Nat.reduceSub,Nat.reduceLeDiff,Nat.reduceMul,Int.reduceToNat,Int.reduceLT,Int.reduceLE,Int.reduceEq,Int.reduceNe,Int.reduceBEq,Int.reduceBNe,Int.reduceAdd,Int.reduceSub,Int.reduceNeg, uen_length]; rfl) ?_
      refine Zw rfl (fun n env h => h = [] ∧ ∃ i : Nat, (∀ (j : Nat) (x y : Nd), j + 1 < i → l[j]? = some x → l[j + 1]? = some y → ltN x y) ∧ GEnv.get env 0 = .list false 2 (uen l) ∧ GEnv.get env 5 = .int .i64 ((l.length : Nat) : Int) ∧ GEnv.get env 6 = .int .i64 ((i : Nat) : Int) ∧ n + i = l.length) l.length ⟨rfl, 0, fun j x y h => absurd h (by omega), rfl, rfl, rfl, by omega⟩ ?_
      rintro n env h ⟨rfl, i, hadj, k0, k5, k6, hn⟩
      simp only [GEnv.keep, k0, k5, k6]
      refine Zr rfl (by simp (maxSteps := 2000000) only [gs,List.replicate,reduceIte,reduceCtorEq,Nat.reduceEqDiff,Nat.reduceLT,Nat.reduceAdd,Nat.reduceSub,Nat.reduceLeDiff,Nat.reduceMul,Int.reduceToNat,Int.reduceLT,Int.reduceLE,Int.reduceEq,Int.reduceNe,Int.reduceBEq,Int.reduceBNe,Int.reduceAdd,Int.reduceSub,Int.reduceNeg]; rfl) (Zp rfl rfl (fun hi => ?_) (fun hi => ?_))
      · refine Zr rfl (by simp (maxSteps := 2000000) only [gs,List.replicate,reduceIte,reduceCtorEq,Nat.reduceEqDiff,Nat.reduceLT,Nat.reduceAdd,Nat.reduceSub,Nat.reduceLeDiff,Nat.reduceMul,Int.reduceToNat,Int.reduceLT,Int.reduceLE,Int.reduceEq,Int.reduceNe,Int.reduceBEq,Int.reduceBNe,Int.reduceAdd,Int.reduceSub,Int.reduceNeg]; rfl) ?_
        have hinc : IntKind.i64.wrap ((i : Int) + 1) = ((i + 1 : Nat) : Int) := up64 (by omega)
        cases i with
        | zero =>
          refine Zd rfl (by simp (maxSteps := 2000000) only [gs,gd,List.replicate,id,reduceIte,reduceCtorEq,Nat.reduceEqDiff,Nat.reduceLT,Nat.reduceAdd,Nat.reduceSub,Nat.reduceLeDiff,Nat.reduceMul,Int.reduceToNat,Int.reduceLT,Int.reduceLE,Int.reduceEq,Int.reduceNe,Int.reduceBEq,Int.reduceBNe,Int.reduceAdd,Int.reduceSub,Int.reduceNeg]; rfl) (Zc rfl rfl (fun h => by cases h) (fun _ => ?_))
          refine Zr rfl (by simp (maxSteps := 2000000) only [gs,List.replicate,reduceIte,reduceCtorEq,Nat.reduceEqDiff,Nat.reduceLT,Nat.reduceAdd,Nat.reduceSub,Nat.reduceLeDiff,Nat.reduceMul,Int.reduceToNat,Int.reduceLT,Int.reduceLE,Int.reduceEq,Int.reduceNe,Int.reduceBEq,Int.reduceBNe,Int.reduceAdd,Int.reduceSub,Int.reduceNeg, hinc]; rfl) ?_
          exact Za rfl ⟨n - 1, by omega, rfl, 1, fun j x y h => absurd h (by omega), rfl, rfl, rfl, by omega⟩
        | succ i =>
          have gx : l[i]? = some (l[i]'(by omega)) := List.getElem?_eq_getElem _
          have gy : l[i + 1]? = some (l[i + 1]'(by omega)) := List.getElem?_eq_getElem _
          generalize l[i]'(by omega) = x at gx
          generalize l[i + 1]'(by omega) = y at gy
          have npos : (((i + 1 : Nat) : Int) > 0) = True := eq_true (by omega)
          have n0 : ((0 : Int) ≤ (i : Int)) = True := eq_true (by omega)
          have n1 : ((0 : Int) ≤ ((i + 1 : Nat) : Int)) = True := eq_true (by omega)
          have ws : IntKind.i64.wrap (((i + 1 : Nat) : Int) - 1) = (i : Int) := by rw [wrap_i64 (by omega) (by omega)]; omega
          cases hb : decide ((x.1 : Int) < (y.1 : Int) ∨ (x.1 : Int) = (y.1 : Int) ∧ (x.2 : Int) < (y.2 : Int)) with
          | true =>
            refine Zd rfl (by simp (maxSteps := 2000000) only [gs,gd,List.replicate,id,reduceIte,reduceCtorEq,Nat.reduceEqDiff,Nat.reduceLT,Nat.reduceAdd,Nat.reduceSub,Nat.reduceLeDiff,Nat.reduceMul,Int.reduceToNat,Int.reduceLT,Int.reduceLE,Int.reduceEq,Int.reduceNe,Int.reduceBEq,Int.reduceBNe,Int.reduceAdd,Int.reduceSub,Int.reduceNeg, npos, ws, n0, n1, uen_get gx, uen_get gy, gc_edge_Less, iq_edge_Less, less_G, hb, decide_true]; rfl) (Zc rfl rfl (fun h => by cases h) (fun _ => ?_))
            refine Zr rfl (by simp (maxSteps := 2000000) only [gs,List.replicate,reduceIte,reduceCtorEq,Nat.reduceEqDiff,Nat.reduceLT,Nat.reduceAdd,Nat.reduceSub,Nat.reduceLeDiff,Nat.reduceMul,Int.reduceToNat,Int.reduceLT,Int.reduceLE,Int.reduceEq,Int.reduceNe,Int.reduceBEq,Int.reduceBNe,Int.reduceAdd,Int.reduceSub,Int.reduceNeg, hinc]; rfl) ?_
            refine Za rfl ⟨n - 1, by omega, rfl, i + 1 + 1, fun j x' y' hj hx hy => ?_, rfl, rfl, rfl, by omega⟩
            by_cases hji : j = i
            · subst hji; rw [gx] at hx; rw [gy] at hy; cases hx; cases hy
              have := of_decide_eq_true hb
              unfold ltN; omega
            · exact hadj j x' y' (by omega) hx hy
          | false =>
            refine Zd rfl (by simp (maxSteps := 2000000) only [gs,gd,List.replicate,id,reduceIte,reduceCtorEq,Nat.reduceEqDiff,Nat.reduceLT,Nat.reduceAdd,Nat.reduceSub,Nat.reduceLeDiff,Nat.reduceMul,Int.reduceToNat,Int.reduceLT,Int.reduceLE,Int.reduceEq,Int.reduceNe,Int.reduceBEq,Int.reduceBNe,Int.reduceAdd,Int.reduceSub,Int.reduceNeg, npos, ws, n0, n1, uen_get gx, uen_get gy, gc_edge_Less, iq_edge_Less, less_G, hb, decide_true]; rfl) (Zc rfl rfl (fun _ => ?_) (fun h => by cases h))
            exact Zr rfl (by simp (maxSteps := 2000000) only [gs,List.replicate,reduceIte,reduceCtorEq,Nat.reduceEqDiff,Nat.reduceLT,Nat.reduceAdd,Nat.reduceSub,Nat.reduceLeDiff,Nat.reduceMul,Int.reduceToNat,Int.reduceLT,Int.reduceLE,Int.reduceEq,Int.reduceNe,Int.reduceBEq,Int.reduceBNe,Int.reduceAdd,Int.reduceSub,Int.reduceNeg]; rfl) (Zq rfl ⟨_, rfl, _, _, rfl, false, rfl, rfl, ⟨fun h => absurd h (by simp), fun h => by
              have hb := of_decide_eq_false hb
              have := List.pairwise_iff_getElem.1 h i (i + 1) (List.getElem?_eq_some_iff.1 gx).1 (List.getElem?_eq_some_iff.1 gy).1 (by omega)
              rw [(List.getElem?_eq_some_iff.1 gx).2, (List.getElem?_eq_some_iff.1 gy).2] at this
              unfold ltN at this
              exact absurd this (by omega)⟩⟩)
      · refine Zr rfl (by simp (maxSteps := 2000000) only [gs,List.replicate,reduceIte,reduceCtorEq,Nat.reduceEqDiff,Nat.reduceLT,Nat.reduceAdd,Nat.reduceSub,Nat.reduceLeDiff,Nat.reduceMul,Int.reduceToNat,Int.reduceLT,Int.reduceLE,Int.reduceEq,Int.reduceNe,Int.reduceBEq,Int.reduceBNe,Int.reduceAdd,Int.reduceSub,Int.reduceNeg]; rfl) (Zq rfl ⟨_, rfl, _, _, rfl, true, rfl, rfl, ⟨fun _ => ?_, fun _ => rfl⟩⟩)
        have tr : ∀ (k j : Nat) (x y : Nd), j < k → k < l.length → l[j]? = some x → l[k]? = some y → ltN x y := by
          intro k
          induction k with
          | zero => intro j x y h; omega
          | succ k ih =>
            intro j x y hj hk hx hy
            have gz : l[k]? = some (l[k]'(by omega)) := List.getElem?_eq_getElem _
            generalize l[k]'(by omega) = z at gz
            have hzy := hadj k z y (by omega) gz hy
            by_cases hjk : j = k
            · subst hjk; rw [gz] at hx; cases hx; exact hzy
            · have := ih j x z (by omega) (by omega) hx gz
              unfold ltN at *; omega
        exact List.pairwise_iff_getElem.2 fun a b ha hb hab => tr b a _ _ hab hb (List.getElem?_eq_getElem ha) (List.getElem?_eq_getElem hb)
    · refine Zr rfl (by simp (maxSteps := 2000000) only [gs,List.replicate,reduceIte,reduceCtorEq,Nat.reduceEqDiff,Nat.reduceLT,Nat.reduceAdd,Nat.reduceSub,Nat.reduceLeDiff,Nat.reduceMul,Int.reduceToNat,Int.reduceLT,Int.reduceLE,Int.reduceEq,Int.reduceNe,Int.reduceBEq,Int.reduceBNe,Int.reduceAdd,Int.reduceSub,Int.reduceNeg]; rfl) ?_
      refine Zr rfl (by simp (maxSteps := 2000000) only [gs,List.replicate,reduceIte,reduceCtorEq,Nat.reduceEqDiff,Nat.reduceLT,Nat.reduceAdd,Nat.reduceSub,Nat.reduceLeDiff,Nat.reduceMul,Int.reduceToNat,Int.reduceLT,Int.reduceLE,Int.reduceEq,Int.reduceNe,Int.reduceBEq,Int.reduceBNe,Int.reduceAdd,Int.reduceSub,Int.reduceNeg]; rfl) ?_
      refine Zw rfl (fun n env h => h = [] ∧ GEnv.get env 0 = .nils ∧ GEnv.get env 5 = .int .i64 0 ∧ GEnv.get env 6 = .int .i64 0) 0 ⟨rfl, rfl, rfl, rfl⟩ ?_
      rintro n env h ⟨rfl, k0, k5, k6⟩
      simp only [GEnv.keep, k0, k5, k6]
      refine Zr rfl (by simp (maxSteps := 2000000) only [gs,List.replicate,reduceIte,reduceCtorEq,Nat.reduceEqDiff,Nat.reduceLT,Nat.reduceAdd,Nat.reduceSub,Nat.reduceLeDiff,Nat.reduceMul,Int.reduceToNat,Int.reduceLT,Int.reduceLE,Int.reduceEq,Int.reduceNe,Int.reduceBEq,Int.reduceBNe,Int.reduceAdd,Int.reduceSub,Int.reduceNeg]; rfl) (Zc rfl rfl (fun h => by cases h) (fun _ => ?_))
      exact Zr rfl (by simp (maxSteps := 2000000) only [gs,List.replicate,reduceIte,reduceCtorEq,Nat.reduceEqDiff,Nat.reduceLT,Nat.reduceAdd,Nat.reduceSub,Nat.reduceLeDiff,Nat.reduceMul,Int.reduceToNat,Int.reduceLT,Int.reduceLE,Int.reduceEq,Int.reduceNe,Int.reduceBEq,Int.reduceBNe,Int.reduceAdd,Int.reduceSub,Int.reduceNeg]; rfl) (Zq rfl ⟨_, rfl, _, _, rfl, true, rfl, rfl, ⟨fun _ => .nil, fun _ => rfl⟩⟩)
  obtain ⟨u, h', h1, b, rfl, rfl, h2⟩ := key
  exact ⟨b, h2, h1⟩

theorem vput_G {ls : List Nat} (hv : ∀ v ∈ ls, v < 18446744073709551616) (hne : ls ≠ []) (hr : (putL ls).length ≤ 1000000) :
    GF gtab fid_varint_Put [.list false 1 (un .u64 ls)] [] 0 = some (.own 1 (un .u8 (putL ls)), []) := by
  have hlen := putL_length ls
  refine fn_varint_Put rfl ?_
  simp only [genvOf]
  refine Zr rfl (by simp (maxSteps := 2000000) only [gs,List.replicate,reduceIte,reduceCtorEq,Nat.reduceEqDiff,Nat.reduceLT,Nat.reduceAdd,Nat.reduceSub,Nat.reduceLeDiff,Nat.reduceMul,Int.reduceToNat,Int.reduceLT,Int.reduceLE,Int.reduceEq,Int.reduceNe,Int.reduceBEq,Int.reduceBNe,Int.reduceAdd,Int.reduceSub,Int.reduceNeg]; rfl) ?_
  refine Zr rfl (by simp (maxSteps := 2000000) only [gs,List.replicate,reduceIte,reduceCtorEq,Nat.reduceEqDiff,Nat.reduceLT,Nat.reduceAdd,Nat.reduceSub,Nat.reduceLeDiff,Nat.reduceMul,Int.reduceToNat,Int.reduceLT,Int.reduceLE,Int.reduceEq,Int.reduceNe,Int.reduceBEq,Int.reduceBNe,Int.reduceAdd,Int.reduceSub,Int.reduceNeg]; rfl) ?_
  refine Zr rfl (by simp (maxSteps := 2000000) only [gs,List.replicate,reduceIte,reduceCtorEq,Nat.reduceEqDiff,Nat.reduceLT,Nat.reduceAdd,Nat.reduceSub,Nat.reduceLeDiff,Nat.reduceMul,Int.reduceToNat,Int.reduceLT,Int.reduceLE,Int.reduceEq,Int.reduceNe,Int.reduceBEq,Int.reduceBNe,Int.reduceAdd,Int.reduceSub,Int.reduceNeg, un_length]; rfl) ?_
  refine Zw rfl (fun n env h => h = [] ∧ ∃ i : Nat, n + i = ls.length ∧ GEnv.get env 6 = .list false 1 (un .u64 ls) ∧ GEnv.get env 7 = .int .i64 ((ls.length : Nat) : Int) ∧ GEnv.get env 8 = .int .i64 ((i : Nat) : Int) ∧ isOw (GEnv.get env 3) (putL (ls.take i))) ls.length ⟨rfl, 0, by omega, rfl, rfl, rfl, .inl ⟨rfl, rfl⟩⟩ ?_
  rintro n env h ⟨rfl, i, hn, k6, k7, k8, k3⟩
  simp only [GEnv.keep, k6, k7, k8]
  generalize GEnv.get env 3 = s3 at k3 ⊢
  refine Zr rfl (by simp (maxSteps := 2000000) only [gs,List.replicate,reduceIte,reduceCtorEq,Nat.reduceEqDiff,Nat.reduceLT,Nat.reduceAdd,Nat.reduceSub,Nat.reduceLeDiff,Nat.reduceMul,Int.reduceToNat,Int.reduceLT,Int.reduceLE,Int.reduceEq,Int.reduceNe,Int.reduceBEq,Int.reduceBNe,Int.reduceAdd,Int.reduceSub,Int.reduceNeg]; rfl) (Zp rfl rfl (fun hi => ?_) (fun hi => ?_))
  · have gx : ls[i]? = some (ls[i]'(by omega)) := List.getElem?_eq_getElem _
    have hvx := hv (ls[i]'(by omega)) (List.getElem_mem _)
    generalize ls[i]'(by omega) = v at gx hvx
    have n0 : ((0 : Int) ≤ (i : Int)) = True := eq_true (by omega)
    have htk : putL (ls.take (i + 1)) = putL (ls.take i) ++ putV v := by
      rw [List.take_add_one, gx, putL_append]; simp [putL]
    have hbd : (putL (ls.take i) ++ putV v).length ≤ 1000000 := by
      rw [← htk]
      have : putL ls = putL (ls.take (i + 1)) ++ putL (ls.drop (i + 1)) := by rw [← putL_append, List.take_append_drop]
      rw [this, List.length_append] at hr; omega
    generalize putL (ls.take i) = bs at k3 htk hbd
    refine Zr rfl (by simp (maxSteps := 2000000) only [gs,List.replicate,reduceIte,reduceCtorEq,Nat.reduceEqDiff,Nat.reduceLT,Nat.reduceAdd,Nat.reduceSub,Nat.reduceLeDiff,Nat.reduceMul,Int.reduceToNat,Int.reduceLT,Int.reduceLE,Int.reduceEq,Int.reduceNe,Int.reduceBEq,Int.reduceBNe,Int.reduceAdd,Int.reduceSub,Int.reduceNeg, n0, un_get gx]; rfl) ?_
    refine Zw rfl (fun m env h => h = [] ∧ ∃ v' bs', m = v' ∧ v' < 18446744073709551616 ∧ bs' ++ putV v' = bs ++ putV v ∧ GEnv.get env 6 = .list false 1 (un .u64 ls) ∧ GEnv.get env 7 = .int .i64 ((ls.length : Nat) : Int) ∧ GEnv.get env 8 = .int .i64 ((i : Nat) : Int) ∧ GEnv.get env 5 = .int .u64 ((v' : Nat) : Int) ∧ isOw (GEnv.get env 3) bs') v ⟨rfl, v, bs, rfl, hvx, rfl, rfl, rfl, rfl, rfl, k3⟩ ?_
    rintro m env h ⟨rfl, v', bs', rfl, hv', hbs', j6, j7, j8, j5, j3⟩
    simp only [GEnv.keep, j6, j7, j8, j5]
    generalize GEnv.get env 3 = s3' at j3 ⊢
    have hl' := congrArg List.length hbs'
    have hpl := putV_length m
    rw [List.length_append] at hl'
    have hr1 : ((bs'.length + 1) * 1 ≤ room) = True := eq_true (by unfold room; omega)
    have hr0 : (1 ≤ room) = True := eq_true (by unfold room; omega)
    refine Zr rfl (by simp (maxSteps := 2000000) only [gs,List.replicate,reduceIte,reduceCtorEq,Nat.reduceEqDiff,Nat.reduceLT,Nat.reduceAdd,Nat.reduceSub,Nat.reduceLeDiff,Nat.reduceMul,Int.reduceToNat,Int.reduceLT,Int.reduceLE,Int.reduceEq,Int.reduceNe,Int.reduceBEq,Int.reduceBNe,Int.reduceAdd,Int.reduceSub,Int.reduceNeg]; rfl) (Zp rfl rfl (fun hc => ?_) (fun hc => ?_))
    · have hor : bitsOf .or .u8 ((m % 256 : Nat) : Int) 128 = some ((m % 128 + 128 : Nat) : Int) := by
        have := or_u8 (a := m % 256) (b := 128) (by omega) (by omega)
        rw [or128 (by omega), show m % 256 % 128 = m % 128 by omega] at this
        exact this
      have hsh : ((m : Nat) : Int).fdiv (2 ^ min 7 IntKind.u64.bits) = ((m / 128 : Nat) : Int) := shr_nat (k := .u64) (a := m) (s := 7) hv'
      rw [putV_big (by omega)] at hbs'
      rcases j3 with ⟨rfl, rfl⟩ | rfl
      · have e1 : [[U.int .u8 ((m % 128 + 128 : Nat) : Int)]] = un .u8 [m % 128 + 128] := rfl
        refine Zr rfl (by simp (maxSteps := 2000000) only [gs,List.replicate,reduceIte,reduceCtorEq,Nat.reduceEqDiff,Nat.reduceLT,Nat.reduceAdd,Nat.reduceSub,Nat.reduceLeDiff,Nat.reduceMul,Int.reduceToNat,Int.reduceLT,Int.reduceLE,Int.reduceEq,Int.reduceNe,Int.reduceBEq,Int.reduceBNe,Int.reduceAdd,Int.reduceSub,Int.reduceNeg, wrap_u8_nat, hor, e1, un_length, List.length_singleton, hr0]; rfl) ?_
        refine Zr rfl (by simp (maxSteps := 2000000) only [gs,List.replicate,reduceIte,reduceCtorEq,Nat.reduceEqDiff,Nat.reduceLT,Nat.reduceAdd,Nat.reduceSub,Nat.reduceLeDiff,Nat.reduceMul,Int.reduceToNat,Int.reduceLT,Int.reduceLE,Int.reduceEq,Int.reduceNe,Int.reduceBEq,Int.reduceBNe,Int.reduceAdd,Int.reduceSub,Int.reduceNeg, hsh]; rfl) ?_
        exact Za rfl ⟨m / 128, by omega, rfl, m / 128, [m % 128 + 128], rfl, by omega, hbs', rfl, rfl, rfl, rfl, .inr rfl⟩
      · refine Zr rfl (by simp (maxSteps := 2000000) only [gs,List.replicate,reduceIte,reduceCtorEq,Nat.reduceEqDiff,Nat.reduceLT,Nat.reduceAdd,Nat.reduceSub,Nat.reduceLeDiff,Nat.reduceMul,Int.reduceToNat,Int.reduceLT,Int.reduceLE,Int.reduceEq,Int.reduceNe,Int.reduceBEq,Int.reduceBNe,Int.reduceAdd,Int.reduceSub,Int.reduceNeg, wrap_u8_nat, hor, un_length, hr1, un_snoc]; rfl) ?_
        refine Zr rfl (by simp (maxSteps := 2000000) only [gs,List.replicate,reduceIte,reduceCtorEq,Nat.reduceEqDiff,Nat.reduceLT,Nat.reduceAdd,Nat.reduceSub,Nat.reduceLeDiff,Nat.reduceMul,Int.reduceToNat,Int.reduceLT,Int.reduceLE,Int.reduceEq,Int.reduceNe,Int.reduceBEq,Int.reduceBNe,Int.reduceAdd,Int.reduceSub,Int.reduceNeg, hsh]; rfl) ?_
        exact Za rfl ⟨m / 128, by omega, rfl, m / 128, bs' ++ [m % 128 + 128], rfl, by omega, by rw [List.append_assoc]; exact hbs', rfl, rfl, rfl, rfl, .inr rfl⟩
    · rw [putV_small (by omega)] at hbs'
      have h256 : m % 256 = m := by omega
      have hinc := up64 (show i < 9223372036854775807 by omega)
      rcases j3 with ⟨rfl, rfl⟩ | rfl
      · have e1 : [[U.int .u8 ((m : Nat) : Int)]] = un .u8 [m] := rfl
        refine Zr rfl (by simp (maxSteps := 2000000) only [gs,List.replicate,reduceIte,reduceCtorEq,Nat.reduceEqDiff,Nat.reduceLT,Nat.reduceAdd,Nat.reduceSub,Nat.reduceLeDiff,Nat.reduceMul,Int.reduceToNat,Int.reduceLT,Int.reduceLE,Int.reduceEq,Int.reduceNe,Int.reduceBEq,Int.reduceBNe,Int.reduceAdd,Int.reduceSub,Int.reduceNeg, wrap_u8_nat, h256, e1, un_length, List.length_singleton, hr0]; rfl) ?_
        refine Zr rfl (by simp (maxSteps := 2000000) only [gs,List.replicate,reduceIte,reduceCtorEq,Nat.reduceEqDiff,Nat.reduceLT,Nat.reduceAdd,Nat.reduceSub,Nat.reduceLeDiff,Nat.reduceMul,Int.reduceToNat,Int.reduceLT,Int.reduceLE,Int.reduceEq,Int.reduceNe,Int.reduceBEq,Int.reduceBNe,Int.reduceAdd,Int.reduceSub,Int.reduceNeg, hinc]; rfl) ?_
        exact Za rfl ⟨n - 1, by omega, rfl, i + 1, by omega, rfl, rfl, rfl, .inr (by rw [htk, ← hbs']; rfl)⟩
      · refine Zr rfl (by simp (maxSteps := 2000000) only [gs,List.replicate,reduceIte,reduceCtorEq,Nat.reduceEqDiff,Nat.reduceLT,Nat.reduceAdd,Nat.reduceSub,Nat.reduceLeDiff,Nat.reduceMul,Int.reduceToNat,Int.reduceLT,Int.reduceLE,Int.reduceEq,Int.reduceNe,Int.reduceBEq,Int.reduceBNe,Int.reduceAdd,Int.reduceSub,Int.reduceNeg, wrap_u8_nat, h256, un_length, hr1, un_snoc]; rfl) ?_
        refine Zr rfl (by simp (maxSteps := 2000000) only [gs,List.replicate,reduceIte,reduceCtorEq,Nat.reduceEqDiff,Nat.reduceLT,Nat.reduceAdd,Nat.reduceSub,Nat.reduceLeDiff,Nat.reduceMul,Int.reduceToNat,Int.reduceLT,Int.reduceLE,Int.reduceEq,Int.reduceNe,Int.reduceBEq,Int.reduceBNe,Int.reduceAdd,Int.reduceSub,Int.reduceNeg, hinc]; rfl) ?_
        exact Za rfl ⟨n - 1, by omega, rfl, i + 1, by omega, rfl, rfl, rfl, .inr (by rw [htk, ← hbs']; rfl)⟩
  · have hil : i = ls.length := by omega
    subst hil
    rw [List.take_length] at k3
    rcases k3 with ⟨rfl, h0⟩ | rfl
    · cases ls with
      | nil => exact absurd rfl hne
      | cons v l =>
        have := putV_length v
        rw [putL_cons] at h0
        have := congrArg List.length h0
        rw [List.length_append, List.length_nil] at this; omega
    · refine Zr rfl (by simp only [gs,List.replicate,reduceIte,reduceCtorEq,Nat.reduceEqDiff,Nat.reduceLT,Nat.reduceAdd,Nat.reduceSub,Nat.reduceLeDiff,Nat.reduceMul,Int.reduceToNat,Int.reduceLT,Int.reduceLE,Int.reduceEq,Int.reduceNe,Int.reduceBEq,Int.reduceBNe,Int.reduceAdd,Int.reduceSub,Int.reduceNeg]; rfl) (Zq rfl ⟨_, rfl, ?_⟩)
      simp only [gfin, outs, U.out, U.handed, GEnv.get, if_true, Nat.reduceEqDiff, if_false, rfLL_un, Option.map_some]
      rfl

theorem vtake_G {w : U} {bs : List Nat} {most : Nat} (hw : isBa w bs) (hb : ∀ c ∈ bs, c < 256) (hm : most < 18446744073709551616) (hl : bs.length ≤ 1000000) :
    GF gtab fid_varint_Take [w, .int .u64 (most : Int)] [] 0 = some (.tup [.int .u64 ((takeV most 0 0 bs).1 : Int), .int .i64 ((takeV most 0 0 bs).2.1 : Int), .int .i64 ((takeV most 0 0 bs).2.2 : Int)], []) := by
  refine fn_varint_Take rfl ?_
  simp only [genvOf]
  rcases hw with rfl | ⟨rfl, rfl⟩
  · refine Zr rfl (by simp (maxSteps := 2000000) only [gs,List.replicate,reduceIte,reduceCtorEq,Nat.reduceEqDiff,Nat.reduceLT,Nat.reduceAdd,Nat.reduceSub,Nat.reduceLeDiff,Nat.reduceMul,Int.reduceToNat,Int.reduceLT,Int.reduceLE,Int.reduceEq,Int.reduceNe,Int.reduceBEq,Int.reduceBNe,Int.reduceAdd,Int.reduceSub,Int.reduceNeg]; rfl) ?_
    refine Zr rfl (by simp (maxSteps := 2000000) only [gs,List.replicate,reduceIte,reduceCtorEq,Nat.reduceEqDiff,Nat.reduceLT,Nat.reduceAdd,Nat.reduceSub,Nat.reduceLeDiff,Nat.reduceMul,Int.reduceToNat,Int.reduceLT,Int.reduceLE,Int.reduceEq,Int.reduceNe,Int.reduceBEq,Int.reduceBNe,Int.reduceAdd,Int.reduceSub,Int.reduceNeg]; rfl) ?_
    refine Zr rfl (by simp (maxSteps := 2000000) only [gs,List.replicate,reduceIte,reduceCtorEq,Nat.reduceEqDiff,Nat.reduceLT,Nat.reduceAdd,Nat.reduceSub,Nat.reduceLeDiff,Nat.reduceMul,Int.reduceToNat,Int.reduceLT,Int.reduceLE,Int.reduceEq,Int.reduceNe,Int.reduceBEq,Int.reduceBNe,Int.reduceAdd,Int.reduceSub,Int.reduceNeg, un_length]; rfl) ?_
    refine Zw rfl (fun n env h => h = [] ∧ ∃ i v : Nat, n + i = bs.length ∧ GEnv.get env 1 = .int .u64 (most : Int) ∧ GEnv.get env 7 = .int .u64 (v : Int) ∧ GEnv.get env 10 = .list false 1 (un .u8 bs) ∧ GEnv.get env 11 = .int .i64 ((bs.length : Nat) : Int) ∧ GEnv.get env 12 = .int .i64 (i : Int) ∧ v < 18446744073709551616 ∧ takeV most i v (bs.drop i) = takeV most 0 0 bs) bs.length ⟨rfl, 0, 0, by omega, rfl, rfl, rfl, rfl, rfl, by omega, rfl⟩ ?_
    rintro n env h ⟨rfl, i, v, hn, k1, k7, k10, k11, k12, hv, hT⟩
    simp only [GEnv.keep, k1, k7, k10, k11, k12]
    refine Zr rfl (by simp (maxSteps := 2000000) only [gs,List.replicate,reduceIte,reduceCtorEq,Nat.reduceEqDiff,Nat.reduceLT,Nat.reduceAdd,Nat.reduceSub,Nat.reduceLeDiff,Nat.reduceMul,Int.reduceToNat,Int.reduceLT,Int.reduceLE,Int.reduceEq,Int.reduceNe,Int.reduceBEq,Int.reduceBNe,Int.reduceAdd,Int.reduceSub,Int.reduceNeg]; rfl) (Zp rfl rfl (fun hi => ?_) (fun hi => ?_))
    · have gx : bs[i]? = some (bs[i]'(by omega)) := List.getElem?_eq_getElem _
      have hc := hb (bs[i]'(by omega)) (List.getElem_mem _)
      have hdrop : bs.drop i = bs[i]'(by omega) :: bs.drop (i + 1) := List.drop_eq_getElem_cons (by omega)
      generalize bs[i]'(by omega) = c at gx hc hdrop
      have n0 : ((0 : Int) ≤ (i : Int)) = True := eq_true (by omega)
      refine Zr rfl (by simp (maxSteps := 2000000) only [gs,List.replicate,reduceIte,reduceCtorEq,Nat.reduceEqDiff,Nat.reduceLT,Nat.reduceAdd,Nat.reduceSub,Nat.reduceLeDiff,Nat.reduceMul,Int.reduceToNat,Int.reduceLT,Int.reduceLE,Int.reduceEq,Int.reduceNe,Int.reduceBEq,Int.reduceBNe,Int.reduceAdd,Int.reduceSub,Int.reduceNeg, n0, un_get gx]; rfl) ?_
      refine Zj rfl (fun env h => h = [] ∧ GEnv.get env 30 = .bool ((((i : Int) == 9) && decide ((c : Int) > 1)) || (decide ((i : Int) > 0) && ((c : Int) == 0))) ∧ GEnv.get env 1 = .int .u64 (most : Int) ∧ GEnv.get env 7 = .int .u64 (v : Int) ∧ GEnv.get env 8 = .int .i64 (i : Int) ∧ GEnv.get env 9 = .int .u8 (c : Int) ∧ GEnv.get env 10 = .list false 1 (un .u8 bs) ∧ GEnv.get env 11 = .int .i64 ((bs.length : Nat) : Int) ∧ GEnv.get env 12 = .int .i64 (i : Int)) ?_ ?_
      · cases h9 : ((i : Int) == 9) <;> cases h1 : decide ((c : Int) > 1) <;> cases h0 : decide ((i : Int) > 0) <;> cases hz : ((c : Int) == 0) <;>
          exact Zr rfl (by simp (maxSteps := 2000000) only [gs,List.replicate,reduceIte,reduceCtorEq,Nat.reduceEqDiff,Nat.reduceLT,Nat.reduceAdd,Nat.reduceSub,Nat.reduceLeDiff,Nat.reduceMul,Int.reduceToNat,Int.reduceLT,Int.reduceLE,Int.reduceEq,Int.reduceNe,Int.reduceBEq,Int.reduceBNe,Int.reduceAdd,Int.reduceSub,Int.reduceNeg, h9, h1, h0, hz]; rfl) (Za rfl ⟨rfl, rfl, rfl, rfl, rfl, rfl, rfl, rfl, rfl⟩)
      · rintro env h ⟨rfl, j30, j1, j7, j8, j9, j10, j11, j12⟩
        rw [hdrop, takeV] at hT
        refine Zc rfl j30 (fun hx => ?_) (fun hx => ?_)
        · have hbad : (i = 9 ∧ c > 1) ∨ (i > 0 ∧ c = 0) := by
            simp only [Bool.or_eq_true, Bool.and_eq_true, decide_eq_true_eq, beq_iff_eq] at hx; omega
          rw [if_pos hbad] at hT
          rw [← hT]
          exact Zr rfl (by simp (maxSteps := 2000000) only [gs,List.replicate,reduceIte,reduceCtorEq,Nat.reduceEqDiff,Nat.reduceLT,Nat.reduceAdd,Nat.reduceSub,Nat.reduceLeDiff,Nat.reduceMul,Int.reduceToNat,Int.reduceLT,Int.reduceLE,Int.reduceEq,Int.reduceNe,Int.reduceBEq,Int.reduceBNe,Int.reduceAdd,Int.reduceSub,Int.reduceNeg]; rfl) (Zq rfl ⟨_, rfl, rfl⟩)
        · have hbad : ¬ ((i = 9 ∧ c > 1) ∨ (i > 0 ∧ c = 0)) := by
            rw [← Bool.not_eq_true] at hx
            simp only [Bool.or_eq_true, Bool.and_eq_true, decide_eq_true_eq, beq_iff_eq] at hx; omega
          rw [if_neg hbad] at hT
          have hand : bitsOf .and .u8 (c : Int) 127 = some ((c % 128 : Nat) : Int) := by
            have := and_u8 (a := c) (b := 127) hc (by omega)
            rw [and127 hc] at this; exact this
          have hmul : IntKind.i64.wrap (7 * (i : Int)) = ((7 * i : Nat) : Int) := by
            have := wrap_i64_nat (n := 7 * i) (by omega)
            rw [← this]; congr 1
          have hneg : (((7 * i : Nat) : Int) < 0) = False := eq_false (by omega)
          have hcv : IntKind.u64.wrap ((c % 128 : Nat) : Int) = ((c % 128 : Nat) : Int) := by rw [wrap_u64_nat, Nat.mod_eq_of_lt (by omega)]
          have hsl : IntKind.u64.wrap (((c % 128 : Nat) : Int) * 2 ^ min ((7 * i : Nat) : Int).toNat IntKind.u64.bits) = ((c % 128 * 2 ^ (7 * i) % 18446744073709551616 : Nat) : Int) := shl_u64
          have hor : bitsOf .or .u64 (v : Int) ((c % 128 * 2 ^ (7 * i) % 18446744073709551616 : Nat) : Int) = some ((v ||| (c % 128 * 2 ^ (7 * i) % 18446744073709551616) : Nat) : Int) := or_u64 hv (Nat.mod_lt _ (by omega))
          have hvn : (v ||| (c % 128 * 2 ^ (7 * i) % 18446744073709551616)) < 18446744073709551616 := Nat.or_lt_two_pow (n := 64) hv (Nat.mod_lt _ (by decide))
          simp only [Int.toNat_natCast] at hsl
          refine Zr rfl (by simp (maxSteps := 2000000) only [gs,List.replicate,reduceIte,reduceCtorEq,Nat.reduceEqDiff,Nat.reduceLT,Nat.reduceAdd,Nat.reduceSub,Nat.reduceLeDiff,Nat.reduceMul,Int.reduceToNat,Int.reduceLT,Int.reduceLE,Int.reduceEq,Int.reduceNe,Int.reduceBEq,Int.reduceBNe,Int.reduceAdd,Int.reduceSub,Int.reduceNeg, j7, j9, j8, hand, hcv, hmul, hneg, hsl, hor]; rfl) ?_
          generalize (v ||| (c % 128 * 2 ^ (7 * i) % 18446744073709551616)) = v2 at hT hvn ⊢
          have hinc := up64 (show i < 9223372036854775807 by omega)
          refine Zr rfl (by simp (maxSteps := 2000000) only [gs,List.replicate,reduceIte,reduceCtorEq,Nat.reduceEqDiff,Nat.reduceLT,Nat.reduceAdd,Nat.reduceSub,Nat.reduceLeDiff,Nat.reduceMul,Int.reduceToNat,Int.reduceLT,Int.reduceLE,Int.reduceEq,Int.reduceNe,Int.reduceBEq,Int.reduceBNe,Int.reduceAdd,Int.reduceSub,Int.reduceNeg, j9]; rfl) (Zp rfl rfl (fun hge => ?_) (fun hge => ?_))
          · rw [if_pos (by omega)] at hT
            refine Zr rfl (by simp (maxSteps := 2000000) only [gs,List.replicate,reduceIte,reduceCtorEq,Nat.reduceEqDiff,Nat.reduceLT,Nat.reduceAdd,Nat.reduceSub,Nat.reduceLeDiff,Nat.reduceMul,Int.reduceToNat,Int.reduceLT,Int.reduceLE,Int.reduceEq,Int.reduceNe,Int.reduceBEq,Int.reduceBNe,Int.reduceAdd,Int.reduceSub,Int.reduceNeg, j12, hinc]; rfl) ?_
            exact Za rfl ⟨n - 1, by omega, rfl, i + 1, v2, by omega, j1, rfl, j10, j11, rfl, hvn, hT⟩
          · rw [if_neg (by omega)] at hT
            refine Zr rfl (by simp (maxSteps := 2000000) only [gs,List.replicate,reduceIte,reduceCtorEq,Nat.reduceEqDiff,Nat.reduceLT,Nat.reduceAdd,Nat.reduceSub,Nat.reduceLeDiff,Nat.reduceMul,Int.reduceToNat,Int.reduceLT,Int.reduceLE,Int.reduceEq,Int.reduceNe,Int.reduceBEq,Int.reduceBNe,Int.reduceAdd,Int.reduceSub,Int.reduceNeg, j1]; rfl) (Zp rfl rfl (fun hmo => ?_) (fun hmo => ?_))
            · rw [if_pos (by omega)] at hT
              rw [← hT]
              exact Zr rfl (by simp (maxSteps := 2000000) only [gs,List.replicate,reduceIte,reduceCtorEq,Nat.reduceEqDiff,Nat.reduceLT,Nat.reduceAdd,Nat.reduceSub,Nat.reduceLeDiff,Nat.reduceMul,Int.reduceToNat,Int.reduceLT,Int.reduceLE,Int.reduceEq,Int.reduceNe,Int.reduceBEq,Int.reduceBNe,Int.reduceAdd,Int.reduceSub,Int.reduceNeg]; rfl) (Zq rfl ⟨_, rfl, rfl⟩)
            · rw [if_neg (by omega)] at hT
              rw [← hT]
              exact Zr rfl (by simp (maxSteps := 2000000) only [gs,List.replicate,reduceIte,reduceCtorEq,Nat.reduceEqDiff,Nat.reduceLT,Nat.reduceAdd,Nat.reduceSub,Nat.reduceLeDiff,Nat.reduceMul,Int.reduceToNat,Int.reduceLT,Int.reduceLE,Int.reduceEq,Int.reduceNe,Int.reduceBEq,Int.reduceBNe,Int.reduceAdd,Int.reduceSub,Int.reduceNeg, j8, hinc]; rfl) (Zq rfl ⟨_, rfl, rfl⟩)
    · have : i = bs.length := by omega
      subst this
      rw [List.drop_length, takeV] at hT
      rw [← hT]
      exact Zr rfl (by simp (maxSteps := 2000000) only [gs,List.replicate,reduceIte,reduceCtorEq,Nat.reduceEqDiff,Nat.reduceLT,Nat.reduceAdd,Nat.reduceSub,Nat.reduceLeDiff,Nat.reduceMul,Int.reduceToNat,Int.reduceLT,Int.reduceLE,Int.reduceEq,Int.reduceNe,Int.reduceBEq,Int.reduceBNe,Int.reduceAdd,Int.reduceSub,Int.reduceNeg]; rfl) (Zq rfl ⟨_, rfl, rfl⟩)
  · refine Zr rfl (by simp (maxSteps := 2000000) only [gs,List.replicate,reduceIte,reduceCtorEq,Nat.reduceEqDiff,Nat.reduceLT,Nat.reduceAdd,Nat.reduceSub,Nat.reduceLeDiff,Nat.reduceMul,Int.reduceToNat,Int.reduceLT,Int.reduceLE,Int.reduceEq,Int.reduceNe,Int.reduceBEq,Int.reduceBNe,Int.reduceAdd,Int.reduceSub,Int.reduceNeg]; rfl) ?_
    refine Zr rfl (by simp (maxSteps := 2000000) only [gs,List.replicate,reduceIte,reduceCtorEq,Nat.reduceEqDiff,Nat.reduceLT,Nat.reduceAdd,Nat.reduceSub,Nat.reduceLeDiff,Nat.reduceMul,Int.reduceToNat,Int.reduceLT,Int.reduceLE,Int.reduceEq,Int.reduceNe,Int.reduceBEq,Int.reduceBNe,Int.reduceAdd,Int.reduceSub,Int.reduceNeg]; rfl) ?_
    refine Zr rfl (by simp (maxSteps := 2000000) only [gs,List.replicate,reduceIte,reduceCtorEq,Nat.reduceEqDiff,Nat.reduceLT,Nat.reduceAdd,Nat.reduceSub,Nat.reduceLeDiff,Nat.reduceMul,Int.reduceToNat,Int.reduceLT,Int.reduceLE,Int.reduceEq,Int.reduceNe,Int.reduceBEq,Int.reduceBNe,Int.reduceAdd,Int.reduceSub,Int.reduceNeg]; rfl) ?_
    refine Zw rfl (fun n env h => h = [] ∧ GEnv.get env 1 = .int .u64 (most : Int) ∧ GEnv.get env 7 = .int .u64 0 ∧ GEnv.get env 10 = .nils ∧ GEnv.get env 11 = .int .i64 0 ∧ GEnv.get env 12 = .int .i64 0) 0 ⟨rfl, rfl, rfl, rfl, rfl, rfl⟩ ?_
    rintro n env h ⟨rfl, k1, k7, k10, k11, k12⟩
    simp only [GEnv.keep, k1, k7, k10, k11, k12]
    refine Zr rfl (by simp (maxSteps := 2000000) only [gs,List.replicate,reduceIte,reduceCtorEq,Nat.reduceEqDiff,Nat.reduceLT,Nat.reduceAdd,Nat.reduceSub,Nat.reduceLeDiff,Nat.reduceMul,Int.reduceToNat,Int.reduceLT,Int.reduceLE,Int.reduceEq,Int.reduceNe,Int.reduceBEq,Int.reduceBNe,Int.reduceAdd,Int.reduceSub,Int.reduceNeg]; rfl) (Zc rfl rfl (fun h => by cases h) (fun _ => ?_))
    rw [takeV]
    exact Zr rfl (by simp (maxSteps := 2000000) only [gs,List.replicate,reduceIte,reduceCtorEq,Nat.reduceEqDiff,Nat.reduceLT,Nat.reduceAdd,Nat.reduceSub,Nat.reduceLeDiff,Nat.reduceMul,Int.reduceToNat,Int.reduceLT,Int.reduceLE,Int.reduceEq,Int.reduceNe,Int.reduceBEq,Int.reduceBNe,Int.reduceAdd,Int.reduceSub,Int.reduceNeg]; rfl) (Zq rfl ⟨_, rfl, rfl⟩)

end Go.Ab
