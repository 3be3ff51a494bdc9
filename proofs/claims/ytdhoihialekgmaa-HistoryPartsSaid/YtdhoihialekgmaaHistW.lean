/- HistoryTells on the machine of values. -/
import Derived.Test.YtdhoihialekgmaaHistR
import Derived.Test.YtdhoihialekgmaaValN
import Derived.Test.YtdhoihialekgmaaHistS
import Derived.Test.YtdhoihialekgmaaHistV
import Derived.Test.YtdhoihialekgmaaArgA
namespace Go.Ab
open Go
set_option linter.unusedVariables false
set_option linter.unusedSimpArgs false
set_option maxRecDepth 10000

theorem list_of {α : Type} {f : α → List U} {P : α → Prop} : ∀ {es : List (List U)}, (∀ e ∈ es, ∃ x, e = f x ∧ P x) → ∃ l : List α, es = l.map f ∧ ∀ x ∈ l, P x
  | [], _ => ⟨[], rfl, fun x hx => absurd hx (by simp)⟩
  | e :: es, h => by
    obtain ⟨x, rfl, hx⟩ := h e List.mem_cons_self
    obtain ⟨l, rfl, hl⟩ := list_of (es := es) (fun e he => h e (List.mem_cons_of_mem _ he))
    refine ⟨x :: l, rfl, fun y hy => ?_⟩
    rcases List.mem_cons.1 hy with rfl | hy
    · exact hx
    · exact hl y hy
theorem Sh.events {u : U} (h : Sh.fits (.sl [.int .i64, .int .u32, .int .u32, .bool]) u) : ∃ evs : List Ev, u = .list false 4 (uvs evs) ∧ EvOk evs := by
  simp only [Sh.fits] at h
  obtain ⟨es, rfl, _, h⟩ := h
  obtain ⟨l, rfl, hl⟩ := list_of (f := fun e : Ev => [.int .i64 e.1, .int .u32 e.2.1, .int .u32 e.2.2.1, .bool e.2.2.2]) (P := fun e => (0 ≤ e.2.1 ∧ e.2.1 ≤ 4294967295) ∧ (0 ≤ e.2.2.1 ∧ e.2.2.1 ≤ 4294967295)) (es := es) (fun e he => by
    have := h e he
    simp only [Sh.fitsL, Sh.fits] at this
    obtain ⟨_, _, rfl, ⟨t, rfl, ht⟩, _, _, rfl, ⟨a, rfl, ha⟩, _, _, rfl, ⟨b, rfl, hb⟩, _, _, rfl, ⟨x, rfl⟩, rfl⟩ := this
    exact ⟨(t, a, b, x), rfl, ha, hb⟩)
  exact ⟨l, rfl, hl⟩

abbrev His := Int × U × List Ev
def uh (X : List His) : List (List U) := X.map fun x => [.int .u64 x.1, x.2.1]
theorem uh_get {X : List His} {i : Nat} {x : His} (h : X[i]? = some x) : (uh X)[i]? = some [.int .u64 x.1, x.2.1] := by simp [uh, h]
theorem uh_length (X : List His) : (uh X).length = X.length := by simp [uh]

theorem hw_known : GF gtab fid_archipelagolaw9_known [] [] 0 = some (.bool true, []) := GF_run 100 (by kernel_rfl)
theorem isVa_share {w : U} {l : List Ev} (h : isVa w l) : w.share = w := by
  rcases h with rfl | ⟨rfl, rfl⟩ <;> rfl
theorem isVa_one {w : U} {l : List Ev} (h : isVa w l) : U.one w = true := by
  rcases h with rfl | ⟨rfl, rfl⟩ <;> rfl
theorem isVa_snap {w : U} {l : List Ev} (h : isVa w l) (m : GH) : U.snap m w = some (w, false) := by
  rcases h with rfl | ⟨rfl, rfl⟩
  · simp only [U.snap, snapLL_uvs, Option.map_some]
  · rfl
theorem wapp_eq {h : GH} {x : GObj} : (h ++ [x])[h.length]? = some x := by simp
theorem wapp_set {h : GH} {x y : GObj} : (h ++ [x]).set h.length y = h ++ [y] := by simp

set_option maxHeartbeats 4000000 in
theorem historyTells_G {N0 : Int} {ev0 : List Ev} {k what at' more : Nat} {l : List Nat} {v w : Int} (h0 : EvOk ev0) (hk : k < 256) (hl : ∀ x ∈ l, x < 256) (hat : at' < 256) : GF gtab fid_archipelagolaw9_HistoryTells [.agg [.int .u64 N0, .list false 4 (uvs ev0)], .int .u8 k, .list false 1 (un .u8 l), .int .u8 what, .int .u8 at', .int .i64 v, .int .u8 more, .int .i64 w] [] 0 = some (.bool true, []) := by
  refine fn_archipelagolaw9_HistoryTells rfl ?_
  simp only [genvOf]
  refine Zr rfl (by simp (maxSteps := 2000000) only [gs,List.replicate,reduceIte,reduceCtorEq,Nat.reduceEqDiff,Nat.reduceLT,Nat.reduceAdd,Nat.reduceSub,Nat.reduceLeDiff,Nat.reduceMul,Int.reduceToNat,Int.reduceLT,Int.reduceLE,Int.reduceEq,Int.reduceNe,Int.reduceBEq,Int.reduceBNe,Int.reduceAdd,Int.reduceSub,Int.reduceNeg]; rfl) ?_
  refine Zr rfl (by simp (maxSteps := 2000000) only [gs,List.replicate,reduceIte,reduceCtorEq,Nat.reduceEqDiff,Nat.reduceLT,Nat.reduceAdd,Nat.reduceSub,Nat.reduceLeDiff,Nat.reduceMul,Int.reduceToNat,Int.reduceLT,Int.reduceLE,Int.reduceEq,Int.reduceNe,Int.reduceBEq,Int.reduceBNe,Int.reduceAdd,Int.reduceSub,Int.reduceNeg, gc_archipelagolaw9_known, hw_known]; rfl) (Zc rfl rfl (fun h => by cases h) (fun _ => ?_))
  by_cases g1 : ev0.length ≤ 20
  case neg =>
    have c1 : ((ev0.length : Int) > 20) = True := eq_true (by omega)
    refine Zr rfl (by simp (maxSteps := 2000000) only [gs,List.replicate,reduceIte,reduceCtorEq,Nat.reduceEqDiff,Nat.reduceLT,Nat.reduceAdd,Nat.reduceSub,Nat.reduceLeDiff,Nat.reduceMul,Int.reduceToNat,Int.reduceLT,Int.reduceLE,Int.reduceEq,Int.reduceNe,Int.reduceBEq,Int.reduceBNe,Int.reduceAdd,Int.reduceSub,Int.reduceNeg, uvs_length, c1]; rfl) (Zc rfl rfl (fun _ => ?_) (fun h => by cases h))
    exact Zr rfl (by simp (maxSteps := 2000000) only [gs,List.replicate,reduceIte,reduceCtorEq,Nat.reduceEqDiff,Nat.reduceLT,Nat.reduceAdd,Nat.reduceSub,Nat.reduceLeDiff,Nat.reduceMul,Int.reduceToNat,Int.reduceLT,Int.reduceLE,Int.reduceEq,Int.reduceNe,Int.reduceBEq,Int.reduceBNe,Int.reduceAdd,Int.reduceSub,Int.reduceNeg]; rfl) (Zq rfl ⟨_, rfl, rfl⟩)
  have c1 : ((ev0.length : Int) > 20) = False := eq_false (by omega)
  by_cases g2 : l.length ≤ 60
  case neg =>
    have c2 : ((l.length : Int) > 60) = True := eq_true (by omega)
    refine Zr rfl (by simp (maxSteps := 2000000) only [gs,List.replicate,reduceIte,reduceCtorEq,Nat.reduceEqDiff,Nat.reduceLT,Nat.reduceAdd,Nat.reduceSub,Nat.reduceLeDiff,Nat.reduceMul,Int.reduceToNat,Int.reduceLT,Int.reduceLE,Int.reduceEq,Int.reduceNe,Int.reduceBEq,Int.reduceBNe,Int.reduceAdd,Int.reduceSub,Int.reduceNeg, uvs_length, un_length, c1, c2]; rfl) (Zc rfl rfl (fun _ => ?_) (fun h => by cases h))
    exact Zr rfl (by simp (maxSteps := 2000000) only [gs,List.replicate,reduceIte,reduceCtorEq,Nat.reduceEqDiff,Nat.reduceLT,Nat.reduceAdd,Nat.reduceSub,Nat.reduceLeDiff,Nat.reduceMul,Int.reduceToNat,Int.reduceLT,Int.reduceLE,Int.reduceEq,Int.reduceNe,Int.reduceBEq,Int.reduceBNe,Int.reduceAdd,Int.reduceSub,Int.reduceNeg]; rfl) (Zq rfl ⟨_, rfl, rfl⟩)
  have c2 : ((l.length : Int) > 60) = False := eq_false (by omega)
  refine Zr rfl (by simp (maxSteps := 2000000) only [gs,List.replicate,reduceIte,reduceCtorEq,Nat.reduceEqDiff,Nat.reduceLT,Nat.reduceAdd,Nat.reduceSub,Nat.reduceLeDiff,Nat.reduceMul,Int.reduceToNat,Int.reduceLT,Int.reduceLE,Int.reduceEq,Int.reduceNe,Int.reduceBEq,Int.reduceBNe,Int.reduceAdd,Int.reduceSub,Int.reduceNeg, uvs_length, un_length, c1, c2]; rfl) (Zc rfl rfl (fun h => by cases h) (fun _ => ?_))
  obtain ⟨N, hv, evs, HI, hva, hsrt, htin, hlen, hN, hR, hEv⟩ := history_R hk hl g2
  have hchk := hR.check
  obtain ⟨Nb, wb, evb, BE, bva, bok, blen⟩ := bent_R (N := (N : Int)) (v := v) (what := what) hva (by omega) hEv hat
  have hat2 : at' / 2 < 256 := by omega
  obtain ⟨Nc, wc, evc, BE2, cva, cok, clen⟩ := bent_R (N := Nb) (v := w) (what := more) bva (by omega) bok hat2
  obtain ⟨z, hz⟩ : ∃ z, bitsOf .and .i64 v 15 = some z := ⟨_, rfl⟩
  obtain ⟨Nd, wd, evd, BE3, dva, dok, dlen⟩ := bent_R (N := (N : Int)) (v := z) (what := what) hva (by omega) hEv hat
  obtain ⟨wl, LA, lva⟩ := late_R (N := (N : Int)) hva (show evs.length ≤ 200 by omega)
  have lok := evOk_late hEv
  have llen := lateV_length evs
  obtain ⟨Ne, we, eve, BE4, eva, eok, elen⟩ := bent_R (N := (N : Int)) (v := v) (what := 1) (at' := 255) lva (by omega) lok (by omega)
  have BE4' : GF gtab fid_archipelagoseat_Bent [.agg [.int .u64 (N : Int), wl], .int .u8 1, .int .u8 255, .int .i64 v] [] 0 = some (.agg [.int .u64 Ne, we], []) := BE4
  have hq : ((at' : Nat) : Int).tdiv 2 = ((at' / 2 : Nat) : Int) := rfl
  have wq : IntKind.u8.wrap ((at' / 2 : Nat) : Int) = ((at' / 2 : Nat) : Int) := by rw [wrap_u8_nat, Nat.mod_eq_of_lt (by omega)]
  have s1 := isVa_share hva
  have t1 := isVa_share hva
  unfold U.share at t1
  have o1 := isVa_one hva
  unfold U.one at o1
  have n1 := isVa_snap hva
  have s2 := isVa_share bva
  have t2 := isVa_share bva
  unfold U.share at t2
  have o2 := isVa_one bva
  unfold U.one at o2
  have n2 := isVa_snap bva
  have s3 := isVa_share cva
  have t3 := isVa_share cva
  unfold U.share at t3
  have o3 := isVa_one cva
  unfold U.one at o3
  have s4 := isVa_share dva
  have t4 := isVa_share dva
  unfold U.share at t4
  have o4 := isVa_one dva
  unfold U.one at o4
  have s5 := isVa_share lva
  have t5 := isVa_share lva
  unfold U.share at t5
  have o5 := isVa_one lva
  unfold U.one at o5
  have n5 := isVa_snap lva
  have s6 := isVa_share eva
  have t6 := isVa_share eva
  unfold U.share at t6
  have o6 := isVa_one eva
  unfold U.one at o6
  refine Zr rfl (by simp (maxSteps := 2000000) only [gs,List.replicate,reduceIte,reduceCtorEq,Nat.reduceEqDiff,Nat.reduceLT,Nat.reduceAdd,Nat.reduceSub,Nat.reduceLeDiff,Nat.reduceMul,Int.reduceToNat,Int.reduceLT,Int.reduceLE,Int.reduceEq,Int.reduceNe,Int.reduceBEq,Int.reduceBNe,Int.reduceAdd,Int.reduceSub,Int.reduceNeg, gc_archipelagoseat_History, snapLL_un, HI, t1, o1]; rfl) ?_
  refine Zr rfl (by simp (maxSteps := 2000000) only [gs,List.replicate,reduceIte,reduceCtorEq,Nat.reduceEqDiff,Nat.reduceLT,Nat.reduceAdd,Nat.reduceSub,Nat.reduceLeDiff,Nat.reduceMul,Int.reduceToNat,Int.reduceLT,Int.reduceLE,Int.reduceEq,Int.reduceNe,Int.reduceBEq,Int.reduceBNe,Int.reduceAdd,Int.reduceSub,Int.reduceNeg, gc_archipelagoseat_Bent, BE, t1, n1, t2, o2]; rfl) ?_
  refine Zd rfl (by simp (maxSteps := 2000000) only [gs,gd,List.replicate,id,reduceIte,reduceCtorEq,Nat.reduceEqDiff,Nat.reduceLT,Nat.reduceAdd,Nat.reduceSub,Nat.reduceLeDiff,Nat.reduceMul,Int.reduceToNat,Int.reduceLT,Int.reduceLE,Int.reduceEq,Int.reduceNe,Int.reduceBEq,Int.reduceBNe,Int.reduceAdd,Int.reduceSub,Int.reduceNeg, gc_archipelagoseat_Bent, iq_archipelagoseat_Bent, gc_archipelagoseat_Late, iq_archipelagoseat_Late, t1, n1, t2, n2, t3, t4, t5, n5, t6, o1, o2, o3, o4, o5, o6, BE2, BE3, BE4', LA, hq, wq, hz]; rfl) ?_
  obtain ⟨X, hX⟩ : ∃ X : List His, X = [(N0, .list false 4 (uvs ev0), ev0), ((N : Int), hv, evs), (Nb, wb, evb), (Nc, wc, evc), (Nd, wd, evd), ((N : Int), wl, lateV evs), (Ne, we, eve)] := ⟨_, rfl⟩
  have hXl : X.length = 7 := by rw [hX]; rfl
  have hXa : ∀ x ∈ X, isVa x.2.1 x.2.2 ∧ EvOk x.2.2 ∧ x.2.2.length ≤ 60 := by
    intro x hx
    rw [hX] at hx
    simp only [List.mem_cons, List.not_mem_nil, or_false] at hx
    rcases hx with rfl | rfl | rfl | rfl | rfl | rfl | rfl
    · exact ⟨.inl rfl, h0, by simp only; omega⟩
    · exact ⟨hva, hEv, hlen⟩
    · exact ⟨bva, bok, by simp only; omega⟩
    · exact ⟨cva, cok, by simp only; omega⟩
    · exact ⟨dva, dok, by simp only; omega⟩
    · exact ⟨lva, lok, by simp only; omega⟩
    · exact ⟨eva, eok, by simp only; omega⟩
  refine Zw rfl (fun m env h => ∃ (i : Nat) (b0 b2 : GObj) (tail : GH), h = b0 :: .box [.int .u64 (N : Int), hv] :: b2 :: tail ∧ GEnv.get env 17 = .ptr 1 0 0 0 ∧ GEnv.get env 69 = .own 2 (uh X) ∧ GEnv.get env 70 = .int .i64 7 ∧ GEnv.get env 71 = .int .i64 (i : Int) ∧ m + i = 7) 7 ⟨0, _, _, [], rfl, rfl, by rw [hX]; rfl, rfl, rfl, rfl⟩ ?_
  rintro m env h ⟨i, b0, b2, tail, rfl, k17, k69, k70, k71, hm⟩
  simp only [GEnv.keep, k17, k69, k70, k71]
  refine Zr rfl (by simp (maxSteps := 2000000) only [gs,List.replicate,reduceIte,reduceCtorEq,Nat.reduceEqDiff,Nat.reduceLT,Nat.reduceAdd,Nat.reduceSub,Nat.reduceLeDiff,Nat.reduceMul,Int.reduceToNat,Int.reduceLT,Int.reduceLE,Int.reduceEq,Int.reduceNe,Int.reduceBEq,Int.reduceBNe,Int.reduceAdd,Int.reduceSub,Int.reduceNeg]; rfl) (Zp rfl rfl (fun hi => ?_) (fun hi => ?_))
  · have gx : X[i]? = some (X[i]'(by omega)) := List.getElem?_eq_getElem _
    obtain ⟨xva, xok, xlen⟩ := hXa _ (List.mem_of_getElem? gx)
    generalize X[i]'(by omega) = x at gx xva xok xlen
    obtain ⟨M, wx, A⟩ := x
    simp only at xva xok xlen
    have gx' := uh_get gx
    simp only at gx'
    have q0 : ((0 : Int) ≤ (i : Int)) = True := eq_true (by omega)
    have hinc := up64 (show i < 9223372036854775807 by omega)
    have sx := isVa_share xva
    have tx := isVa_share xva
    unfold U.share at tx
    have ox := isVa_one xva
    unfold U.one at ox
    have nx := isVa_snap xva
    have CK := check_G (N := M) xva (by omega) xok
    have RCK := rcheck_G (N := M) xva (by omega) xok
    generalize evChk M A = ck at CK RCK
    obtain ⟨ci, ce⟩ := ck
    simp only at CK RCK
    have nn : ∀ z : Int, (z != z) = false := fun z => by simp
    have SM := same_G (N1 := M) (N2 := (N : Int)) xva hva (by omega) (by omega)
    have RSM := rsame_G (N1 := M) (N2 := (N : Int)) xva hva (by omega) (by omega)
    generalize (decide (M = (N : Int)) && decide (A = evs)) = sm at SM RSM
    have CP := copy_G (N := M) xva (by omega)
    have RSC : GF gtab fid_archipelagoref8_Same [.agg [.int .u64 M, .list false 4 (uvs A)], .agg [.int .u64 M, wx]] [] 0 = some (.bool true, []) := by
      rw [rsame_G (.inl rfl) xva (by omega) (by omega)]; simp
    have LT := last_G (N := M) xva (by omega)
    refine Zr rfl (by simp (maxSteps := 2000000) only [gs,List.replicate,reduceIte,reduceCtorEq,Nat.reduceEqDiff,Nat.reduceLT,Nat.reduceAdd,Nat.reduceSub,Nat.reduceLeDiff,Nat.reduceMul,Int.reduceToNat,Int.reduceLT,Int.reduceLE,Int.reduceEq,Int.reduceNe,Int.reduceBEq,Int.reduceBNe,Int.reduceAdd,Int.reduceSub,Int.reduceNeg, q0, gx', tx, ox, wapp_eq, wapp_set]; rfl) ?_
    refine Zr rfl (by simp (maxSteps := 2000000) only [gs,List.replicate,reduceIte,reduceCtorEq,Nat.reduceEqDiff,Nat.reduceLT,Nat.reduceAdd,Nat.reduceSub,Nat.reduceLeDiff,Nat.reduceMul,Int.reduceToNat,Int.reduceLT,Int.reduceLE,Int.reduceEq,Int.reduceNe,Int.reduceBEq,Int.reduceBNe,Int.reduceAdd,Int.reduceSub,Int.reduceNeg, tx, nx, wapp_eq, gc_history_Check, CK]; rfl) ?_
    refine Zr rfl (by simp (maxSteps := 2000000) only [gs,List.replicate,reduceIte,reduceCtorEq,Nat.reduceEqDiff,Nat.reduceLT,Nat.reduceAdd,Nat.reduceSub,Nat.reduceLeDiff,Nat.reduceMul,Int.reduceToNat,Int.reduceLT,Int.reduceLE,Int.reduceEq,Int.reduceNe,Int.reduceBEq,Int.reduceBNe,Int.reduceAdd,Int.reduceSub,Int.reduceNeg, tx, nx, wapp_eq, gc_archipelagoref8_Check, RCK]; rfl) ?_
    refine Zd rfl (by simp (maxSteps := 2000000) only [gs,gd,List.replicate,id,reduceIte,reduceCtorEq,Nat.reduceEqDiff,Nat.reduceLT,Nat.reduceAdd,Nat.reduceSub,Nat.reduceLeDiff,Nat.reduceMul,Int.reduceToNat,Int.reduceLT,Int.reduceLE,Int.reduceEq,Int.reduceNe,Int.reduceBEq,Int.reduceBNe,Int.reduceAdd,Int.reduceSub,Int.reduceNeg, nn, tx, nx, t1, n1, wapp_eq, gc_history_Same, iq_history_Same, SM, gc_archipelagoref8_Same, iq_archipelagoref8_Same, RSM, beq_self_eq_true, gc_history_Copy, iq_history_Copy, CP, snapLL_uvs, RSC]; rfl) (Zc rfl rfl (fun h => by cases h) (fun _ => ?_))
    refine Zr rfl (by simp (maxSteps := 2000000) only [gs,List.replicate,reduceIte,reduceCtorEq,Nat.reduceEqDiff,Nat.reduceLT,Nat.reduceAdd,Nat.reduceSub,Nat.reduceLeDiff,Nat.reduceMul,Int.reduceToNat,Int.reduceLT,Int.reduceLE,Int.reduceEq,Int.reduceNe,Int.reduceBEq,Int.reduceBNe,Int.reduceAdd,Int.reduceSub,Int.reduceNeg]; rfl) ?_
    refine Z_nrm 1 (Zj0 (fun env h => h = b0 :: .box [.int .u64 (N : Int), hv] :: b2 :: (tail ++ [.box [.int .u64 M, wx]]) ∧ GEnv.get env 17 = .ptr 1 0 0 0 ∧ GEnv.get env 20 = .ptr (tail.length + 1 + 1 + 1) 0 0 0 ∧ GEnv.get env 25 = .int .i64 (lastT A) ∧ GEnv.get env 69 = .own 2 (uh X) ∧ GEnv.get env 70 = .int .i64 7 ∧ GEnv.get env 71 = .int .i64 (i : Int)) ?_ ?_)
    · rcases xva with rfl | ⟨rfl, rfl⟩
      · by_cases hA : A = []
        · subst hA
          refine Zr rfl (by simp (maxSteps := 2000000) only [gs,List.replicate,reduceIte,reduceCtorEq,Nat.reduceEqDiff,Nat.reduceLT,Nat.reduceAdd,Nat.reduceSub,Nat.reduceLeDiff,Nat.reduceMul,Int.reduceToNat,Int.reduceLT,Int.reduceLE,Int.reduceEq,Int.reduceNe,Int.reduceBEq,Int.reduceBNe,Int.reduceAdd,Int.reduceSub,Int.reduceNeg, wapp_eq, uvs_length, List.length_nil, Int.natCast_zero]; rfl) ?_
          refine Zr rfl (by simp (maxSteps := 2000000) only [gs,List.replicate,reduceIte,reduceCtorEq,Nat.reduceEqDiff,Nat.reduceLT,Nat.reduceAdd,Nat.reduceSub,Nat.reduceLeDiff,Nat.reduceMul,Int.reduceToNat,Int.reduceLT,Int.reduceLE,Int.reduceEq,Int.reduceNe,Int.reduceBEq,Int.reduceBNe,Int.reduceAdd,Int.reduceSub,Int.reduceNeg]; rfl) (Zc rfl rfl (fun h => by cases h) (fun _ => ?_))
          exact Za rfl ⟨rfl, rfl, rfl, rfl, rfl, rfl, rfl⟩
        · have hpos : 0 < A.length := List.length_pos_iff.2 hA
          have f0 : ((A.length : Int) > 0) = True := eq_true (by omega)
          have gp : A[A.length - 1]? = some (A[A.length - 1]'(by omega)) := List.getElem?_eq_getElem _
          have hla : lastT A = (A[A.length - 1]'(by omega)).1 := by rw [lastT, if_neg hA, List.getD_eq_getElem?_getD, gp]; rfl
          generalize A[A.length - 1]'(by omega) = d at gp hla
          have ws : IntKind.i64.wrap ((A.length : Int) - 1) = ((A.length - 1 : Nat) : Int) := by rw [wrap_i64 (by omega) (by omega)]; omega
          have p1 : ((0 : Int) ≤ ((A.length - 1 : Nat) : Int)) = True := eq_true (by omega)
          refine Zr rfl (by simp (maxSteps := 2000000) only [gs,List.replicate,reduceIte,reduceCtorEq,Nat.reduceEqDiff,Nat.reduceLT,Nat.reduceAdd,Nat.reduceSub,Nat.reduceLeDiff,Nat.reduceMul,Int.reduceToNat,Int.reduceLT,Int.reduceLE,Int.reduceEq,Int.reduceNe,Int.reduceBEq,Int.reduceBNe,Int.reduceAdd,Int.reduceSub,Int.reduceNeg, wapp_eq, uvs_length]; rfl) ?_
          refine Zr rfl (by simp (maxSteps := 2000000) only [gs,List.replicate,reduceIte,reduceCtorEq,Nat.reduceEqDiff,Nat.reduceLT,Nat.reduceAdd,Nat.reduceSub,Nat.reduceLeDiff,Nat.reduceMul,Int.reduceToNat,Int.reduceLT,Int.reduceLE,Int.reduceEq,Int.reduceNe,Int.reduceBEq,Int.reduceBNe,Int.reduceAdd,Int.reduceSub,Int.reduceNeg, f0]; rfl) (Zc rfl rfl (fun _ => ?_) (fun h => by cases h))
          refine Zr rfl (by simp (maxSteps := 2000000) only [gs,List.replicate,reduceIte,reduceCtorEq,Nat.reduceEqDiff,Nat.reduceLT,Nat.reduceAdd,Nat.reduceSub,Nat.reduceLeDiff,Nat.reduceMul,Int.reduceToNat,Int.reduceLT,Int.reduceLE,Int.reduceEq,Int.reduceNe,Int.reduceBEq,Int.reduceBNe,Int.reduceAdd,Int.reduceSub,Int.reduceNeg, wapp_eq, ws, p1, uvs_get gp, ← hla]; rfl) ?_
          exact Za rfl ⟨rfl, rfl, rfl, rfl, rfl, rfl, rfl⟩
      · refine Zr rfl (by simp (maxSteps := 2000000) only [gs,List.replicate,reduceIte,reduceCtorEq,Nat.reduceEqDiff,Nat.reduceLT,Nat.reduceAdd,Nat.reduceSub,Nat.reduceLeDiff,Nat.reduceMul,Int.reduceToNat,Int.reduceLT,Int.reduceLE,Int.reduceEq,Int.reduceNe,Int.reduceBEq,Int.reduceBNe,Int.reduceAdd,Int.reduceSub,Int.reduceNeg, wapp_eq]; rfl) ?_
        refine Zr rfl (by simp (maxSteps := 2000000) only [gs,List.replicate,reduceIte,reduceCtorEq,Nat.reduceEqDiff,Nat.reduceLT,Nat.reduceAdd,Nat.reduceSub,Nat.reduceLeDiff,Nat.reduceMul,Int.reduceToNat,Int.reduceLT,Int.reduceLE,Int.reduceEq,Int.reduceNe,Int.reduceBEq,Int.reduceBNe,Int.reduceAdd,Int.reduceSub,Int.reduceNeg]; rfl) (Zc rfl rfl (fun h => by cases h) (fun _ => ?_))
        exact Za rfl ⟨rfl, rfl, rfl, rfl, rfl, rfl, rfl⟩
    rintro env h ⟨rfl, k17, k20, k25, k69, k70, k71⟩
    refine Zr rfl (by simp (maxSteps := 2000000) only [gs,List.replicate,reduceIte,reduceCtorEq,Nat.reduceEqDiff,Nat.reduceLT,Nat.reduceAdd,Nat.reduceSub,Nat.reduceLeDiff,Nat.reduceMul,Int.reduceToNat,Int.reduceLT,Int.reduceLE,Int.reduceEq,Int.reduceNe,Int.reduceBEq,Int.reduceBNe,Int.reduceAdd,Int.reduceSub,Int.reduceNeg, k20, k25, wapp_eq, tx, nx, gc_history_Last, LT, nn]; rfl) (Zc rfl rfl (fun h => by cases h) (fun _ => ?_))
    refine Zr rfl (by simp (maxSteps := 2000000) only [gs,List.replicate,reduceIte,reduceCtorEq,Nat.reduceEqDiff,Nat.reduceLT,Nat.reduceAdd,Nat.reduceSub,Nat.reduceLeDiff,Nat.reduceMul,Int.reduceToNat,Int.reduceLT,Int.reduceLE,Int.reduceEq,Int.reduceNe,Int.reduceBEq,Int.reduceBNe,Int.reduceAdd,Int.reduceSub,Int.reduceNeg, k71, hinc]; rfl) ?_
    exact Za rfl ⟨m - 1, by omega, i + 1, _, _, _, rfl, by simp [GEnv.get, k17], by simp [GEnv.get, k69], by simp [GEnv.get, k70], by simp [GEnv.get], by omega⟩
  · have CK := check_G (N := (N : Int)) hva (by omega) hEv
    rw [hchk] at CK
    refine Zr rfl (by simp (maxSteps := 2000000) only [gs,List.replicate,reduceIte,reduceCtorEq,Nat.reduceEqDiff,Nat.reduceLT,Nat.reduceAdd,Nat.reduceSub,Nat.reduceLeDiff,Nat.reduceMul,Int.reduceToNat,Int.reduceLT,Int.reduceLE,Int.reduceEq,Int.reduceNe,Int.reduceBEq,Int.reduceBNe,Int.reduceAdd,Int.reduceSub,Int.reduceNeg, t1, n1, gc_history_Check, CK]; rfl) ?_
    exact Zr rfl (by simp (maxSteps := 2000000) only [gs,List.replicate,reduceIte,reduceCtorEq,Nat.reduceEqDiff,Nat.reduceLT,Nat.reduceAdd,Nat.reduceSub,Nat.reduceLeDiff,Nat.reduceMul,Int.reduceToNat,Int.reduceLT,Int.reduceLE,Int.reduceEq,Int.reduceNe,Int.reduceBEq,Int.reduceBNe,Int.reduceAdd,Int.reduceSub,Int.reduceNeg]; rfl) (Zq rfl ⟨_, rfl, rfl⟩)

theorem historyTells_law (us : List U) (h : Ars [.agg [.int .u64, .sl [.int .i64, .int .u32, .int .u32, .bool]], .one (.int .u8), .one (.sl [.int .u8]), .one (.int .u8), .one (.int .u8), .one (.int .i64), .one (.int .u8), .one (.int .i64)] us) : GF gtab fid_archipelagolaw9_HistoryTells us [] 0 = some (.bool true, []) := by
  obtain ⟨u0, _, rfl, h0, u1, _, rfl, h1, u2, _, rfl, h2, u3, _, rfl, h3, u4, _, rfl, h4, u5, _, rfl, h5, u6, _, rfl, h6, u7, _, rfl, h7, rfl⟩ := h
  simp only [Ar.fits, Sh.fitsL] at h0
  obtain ⟨_, rfl, N0', _, rfl, hN, E, _, rfl, hE, rfl⟩ := h0
  simp only [Sh.fits] at hN
  obtain ⟨N0, rfl, _⟩ := hN
  obtain ⟨ev0, rfl, ok0⟩ := Sh.events hE
  obtain ⟨k, rfl, hk⟩ := Sh.nat rfl h1
  obtain ⟨l, rfl, _, hl⟩ := Sh.nums rfl h2
  obtain ⟨what, rfl, hwh⟩ := Sh.nat rfl h3
  obtain ⟨at', rfl, hat⟩ := Sh.nat rfl h4
  obtain ⟨more, rfl, hmo⟩ := Sh.nat rfl h6
  simp only [Ar.fits, Sh.fits] at h5 h7
  obtain ⟨v, rfl, _⟩ := h5
  obtain ⟨w, rfl, _⟩ := h7
  exact historyTells_G ok0 (Nat.lt_succ_of_le (Int.ofNat_le.1 hk)) (fun x hx => Nat.lt_succ_of_le (Int.ofNat_le.1 (hl x hx))) (Nat.lt_succ_of_le (Int.ofNat_le.1 hat))

end Go.Ab
