/- DeltaBack: events come back, however late they are, and just as many must be asked for. -/
import Derived.Test.YtbkbelaogegpgaaDelG
import Derived.Test.YtbkbelaogegpgaaValN
namespace Go.Ab
open Go
set_option linter.unusedVariables false
set_option linter.unusedSimpArgs false
set_option maxRecDepth 10000

theorem late_sh {N : Int} {evs : List Ev} (h : RightV N evs) (hs : SortT evs) : ∃ d : Int, 0 ≤ d ∧ lateV evs = evs.map (shE d) ∧ ∀ e ∈ evs, e.1 + d ≤ 4611686018427387903 := by
  by_cases h0 : evs = []
  · subst h0; exact ⟨0, by omega, rfl, fun e he => (by cases he)⟩
  have hpos : 0 < evs.length := List.length_pos_iff.2 h0
  have gp : evs[evs.length - 1]? = some (evs[evs.length - 1]'(by omega)) := List.getElem?_eq_getElem _
  have hla : lastT evs = (evs[evs.length - 1]'(by omega)).1 := by rw [lastT, if_neg h0, List.getD_eq_getElem?_getD, gp]; rfl
  generalize evs[evs.length - 1]'(by omega) = d at gp hla
  have hd := (right_ev h gp).1
  have hle : ∀ e ∈ evs, e.1 ≤ d.1 := fun e he => by
    obtain ⟨i, hi⟩ := List.mem_iff_getElem?.1 he
    have := (List.getElem?_eq_some_iff.1 hi).1
    exact hs i (evs.length - 1) e d (by omega) hi gp
  refine ⟨4611686018427387903 - d.1, by omega, ?_, fun e he => by have := hle e he; omega⟩
  unfold lateV
  rw [hla]
  refine List.map_congr_left fun e he => ?_
  obtain ⟨i, hi⟩ := List.mem_iff_getElem?.1 he
  have h1 := (right_ev h hi).1
  have h2 := hle e he
  rw [wrap_i64 (n := 4611686018427387903 - d.1) (by omega) (by omega), wrap_i64 (by omega) (by omega)]
  rfl

set_option maxHeartbeats 4000000 in
theorem deltaBack_G {k o : Nat} {l : List Nat} {late : Bool} (hk : k < 256) (hl : ∀ x ∈ l, x < 256) (ho : o < 256) : GF gtab fid_archipelagolaw16_DeltaBack [.int .u8 k, .list false 1 (un .u8 l), .bool late, .int .u8 o] [] 0 = some (.bool true, []) := by
  refine fn_archipelagolaw16_DeltaBack rfl ?_
  simp only [genvOf]
  refine Zr rfl (by simp (maxSteps := 2000000) only [gs,List.replicate,reduceIte,reduceCtorEq,Nat.reduceEqDiff,Nat.reduceLT,Nat.reduceAdd,Nat.reduceSub,Nat.reduceLeDiff,Nat.reduceMul,Int.reduceToNat,Int.reduceLT,Int.reduceLE,Int.reduceEq,Int.reduceNe,Int.reduceBEq,Int.reduceBNe,Int.reduceAdd,Int.reduceSub,Int.reduceNeg]; rfl) ?_
  refine Zr rfl (by simp (maxSteps := 2000000) only [gs,List.replicate,reduceIte,reduceCtorEq,Nat.reduceEqDiff,Nat.reduceLT,Nat.reduceAdd,Nat.reduceSub,Nat.reduceLeDiff,Nat.reduceMul,Int.reduceToNat,Int.reduceLT,Int.reduceLE,Int.reduceEq,Int.reduceNe,Int.reduceBEq,Int.reduceBNe,Int.reduceAdd,Int.reduceSub,Int.reduceNeg, gc_archipelagolaw16_known, known16_H]; rfl) (Zc rfl rfl (fun h => by cases h) (fun _ => ?_))
  by_cases h90 : l.length ≤ 90
  case neg =>
    have g2 : ((l.length : Int) > 90) = True := eq_true (by omega)
    refine Zr rfl (by simp (maxSteps := 2000000) only [gs,List.replicate,reduceIte,reduceCtorEq,Nat.reduceEqDiff,Nat.reduceLT,Nat.reduceAdd,Nat.reduceSub,Nat.reduceLeDiff,Nat.reduceMul,Int.reduceToNat,Int.reduceLT,Int.reduceLE,Int.reduceEq,Int.reduceNe,Int.reduceBEq,Int.reduceBNe,Int.reduceAdd,Int.reduceSub,Int.reduceNeg, un_length, g2]; rfl) (Zc rfl rfl (fun _ => ?_) (fun h => by cases h))
    exact Zr rfl (by simp (maxSteps := 2000000) only [gs,List.replicate,reduceIte,reduceCtorEq,Nat.reduceEqDiff,Nat.reduceLT,Nat.reduceAdd,Nat.reduceSub,Nat.reduceLeDiff,Nat.reduceMul,Int.reduceToNat,Int.reduceLT,Int.reduceLE,Int.reduceEq,Int.reduceNe,Int.reduceBEq,Int.reduceBNe,Int.reduceAdd,Int.reduceSub,Int.reduceNeg]; rfl) (Zq rfl ⟨_, rfl, rfl⟩)
  have g2 : ((l.length : Int) > 90) = False := eq_false (by omega)
  obtain ⟨N, v, evs, HI, hv, hs, hti, hle, hN, hri, hok⟩ := history_R hk hl h90
  obtain ⟨w', LT, hw'⟩ := late_R (N := (N : Int)) hv (by omega)
  obtain ⟨d, hd0, hds, hdm⟩ := late_sh hri hs
  obtain ⟨v2, L, hv2, hL1, hL2⟩ : ∃ v2 L, isVa v2 L ∧ (late = true → v2 = w' ∧ L = lateV evs) ∧ (late = false → v2 = v ∧ L = evs) := by
    cases late with
    | true => exact ⟨w', lateV evs, hw', fun _ => ⟨rfl, rfl⟩, fun h => (by cases h)⟩
    | false => exact ⟨v, evs, hv, fun h => (by cases h), fun _ => ⟨rfl, rfl⟩⟩
  have hLl : L.length = evs.length := by
    cases late with
    | true => rw [(hL1 rfl).2, lateV_length]
    | false => rw [(hL2 rfl).2]
  have hR : ∀ e0 r, L = e0 :: r → RightD e0.1 L ∧ 0 ≤ e0.1 ∧ e0.1 ≤ 4611686018427387903 := fun e0 r h => by
    have : RightD e0.1 L := by
      cases late with
      | true =>
        have hLL := (hL1 rfl).2
        rw [hLL, hds] at h ⊢
        cases evs with
        | nil => cases h
        | cons x xs =>
          have h1 : RightD x.1 (x :: xs) := hri.rightD fun e r h => by rw [List.cons.injEq] at h; rw [h.1]
          have h2 := right_sh h1 hd0 hdm
          rw [List.map_cons, List.cons.injEq] at h
          have h3 : e0.1 = x.1 + d := by rw [← h.1]; rfl
          rw [h3]; exact h2
      | false =>
        have hLL := (hL2 rfl).2
        rw [hLL] at h ⊢
        exact hri.rightD fun e r h' => by rw [h, List.cons.injEq] at h'; rw [h'.1]
    exact ⟨this, by have := this.1 e0 (by rw [h]; exact List.mem_cons_self); omega, by have := this.1 e0 (by rw [h]; exact List.mem_cons_self); omega⟩
  have hokL : EvOk L := by
    cases late with
    | true => rw [(hL1 rfl).2]; exact evOk_late hok
    | false => rw [(hL2 rfl).2]; exact hok
  have hNL : ∀ e ∈ L, e.2.2.1 < (N : Int) := by
    cases late with
    | true =>
      rw [(hL1 rfl).2, hds]
      intro e he
      obtain ⟨x, hx, rfl⟩ := List.mem_map.1 he
      exact hri.below x hx
    | false => rw [(hL2 rfl).2]; exact hri.below
  refine Zr rfl (by simp (maxSteps := 2000000) only [gs,List.replicate,reduceIte,reduceCtorEq,Nat.reduceEqDiff,Nat.reduceLT,Nat.reduceAdd,Nat.reduceSub,Nat.reduceLeDiff,Nat.reduceMul,Int.reduceToNat,Int.reduceLT,Int.reduceLE,Int.reduceEq,Int.reduceNe,Int.reduceBEq,Int.reduceBNe,Int.reduceAdd,Int.reduceSub,Int.reduceNeg, un_length, g2]; rfl) (Zc rfl rfl (fun h => by cases h) (fun _ => ?_))
  refine Zj rfl (fun env h => h = [.box [.int .u64 (N : Int), v]] ∧ GEnv.get env 2 = .bool late ∧ GEnv.get env 3 = .int .u8 (o : Int) ∧ GEnv.get env 9 = .ptr 0 0 0 0) ?_ ?_
  · rcases hv with rfl | ⟨rfl, rfl⟩
    · refine Zr rfl (by simp (maxSteps := 2000000) only [gs,List.replicate,reduceIte,reduceCtorEq,Nat.reduceEqDiff,Nat.reduceLT,Nat.reduceAdd,Nat.reduceSub,Nat.reduceLeDiff,Nat.reduceMul,Int.reduceToNat,Int.reduceLT,Int.reduceLE,Int.reduceEq,Int.reduceNe,Int.reduceBEq,Int.reduceBNe,Int.reduceAdd,Int.reduceSub,Int.reduceNeg, snapLL_un, gc_archipelagoseat_History, HI]; rfl) ?_
      exact Za rfl ⟨rfl, rfl, rfl, rfl⟩
    · refine Zr rfl (by simp (maxSteps := 2000000) only [gs,List.replicate,reduceIte,reduceCtorEq,Nat.reduceEqDiff,Nat.reduceLT,Nat.reduceAdd,Nat.reduceSub,Nat.reduceLeDiff,Nat.reduceMul,Int.reduceToNat,Int.reduceLT,Int.reduceLE,Int.reduceEq,Int.reduceNe,Int.reduceBEq,Int.reduceBNe,Int.reduceAdd,Int.reduceSub,Int.reduceNeg, snapLL_un, gc_archipelagoseat_History, HI]; rfl) ?_
      exact Za rfl ⟨rfl, rfl, rfl, rfl⟩
  rintro env h ⟨rfl, k2, k3, k9⟩
  refine Z_nrm 1 (Zj2 (fun env h => h = [.box [.int .u64 (N : Int), v2]] ∧ GEnv.get env 3 = .int .u8 (o : Int) ∧ GEnv.get env 9 = .ptr 0 0 0 0) ?_ ?_)
  · cases late with
    | true =>
      obtain ⟨rfl, hLL⟩ := hL1 rfl
      refine Zr rfl (by simp (maxSteps := 2000000) only [gs,List.replicate,reduceIte,reduceCtorEq,Nat.reduceEqDiff,Nat.reduceLT,Nat.reduceAdd,Nat.reduceSub,Nat.reduceLeDiff,Nat.reduceMul,Int.reduceToNat,Int.reduceLT,Int.reduceLE,Int.reduceEq,Int.reduceNe,Int.reduceBEq,Int.reduceBNe,Int.reduceAdd,Int.reduceSub,Int.reduceNeg, k2]; rfl) (Zc rfl rfl (fun _ => ?_) (fun h => by cases h))
      rcases hv with rfl | ⟨rfl, rfl⟩
      all_goals
        rcases hw' with rfl | ⟨rfl, _⟩
        · refine Zr rfl (by simp (maxSteps := 2000000) only [gs,List.replicate,reduceIte,reduceCtorEq,Nat.reduceEqDiff,Nat.reduceLT,Nat.reduceAdd,Nat.reduceSub,Nat.reduceLeDiff,Nat.reduceMul,Int.reduceToNat,Int.reduceLT,Int.reduceLE,Int.reduceEq,Int.reduceNe,Int.reduceBEq,Int.reduceBNe,Int.reduceAdd,Int.reduceSub,Int.reduceNeg, k9, snapLL_uvs, gc_archipelagoseat_Late, LT]; rfl) ?_
          exact Za rfl ⟨rfl, by simp [GEnv.get, k3], by simp [GEnv.get, k9]⟩
        · refine Zr rfl (by simp (maxSteps := 2000000) only [gs,List.replicate,reduceIte,reduceCtorEq,Nat.reduceEqDiff,Nat.reduceLT,Nat.reduceAdd,Nat.reduceSub,Nat.reduceLeDiff,Nat.reduceMul,Int.reduceToNat,Int.reduceLT,Int.reduceLE,Int.reduceEq,Int.reduceNe,Int.reduceBEq,Int.reduceBNe,Int.reduceAdd,Int.reduceSub,Int.reduceNeg, k9, snapLL_uvs, gc_archipelagoseat_Late, LT]; rfl) ?_
          exact Za rfl ⟨rfl, by simp [GEnv.get, k3], by simp [GEnv.get, k9]⟩
    | false =>
      obtain ⟨rfl, hLL⟩ := hL2 rfl
      refine Zr rfl (by simp (maxSteps := 2000000) only [gs,List.replicate,reduceIte,reduceCtorEq,Nat.reduceEqDiff,Nat.reduceLT,Nat.reduceAdd,Nat.reduceSub,Nat.reduceLeDiff,Nat.reduceMul,Int.reduceToNat,Int.reduceLT,Int.reduceLE,Int.reduceEq,Int.reduceNe,Int.reduceBEq,Int.reduceBNe,Int.reduceAdd,Int.reduceSub,Int.reduceNeg, k2]; rfl) (Zc rfl rfl (fun h => by cases h) (fun _ => ?_))
      exact Za rfl ⟨rfl, by simp [GEnv.get, k3], by simp [GEnv.get, k9]⟩
  rintro env h ⟨rfl, k3, k9⟩
  by_cases h0 : L = []
  · have R0 : RightD 0 [] := ⟨fun e he => (by cases he), .nil, fun e r h => (by cases h)⟩
    obtain ⟨b0, q1, _, _, Q0⟩ := put_right R0 (fun e he => (by cases he)) (by simp)
    have Q := Q0 (w := .nils) (.inr ⟨rfl, rfl⟩)
    have hb0 : b0.length = 0 := by rw [q1.len]; rfl
    have fb : (((b0.length : Nat) : Int) == 0) = true := by rw [hb0]; rfl
    subst h0
    have un0 : (uvs []).length = 0 := rfl
    rcases hv2 with rfl | ⟨rfl, _⟩
    · refine Zr rfl (by simp (maxSteps := 2000000) only [gs,List.replicate,reduceIte,reduceCtorEq,Nat.reduceEqDiff,Nat.reduceLT,Nat.reduceAdd,Nat.reduceSub,Nat.reduceLeDiff,Nat.reduceMul,Int.reduceToNat,Int.reduceLT,Int.reduceLE,Int.reduceEq,Int.reduceNe,Int.reduceBEq,Int.reduceBNe,Int.reduceAdd,Int.reduceSub,Int.reduceNeg, k9, un0, Int.natCast_zero]; rfl) ?_
      refine Zr rfl (by simp (maxSteps := 2000000) only [gs,List.replicate,reduceIte,reduceCtorEq,Nat.reduceEqDiff,Nat.reduceLT,Nat.reduceAdd,Nat.reduceSub,Nat.reduceLeDiff,Nat.reduceMul,Int.reduceToNat,Int.reduceLT,Int.reduceLE,Int.reduceEq,Int.reduceNe,Int.reduceBEq,Int.reduceBNe,Int.reduceAdd,Int.reduceSub,Int.reduceNeg, beq_self_eq_true]; rfl) (Zc rfl rfl (fun _ => ?_) (fun h => by cases h))
      refine Zr rfl (by simp (maxSteps := 2000000) only [gs,List.replicate,reduceIte,reduceCtorEq,Nat.reduceEqDiff,Nat.reduceLT,Nat.reduceAdd,Nat.reduceSub,Nat.reduceLeDiff,Nat.reduceMul,Int.reduceToNat,Int.reduceLT,Int.reduceLE,Int.reduceEq,Int.reduceNe,Int.reduceBEq,Int.reduceBNe,Int.reduceAdd,Int.reduceSub,Int.reduceNeg, gc_delta_Put, Q]; rfl) ?_
      exact Zr rfl (by simp (maxSteps := 2000000) only [gs,List.replicate,reduceIte,reduceCtorEq,Nat.reduceEqDiff,Nat.reduceLT,Nat.reduceAdd,Nat.reduceSub,Nat.reduceLeDiff,Nat.reduceMul,Int.reduceToNat,Int.reduceLT,Int.reduceLE,Int.reduceEq,Int.reduceNe,Int.reduceBEq,Int.reduceBNe,Int.reduceAdd,Int.reduceSub,Int.reduceNeg, beq_self_eq_true, un_length, fb]; rfl) (Zq rfl ⟨_, rfl, rfl⟩)
    · refine Zr rfl (by simp (maxSteps := 2000000) only [gs,List.replicate,reduceIte,reduceCtorEq,Nat.reduceEqDiff,Nat.reduceLT,Nat.reduceAdd,Nat.reduceSub,Nat.reduceLeDiff,Nat.reduceMul,Int.reduceToNat,Int.reduceLT,Int.reduceLE,Int.reduceEq,Int.reduceNe,Int.reduceBEq,Int.reduceBNe,Int.reduceAdd,Int.reduceSub,Int.reduceNeg, k9]; rfl) ?_
      refine Zr rfl (by simp (maxSteps := 2000000) only [gs,List.replicate,reduceIte,reduceCtorEq,Nat.reduceEqDiff,Nat.reduceLT,Nat.reduceAdd,Nat.reduceSub,Nat.reduceLeDiff,Nat.reduceMul,Int.reduceToNat,Int.reduceLT,Int.reduceLE,Int.reduceEq,Int.reduceNe,Int.reduceBEq,Int.reduceBNe,Int.reduceAdd,Int.reduceSub,Int.reduceNeg, beq_self_eq_true]; rfl) (Zc rfl rfl (fun _ => ?_) (fun h => by cases h))
      refine Zr rfl (by simp (maxSteps := 2000000) only [gs,List.replicate,reduceIte,reduceCtorEq,Nat.reduceEqDiff,Nat.reduceLT,Nat.reduceAdd,Nat.reduceSub,Nat.reduceLeDiff,Nat.reduceMul,Int.reduceToNat,Int.reduceLT,Int.reduceLE,Int.reduceEq,Int.reduceNe,Int.reduceBEq,Int.reduceBNe,Int.reduceAdd,Int.reduceSub,Int.reduceNeg, gc_delta_Put, Q]; rfl) ?_
      exact Zr rfl (by simp (maxSteps := 2000000) only [gs,List.replicate,reduceIte,reduceCtorEq,Nat.reduceEqDiff,Nat.reduceLT,Nat.reduceAdd,Nat.reduceSub,Nat.reduceLeDiff,Nat.reduceMul,Int.reduceToNat,Int.reduceLT,Int.reduceLE,Int.reduceEq,Int.reduceNe,Int.reduceBEq,Int.reduceBNe,Int.reduceAdd,Int.reduceSub,Int.reduceNeg, beq_self_eq_true, un_length, fb]; rfl) (Zq rfl ⟨_, rfl, rfl⟩)
  obtain ⟨e0, r0, he0⟩ := List.exists_cons_of_ne_nil h0
  rcases hv2 with rfl | ⟨_, h1⟩
  case inr => exact absurd h1 h0
  have hpos : 0 < L.length := List.length_pos_iff.2 h0
  obtain ⟨hRL, ht0, ht1⟩ := hR e0 r0 he0
  obtain ⟨bs, p1, pb, pl, PUT⟩ := put_right hRL hokL (by omega)
  have P1 := PUT (w := .list false 4 (uvs L)) (.inl rfl)
  obtain ⟨y, hy, RD1⟩ := read_right (N := N) hRL (fun _ => ⟨ht0, ht1⟩) (by omega) hokL hNL (by omega) p1 pb pl (by omega)
  have RD2 := read_no (N := N) (count := ((L.length + 1 + o % 3 : Nat) : Int)) hRL (by omega) (by omega) (by omega) hokL (by omega) p1 pb pl
  have RD3 := read_no (N := N) (count := -1) hRL (by omega) (by omega) (by omega) hokL (by omega) p1 pb pl
  have SE := sameEv_G (w2 := .list false 4 (uvs L)) hy (.inl rfl) (by omega) (by omega)
  rw [decide_eq_true rfl] at SE
  have hbs : 0 < bs.length := by
    rw [p1.len]
    have : (db e0.1 L).length = (db e0.1 (e0 :: r0)).length := by rw [he0]
    rw [this]
    unfold db
    rw [dall, List.length_append]
    unfold dbits
    simp only [List.length_append, List.length_singleton]
    omega
  have fb : (((bs.length : Nat) : Int) > 0) = True := eq_true (by omega)
  have f0 : (((L.length : Nat) : Int) == 0) = false := beq_eq_false_iff_ne.2 (by omega)
  have gz : (uvs L)[0]? = some [.int .i64 e0.1, .int .u32 e0.2.1, .int .u32 e0.2.2.1, .bool e0.2.2.2] := by rw [he0]; rfl
  have m3 : ((o : Nat) : Int).tmod 3 = ((o % 3 : Nat) : Int) := rfl
  have w1 : IntKind.i64.wrap (((L.length : Nat) : Int) + 1) = ((L.length + 1 : Nat) : Int) := up64 (by omega)
  have w2 : IntKind.i64.wrap ((o % 3 : Nat) : Int) = ((o % 3 : Nat) : Int) := wrap_i64_nat (by omega)
  have w3 : IntKind.i64.wrap (((L.length + 1 : Nat) : Int) + ((o % 3 : Nat) : Int)) = ((L.length + 1 + o % 3 : Nat) : Int) := by
    rw [show ((L.length + 1 : Nat) : Int) + ((o % 3 : Nat) : Int) = ((L.length + 1 + o % 3 : Nat) : Int) by omega]; exact wrap_i64_nat (by omega)
  rcases hy with rfl | ⟨_, h1⟩
  case inr => exact absurd h1 h0
  refine Zr rfl (by simp (maxSteps := 2000000) only [gs,List.replicate,reduceIte,reduceCtorEq,Nat.reduceEqDiff,Nat.reduceLT,Nat.reduceAdd,Nat.reduceSub,Nat.reduceLeDiff,Nat.reduceMul,Int.reduceToNat,Int.reduceLT,Int.reduceLE,Int.reduceEq,Int.reduceNe,Int.reduceBEq,Int.reduceBNe,Int.reduceAdd,Int.reduceSub,Int.reduceNeg, k9, uvs_length]; rfl) ?_
  refine Zr rfl (by simp (maxSteps := 2000000) only [gs,List.replicate,reduceIte,reduceCtorEq,Nat.reduceEqDiff,Nat.reduceLT,Nat.reduceAdd,Nat.reduceSub,Nat.reduceLeDiff,Nat.reduceMul,Int.reduceToNat,Int.reduceLT,Int.reduceLE,Int.reduceEq,Int.reduceNe,Int.reduceBEq,Int.reduceBNe,Int.reduceAdd,Int.reduceSub,Int.reduceNeg, f0]; rfl) (Zc rfl rfl (fun h => by cases h) (fun _ => ?_))
  refine Zr rfl (by simp (maxSteps := 2000000) only [gs,List.replicate,reduceIte,reduceCtorEq,Nat.reduceEqDiff,Nat.reduceLT,Nat.reduceAdd,Nat.reduceSub,Nat.reduceLeDiff,Nat.reduceMul,Int.reduceToNat,Int.reduceLT,Int.reduceLE,Int.reduceEq,Int.reduceNe,Int.reduceBEq,Int.reduceBNe,Int.reduceAdd,Int.reduceSub,Int.reduceNeg, k9, gz]; rfl) ?_
  refine Zr rfl (by simp (maxSteps := 2000000) only [gs,List.replicate,reduceIte,reduceCtorEq,Nat.reduceEqDiff,Nat.reduceLT,Nat.reduceAdd,Nat.reduceSub,Nat.reduceLeDiff,Nat.reduceMul,Int.reduceToNat,Int.reduceLT,Int.reduceLE,Int.reduceEq,Int.reduceNe,Int.reduceBEq,Int.reduceBNe,Int.reduceAdd,Int.reduceSub,Int.reduceNeg, k9, snapLL_uvs, gc_delta_Put, P1]; rfl) ?_
  refine Zr rfl (by simp (maxSteps := 2000000) only [gs,List.replicate,reduceIte,reduceCtorEq,Nat.reduceEqDiff,Nat.reduceLT,Nat.reduceAdd,Nat.reduceSub,Nat.reduceLeDiff,Nat.reduceMul,Int.reduceToNat,Int.reduceLT,Int.reduceLE,Int.reduceEq,Int.reduceNe,Int.reduceBEq,Int.reduceBNe,Int.reduceAdd,Int.reduceSub,Int.reduceNeg, k9, snapLL_un, gc_delta_Read, RD1]; rfl) ?_
  refine Zr rfl (by simp (maxSteps := 2000000) only [gs,List.replicate,reduceIte,reduceCtorEq,Nat.reduceEqDiff,Nat.reduceLT,Nat.reduceAdd,Nat.reduceSub,Nat.reduceLeDiff,Nat.reduceMul,Int.reduceToNat,Int.reduceLT,Int.reduceLE,Int.reduceEq,Int.reduceNe,Int.reduceBEq,Int.reduceBNe,Int.reduceAdd,Int.reduceSub,Int.reduceNeg, k3, k9, m3, w1, w2, w3, snapLL_un, gc_delta_Read, RD2]; rfl) ?_
  refine Zr rfl (by simp (maxSteps := 2000000) only [gs,List.replicate,reduceIte,reduceCtorEq,Nat.reduceEqDiff,Nat.reduceLT,Nat.reduceAdd,Nat.reduceSub,Nat.reduceLeDiff,Nat.reduceMul,Int.reduceToNat,Int.reduceLT,Int.reduceLE,Int.reduceEq,Int.reduceNe,Int.reduceBEq,Int.reduceBNe,Int.reduceAdd,Int.reduceSub,Int.reduceNeg, k9, snapLL_un, gc_delta_Read, RD3]; rfl) ?_
  exact Zr rfl (by simp (maxSteps := 2000000) only [gs,List.replicate,reduceIte,reduceCtorEq,Nat.reduceEqDiff,Nat.reduceLT,Nat.reduceAdd,Nat.reduceSub,Nat.reduceLeDiff,Nat.reduceMul,Int.reduceToNat,Int.reduceLT,Int.reduceLE,Int.reduceEq,Int.reduceNe,Int.reduceBEq,Int.reduceBNe,Int.reduceAdd,Int.reduceSub,Int.reduceNeg, k9, beq_self_eq_true, snapLL_uvs, gc_archipelagoref8_SameEvents, SE, un_length, fb, decide_true]; rfl) (Zq rfl ⟨_, rfl, rfl⟩)

theorem deltaBack_law (us : List U) (h : Ars [.one (.int .u8), .one (.sl [.int .u8]), .one .bool, .one (.int .u8)] us) : GF gtab fid_archipelagolaw16_DeltaBack us [] 0 = some (.bool true, []) := by
  obtain ⟨u0, _, rfl, h0, u1, _, rfl, h1, u2, _, rfl, h2, u3, _, rfl, h3, rfl⟩ := h
  obtain ⟨a, rfl, ha⟩ := Sh.nat rfl h0
  obtain ⟨b, rfl, _, hb⟩ := Sh.nums rfl h1
  obtain ⟨c, rfl⟩ := h2
  obtain ⟨d, rfl, hd⟩ := Sh.nat rfl h3
  exact deltaBack_G (Nat.lt_succ_of_le (Int.ofNat_le.1 ha)) (fun x hx => Nat.lt_succ_of_le (Int.ofNat_le.1 (hb x hx))) (Nat.lt_succ_of_le (Int.ofNat_le.1 hd))

end Go.Ab
