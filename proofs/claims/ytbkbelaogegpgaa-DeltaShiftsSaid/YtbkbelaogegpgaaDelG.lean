/- DeltaShifts: events that are all later by as much have the same bytes. -/
import Derived.Test.YtbkbelaogegpgaaDelF
import Derived.Test.YtbkbelaogegpgaaValN
namespace Go.Ab
open Go
set_option linter.unusedVariables false
set_option linter.unusedSimpArgs false
set_option maxRecDepth 10000

theorem known16_H : GF gtab fid_archipelagolaw16_known [] [] 0 = some (.bool true, []) := GF_run 300 (by kernel_rfl)

theorem uvs_setG {l : List Ev} {i : Nat} {t a b : Int} {x : Bool} : (uvs l).set i [.int .i64 t, .int .u32 a, .int .u32 b, .bool x] = uvs (l.set i (t, a, b, x)) := by simp [uvs, List.map_set]

/-- Put and Read of a history's events. -/
theorem put_right {first : Int} {l : List Ev} (h : RightD first l) (ho : EvOk l) (hl : l.length ≤ 200) :
    ∃ bs, Packed bs (db first l) ∧ (∀ b ∈ bs, b < 256) ∧ bs.length ≤ 1000000 ∧ (∀ {w : U}, isVa w l → GF gtab fid_delta_Put [.int .i64 first, w] [] 0 = some (.tup [.own 1 (un .u8 bs), .int .i64 0], [])) := by
  obtain ⟨bs, hp⟩ : ∃ bs, Packed bs (db first l) := by
    rcases dput_R (w := .list false 4 (uvs l)) (l := l) (first := first) (.inl rfl) (by omega) ho with ⟨bs, _, a, _⟩ | ⟨a, _⟩
    · exact ⟨bs, a⟩
    · exact absurd h a
  have hle := dall_le l (ev0 first) false (h.chain ho)
  have hlen := hp.len
  have hlen2 : (db first l).length ≤ 400 * l.length := hle
  refine ⟨bs, hp, hp.lt, by omega, fun {w} hw => ?_⟩
  rcases dput_R (first := first) hw (by omega) ho with ⟨bs', _, a, b⟩ | ⟨a, _⟩
  · rw [PackedN.unique hp a]; exact b
  · exact absurd h a
theorem read_right {first : Int} {N : Nat} {l : List Ev} {bs : List Nat} (h : RightD first l) (hf : l ≠ [] → 0 ≤ first ∧ first ≤ 4611686018427387903) (hf2 : -9223372036854775808 ≤ first ∧ first ≤ 9223372036854775807) (ho : EvOk l) (hN : ∀ e ∈ l, e.2.2.1 < (N : Int)) (hN2 : N < 18446744073709551616) (hp : Packed bs (db first l)) (hb : ∀ b ∈ bs, b < 256) (hl : bs.length ≤ 1000000) (hll : l.length ≤ 200) :
    ∃ v, isVa v l ∧ GF gtab fid_delta_Read [.list false 1 (un .u8 bs), .int .i64 first, .int .i64 ((l.length : Nat) : Int), .int .u64 (N : Int)] [] 0 = some (.tup [v, .int .i64 0], []) := by
  have hD : DIs first ((l.length : Nat) : Int) N bs l := ⟨⟨by omega, fun h0 => hf (fun h1 => by rw [h1] at h0; simp at h0), rfl⟩, h, ho, hN, hp⟩
  obtain ⟨u, h1 | h1, h2⟩ := dread_R (first := first) (count := ((l.length : Nat) : Int)) (n := N) hb hl hf2 ⟨by omega, by omega⟩ hN2
  · obtain ⟨l', v, a, b, rfl⟩ := h1
    have := a.one hD
    subst this
    exact ⟨v, b, h2⟩
  · exact absurd ⟨l, hD⟩ h1.1
theorem read_no {first count : Int} {N : Nat} {l : List Ev} {bs : List Nat} (h : RightD first l) (hf2 : -9223372036854775808 ≤ first ∧ first ≤ 9223372036854775807) (hc : -9223372036854775808 ≤ count ∧ count ≤ 1000) (hne : count ≠ ((l.length : Nat) : Int)) (ho : EvOk l) (hN2 : N < 18446744073709551616) (hp : Packed bs (db first l)) (hb : ∀ b ∈ bs, b < 256) (hl : bs.length ≤ 1000000) :
    GF gtab fid_delta_Read [.list false 1 (un .u8 bs), .int .i64 first, .int .i64 count, .int .u64 (N : Int)] [] 0 = some (.tup [.nils, .int .i64 21], []) := by
  obtain ⟨u, h1 | h1, h2⟩ := dread_R (first := first) (count := count) (n := N) hb hl hf2 hc hN2
  · obtain ⟨l', v, a, b, rfl⟩ := h1
    have := chain_one l' l _ _ [] (a.2.1.chain a.2.2.1) (h.chain ho) a.2.2.2.2 hp
    subst this
    exact absurd a.1.2.2.symm hne
  · rw [h2, h1.2]

set_option maxHeartbeats 4000000 in
theorem deltaShifts_G {k d : Nat} {l : List Nat} (hk : k < 256) (hl : ∀ x ∈ l, x < 256) (hd : d < 4294967296) : GF gtab fid_archipelagolaw16_DeltaShifts [.int .u8 k, .list false 1 (un .u8 l), .int .u32 d] [] 0 = some (.bool true, []) := by
  refine fn_archipelagolaw16_DeltaShifts rfl ?_
  simp only [genvOf]
  refine Zr rfl (by simp (maxSteps := 2000000) only [gs,List.replicate,reduceIte,reduceCtorEq,Nat.reduceEqDiff,Nat.reduceLT,Nat.reduceAdd,Nat.reduceSub,Nat.reduceLeDiff,Nat.reduceMul,Int.reduceToNat,Int.reduceLT,Int.reduceLE,Int.reduceEq,Int.reduceNe,Int.reduceBEq,Int.reduceBNe,Int.reduceAdd,Int.reduceSub,Int.reduceNeg]; rfl) ?_
  refine Zr rfl (by simp (maxSteps := 2000000) only [gs,List.replicate,reduceIte,reduceCtorEq,Nat.reduceEqDiff,Nat.reduceLT,Nat.reduceAdd,Nat.reduceSub,Nat.reduceLeDiff,Nat.reduceMul,Int.reduceToNat,Int.reduceLT,Int.reduceLE,Int.reduceEq,Int.reduceNe,Int.reduceBEq,Int.reduceBNe,Int.reduceAdd,Int.reduceSub,Int.reduceNeg, gc_archipelagolaw16_known, known16_H]; rfl) (Zc rfl rfl (fun h => by cases h) (fun _ => ?_))
  by_cases h90 : l.length ≤ 90
  case neg =>
    have g2 : ((l.length : Int) > 90) = True := eq_true (by omega)
    refine Zr rfl (by simp (maxSteps := 2000000) only [gs,List.replicate,reduceIte,reduceCtorEq,Nat.reduceEqDiff,Nat.reduceLT,Nat.reduceAdd,Nat.reduceSub,Nat.reduceLeDiff,Nat.reduceMul,Int.reduceToNat,Int.reduceLT,Int.reduceLE,Int.reduceEq,Int.reduceNe,Int.reduceBEq,Int.reduceBNe,Int.reduceAdd,Int.reduceSub,Int.reduceNeg, un_length, g2]; rfl) (Zc rfl rfl (fun _ => ?_) (fun h => by cases h))
    exact Zr rfl (by simp (maxSteps := 2000000) only [gs,List.replicate,reduceIte,reduceCtorEq,Nat.reduceEqDiff,Nat.reduceLT,Nat.reduceAdd,Nat.reduceSub,Nat.reduceLeDiff,Nat.reduceMul,Int.reduceToNat,Int.reduceLT,Int.reduceLE,Int.reduceEq,Int.reduceNe,Int.reduceBEq,Int.reduceBNe,Int.reduceAdd,Int.reduceSub,Int.reduceNeg]; rfl) (Zq rfl ⟨_, rfl, rfl⟩)
  have g2 : ((l.length : Int) > 90) = False := eq_false (by omega)
  obtain ⟨N, v, evs, HI, hv, hs, hti, hle, hN, hri, hok⟩ := history_R hk hl h90
  refine Zr rfl (by simp (maxSteps := 2000000) only [gs,List.replicate,reduceIte,reduceCtorEq,Nat.reduceEqDiff,Nat.reduceLT,Nat.reduceAdd,Nat.reduceSub,Nat.reduceLeDiff,Nat.reduceMul,Int.reduceToNat,Int.reduceLT,Int.reduceLE,Int.reduceEq,Int.reduceNe,Int.reduceBEq,Int.reduceBNe,Int.reduceAdd,Int.reduceSub,Int.reduceNeg, un_length, g2]; rfl) (Zc rfl rfl (fun h => by cases h) (fun _ => ?_))
  refine Zj rfl (fun env h => h = [.box [.int .u64 (N : Int), v]] ∧ GEnv.get env 2 = .int .u32 (d : Int) ∧ GEnv.get env 7 = .ptr 0 0 0 0) ?_ ?_
  · rcases hv with rfl | ⟨rfl, rfl⟩
    · refine Zr rfl (by simp (maxSteps := 2000000) only [gs,List.replicate,reduceIte,reduceCtorEq,Nat.reduceEqDiff,Nat.reduceLT,Nat.reduceAdd,Nat.reduceSub,Nat.reduceLeDiff,Nat.reduceMul,Int.reduceToNat,Int.reduceLT,Int.reduceLE,Int.reduceEq,Int.reduceNe,Int.reduceBEq,Int.reduceBNe,Int.reduceAdd,Int.reduceSub,Int.reduceNeg, snapLL_un, gc_archipelagoseat_History, HI]; rfl) ?_
      exact Za rfl ⟨rfl, rfl, rfl⟩
    · refine Zr rfl (by simp (maxSteps := 2000000) only [gs,List.replicate,reduceIte,reduceCtorEq,Nat.reduceEqDiff,Nat.reduceLT,Nat.reduceAdd,Nat.reduceSub,Nat.reduceLeDiff,Nat.reduceMul,Int.reduceToNat,Int.reduceLT,Int.reduceLE,Int.reduceEq,Int.reduceNe,Int.reduceBEq,Int.reduceBNe,Int.reduceAdd,Int.reduceSub,Int.reduceNeg, snapLL_un, gc_archipelagoseat_History, HI]; rfl) ?_
      exact Za rfl ⟨rfl, rfl, rfl⟩
  rintro env h ⟨rfl, k2, k7⟩
  rcases hv with rfl | ⟨rfl, rfl⟩
  case inr =>
    refine Zr rfl (by simp (maxSteps := 2000000) only [gs,List.replicate,reduceIte,reduceCtorEq,Nat.reduceEqDiff,Nat.reduceLT,Nat.reduceAdd,Nat.reduceSub,Nat.reduceLeDiff,Nat.reduceMul,Int.reduceToNat,Int.reduceLT,Int.reduceLE,Int.reduceEq,Int.reduceNe,Int.reduceBEq,Int.reduceBNe,Int.reduceAdd,Int.reduceSub,Int.reduceNeg, k7, beq_self_eq_true]; rfl) (Zc rfl rfl (fun _ => ?_) (fun h => by cases h))
    exact Zr rfl (by simp (maxSteps := 2000000) only [gs,List.replicate,reduceIte,reduceCtorEq,Nat.reduceEqDiff,Nat.reduceLT,Nat.reduceAdd,Nat.reduceSub,Nat.reduceLeDiff,Nat.reduceMul,Int.reduceToNat,Int.reduceLT,Int.reduceLE,Int.reduceEq,Int.reduceNe,Int.reduceBEq,Int.reduceBNe,Int.reduceAdd,Int.reduceSub,Int.reduceNeg]; rfl) (Zq rfl ⟨_, rfl, rfl⟩)
  by_cases h0 : evs = []
  · subst h0
    have e0 : (uvs []).length = 0 := rfl
    refine Zr rfl (by simp (maxSteps := 2000000) only [gs,List.replicate,reduceIte,reduceCtorEq,Nat.reduceEqDiff,Nat.reduceLT,Nat.reduceAdd,Nat.reduceSub,Nat.reduceLeDiff,Nat.reduceMul,Int.reduceToNat,Int.reduceLT,Int.reduceLE,Int.reduceEq,Int.reduceNe,Int.reduceBEq,Int.reduceBNe,Int.reduceAdd,Int.reduceSub,Int.reduceNeg, k7, e0, Int.natCast_zero, beq_self_eq_true]; rfl) (Zc rfl rfl (fun _ => ?_) (fun h => by cases h))
    exact Zr rfl (by simp (maxSteps := 2000000) only [gs,List.replicate,reduceIte,reduceCtorEq,Nat.reduceEqDiff,Nat.reduceLT,Nat.reduceAdd,Nat.reduceSub,Nat.reduceLeDiff,Nat.reduceMul,Int.reduceToNat,Int.reduceLT,Int.reduceLE,Int.reduceEq,Int.reduceNe,Int.reduceBEq,Int.reduceBNe,Int.reduceAdd,Int.reduceSub,Int.reduceNeg]; rfl) (Zq rfl ⟨_, rfl, rfl⟩)
  obtain ⟨e0, r0, he0⟩ := List.exists_cons_of_ne_nil h0
  have hpos : 0 < evs.length := List.length_pos_iff.2 h0
  have hne : (uvs evs = []) = False := eq_false (by rw [he0]; simp [uvs])
  have hr : (evs.length * 24 ≤ room) = True := eq_true (by unfold room; omega)
  have f0 : ((evs.length : Int) == 0) = false := beq_eq_false_iff_ne.2 (by omega)
  have gz : (uvs evs)[0]? = some [.int .i64 e0.1, .int .u32 e0.2.1, .int .u32 e0.2.2.1, .bool e0.2.2.2] := by rw [he0]; rfl
  have n2 : ((0 : Int) < (evs.length : Int)) = True := eq_true (by omega)
  have hR : RightD e0.1 evs := hri.rightD fun e r h => by rw [he0, List.cons.injEq] at h; rw [h.1]
  have hT0 := hti e0 (by rw [he0]; exact List.mem_cons_self)
  have hR2 : RightD (e0.1 + (d : Int)) (evs.map (shE d)) := right_sh hR (by omega) fun e he => by have := hti e he; omega
  have hok2 : EvOk (evs.map (shE d)) := evOk_sh hok
  have hXl : (evs.map (shE (d : Int))).length = evs.length := List.length_map ..
  obtain ⟨bs, p1, pb, pl, PUT⟩ := put_right hR hok (by omega)
  obtain ⟨bs', p2, _, _, PUT2⟩ := put_right hR2 hok2 (by omega)
  have hbb : bs' = bs := by
    rw [db_sh] at p2
    exact PackedN.unique p2 p1
  subst hbb
  obtain ⟨y, hy, RD⟩ := read_right (N := N) hR2 (fun _ => by omega) (by omega) hok2 (fun e he => by
    obtain ⟨x, hx, rfl⟩ := List.mem_map.1 he
    exact hri.below x hx) (by omega) p2 pb pl (by omega)
  rw [hXl] at RD
  have SE := sameEv_G (w1 := .list false 4 (uvs (evs.map (shE d)))) (.inl rfl) hy (by omega) (by omega)
  rw [decide_eq_true rfl] at SE
  have P1 := PUT (w := .list false 4 (uvs evs)) (.inl rfl)
  have P2 := PUT2 (w := .list false 4 (uvs (evs.map (shE d)))) (.inl rfl)
  have wd : IntKind.i64.wrap ((d : Nat) : Int) = ((d : Nat) : Int) := wrap_i64_nat (by omega)
  have wt : IntKind.i64.wrap (e0.1 + ((d : Nat) : Int)) = e0.1 + ((d : Nat) : Int) := wrap_i64 (by omega) (by omega)
  refine Zr rfl (by simp (maxSteps := 2000000) only [gs,List.replicate,reduceIte,reduceCtorEq,Nat.reduceEqDiff,Nat.reduceLT,Nat.reduceAdd,Nat.reduceSub,Nat.reduceLeDiff,Nat.reduceMul,Int.reduceToNat,Int.reduceLT,Int.reduceLE,Int.reduceEq,Int.reduceNe,Int.reduceBEq,Int.reduceBNe,Int.reduceAdd,Int.reduceSub,Int.reduceNeg, k7, uvs_length, f0]; rfl) (Zc rfl rfl (fun h => by cases h) (fun _ => ?_))
  refine Zr rfl (by simp (maxSteps := 2000000) only [gs,List.replicate,reduceIte,reduceCtorEq,Nat.reduceEqDiff,Nat.reduceLT,Nat.reduceAdd,Nat.reduceSub,Nat.reduceLeDiff,Nat.reduceMul,Int.reduceToNat,Int.reduceLT,Int.reduceLE,Int.reduceEq,Int.reduceNe,Int.reduceBEq,Int.reduceBNe,Int.reduceAdd,Int.reduceSub,Int.reduceNeg, k7, uvs_length, hne, hr]; rfl) ?_
  refine Zr rfl (by simp (maxSteps := 2000000) only [gs,List.replicate,reduceIte,reduceCtorEq,Nat.reduceEqDiff,Nat.reduceLT,Nat.reduceAdd,Nat.reduceSub,Nat.reduceLeDiff,Nat.reduceMul,Int.reduceToNat,Int.reduceLT,Int.reduceLE,Int.reduceEq,Int.reduceNe,Int.reduceBEq,Int.reduceBNe,Int.reduceAdd,Int.reduceSub,Int.reduceNeg]; rfl) ?_
  refine Zw rfl (fun m env h => ∃ i : Nat, m + i = evs.length ∧ h = [.box [.int .u64 (N : Int), .list false 4 (uvs evs)], .arr (uvs ((evs.map (shE d)).take i ++ evs.drop i)) 0 0] ∧ GEnv.get env 2 = .int .u32 (d : Int) ∧ GEnv.get env 7 = .ptr 0 0 0 0 ∧ GEnv.get env 8 = .asl none 1 0 0 evs.length 4 ∧ GEnv.get env 9 = .int .i64 ((i : Nat) : Int)) evs.length ⟨0, rfl, rfl, by simp [GEnv.get, k2], by simp [GEnv.get, k7], rfl, rfl⟩ ?_
  rintro m env h ⟨i, hm, rfl, j2, j7, j8, j9⟩
  simp only [GEnv.keep, j2, j7, j8, j9]
  refine Zr rfl (by simp (maxSteps := 2000000) only [gs,List.replicate,reduceIte,reduceCtorEq,Nat.reduceEqDiff,Nat.reduceLT,Nat.reduceAdd,Nat.reduceSub,Nat.reduceLeDiff,Nat.reduceMul,Int.reduceToNat,Int.reduceLT,Int.reduceLE,Int.reduceEq,Int.reduceNe,Int.reduceBEq,Int.reduceBNe,Int.reduceAdd,Int.reduceSub,Int.reduceNeg]; rfl) (Zp rfl rfl (fun hi => ?_) (fun hi => ?_))
  · have gx : evs[i]? = some (evs[i]'(by omega)) := List.getElem?_eq_getElem _
    have hdr : evs.drop i = evs[i]'(by omega) :: evs.drop (i + 1) := List.drop_eq_getElem_cons (by omega)
    have htk : (evs.map (shE (d : Int))).take (i + 1) = (evs.map (shE (d : Int))).take i ++ [shE d (evs[i]'(by omega))] := by rw [List.take_add_one, List.getElem?_map, gx]; rfl
    have htl : ((evs.map (shE (d : Int))).take i).length = i := by rw [List.length_take]; omega
    have hte := hti _ (List.mem_of_getElem? gx)
    generalize evs[i]'(by omega) = e at gx hdr htk hte
    have gB : ((evs.map (shE (d : Int))).take i ++ evs.drop i)[i]? = some e := by rw [List.getElem?_append_right (by omega), htl, Nat.sub_self, hdr]; rfl
    have hB : ((evs.map (shE (d : Int))).take i ++ evs.drop i).set i (e.1 + (d : Int), e.2.1, e.2.2.1, e.2.2.2) = (evs.map (shE (d : Int))).take (i + 1) ++ evs.drop (i + 1) := by
      rw [List.set_append_right _ _ (by omega), htl, Nat.sub_self, hdr, List.set_cons_zero, htk, List.append_assoc]
      rfl
    have we : IntKind.i64.wrap (e.1 + ((d : Nat) : Int)) = e.1 + ((d : Nat) : Int) := wrap_i64 (by omega) (by omega)
    have n0 : ((0 : Int) ≤ (i : Int)) = True := eq_true (by omega)
    have n1 : ((i : Int) < (evs.length : Int)) = True := eq_true (by omega)
    refine Zr rfl (by simp (maxSteps := 2000000) only [gs,List.replicate,reduceIte,reduceCtorEq,Nat.reduceEqDiff,Nat.reduceLT,Nat.reduceAdd,Nat.reduceSub,Nat.reduceLeDiff,Nat.reduceMul,Int.reduceToNat,Int.reduceLT,Int.reduceLE,Int.reduceEq,Int.reduceNe,Int.reduceBEq,Int.reduceBNe,Int.reduceAdd,Int.reduceSub,Int.reduceNeg, n0, n1, Nat.zero_add, uvs_get gB, wd, we, uvs_setG, hB]; rfl) ?_
    refine Zr rfl (by simp (maxSteps := 2000000) only [gs,List.replicate,reduceIte,reduceCtorEq,Nat.reduceEqDiff,Nat.reduceLT,Nat.reduceAdd,Nat.reduceSub,Nat.reduceLeDiff,Nat.reduceMul,Int.reduceToNat,Int.reduceLT,Int.reduceLE,Int.reduceEq,Int.reduceNe,Int.reduceBEq,Int.reduceBNe,Int.reduceAdd,Int.reduceSub,Int.reduceNeg, up64 (show i < 9223372036854775807 by omega)]; rfl) ?_
    exact Za rfl ⟨m - 1, by omega, i + 1, by omega, rfl, rfl, rfl, rfl, rfl⟩
  · have hil : i = evs.length := by omega
    rw [hil, List.drop_length, List.append_nil, List.take_of_length_le (by omega)]
    refine Zr rfl (by simp (maxSteps := 2000000) only [gs,List.replicate,reduceIte,reduceCtorEq,Nat.reduceEqDiff,Nat.reduceLT,Nat.reduceAdd,Nat.reduceSub,Nat.reduceLeDiff,Nat.reduceMul,Int.reduceToNat,Int.reduceLT,Int.reduceLE,Int.reduceEq,Int.reduceNe,Int.reduceBEq,Int.reduceBNe,Int.reduceAdd,Int.reduceSub,Int.reduceNeg, gz]; rfl) ?_
    refine Zr rfl (by simp (maxSteps := 2000000) only [gs,List.replicate,reduceIte,reduceCtorEq,Nat.reduceEqDiff,Nat.reduceLT,Nat.reduceAdd,Nat.reduceSub,Nat.reduceLeDiff,Nat.reduceMul,Int.reduceToNat,Int.reduceLT,Int.reduceLE,Int.reduceEq,Int.reduceNe,Int.reduceBEq,Int.reduceBNe,Int.reduceAdd,Int.reduceSub,Int.reduceNeg, snapLL_uvs, gc_delta_Put, P1]; rfl) ?_
    have htx : (evs.map (shE (d : Int))).take evs.length = evs.map (shE (d : Int)) := List.take_of_length_le (by omega)
    have hxx : (evs.length ≤ (evs.map (shE (d : Int))).length) = True := eq_true (by omega)
    have hcl : U.clean (.tup [.own 1 (un .u8 bs'), .int .i64 0]) = true := by simp [U.clean, cleanL, U.clean1, scalLL_un, U.scal]
    refine Zr rfl (by simp (maxSteps := 2000000) only [gs,List.replicate,reduceIte,reduceCtorEq,Nat.reduceEqDiff,Nat.reduceLT,Nat.reduceAdd,Nat.reduceSub,Nat.reduceLeDiff,Nat.reduceMul,Int.reduceToNat,Int.reduceLT,Int.reduceLE,Int.reduceEq,Int.reduceNe,Int.reduceBEq,Int.reduceBNe,Int.reduceAdd,Int.reduceSub,Int.reduceNeg, wd, wt, uvs_length, uvs_take, htx, hxx, List.drop_zero, Nat.zero_add, snapLL_uvs, rfLL_uvs, gc_delta_Put, P2, hcl]; rfl) ?_
    rcases hy with rfl | ⟨rfl, hy0⟩
    · refine Zr rfl (by simp (maxSteps := 2000000) only [gs,List.replicate,reduceIte,reduceCtorEq,Nat.reduceEqDiff,Nat.reduceLT,Nat.reduceAdd,Nat.reduceSub,Nat.reduceLeDiff,Nat.reduceMul,Int.reduceToNat,Int.reduceLT,Int.reduceLE,Int.reduceEq,Int.reduceNe,Int.reduceBEq,Int.reduceBNe,Int.reduceAdd,Int.reduceSub,Int.reduceNeg, wd, wt, uvs_length, uvs_take, htx, hxx, List.drop_zero, Nat.zero_add, snapLL_un, gc_delta_Read, RD]; rfl) ?_
      exact Zr rfl (by simp (maxSteps := 2000000) only [gs,List.replicate,reduceIte,reduceCtorEq,Nat.reduceEqDiff,Nat.reduceLT,Nat.reduceAdd,Nat.reduceSub,Nat.reduceLeDiff,Nat.reduceMul,Int.reduceToNat,Int.reduceLT,Int.reduceLE,Int.reduceEq,Int.reduceNe,Int.reduceBEq,Int.reduceBNe,Int.reduceAdd,Int.reduceSub,Int.reduceNeg, beq_self_eq_true, gbytesOf_un, uvs_length, uvs_take, htx, hxx, List.drop_zero, Nat.zero_add, snapLL_uvs, rfLL_uvs, gc_archipelagoref8_SameEvents, SE]; rfl) (Zq rfl ⟨_, rfl, rfl⟩)
    · exact absurd hy0 (by rw [he0]; simp)

theorem deltaShifts_law (us : List U) (h : Ars [.one (.int .u8), .one (.sl [.int .u8]), .one (.int .u32)] us) : GF gtab fid_archipelagolaw16_DeltaShifts us [] 0 = some (.bool true, []) := by
  obtain ⟨u0, _, rfl, h0, u1, _, rfl, h1, u2, _, rfl, h2, rfl⟩ := h
  obtain ⟨a, rfl, ha⟩ := Sh.nat rfl h0
  obtain ⟨b, rfl, _, hb⟩ := Sh.nums rfl h1
  obtain ⟨c, rfl, hc⟩ := Sh.nat rfl h2
  exact deltaShifts_G (Nat.lt_succ_of_le (Int.ofNat_le.1 ha)) (fun x hx => Nat.lt_succ_of_le (Int.ofNat_le.1 (hb x hx))) (Nat.lt_succ_of_le (Int.ofNat_le.1 hc))

end Go.Ab
