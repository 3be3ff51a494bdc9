/- Edges come back; AdjBack. -/
import Derived.Test.YtaoippgdkilacaaAdjE
import Derived.Test.YtaoippgdkilacaaHistY
import Derived.Test.YtaoippgdkilacaaValN
namespace Go.Ab
open Go
set_option linter.unusedVariables false
set_option linter.unusedSimpArgs false
set_option maxRecDepth 10000

def nds (es : List Ed) : List Nd := es.map fun e => (e.1.toNat, e.2.toNat)
theorem EdsOk.ues {N : Int} {es : List Ed} (h : EdsOk N es) : ues es = uen (nds es) := by
  have h2 := h.2
  clear h
  unfold Go.Ab.ues uen nds
  rw [List.map_map]
  refine List.map_congr_left fun e he => ?_
  have := h2 e he
  simp only [Function.comp]
  rw [show ((e.1.toNat : Nat) : Int) = e.1 by omega, show ((e.2.toNat : Nat) : Int) = e.2 by omega]
theorem EdsOk.nds {N : Int} {es : List Ed} (h : EdsOk N es) : Strict (nds es) ∧ ∀ e ∈ nds es, e.1 ≤ 4294967295 ∧ e.2 ≤ 4294967295 ∧ ((e.2 : Nat) : Int) < N := by
  obtain ⟨h1, h2⟩ := h
  refine ⟨⟨?_, fun e he => ?_⟩, fun e he => ?_⟩
  · unfold Go.Ab.nds
    rw [List.pairwise_map]
    refine (List.pairwise_iff_getElem.2 fun i j hi hj hij => ?_)
    have a := List.pairwise_iff_getElem.1 h1 i j hi hj hij
    have b := h2 _ (List.getElem_mem hi)
    have c := h2 _ (List.getElem_mem hj)
    unfold ltE at a
    unfold ltN
    simp only
    omega
  · obtain ⟨d, hd, rfl⟩ := List.mem_map.1 he
    have := h2 d hd
    simp only
    omega
  · obtain ⟨d, hd, rfl⟩ := List.mem_map.1 he
    have := h2 d hd
    simp only
    omega
/-- The greatest vertex. -/
def topV (l : List Nd) : Nat := l.foldl (fun a e => max a e.2) 0
theorem topV_snoc {l : List Nd} {e : Nd} : topV (l ++ [e]) = max (topV l) e.2 := by unfold topV; rw [List.foldl_append]; rfl
theorem topV_le : ∀ (n : Nat) (l : List Nd), l.length = n → (∀ e ∈ l, e.2 ≤ topV l) ∧ (l ≠ [] → ∃ e ∈ l, e.2 = topV l) := by
  intro n
  induction n with
  | zero => intro l h; rw [List.eq_nil_of_length_eq_zero h]; exact ⟨fun e he => absurd he (by simp), fun h => absurd rfl h⟩
  | succ n ih =>
    intro l h
    rcases List.eq_nil_or_concat l with rfl | ⟨ys, y, rfl⟩
    · cases h
    · rw [List.concat_eq_append] at h ⊢
      obtain ⟨a, b⟩ := ih ys (by simpa using h)
      rw [topV_snoc]
      refine ⟨fun e he => ?_, fun _ => ?_⟩
      · rcases List.mem_append.1 he with he | he
        · have := a e he; omega
        · rw [List.mem_singleton.1 he]; omega
      · by_cases hc : topV ys ≤ y.2
        · exact ⟨y, by simp, by omega⟩
        · have hne : ys ≠ [] := fun h0 => by subst h0; exact hc (by simp [topV])
          obtain ⟨e, he1, he2⟩ := b hne
          exact ⟨e, List.mem_append_left _ he1, by omega⟩
theorem genc_len {G : List Gr} (h : GoodG 0 G) (hl : (gflat G).length ≤ 60) (hu : ∀ e ∈ gflat G, e.1 ≤ 4294967295 ∧ e.2 ≤ 4294967295) : (genc G).length ≤ 10000 := by
  obtain ⟨a, b, _⟩ := gbody_bytes h (by omega) hu
  have h1 : ∀ x ∈ G.length :: gbody 0 G, x < 18446744073709551616 := fun x hx => by
    rcases List.mem_cons.1 hx with rfl | hx
    · omega
    · exact a x hx
  have h2 := putL_len h1
  rw [List.length_cons, ← gbody_len] at h2
  unfold genc
  omega

set_option maxHeartbeats 4000000 in
theorem adjBack_G {k near : Nat} {l : List Nat} (hk : k < 256) (hl : ∀ x ∈ l, x < 256) (hn : near < 256) : GF gtab fid_archipelagolaw15_AdjBack [.int .u8 k, .list false 1 (un .u8 l), .int .u8 near] [] 0 = some (.bool true, []) := by
  refine fn_archipelagolaw15_AdjBack rfl ?_
  simp only [genvOf]
  refine Zr rfl (by simp (maxSteps := 2000000) only [gs,List.replicate,reduceIte,reduceCtorEq,Nat.reduceEqDiff,Nat.reduceLT,Nat.reduceAdd,Nat.reduceSub,Nat.reduceLeDiff,Nat.reduceMul,Int.reduceToNat,Int.reduceLT,Int.reduceLE,Int.reduceEq,Int.reduceNe,Int.reduceBEq,Int.reduceBNe,Int.reduceAdd,Int.reduceSub,Int.reduceNeg]; rfl) ?_
  refine Zr rfl (by simp (maxSteps := 2000000) only [gs,List.replicate,reduceIte,reduceCtorEq,Nat.reduceEqDiff,Nat.reduceLT,Nat.reduceAdd,Nat.reduceSub,Nat.reduceLeDiff,Nat.reduceMul,Int.reduceToNat,Int.reduceLT,Int.reduceLE,Int.reduceEq,Int.reduceNe,Int.reduceBEq,Int.reduceBNe,Int.reduceAdd,Int.reduceSub,Int.reduceNeg, gc_archipelagolaw15_known, known15_G]; rfl) (Zc rfl rfl (fun h => by cases h) (fun _ => ?_))
  by_cases h90 : l.length ≤ 90
  case neg =>
    have g2 : ((l.length : Int) > 90) = True := eq_true (by omega)
    refine Zr rfl (by simp (maxSteps := 2000000) only [gs,List.replicate,reduceIte,reduceCtorEq,Nat.reduceEqDiff,Nat.reduceLT,Nat.reduceAdd,Nat.reduceSub,Nat.reduceLeDiff,Nat.reduceMul,Int.reduceToNat,Int.reduceLT,Int.reduceLE,Int.reduceEq,Int.reduceNe,Int.reduceBEq,Int.reduceBNe,Int.reduceAdd,Int.reduceSub,Int.reduceNeg, un_length, g2]; rfl) (Zc rfl rfl (fun _ => ?_) (fun h => by cases h))
    exact Zr rfl (by simp (maxSteps := 2000000) only [gs,List.replicate,reduceIte,reduceCtorEq,Nat.reduceEqDiff,Nat.reduceLT,Nat.reduceAdd,Nat.reduceSub,Nat.reduceLeDiff,Nat.reduceMul,Int.reduceToNat,Int.reduceLT,Int.reduceLE,Int.reduceEq,Int.reduceNe,Int.reduceBEq,Int.reduceBNe,Int.reduceAdd,Int.reduceSub,Int.reduceNeg]; rfl) (Zq rfl ⟨_, rfl, rfl⟩)
  have g2 : ((l.length : Int) > 90) = False := eq_false (by omega)
  obtain ⟨N, v, evs, HI, hv, hs, hti, hle, hN, hri, hok⟩ := history_R hk hl h90
  obtain ⟨x, TI⟩ := time_E (N := N) (near := near) hv hle hti hn
  obtain ⟨u, es, hu, hE, hesl, AT⟩ := at_Y (N := N) (t := x) hv hle hri hok
  have hne := hE.ues
  obtain ⟨hst, hfit⟩ := hE.nds
  have hLl : (nds es).length ≤ 60 := by unfold nds; rw [List.length_map]; exact hesl
  obtain ⟨L, hL⟩ : ∃ L, L = nds es := ⟨_, rfl⟩
  rw [← hL] at hne hst hfit hLl
  have hfit2 : ∀ e ∈ L, e.1 ≤ 4294967295 ∧ e.2 ≤ 4294967295 := fun e he => ⟨(hfit e he).1, (hfit e he).2.1⟩
  have hu' : isE u es → u = .list false 2 (uen L) ∨ u = .own 2 (uen L) ∨ (u = .nils ∧ L = []) := by
    rintro (rfl | rfl | ⟨rfl, rfl⟩)
    · exact .inl (by rw [hne])
    · exact .inr (.inl (by rw [hne]))
    · exact .inr (.inr ⟨rfl, hL⟩)
  have hu2 := hu' hu
  have PUT : ∀ {w : U}, isEn w L → ∃ G, GoodG 0 G ∧ gflat G = L ∧ GF gtab fid_adj_Put [w] [] 0 = some (.tup [.own 1 (un .u8 (genc G)), .int .i64 0], []) := fun hw => by
    rcases aput_R hw (by omega) hfit2 with h | h
    · exact h
    · exact absurd hst h.1
  obtain ⟨G0, p1, p2, _⟩ := PUT (w := .list false 2 (uen L)) (.inl rfl)
  have PUT : ∀ {w : U}, isEn w L → GF gtab fid_adj_Put [w] [] 0 = some (.tup [.own 1 (un .u8 (genc G0)), .int .i64 0], []) := fun hw => by
    obtain ⟨G, a, b, c⟩ := PUT hw
    have : G = G0 := good_one a p1 (by rw [b, p2])
    rw [← this]; exact c
  have hbl := genc_len p1 (by rw [p2]; exact hLl) (by rw [p2]; exact hfit2)
  have hb : ∀ c ∈ genc G0, c < 256 := fun c hc => putL_lt _ c hc
  obtain ⟨tp1, tp2⟩ := topV_le _ L rfl
  have htop : topV L ≤ 4294967295 := by
    by_cases h0 : L = []
    · subst h0; simp [topV]
    · obtain ⟨e, he, h1⟩ := tp2 h0
      rw [← h1]; exact (hfit2 e he).2
  obtain ⟨v1, v1n, _, R1⟩ := aread_is (w := .list false 1 (un .u8 (genc G0))) (n := N) (l := L) (.inl rfl) hb hbl (by omega) ⟨G0, p1, p2, rfl, fun e he => ⟨by have := (hfit e he).2.2; omega, (hfit2 e he).2⟩⟩
  obtain ⟨v2, v2n, _, R2⟩ := aread_is (w := .list false 1 (un .u8 (genc G0))) (n := topV L + 1) (l := L) (.inl rfl) hb hbl (by omega) ⟨G0, p1, p2, rfl, fun e he => ⟨by have := tp1 e he; omega, (hfit2 e he).2⟩⟩
  have R3 : ∃ (v3 : U) (c : Int), (c == 0) = decide (L = []) ∧ (v3 = .nils ∨ v3 = .list false 2 (uen L)) ∧ GF gtab fid_adj_Read [.list false 1 (un .u8 (genc G0)), .int .u64 ((topV L : Nat) : Int)] [] 0 = some (.tup [v3, .int .i64 c], []) := by
    by_cases h0 : L = []
    · obtain ⟨v3, v3n, _, R3⟩ := aread_is (w := .list false 1 (un .u8 (genc G0))) (n := topV L) (l := L) (.inl rfl) hb hbl (by omega) ⟨G0, p1, p2, rfl, fun e he => by rw [h0] at he; cases he⟩
      refine ⟨v3, 0, by rw [decide_eq_true h0]; rfl, ?_, R3⟩
      rcases v3n with h | h
      · exact .inr h
      · exact .inl h.1
    · refine ⟨.nils, 21, by rw [decide_eq_false h0]; rfl, .inl rfl, aread_no (.inl rfl) hb hbl (by omega) ?_⟩
      rintro ⟨l', hl'⟩
      have h1 : AdjIs (topV L + 1) (genc G0) l' := by
        obtain ⟨G, a, b, c, d⟩ := hl'
        exact ⟨G, a, b, c, fun e he => ⟨by have := (d e he).1; omega, (d e he).2⟩⟩
      have h2 : AdjIs (topV L + 1) (genc G0) L := ⟨G0, p1, p2, rfl, fun e he => ⟨by have := tp1 e he; omega, (hfit2 e he).2⟩⟩
      have h3 : l' = L := (h1.read hbl).2.1.symm.trans (h2.read hbl).2.1
      subst h3
      obtain ⟨e, he, h4⟩ := tp2 h0
      obtain ⟨G, a, b, c, d⟩ := hl'
      have := (d e he).1
      omega
  obtain ⟨v3, c3, c3e, v3n, R3⟩ := R3
  have w1 : IntKind.u64.wrap (((topV L : Nat) : Int) + 1) = ((topV L + 1 : Nat) : Int) := by rw [u64_one, Nat.mod_eq_of_lt (by omega)]
  have SE : ∀ {a b : U}, isEn a L → isEn b L → GF gtab fid_archipelagoref8_SameEdges [a, b] [] 0 = some (.bool true, []) := fun h1 h2 => by
    have := same_E h1 h2 (by omega) (by omega)
    rwa [decide_eq_true rfl] at this
  refine Zr rfl (by simp (maxSteps := 2000000) only [gs,List.replicate,reduceIte,reduceCtorEq,Nat.reduceEqDiff,Nat.reduceLT,Nat.reduceAdd,Nat.reduceSub,Nat.reduceLeDiff,Nat.reduceMul,Int.reduceToNat,Int.reduceLT,Int.reduceLE,Int.reduceEq,Int.reduceNe,Int.reduceBEq,Int.reduceBNe,Int.reduceAdd,Int.reduceSub,Int.reduceNeg, un_length, g2]; rfl) (Zc rfl rfl (fun h => by cases h) (fun _ => ?_))
  refine Zj rfl (fun env h => h = [.box [.int .u64 (N : Int), v]] ∧ GEnv.get env 2 = .int .u8 (near : Int) ∧ GEnv.get env 7 = .ptr 0 0 0 0) ?_ ?_
  · rcases hv with rfl | ⟨rfl, rfl⟩
    · refine Zr rfl (by simp (maxSteps := 2000000) only [gs,List.replicate,reduceIte,reduceCtorEq,Nat.reduceEqDiff,Nat.reduceLT,Nat.reduceAdd,Nat.reduceSub,Nat.reduceLeDiff,Nat.reduceMul,Int.reduceToNat,Int.reduceLT,Int.reduceLE,Int.reduceEq,Int.reduceNe,Int.reduceBEq,Int.reduceBNe,Int.reduceAdd,Int.reduceSub,Int.reduceNeg, snapLL_un, gc_archipelagoseat_History, HI]; rfl) ?_
      exact Za rfl ⟨rfl, rfl, rfl⟩
    · refine Zr rfl (by simp (maxSteps := 2000000) only [gs,List.replicate,reduceIte,reduceCtorEq,Nat.reduceEqDiff,Nat.reduceLT,Nat.reduceAdd,Nat.reduceSub,Nat.reduceLeDiff,Nat.reduceMul,Int.reduceToNat,Int.reduceLT,Int.reduceLE,Int.reduceEq,Int.reduceNe,Int.reduceBEq,Int.reduceBNe,Int.reduceAdd,Int.reduceSub,Int.reduceNeg, snapLL_un, gc_archipelagoseat_History, HI]; rfl) ?_
      exact Za rfl ⟨rfl, rfl, rfl⟩
  rintro env h ⟨rfl, k2, k7⟩
  refine Zj rfl (fun env h => h = [.box [.int .u64 (N : Int), v]] ∧ GEnv.get env 7 = .ptr 0 0 0 0 ∧ GEnv.get env 8 = u) ?_ ?_
  · rcases hv with rfl | ⟨rfl, rfl⟩
    all_goals
      rcases hu2 with rfl | rfl | ⟨rfl, h0⟩
      · refine Zd rfl (by simp (maxSteps := 2000000) only [gs,gd,List.replicate,id,reduceIte,reduceCtorEq,Nat.reduceEqDiff,Nat.reduceLT,Nat.reduceAdd,Nat.reduceSub,Nat.reduceLeDiff,Nat.reduceMul,Int.reduceToNat,Int.reduceLT,Int.reduceLE,Int.reduceEq,Int.reduceNe,Int.reduceBEq,Int.reduceBNe,Int.reduceAdd,Int.reduceSub,Int.reduceNeg, k2, k7, snapLL_uvs, gc_archipelagoseat_Time, iq_archipelagoseat_Time, TI, gc_archipelagoref8_At, iq_archipelagoref8_At, AT]; rfl) ?_
        exact Za rfl ⟨rfl, by simp only [GEnv.get, if_false, Nat.reduceEqDiff]; exact k7, rfl⟩
      · refine Zd rfl (by simp (maxSteps := 2000000) only [gs,gd,List.replicate,id,reduceIte,reduceCtorEq,Nat.reduceEqDiff,Nat.reduceLT,Nat.reduceAdd,Nat.reduceSub,Nat.reduceLeDiff,Nat.reduceMul,Int.reduceToNat,Int.reduceLT,Int.reduceLE,Int.reduceEq,Int.reduceNe,Int.reduceBEq,Int.reduceBNe,Int.reduceAdd,Int.reduceSub,Int.reduceNeg, k2, k7, snapLL_uvs, gc_archipelagoseat_Time, iq_archipelagoseat_Time, TI, gc_archipelagoref8_At, iq_archipelagoref8_At, AT]; rfl) ?_
        exact Za rfl ⟨rfl, by simp only [GEnv.get, if_false, Nat.reduceEqDiff]; exact k7, rfl⟩
      · refine Zd rfl (by simp (maxSteps := 2000000) only [gs,gd,List.replicate,id,reduceIte,reduceCtorEq,Nat.reduceEqDiff,Nat.reduceLT,Nat.reduceAdd,Nat.reduceSub,Nat.reduceLeDiff,Nat.reduceMul,Int.reduceToNat,Int.reduceLT,Int.reduceLE,Int.reduceEq,Int.reduceNe,Int.reduceBEq,Int.reduceBNe,Int.reduceAdd,Int.reduceSub,Int.reduceNeg, k2, k7, snapLL_uvs, gc_archipelagoseat_Time, iq_archipelagoseat_Time, TI, gc_archipelagoref8_At, iq_archipelagoref8_At, AT]; rfl) ?_
        exact Za rfl ⟨rfl, by simp only [GEnv.get, if_false, Nat.reduceEqDiff]; exact k7, rfl⟩
  rintro env h ⟨rfl, k7, k8⟩
  refine Zj rfl (fun env h => h = [.box [.int .u64 (N : Int), v]] ∧ GEnv.get env 7 = .ptr 0 0 0 0 ∧ (∃ w, isEn w L ∧ GEnv.get env 8 = w) ∧ GEnv.get env 10 = .own 1 (un .u8 (genc G0)) ∧ GEnv.get env 11 = .int .i64 0) ?_ ?_
  · rcases hu2 with rfl | rfl | ⟨rfl, h0⟩
    · have P1 := PUT (w := .list false 2 (uen L)) (.inl rfl)
      refine Zr rfl (by simp (maxSteps := 2000000) only [gs,List.replicate,reduceIte,reduceCtorEq,Nat.reduceEqDiff,Nat.reduceLT,Nat.reduceAdd,Nat.reduceSub,Nat.reduceLeDiff,Nat.reduceMul,Int.reduceToNat,Int.reduceLT,Int.reduceLE,Int.reduceEq,Int.reduceNe,Int.reduceBEq,Int.reduceBNe,Int.reduceAdd,Int.reduceSub,Int.reduceNeg, k8, snapLL_uen, gc_adj_Put, P1]; rfl) ?_
      exact Za rfl ⟨rfl, by simp [GEnv.get, k7], ⟨_, .inl rfl, by simp [GEnv.get, k8]⟩, by simp [GEnv.get], by simp [GEnv.get]⟩
    · have P1 := PUT (w := .list false 2 (uen L)) (.inl rfl)
      refine Zr rfl (by simp (maxSteps := 2000000) only [gs,List.replicate,reduceIte,reduceCtorEq,Nat.reduceEqDiff,Nat.reduceLT,Nat.reduceAdd,Nat.reduceSub,Nat.reduceLeDiff,Nat.reduceMul,Int.reduceToNat,Int.reduceLT,Int.reduceLE,Int.reduceEq,Int.reduceNe,Int.reduceBEq,Int.reduceBNe,Int.reduceAdd,Int.reduceSub,Int.reduceNeg, k8, snapLL_uen, gc_adj_Put, P1]; rfl) ?_
      exact Za rfl ⟨rfl, by simp [GEnv.get, k7], ⟨_, .inl rfl, by simp [GEnv.get, k8]⟩, by simp [GEnv.get], by simp [GEnv.get]⟩
    · have P1 := PUT (w := .nils) (.inr ⟨rfl, h0⟩)
      refine Zr rfl (by simp (maxSteps := 2000000) only [gs,List.replicate,reduceIte,reduceCtorEq,Nat.reduceEqDiff,Nat.reduceLT,Nat.reduceAdd,Nat.reduceSub,Nat.reduceLeDiff,Nat.reduceMul,Int.reduceToNat,Int.reduceLT,Int.reduceLE,Int.reduceEq,Int.reduceNe,Int.reduceBEq,Int.reduceBNe,Int.reduceAdd,Int.reduceSub,Int.reduceNeg, k8, gc_adj_Put, P1]; rfl) ?_
      exact Za rfl ⟨rfl, by simp [GEnv.get, k7], ⟨_, .inr ⟨rfl, h0⟩, by simp [GEnv.get, k8]⟩, by simp [GEnv.get], by simp [GEnv.get]⟩
  rintro env h ⟨rfl, k7, ⟨w, hw, k8⟩, k10, k11⟩
  refine Zr rfl (by simp (maxSteps := 2000000) only [gs,List.replicate,reduceIte,reduceCtorEq,Nat.reduceEqDiff,Nat.reduceLT,Nat.reduceAdd,Nat.reduceSub,Nat.reduceLeDiff,Nat.reduceMul,Int.reduceToNat,Int.reduceLT,Int.reduceLE,Int.reduceEq,Int.reduceNe,Int.reduceBEq,Int.reduceBNe,Int.reduceAdd,Int.reduceSub,Int.reduceNeg]; rfl) ?_
  refine Z_nrm 1 (Zj1 (fun env h => h = [.box [.int .u64 (N : Int), v]] ∧ GEnv.get env 7 = .ptr 0 0 0 0 ∧ GEnv.get env 8 = w ∧ GEnv.get env 10 = .own 1 (un .u8 (genc G0)) ∧ GEnv.get env 11 = .int .i64 0 ∧ GEnv.get env 12 = .int .u64 ((topV L : Nat) : Int)) ?_ ?_)
  · refine Zr rfl (by simp (maxSteps := 2000000) only [gs,List.replicate,reduceIte,reduceCtorEq,Nat.reduceEqDiff,Nat.reduceLT,Nat.reduceAdd,Nat.reduceSub,Nat.reduceLeDiff,Nat.reduceMul,Int.reduceToNat,Int.reduceLT,Int.reduceLE,Int.reduceEq,Int.reduceNe,Int.reduceBEq,Int.reduceBNe,Int.reduceAdd,Int.reduceSub,Int.reduceNeg]; rfl) ?_
    rcases hw with rfl | ⟨rfl, h0⟩
    · refine Zw rfl (fun m env h => h = [.box [.int .u64 (N : Int), v]] ∧ ∃ i : Nat, m + i = L.length ∧ GEnv.get env 7 = .ptr 0 0 0 0 ∧ GEnv.get env 8 = .list false 2 (uen L) ∧ GEnv.get env 10 = .own 1 (un .u8 (genc G0)) ∧ GEnv.get env 11 = .int .i64 0 ∧ GEnv.get env 12 = .int .u64 ((topV (L.take i) : Nat) : Int) ∧ GEnv.get env 13 = .int .i64 ((i : Nat) : Int)) L.length ⟨rfl, 0, rfl, by simp [GEnv.get, k7], by simp [GEnv.get, k8], by simp [GEnv.get, k10], by simp [GEnv.get, k11], rfl, rfl⟩ ?_
      rintro m env h ⟨rfl, i, hm, j7, j8, j10, j11, j12, j13⟩
      simp only [GEnv.keep, j7, j8, j10, j11, j12, j13]
      refine Zr rfl (by simp (maxSteps := 2000000) only [gs,List.replicate,reduceIte,reduceCtorEq,Nat.reduceEqDiff,Nat.reduceLT,Nat.reduceAdd,Nat.reduceSub,Nat.reduceLeDiff,Nat.reduceMul,Int.reduceToNat,Int.reduceLT,Int.reduceLE,Int.reduceEq,Int.reduceNe,Int.reduceBEq,Int.reduceBNe,Int.reduceAdd,Int.reduceSub,Int.reduceNeg, uen_length]; rfl) (Zp rfl rfl (fun hi => ?_) (fun hi => ?_))
      · have gx : L[i]? = some (L[i]'(by omega)) := List.getElem?_eq_getElem _
        have htk : L.take (i + 1) = L.take i ++ [L[i]'(by omega)] := by rw [List.take_add_one, gx]; rfl
        generalize L[i]'(by omega) = e at gx htk
        have hfe := hfit2 e (List.mem_of_getElem? gx)
        have n0 : ((0 : Int) ≤ (i : Int)) = True := eq_true (by omega)
        have hinc := up64 (show i < 9223372036854775807 by omega)
        have wv : IntKind.u64.wrap ((e.2 : Nat) : Int) = ((e.2 : Nat) : Int) := by rw [wrap_u64_nat, Nat.mod_eq_of_lt (by omega)]
        have hts : topV (L.take (i + 1)) = max (topV (L.take i)) e.2 := by rw [htk, topV_snoc]
        by_cases hgt : e.2 > topV (L.take i)
        · have c1 : (((e.2 : Nat) : Int) > ((topV (L.take i) : Nat) : Int)) = True := eq_true (by omega)
          rw [Nat.max_eq_right (by omega)] at hts
          refine Zr rfl (by simp (maxSteps := 2000000) only [gs,List.replicate,reduceIte,reduceCtorEq,Nat.reduceEqDiff,Nat.reduceLT,Nat.reduceAdd,Nat.reduceSub,Nat.reduceLeDiff,Nat.reduceMul,Int.reduceToNat,Int.reduceLT,Int.reduceLE,Int.reduceEq,Int.reduceNe,Int.reduceBEq,Int.reduceBNe,Int.reduceAdd,Int.reduceSub,Int.reduceNeg, n0, uen_get gx, wv, c1]; rfl) ?_
          refine Zr rfl (by simp (maxSteps := 2000000) only [gs,List.replicate,reduceIte,reduceCtorEq,Nat.reduceEqDiff,Nat.reduceLT,Nat.reduceAdd,Nat.reduceSub,Nat.reduceLeDiff,Nat.reduceMul,Int.reduceToNat,Int.reduceLT,Int.reduceLE,Int.reduceEq,Int.reduceNe,Int.reduceBEq,Int.reduceBNe,Int.reduceAdd,Int.reduceSub,Int.reduceNeg, hinc]; rfl) ?_
          exact Za rfl ⟨m - 1, by omega, rfl, i + 1, by omega, rfl, rfl, rfl, rfl, by rw [hts]; rfl, rfl⟩
        · have c1 : (((e.2 : Nat) : Int) > ((topV (L.take i) : Nat) : Int)) = False := eq_false (by omega)
          rw [Nat.max_eq_left (by omega)] at hts
          refine Zr rfl (by simp (maxSteps := 2000000) only [gs,List.replicate,reduceIte,reduceCtorEq,Nat.reduceEqDiff,Nat.reduceLT,Nat.reduceAdd,Nat.reduceSub,Nat.reduceLeDiff,Nat.reduceMul,Int.reduceToNat,Int.reduceLT,Int.reduceLE,Int.reduceEq,Int.reduceNe,Int.reduceBEq,Int.reduceBNe,Int.reduceAdd,Int.reduceSub,Int.reduceNeg, n0, uen_get gx, wv, c1]; rfl) ?_
          refine Zr rfl (by simp (maxSteps := 2000000) only [gs,List.replicate,reduceIte,reduceCtorEq,Nat.reduceEqDiff,Nat.reduceLT,Nat.reduceAdd,Nat.reduceSub,Nat.reduceLeDiff,Nat.reduceMul,Int.reduceToNat,Int.reduceLT,Int.reduceLE,Int.reduceEq,Int.reduceNe,Int.reduceBEq,Int.reduceBNe,Int.reduceAdd,Int.reduceSub,Int.reduceNeg, hinc]; rfl) ?_
          exact Za rfl ⟨m - 1, by omega, rfl, i + 1, by omega, rfl, rfl, rfl, rfl, by rw [hts]; rfl, rfl⟩
      · have hil : i = L.length := by omega
        rw [hil, List.take_length] at j12 ⊢
        exact Za rfl ⟨rfl, rfl, rfl, rfl, rfl, rfl⟩
    · refine Zw rfl (fun m env h => h = [.box [.int .u64 (N : Int), v]] ∧ GEnv.get env 7 = .ptr 0 0 0 0 ∧ GEnv.get env 8 = .nils ∧ GEnv.get env 10 = .own 1 (un .u8 (genc G0)) ∧ GEnv.get env 11 = .int .i64 0 ∧ GEnv.get env 12 = .int .u64 0 ∧ GEnv.get env 13 = .int .i64 0) 0 ⟨rfl, by simp [GEnv.get, k7], by simp [GEnv.get, k8], by simp [GEnv.get, k10], by simp [GEnv.get, k11], rfl, rfl⟩ ?_
      rintro m env h ⟨rfl, j7, j8, j10, j11, j12, j13⟩
      simp only [GEnv.keep, j7, j8, j10, j11, j12, j13]
      refine Zr rfl (by simp (maxSteps := 2000000) only [gs,List.replicate,reduceIte,reduceCtorEq,Nat.reduceEqDiff,Nat.reduceLT,Nat.reduceAdd,Nat.reduceSub,Nat.reduceLeDiff,Nat.reduceMul,Int.reduceToNat,Int.reduceLT,Int.reduceLE,Int.reduceEq,Int.reduceNe,Int.reduceBEq,Int.reduceBNe,Int.reduceAdd,Int.reduceSub,Int.reduceNeg]; rfl) (Zc rfl rfl (fun h => by cases h) (fun _ => ?_))
      have ht0 : topV L = 0 := by rw [h0]; rfl
      rw [ht0]
      exact Za rfl ⟨rfl, rfl, rfl, rfl, rfl, rfl⟩
  rintro env h ⟨rfl, k7, k8, k10, k11, k12⟩
  refine Zj rfl (fun env h => h = [.box [.int .u64 (N : Int), v]] ∧ GEnv.get env 8 = w ∧ GEnv.get env 10 = .list false 1 (un .u8 (genc G0)) ∧ GEnv.get env 11 = .int .i64 0 ∧ GEnv.get env 12 = .int .u64 ((topV L : Nat) : Int) ∧ GEnv.get env 14 = v1 ∧ GEnv.get env 15 = .int .i64 0) ?_ ?_
  · rcases v1n with rfl | ⟨rfl, h0⟩
    · refine Zr rfl (by simp (maxSteps := 2000000) only [gs,List.replicate,reduceIte,reduceCtorEq,Nat.reduceEqDiff,Nat.reduceLT,Nat.reduceAdd,Nat.reduceSub,Nat.reduceLeDiff,Nat.reduceMul,Int.reduceToNat,Int.reduceLT,Int.reduceLE,Int.reduceEq,Int.reduceNe,Int.reduceBEq,Int.reduceBNe,Int.reduceAdd,Int.reduceSub,Int.reduceNeg, k7, k10, snapLL_un, gc_adj_Read, R1]; rfl) ?_
      exact Za rfl ⟨rfl, by simp [GEnv.get, k8], by simp [GEnv.get], by simp [GEnv.get, k11], by simp [GEnv.get, k12], by simp [GEnv.get], by simp [GEnv.get]⟩
    · refine Zr rfl (by simp (maxSteps := 2000000) only [gs,List.replicate,reduceIte,reduceCtorEq,Nat.reduceEqDiff,Nat.reduceLT,Nat.reduceAdd,Nat.reduceSub,Nat.reduceLeDiff,Nat.reduceMul,Int.reduceToNat,Int.reduceLT,Int.reduceLE,Int.reduceEq,Int.reduceNe,Int.reduceBEq,Int.reduceBNe,Int.reduceAdd,Int.reduceSub,Int.reduceNeg, k7, k10, snapLL_un, gc_adj_Read, R1]; rfl) ?_
      exact Za rfl ⟨rfl, by simp [GEnv.get, k8], by simp [GEnv.get], by simp [GEnv.get, k11], by simp [GEnv.get, k12], by simp [GEnv.get], by simp [GEnv.get]⟩
  rintro env h ⟨rfl, k8, k10, k11, k12, k14, k15⟩
  refine Zj rfl (fun env h => h = [.box [.int .u64 (N : Int), v]] ∧ GEnv.get env 8 = w ∧ GEnv.get env 10 = .list false 1 (un .u8 (genc G0)) ∧ GEnv.get env 11 = .int .i64 0 ∧ GEnv.get env 12 = .int .u64 ((topV L : Nat) : Int) ∧ GEnv.get env 14 = v1 ∧ GEnv.get env 15 = .int .i64 0 ∧ GEnv.get env 16 = v2 ∧ GEnv.get env 17 = .int .i64 0) ?_ ?_
  · rcases v2n with rfl | ⟨rfl, h0⟩
    · refine Zr rfl (by simp (maxSteps := 2000000) only [gs,List.replicate,reduceIte,reduceCtorEq,Nat.reduceEqDiff,Nat.reduceLT,Nat.reduceAdd,Nat.reduceSub,Nat.reduceLeDiff,Nat.reduceMul,Int.reduceToNat,Int.reduceLT,Int.reduceLE,Int.reduceEq,Int.reduceNe,Int.reduceBEq,Int.reduceBNe,Int.reduceAdd,Int.reduceSub,Int.reduceNeg, k10, k12, w1, snapLL_un, gc_adj_Read, R2]; rfl) ?_
      exact Za rfl ⟨rfl, by simp [GEnv.get, k8], by simp [GEnv.get, k10], by simp [GEnv.get, k11], by simp [GEnv.get, k12], by simp [GEnv.get, k14], by simp [GEnv.get, k15], by simp [GEnv.get], by simp [GEnv.get]⟩
    · refine Zr rfl (by simp (maxSteps := 2000000) only [gs,List.replicate,reduceIte,reduceCtorEq,Nat.reduceEqDiff,Nat.reduceLT,Nat.reduceAdd,Nat.reduceSub,Nat.reduceLeDiff,Nat.reduceMul,Int.reduceToNat,Int.reduceLT,Int.reduceLE,Int.reduceEq,Int.reduceNe,Int.reduceBEq,Int.reduceBNe,Int.reduceAdd,Int.reduceSub,Int.reduceNeg, k10, k12, w1, snapLL_un, gc_adj_Read, R2]; rfl) ?_
      exact Za rfl ⟨rfl, by simp [GEnv.get, k8], by simp [GEnv.get, k10], by simp [GEnv.get, k11], by simp [GEnv.get, k12], by simp [GEnv.get, k14], by simp [GEnv.get, k15], by simp [GEnv.get], by simp [GEnv.get]⟩
  rintro env h ⟨rfl, k8, k10, k11, k12, k14, k15, k16, k17⟩
  have S1 := SE v1n hw
  have S2 := SE v2n hw
  refine Zj rfl (fun env h => h = [.box [.int .u64 (N : Int), v]] ∧ GEnv.get env 8 = w ∧ GEnv.get env 10 = .list false 1 (un .u8 (genc G0)) ∧ GEnv.get env 12 = .int .u64 ((topV L : Nat) : Int) ∧ GEnv.get env 90 = .bool false) ?_ ?_
  · rcases hw with rfl | ⟨rfl, h0⟩
    all_goals
      rcases v1n with rfl | ⟨rfl, h1⟩
      all_goals
        rcases v2n with rfl | ⟨rfl, h2⟩
        · refine Zr rfl (by simp (maxSteps := 2000000) only [gs,List.replicate,reduceIte,reduceCtorEq,Nat.reduceEqDiff,Nat.reduceLT,Nat.reduceAdd,Nat.reduceSub,Nat.reduceLeDiff,Nat.reduceMul,Int.reduceToNat,Int.reduceLT,Int.reduceLE,Int.reduceEq,Int.reduceNe,Int.reduceBEq,Int.reduceBNe,Int.reduceAdd,Int.reduceSub,Int.reduceNeg, k8, k11, k14, k15, k16, k17, bne_self_eq_false, snapLL_uen, gc_archipelagoref8_SameEdges, S1, S2]; rfl) ?_
          exact Za rfl ⟨rfl, by simp [GEnv.get, k8], by simp [GEnv.get, k10], by simp [GEnv.get, k12], by simp [GEnv.get]⟩
        · refine Zr rfl (by simp (maxSteps := 2000000) only [gs,List.replicate,reduceIte,reduceCtorEq,Nat.reduceEqDiff,Nat.reduceLT,Nat.reduceAdd,Nat.reduceSub,Nat.reduceLeDiff,Nat.reduceMul,Int.reduceToNat,Int.reduceLT,Int.reduceLE,Int.reduceEq,Int.reduceNe,Int.reduceBEq,Int.reduceBNe,Int.reduceAdd,Int.reduceSub,Int.reduceNeg, k8, k11, k14, k15, k16, k17, bne_self_eq_false, snapLL_uen, gc_archipelagoref8_SameEdges, S1, S2]; rfl) ?_
          exact Za rfl ⟨rfl, by simp [GEnv.get, k8], by simp [GEnv.get, k10], by simp [GEnv.get, k12], by simp [GEnv.get]⟩
  rintro env h ⟨rfl, k8, k10, k12, k90⟩
  refine Zc rfl (x := false) k90 (fun h => by cases h) (fun _ => ?_)
  have hlz : (((L.length : Nat) : Int) == 0) = decide (L = []) := by
    cases hq : L with
    | nil => rfl
    | cons a r => rw [beq_eq_false_iff_ne.2 (by simp only [List.length_cons]; omega)]; rfl
  rcases hw with rfl | ⟨rfl, h0⟩
  · rcases v3n with rfl | rfl
    · refine Zr rfl (by simp (maxSteps := 2000000) only [gs,List.replicate,reduceIte,reduceCtorEq,Nat.reduceEqDiff,Nat.reduceLT,Nat.reduceAdd,Nat.reduceSub,Nat.reduceLeDiff,Nat.reduceMul,Int.reduceToNat,Int.reduceLT,Int.reduceLE,Int.reduceEq,Int.reduceNe,Int.reduceBEq,Int.reduceBNe,Int.reduceAdd,Int.reduceSub,Int.reduceNeg, k10, k12, snapLL_un, gc_adj_Read, R3]; rfl) ?_
      exact Zr rfl (by simp (maxSteps := 2000000) only [gs,List.replicate,reduceIte,reduceCtorEq,Nat.reduceEqDiff,Nat.reduceLT,Nat.reduceAdd,Nat.reduceSub,Nat.reduceLeDiff,Nat.reduceMul,Int.reduceToNat,Int.reduceLT,Int.reduceLE,Int.reduceEq,Int.reduceNe,Int.reduceBEq,Int.reduceBNe,Int.reduceAdd,Int.reduceSub,Int.reduceNeg, k8, c3e, uen_length, hlz, beq_self_eq_true]; rfl) (Zq rfl ⟨_, rfl, rfl⟩)
    · refine Zr rfl (by simp (maxSteps := 2000000) only [gs,List.replicate,reduceIte,reduceCtorEq,Nat.reduceEqDiff,Nat.reduceLT,Nat.reduceAdd,Nat.reduceSub,Nat.reduceLeDiff,Nat.reduceMul,Int.reduceToNat,Int.reduceLT,Int.reduceLE,Int.reduceEq,Int.reduceNe,Int.reduceBEq,Int.reduceBNe,Int.reduceAdd,Int.reduceSub,Int.reduceNeg, k10, k12, snapLL_un, gc_adj_Read, R3]; rfl) ?_
      exact Zr rfl (by simp (maxSteps := 2000000) only [gs,List.replicate,reduceIte,reduceCtorEq,Nat.reduceEqDiff,Nat.reduceLT,Nat.reduceAdd,Nat.reduceSub,Nat.reduceLeDiff,Nat.reduceMul,Int.reduceToNat,Int.reduceLT,Int.reduceLE,Int.reduceEq,Int.reduceNe,Int.reduceBEq,Int.reduceBNe,Int.reduceAdd,Int.reduceSub,Int.reduceNeg, k8, c3e, uen_length, hlz, beq_self_eq_true]; rfl) (Zq rfl ⟨_, rfl, rfl⟩)
  · rw [decide_eq_true h0] at c3e
    rcases v3n with rfl | rfl
    · refine Zr rfl (by simp (maxSteps := 2000000) only [gs,List.replicate,reduceIte,reduceCtorEq,Nat.reduceEqDiff,Nat.reduceLT,Nat.reduceAdd,Nat.reduceSub,Nat.reduceLeDiff,Nat.reduceMul,Int.reduceToNat,Int.reduceLT,Int.reduceLE,Int.reduceEq,Int.reduceNe,Int.reduceBEq,Int.reduceBNe,Int.reduceAdd,Int.reduceSub,Int.reduceNeg, k10, k12, snapLL_un, gc_adj_Read, R3]; rfl) ?_
      exact Zr rfl (by simp (maxSteps := 2000000) only [gs,List.replicate,reduceIte,reduceCtorEq,Nat.reduceEqDiff,Nat.reduceLT,Nat.reduceAdd,Nat.reduceSub,Nat.reduceLeDiff,Nat.reduceMul,Int.reduceToNat,Int.reduceLT,Int.reduceLE,Int.reduceEq,Int.reduceNe,Int.reduceBEq,Int.reduceBNe,Int.reduceAdd,Int.reduceSub,Int.reduceNeg, k8, c3e, beq_self_eq_true]; rfl) (Zq rfl ⟨_, rfl, rfl⟩)
    · refine Zr rfl (by simp (maxSteps := 2000000) only [gs,List.replicate,reduceIte,reduceCtorEq,Nat.reduceEqDiff,Nat.reduceLT,Nat.reduceAdd,Nat.reduceSub,Nat.reduceLeDiff,Nat.reduceMul,Int.reduceToNat,Int.reduceLT,Int.reduceLE,Int.reduceEq,Int.reduceNe,Int.reduceBEq,Int.reduceBNe,Int.reduceAdd,Int.reduceSub,Int.reduceNeg, k10, k12, snapLL_un, gc_adj_Read, R3]; rfl) ?_
      exact Zr rfl (by simp (maxSteps := 2000000) only [gs,List.replicate,reduceIte,reduceCtorEq,Nat.reduceEqDiff,Nat.reduceLT,Nat.reduceAdd,Nat.reduceSub,Nat.reduceLeDiff,Nat.reduceMul,Int.reduceToNat,Int.reduceLT,Int.reduceLE,Int.reduceEq,Int.reduceNe,Int.reduceBEq,Int.reduceBNe,Int.reduceAdd,Int.reduceSub,Int.reduceNeg, k8, c3e, beq_self_eq_true]; rfl) (Zq rfl ⟨_, rfl, rfl⟩)

theorem adjBack_law (us : List U) (h : Ars [.one (.int .u8), .one (.sl [.int .u8]), .one (.int .u8)] us) : GF gtab fid_archipelagolaw15_AdjBack us [] 0 = some (.bool true, []) := by
  obtain ⟨u0, _, rfl, h0, u1, _, rfl, h1, u2, _, rfl, h2, rfl⟩ := h
  obtain ⟨a, rfl, ha⟩ := Sh.nat rfl h0
  obtain ⟨b, rfl, hb, hb2⟩ := Sh.nums rfl h1
  obtain ⟨c, rfl, hc⟩ := Sh.nat rfl h2
  exact adjBack_G (Nat.lt_succ_of_le (Int.ofNat_le.1 ha)) (fun x hx => Nat.lt_succ_of_le (Int.ofNat_le.1 (hb2 x hx))) (Nat.lt_succ_of_le (Int.ofNat_le.1 hc))

end Go.Ab
