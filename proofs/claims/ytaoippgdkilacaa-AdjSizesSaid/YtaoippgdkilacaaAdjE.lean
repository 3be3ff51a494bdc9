/- Which bytes are edges, which are none; AdjStrange. -/
import Derived.Test.YtaoippgdkilacaaAdjD
import Derived.Test.YtaoippgdkilacaaValN
import Derived.Test.YtaoippgdkilacaaArgA
namespace Go.Ab
open Go
set_option linter.unusedVariables false
set_option linter.unusedSimpArgs false
set_option maxRecDepth 10000

theorem aread_no {w : U} {bs : List Nat} {n : Nat} (hw : isBa w bs) (hb : ∀ c ∈ bs, c < 256) (hl : bs.length ≤ 10000) (hn : n < 18446744073709551616) (h : ¬ ∃ l, AdjIs n bs l) :
    GF gtab fid_adj_Read [w, .int .u64 (n : Int)] [] 0 = some (.tup [.nils, .int .i64 21], []) := by
  obtain ⟨u, h1 | h1, h2⟩ := aread_R hw hb hl hn
  · obtain ⟨l, v, h3, _⟩ := h1
    exact absurd ⟨l, h3⟩ h
  · rw [h2, h1.2]
theorem aread_is {w : U} {bs : List Nat} {n : Nat} {l : List Nd} (hw : isBa w bs) (hb : ∀ c ∈ bs, c < 256) (hl : bs.length ≤ 10000) (hn : n < 18446744073709551616) (h : AdjIs n bs l) :
    ∃ v, isEn v l ∧ l.length ≤ bs.length ∧ GF gtab fid_adj_Read [w, .int .u64 (n : Int)] [] 0 = some (.tup [v, .int .i64 0], []) := by
  obtain ⟨u, h1 | h1, h2⟩ := aread_R hw hb hl hn
  · obtain ⟨l', v, h3, h4, h5, rfl⟩ := h1
    have : l' = l := (h3.read hl).2.1.symm.trans (h.read hl).2.1
    subst this
    exact ⟨v, h4, h5, h2⟩
  · exact absurd ⟨l, h⟩ h1.1

/-- Numbers are read in one way. -/
theorem putL_inj : ∀ {a b : List Nat}, (∀ x ∈ a, x < 18446744073709551616) → (∀ x ∈ b, x < 18446744073709551616) → putL a = putL b → a = b
  | [], [], _, _, _ => rfl
  | [], y :: b, _, _, h => absurd h.symm (by
      intro h0
      have := putV_length y
      rw [putL_cons] at h0
      have hh := congrArg List.length h0
      rw [List.length_append, show (putL []).length = 0 from rfl] at hh
      omega)
  | x :: a, [], _, _, h => absurd h (by
      intro h0
      have := putV_length x
      rw [putL_cons] at h0
      have hh := congrArg List.length h0
      rw [List.length_append, show (putL []).length = 0 from rfl] at hh
      omega)
  | x :: a, y :: b, ha, hb, h => by
    rw [putL_cons, putL_cons] at h
    have h1 := take_put0 (most := 18446744073709551615) (putL a) (ha x List.mem_cons_self) (by have := ha x List.mem_cons_self; omega)
    have h2 := take_put0 (most := 18446744073709551615) (putL b) (hb y List.mem_cons_self) (by have := hb y List.mem_cons_self; omega)
    rw [h, h2] at h1
    have hxy : y = x := congrArg (·.1) h1
    subst hxy
    rw [List.append_cancel_left h |> putL_inj (fun z hz => ha z (List.mem_cons_of_mem _ hz)) (fun z hz => hb z (List.mem_cons_of_mem _ hz))]
theorem AdjIs.nums {n : Nat} {bs : List Nat} {l : List Nd} (h : AdjIs n bs l) (hl : bs.length ≤ 10000) :
    ∃ G, GoodG 0 G ∧ gflat G = l ∧ putL (G.length :: gbody 0 G) = bs ∧ (∀ e ∈ l, e.2 < n ∧ e.2 ≤ 4294967295) ∧ ∀ x ∈ G.length :: gbody 0 G, x < 18446744073709551616 := by
  obtain ⟨G, h1, h2, h3, h4⟩ := h
  have hp := putL_length (G.length :: gbody 0 G)
  rw [show putL (G.length :: gbody 0 G) = bs from h3, List.length_cons, ← gbody_len] at hp
  have hs := (GoodG_strict h1).2
  obtain ⟨a, b, _⟩ := gbody_bytes h1 (by omega) (fun e he => by
    have := hs e he
    rw [h2] at he
    have := (h4 e he).2
    omega)
  refine ⟨G, h1, h2, h3, h4, fun x hx => ?_⟩
  rcases List.mem_cons.1 hx with rfl | hx
  · omega
  · exact a x hx
theorem putL_small {l : List Nat} (h : ∀ x ∈ l, x < 128) : putL l = l := by
  induction l with
  | nil => rfl
  | cons x l ih => rw [putL_cons, putV_small (h x List.mem_cons_self), ih fun y hy => h y (List.mem_cons_of_mem _ hy)]; rfl

theorem strange_is {n u v : Nat} (hu : u < 60) (hv : v < 60) (h : u + v + 1 < n) : AdjIs n [1, u, 1, v] [(u, u + v + 1)] := by
  refine ⟨[(u, [u + v + 1])], ⟨Nat.zero_le _, by simp, ⟨by show u < u + v + 1; omega, trivial⟩, trivial⟩, rfl, ?_, fun e he => ?_⟩
  · have : genc [(u, [u + v + 1])] = putL [1, u, 1, v] := by
      simp only [genc, gbody, gaps, List.length_cons, List.length_nil, List.nil_append, List.cons_append, Nat.sub_zero, Nat.zero_add]
      rw [show u + v + 1 - u - 1 = v by omega]
    rw [this]
    exact putL_small fun x hx => by simp only [List.mem_cons, List.not_mem_nil, or_false] at hx; omega
  · rw [List.mem_singleton.1 he]; exact ⟨h, by show u + v + 1 ≤ _; omega⟩
theorem strange_1 {n u v : Nat} (hu : u < 60) (hv : v < 60) (h : ¬ u + v + 1 < n) : ¬ ∃ l, AdjIs n [1, u, 1, v] l := by
  rintro ⟨l, hl⟩
  obtain ⟨G, h1, h2, h3, h4, h5⟩ := hl.nums (by simp)
  have hs : ∀ x ∈ [1, u, 1, v], x < 128 := fun x hx => by simp only [List.mem_cons, List.not_mem_nil, or_false] at hx; omega
  rw [← putL_small hs] at h3
  have h6 := putL_inj h5 (fun x hx => by have := hs x hx; omega) h3
  rw [List.cons.injEq] at h6
  obtain ⟨g, rfl⟩ := List.length_eq_one_iff.1 h6.1
  obtain ⟨x, ys⟩ := g
  have h7 := h6.2
  simp only [gbody, List.append_nil, List.cons.injEq, Nat.sub_zero] at h7
  obtain ⟨e1, e2, e3⟩ := h7
  obtain ⟨y, rfl⟩ := List.length_eq_one_iff.1 e2
  simp only [gaps, List.cons.injEq, and_true] at e3
  have h8 := h1.2.2.1.1
  simp only at h8
  have h9 := (h4 (x, y) (by rw [← h2]; simp [gflat, gfl])).1
  simp only at h9
  omega
theorem strange_2 {n u : Nat} (hu : u < 60) : ¬ ∃ l, AdjIs n [1, u, 0] l := by
  rintro ⟨l, hl⟩
  obtain ⟨G, h1, h2, h3, h4, h5⟩ := hl.nums (by simp)
  have hs : ∀ x ∈ [1, u, 0], x < 128 := fun x hx => by simp only [List.mem_cons, List.not_mem_nil, or_false] at hx; omega
  rw [← putL_small hs] at h3
  have h6 := putL_inj h5 (fun x hx => by have := hs x hx; omega) h3
  rw [List.cons.injEq] at h6
  obtain ⟨g, rfl⟩ := List.length_eq_one_iff.1 h6.1
  have h7 := h6.2
  simp only [gbody, List.append_nil, List.cons.injEq, Nat.sub_zero] at h7
  exact h1.2.1 (List.eq_nil_of_length_eq_zero h7.2.1)
theorem strange_3 {n u v : Nat} (hu : u < 60) (hv : v < 60) : ¬ ∃ l, AdjIs n [2, u, 1, v] l := by
  rintro ⟨l, hl⟩
  obtain ⟨G, h1, h2, h3, h4, h5⟩ := hl.nums (by simp)
  have hs : ∀ x ∈ [2, u, 1, v], x < 128 := fun x hx => by simp only [List.mem_cons, List.not_mem_nil, or_false] at hx; omega
  rw [← putL_small hs] at h3
  have h6 := putL_inj h5 (fun x hx => by have := hs x hx; omega) h3
  rw [List.cons.injEq] at h6
  have h7 := congrArg List.length h6.2
  rw [← gbody_len] at h7
  simp only [List.length_cons, List.length_nil] at h7
  omega
theorem strange_4 {n u : Nat} (hu : u < 60) : ¬ ∃ l, AdjIs n [0, u] l := by
  rintro ⟨l, hl⟩
  obtain ⟨G, h1, h2, h3, h4, h5⟩ := hl.nums (by simp)
  have hs : ∀ x ∈ [0, u], x < 128 := fun x hx => by simp only [List.mem_cons, List.not_mem_nil, or_false] at hx; omega
  rw [← putL_small hs] at h3
  have h6 := putL_inj h5 (fun x hx => by have := hs x hx; omega) h3
  rw [List.cons.injEq] at h6
  have h0 : G = [] := List.eq_nil_of_length_eq_zero h6.1
  subst h0
  exact absurd h6.2 (by simp [gbody])
theorem strange_5 {n u v : Nat} (hu : u < 60) (hv : v < 60) : ¬ ∃ l, AdjIs n [1, u + 128, 0, 1, v] l := by
  rintro ⟨l, hl⟩
  obtain ⟨G, h1, h2, h3, h4, h5⟩ := hl.nums (by simp)
  rw [putL_cons] at h3
  have t1 := take_put0 (most := 18446744073709551615) (putL (gbody 0 G)) (h5 G.length List.mem_cons_self) (by have := h5 G.length List.mem_cons_self; omega)
  rw [h3] at t1
  have t2 : takeV 18446744073709551615 0 0 [1, u + 128, 0, 1, v] = (1, 1, 0) := by
    rw [takeV, if_neg (by omega), if_neg (by omega)]; rfl
  rw [t2] at t1
  have e1 : G.length = 1 := (congrArg (·.1) t1).symm
  rw [e1, putV_small (by omega)] at h3
  obtain ⟨g, rfl⟩ := List.length_eq_one_iff.1 e1
  simp only [List.singleton_append, List.cons.injEq, true_and] at h3
  rw [gbody, putL_cons] at h3
  have hx := h5 (g.1 - 0) (by simp [gbody])
  have t3 := take_put0 (most := 18446744073709551615) (putL (g.2.length :: (gaps g.1 g.2 ++ gbody (g.1 + 1) []))) hx (by omega)
  rw [h3] at t3
  have t4 : (takeV 18446744073709551615 0 0 [u + 128, 0, 1, v]).2.2 = 21 := by
    rw [takeV, if_neg (by omega), if_pos (by omega), takeV, if_pos (by omega)]
  rw [t3] at t4
  exact absurd t4 (by simp)

theorem known15_G : GF gtab fid_archipelagolaw15_known [] [] 0 = some (.bool true, []) := GF_run 300 (by kernel_rfl)

set_option maxHeartbeats 2000000 in
theorem adjStrange_G {a b n : Nat} (ha : a < 256) (hb : b < 256) (hn : n < 256) : GF gtab fid_archipelagolaw15_AdjStrange [.int .u8 a, .int .u8 b, .int .u8 n] [] 0 = some (.bool true, []) := by
  refine fn_archipelagolaw15_AdjStrange rfl ?_
  simp only [genvOf]
  refine Zr rfl (by simp (maxSteps := 2000000) only [gs,List.replicate,reduceIte,reduceCtorEq,Nat.reduceEqDiff,Nat.reduceLT,Nat.reduceAdd,Nat.reduceSub,Nat.reduceLeDiff,Nat.reduceMul,Int.reduceToNat,Int.reduceLT,Int.reduceLE,Int.reduceEq,Int.reduceNe,Int.reduceBEq,Int.reduceBNe,Int.reduceAdd,Int.reduceSub,Int.reduceNeg]; rfl) ?_
  refine Zr rfl (by simp (maxSteps := 2000000) only [gs,List.replicate,reduceIte,reduceCtorEq,Nat.reduceEqDiff,Nat.reduceLT,Nat.reduceAdd,Nat.reduceSub,Nat.reduceLeDiff,Nat.reduceMul,Int.reduceToNat,Int.reduceLT,Int.reduceLE,Int.reduceEq,Int.reduceNe,Int.reduceBEq,Int.reduceBNe,Int.reduceAdd,Int.reduceSub,Int.reduceNeg, gc_archipelagolaw15_known, known15_G]; rfl) (Zc rfl rfl (fun h => by cases h) (fun _ => ?_))
  have q1 : ((a : Nat) : Int).tmod 60 = ((a % 60 : Nat) : Int) := rfl
  have q2 : ((b : Nat) : Int).tmod 60 = ((b % 60 : Nat) : Int) := rfl
  have q3 : ((n : Nat) : Int).tmod 130 = ((n % 130 : Nat) : Int) := rfl
  have w3 : IntKind.u64.wrap ((n % 130 : Nat) : Int) = ((n % 130 : Nat) : Int) := by rw [wrap_u64_nat, Nat.mod_eq_of_lt (by omega)]
  have hu : a % 60 < 60 := Nat.mod_lt _ (by decide)
  have hv : b % 60 < 60 := Nat.mod_lt _ (by decide)
  have hm : n % 130 < 130 := Nat.mod_lt _ (by decide)
  generalize a % 60 = u at q1 hu
  generalize b % 60 = v at q2 hv
  generalize n % 130 = m at q3 w3 hm
  have w1 : IntKind.u64.wrap ((u : Nat) : Int) = ((u : Nat) : Int) := by rw [wrap_u64_nat, Nat.mod_eq_of_lt (by omega)]
  have w2 : IntKind.u64.wrap ((v : Nat) : Int) = ((v : Nat) : Int) := by rw [wrap_u64_nat, Nat.mod_eq_of_lt (by omega)]
  have c1 : IntKind.u8.wrap ((u : Nat) : Int) = ((u : Nat) : Int) := by rw [wrap_u8_nat, Nat.mod_eq_of_lt (by omega)]
  have c2 : IntKind.u8.wrap ((v : Nat) : Int) = ((v : Nat) : Int) := by rw [wrap_u8_nat, Nat.mod_eq_of_lt (by omega)]
  have d1 : IntKind.u32.wrap ((u : Nat) : Int) = ((u : Nat) : Int) := by rw [wrap_u32_nat, Nat.mod_eq_of_lt (by omega)]
  have s1 : IntKind.u64.wrap (((u : Nat) : Int) + ((v : Nat) : Int)) = ((u + v : Nat) : Int) := by rw [u64_sum, Nat.mod_eq_of_lt (by omega)]
  have s2 : IntKind.u64.wrap (((u + v : Nat) : Int) + 1) = ((u + v + 1 : Nat) : Int) := by rw [u64_one, Nat.mod_eq_of_lt (by omega)]
  have d2 : IntKind.u32.wrap ((u + v + 1 : Nat) : Int) = ((u + v + 1 : Nat) : Int) := by rw [wrap_u32_nat, Nat.mod_eq_of_lt (by omega)]
  have o1 : bitsOf .or .u8 ((u : Nat) : Int) 128 = some ((u + 128 : Nat) : Int) := by
    have := or_u8 (a := u) (b := 128) (by omega) (by omega)
    rw [or128 (by omega), Nat.mod_eq_of_lt (by omega)] at this
    exact this
  have e1 : [[U.int .u8 1], [U.int .u8 ((u : Nat) : Int)], [U.int .u8 1], [U.int .u8 ((v : Nat) : Int)]] = un .u8 [1, u, 1, v] := rfl
  have e2 : [[U.int .u8 1], [U.int .u8 ((u : Nat) : Int)], [U.int .u8 0]] = un .u8 [1, u, 0] := rfl
  have e3 : [[U.int .u8 2], [U.int .u8 ((u : Nat) : Int)], [U.int .u8 1], [U.int .u8 ((v : Nat) : Int)]] = un .u8 [2, u, 1, v] := rfl
  have e4 : [[U.int .u8 0], [U.int .u8 ((u : Nat) : Int)]] = un .u8 [0, u] := rfl
  have e5 : [[U.int .u8 1], [U.int .u8 ((u + 128 : Nat) : Int)], [U.int .u8 0], [U.int .u8 1], [U.int .u8 ((v : Nat) : Int)]] = un .u8 [1, u + 128, 0, 1, v] := rfl
  have t2 : (un .u8 [1, u, 0]).set 2 [U.int .u8 0] = un .u8 [1, u, 0] := rfl
  have l2 : (2 < (un .u8 [1, u, 0]).length) = True := eq_true (by rw [un_length]; simp)
  have m1 : ∀ c ∈ [1, u, 1, v], c < 256 := fun x hx => by simp only [List.mem_cons, List.not_mem_nil, or_false] at hx; omega
  have m2 : ∀ c ∈ [1, u, 0], c < 256 := fun x hx => by simp only [List.mem_cons, List.not_mem_nil, or_false] at hx; omega
  have m3 : ∀ c ∈ [2, u, 1, v], c < 256 := fun x hx => by simp only [List.mem_cons, List.not_mem_nil, or_false] at hx; omega
  have m4 : ∀ c ∈ [0, u], c < 256 := fun x hx => by simp only [List.mem_cons, List.not_mem_nil, or_false] at hx; omega
  have m5 : ∀ c ∈ [1, u + 128, 0, 1, v], c < 256 := fun x hx => by simp only [List.mem_cons, List.not_mem_nil, or_false] at hx; omega
  have R2 : GF gtab fid_adj_Read [.list false 1 (un .u8 [1, u, 0]), .int .u64 200] [] 0 = some (.tup [.nils, .int .i64 21], []) := aread_no (n := 200) (.inl rfl) m2 (by simp) (by omega) (strange_2 hu)
  have R3 : GF gtab fid_adj_Read [.list false 1 (un .u8 [2, u, 1, v]), .int .u64 200] [] 0 = some (.tup [.nils, .int .i64 21], []) := aread_no (n := 200) (.inl rfl) m3 (by simp) (by omega) (strange_3 hu hv)
  have R4 : GF gtab fid_adj_Read [.list false 1 (un .u8 [0, u]), .int .u64 200] [] 0 = some (.tup [.nils, .int .i64 21], []) := aread_no (n := 200) (.inl rfl) m4 (by simp) (by omega) (strange_4 hu)
  have R5 : GF gtab fid_adj_Read [.list false 1 (un .u8 [1, u + 128, 0, 1, v]), .int .u64 200] [] 0 = some (.tup [.nils, .int .i64 21], []) := aread_no (n := 200) (.inl rfl) m5 (by simp) (by omega) (strange_5 hu hv)
  refine Zr rfl (by simp (maxSteps := 2000000) only [gs,List.replicate,reduceIte,reduceCtorEq,Nat.reduceEqDiff,Nat.reduceLT,Nat.reduceAdd,Nat.reduceSub,Nat.reduceLeDiff,Nat.reduceMul,Int.reduceToNat,Int.reduceLT,Int.reduceLE,Int.reduceEq,Int.reduceNe,Int.reduceBEq,Int.reduceBNe,Int.reduceAdd,Int.reduceSub,Int.reduceNeg, q1, q2, w1, w2]; rfl) ?_
  refine Zr rfl (by simp (maxSteps := 2000000) only [gs,List.replicate,reduceIte,reduceCtorEq,Nat.reduceEqDiff,Nat.reduceLT,Nat.reduceAdd,Nat.reduceSub,Nat.reduceLeDiff,Nat.reduceMul,Int.reduceToNat,Int.reduceLT,Int.reduceLE,Int.reduceEq,Int.reduceNe,Int.reduceBEq,Int.reduceBNe,Int.reduceAdd,Int.reduceSub,Int.reduceNeg, c1, c2, e1]; rfl) ?_
  by_cases hr : u + v + 1 < m
  · obtain ⟨x, hx, _, R1⟩ := aread_is (n := m) (.inl rfl) m1 (by simp) (by omega) (strange_is hu hv hr)
    have g1 : decide (((u + v + 1 : Nat) : Int) < ((m : Nat) : Int)) = true := decide_eq_true (by omega)
    rcases hx with rfl | ⟨_, h0⟩
    · have g0 : (uen [(u, u + v + 1)])[0]? = some [.int .u32 ((u : Nat) : Int), .int .u32 ((u + v + 1 : Nat) : Int)] := rfl
      refine Zr rfl (by simp (maxSteps := 2000000) only [gs,List.replicate,reduceIte,reduceCtorEq,Nat.reduceEqDiff,Nat.reduceLT,Nat.reduceAdd,Nat.reduceSub,Nat.reduceLeDiff,Nat.reduceMul,Int.reduceToNat,Int.reduceLT,Int.reduceLE,Int.reduceEq,Int.reduceNe,Int.reduceBEq,Int.reduceBNe,Int.reduceAdd,Int.reduceSub,Int.reduceNeg, q3, w3, snapLL_un, gc_adj_Read, R1]; rfl) ?_
      refine Zr rfl (by simp (maxSteps := 2000000) only [gs,List.replicate,reduceIte,reduceCtorEq,Nat.reduceEqDiff,Nat.reduceLT,Nat.reduceAdd,Nat.reduceSub,Nat.reduceLeDiff,Nat.reduceMul,Int.reduceToNat,Int.reduceLT,Int.reduceLE,Int.reduceEq,Int.reduceNe,Int.reduceBEq,Int.reduceBNe,Int.reduceAdd,Int.reduceSub,Int.reduceNeg, c1, e2, t2, l2, snapLL_un, gc_adj_Read, R2]; rfl) ?_
      refine Zr rfl (by simp (maxSteps := 2000000) only [gs,List.replicate,reduceIte,reduceCtorEq,Nat.reduceEqDiff,Nat.reduceLT,Nat.reduceAdd,Nat.reduceSub,Nat.reduceLeDiff,Nat.reduceMul,Int.reduceToNat,Int.reduceLT,Int.reduceLE,Int.reduceEq,Int.reduceNe,Int.reduceBEq,Int.reduceBNe,Int.reduceAdd,Int.reduceSub,Int.reduceNeg, c1, c2, e3, snapLL_un, gc_adj_Read, R3]; rfl) ?_
      refine Zr rfl (by simp (maxSteps := 2000000) only [gs,List.replicate,reduceIte,reduceCtorEq,Nat.reduceEqDiff,Nat.reduceLT,Nat.reduceAdd,Nat.reduceSub,Nat.reduceLeDiff,Nat.reduceMul,Int.reduceToNat,Int.reduceLT,Int.reduceLE,Int.reduceEq,Int.reduceNe,Int.reduceBEq,Int.reduceBNe,Int.reduceAdd,Int.reduceSub,Int.reduceNeg, c1, e4, snapLL_un, gc_adj_Read, R4]; rfl) ?_
      refine Zr rfl (by simp (maxSteps := 2000000) only [gs,List.replicate,reduceIte,reduceCtorEq,Nat.reduceEqDiff,Nat.reduceLT,Nat.reduceAdd,Nat.reduceSub,Nat.reduceLeDiff,Nat.reduceMul,Int.reduceToNat,Int.reduceLT,Int.reduceLE,Int.reduceEq,Int.reduceNe,Int.reduceBEq,Int.reduceBNe,Int.reduceAdd,Int.reduceSub,Int.reduceNeg, c1, c2, o1, e5, snapLL_un, gc_adj_Read, R5]; rfl) ?_
      refine Zr rfl (by simp (maxSteps := 2000000) only [gs,List.replicate,reduceIte,reduceCtorEq,Nat.reduceEqDiff,Nat.reduceLT,Nat.reduceAdd,Nat.reduceSub,Nat.reduceLeDiff,Nat.reduceMul,Int.reduceToNat,Int.reduceLT,Int.reduceLE,Int.reduceEq,Int.reduceNe,Int.reduceBEq,Int.reduceBNe,Int.reduceAdd,Int.reduceSub,Int.reduceNeg, s1, s2, q3, w3, g1]; rfl) ?_
      exact Zr rfl (by simp (maxSteps := 2000000) only [gs,List.replicate,reduceIte,reduceCtorEq,Nat.reduceEqDiff,Nat.reduceLT,Nat.reduceAdd,Nat.reduceSub,Nat.reduceLeDiff,Nat.reduceMul,Int.reduceToNat,Int.reduceLT,Int.reduceLE,Int.reduceEq,Int.reduceNe,Int.reduceBEq,Int.reduceBNe,Int.reduceAdd,Int.reduceSub,Int.reduceNeg, d1, d2, s1, s2, uen_length, List.length_singleton, g0, beq_self_eq_true]; rfl) (Zq rfl ⟨_, rfl, rfl⟩)
    · cases h0
  · have R1 := aread_no (n := m) (.inl rfl) m1 (by simp) (by omega) (strange_1 hu hv hr)
    have g1 : decide (((u + v + 1 : Nat) : Int) < ((m : Nat) : Int)) = false := decide_eq_false (by omega)
    refine Zr rfl (by simp (maxSteps := 2000000) only [gs,List.replicate,reduceIte,reduceCtorEq,Nat.reduceEqDiff,Nat.reduceLT,Nat.reduceAdd,Nat.reduceSub,Nat.reduceLeDiff,Nat.reduceMul,Int.reduceToNat,Int.reduceLT,Int.reduceLE,Int.reduceEq,Int.reduceNe,Int.reduceBEq,Int.reduceBNe,Int.reduceAdd,Int.reduceSub,Int.reduceNeg, q3, w3, snapLL_un, gc_adj_Read, R1]; rfl) ?_
    refine Zr rfl (by simp (maxSteps := 2000000) only [gs,List.replicate,reduceIte,reduceCtorEq,Nat.reduceEqDiff,Nat.reduceLT,Nat.reduceAdd,Nat.reduceSub,Nat.reduceLeDiff,Nat.reduceMul,Int.reduceToNat,Int.reduceLT,Int.reduceLE,Int.reduceEq,Int.reduceNe,Int.reduceBEq,Int.reduceBNe,Int.reduceAdd,Int.reduceSub,Int.reduceNeg, c1, e2, t2, l2, snapLL_un, gc_adj_Read, R2]; rfl) ?_
    refine Zr rfl (by simp (maxSteps := 2000000) only [gs,List.replicate,reduceIte,reduceCtorEq,Nat.reduceEqDiff,Nat.reduceLT,Nat.reduceAdd,Nat.reduceSub,Nat.reduceLeDiff,Nat.reduceMul,Int.reduceToNat,Int.reduceLT,Int.reduceLE,Int.reduceEq,Int.reduceNe,Int.reduceBEq,Int.reduceBNe,Int.reduceAdd,Int.reduceSub,Int.reduceNeg, c1, c2, e3, snapLL_un, gc_adj_Read, R3]; rfl) ?_
    refine Zr rfl (by simp (maxSteps := 2000000) only [gs,List.replicate,reduceIte,reduceCtorEq,Nat.reduceEqDiff,Nat.reduceLT,Nat.reduceAdd,Nat.reduceSub,Nat.reduceLeDiff,Nat.reduceMul,Int.reduceToNat,Int.reduceLT,Int.reduceLE,Int.reduceEq,Int.reduceNe,Int.reduceBEq,Int.reduceBNe,Int.reduceAdd,Int.reduceSub,Int.reduceNeg, c1, e4, snapLL_un, gc_adj_Read, R4]; rfl) ?_
    refine Zr rfl (by simp (maxSteps := 2000000) only [gs,List.replicate,reduceIte,reduceCtorEq,Nat.reduceEqDiff,Nat.reduceLT,Nat.reduceAdd,Nat.reduceSub,Nat.reduceLeDiff,Nat.reduceMul,Int.reduceToNat,Int.reduceLT,Int.reduceLE,Int.reduceEq,Int.reduceNe,Int.reduceBEq,Int.reduceBNe,Int.reduceAdd,Int.reduceSub,Int.reduceNeg, c1, c2, o1, e5, snapLL_un, gc_adj_Read, R5]; rfl) ?_
    refine Zr rfl (by simp (maxSteps := 2000000) only [gs,List.replicate,reduceIte,reduceCtorEq,Nat.reduceEqDiff,Nat.reduceLT,Nat.reduceAdd,Nat.reduceSub,Nat.reduceLeDiff,Nat.reduceMul,Int.reduceToNat,Int.reduceLT,Int.reduceLE,Int.reduceEq,Int.reduceNe,Int.reduceBEq,Int.reduceBNe,Int.reduceAdd,Int.reduceSub,Int.reduceNeg, s1, s2, q3, w3, g1]; rfl) ?_
    exact Zr rfl (by simp (maxSteps := 2000000) only [gs,List.replicate,reduceIte,reduceCtorEq,Nat.reduceEqDiff,Nat.reduceLT,Nat.reduceAdd,Nat.reduceSub,Nat.reduceLeDiff,Nat.reduceMul,Int.reduceToNat,Int.reduceLT,Int.reduceLE,Int.reduceEq,Int.reduceNe,Int.reduceBEq,Int.reduceBNe,Int.reduceAdd,Int.reduceSub,Int.reduceNeg, beq_self_eq_true]; rfl) (Zq rfl ⟨_, rfl, rfl⟩)

theorem adjStrange_law (us : List U) (h : Ars [.one (.int .u8), .one (.int .u8), .one (.int .u8)] us) : GF gtab fid_archipelagolaw15_AdjStrange us [] 0 = some (.bool true, []) := by
  obtain ⟨u0, _, rfl, h0, u1, _, rfl, h1, u2, _, rfl, h2, rfl⟩ := h
  obtain ⟨a, rfl, ha⟩ := Sh.nat rfl h0
  obtain ⟨b, rfl, hb⟩ := Sh.nat rfl h1
  obtain ⟨c, rfl, hc⟩ := Sh.nat rfl h2
  exact adjStrange_G (Nat.lt_succ_of_le (Int.ofNat_le.1 ha)) (Nat.lt_succ_of_le (Int.ofNat_le.1 hb)) (Nat.lt_succ_of_le (Int.ofNat_le.1 hc))

end Go.Ab
