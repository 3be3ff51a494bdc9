/- Numbers in bytes: what is written is read. No program in sight. -/
import Derived.Test.YtaoippgdkilacaaBitPure
namespace Go.Ab
open Go
set_option linter.unusedVariables false
set_option linter.unusedSimpArgs false

def putV (v : Nat) : List Nat := if v < 128 then [v] else (v % 128 + 128) :: putV (v / 128)
  termination_by v
  decreasing_by omega

def putL (l : List Nat) : List Nat := l.flatMap putV

theorem or128_all : ∀ a : _root_.Fin 256, a.val ||| 128 = a.val % 128 + 128 := by decide +kernel
theorem or128 {a : Nat} (h : a < 256) : a ||| 128 = a % 128 + 128 := or128_all ⟨a, h⟩

theorem putV_length (v : Nat) : 1 ≤ (putV v).length := by
  rw [putV]; split <;> simp

theorem putL_length (l : List Nat) : l.length ≤ (putL l).length := by
  induction l with
  | nil => simp [putL]
  | cons v l ih =>
    have h := putV_length v
    have : putL (v :: l) = putV v ++ putL l := by simp [putL]
    rw [this, List.length_append, List.length_cons]; omega

def takeV (most : Nat) : Nat → Nat → List Nat → Nat × Nat × Nat
  | _, _, [] => (0, 0, 20)
  | i, v, c :: bs =>
    if (i = 9 ∧ c > 1) ∨ (i > 0 ∧ c = 0) then (0, 0, 21) else
    if c ≥ 128 then takeV most (i + 1) (v ||| ((c % 128) * 2 ^ (7 * i) % 18446744073709551616)) bs else
    if (v ||| ((c % 128) * 2 ^ (7 * i) % 18446744073709551616)) > most then (0, 0, 22) else (v ||| ((c % 128) * 2 ^ (7 * i) % 18446744073709551616), i + 1, 0)

theorem and127_all : ∀ a : _root_.Fin 256, a.val &&& 127 = a.val % 128 := by decide +kernel
theorem and127 {a : Nat} (h : a < 256) : a &&& 127 = a % 128 := and127_all ⟨a, h⟩

theorem or_add {w b k : Nat} (h : w < 2 ^ k) : w ||| b * 2 ^ k = w + b * 2 ^ k := by
  rw [Nat.or_comm, Nat.mul_comm, ← Nat.two_pow_add_eq_or_of_lt h, Nat.add_comm]

theorem pow7 (i : Nat) : 2 ^ (7 * (i + 1)) = 128 * 2 ^ (7 * i) := by
  rw [show 7 * (i + 1) = 7 + 7 * i by omega, Nat.pow_add]

theorem nine {v i : Nat} (hv : v * 2 ^ (7 * i) < 18446744073709551616) (h : i = 9) : v ≤ 1 := by
  subst h
  simp only [Nat.reduceMul, Nat.reducePow] at hv
  omega

theorem putV_small {v : Nat} (h : v < 128) : putV v = [v] := by rw [putV, if_pos h]
theorem putV_big {v : Nat} (h : ¬ v < 128) : putV v = (v % 128 + 128) :: putV (v / 128) := by rw [putV, if_neg h]

theorem putV_lt (v : Nat) : ∀ c ∈ putV v, c < 256 := by
  induction v using Nat.strongRecOn with
  | ind v ih =>
    intro c hc
    by_cases h : v < 128
    · rw [putV_small h] at hc; simp at hc; omega
    · rw [putV_big h] at hc
      rcases List.mem_cons.1 hc with e | e
      · omega
      · exact ih (v / 128) (by omega) c e

theorem putL_lt (l : List Nat) : ∀ c ∈ putL l, c < 256 := by
  intro c hc
  simp only [putL, List.mem_flatMap] at hc
  obtain ⟨v, _, h⟩ := hc
  exact putV_lt v c h

/-- How long a number is. -/
theorem putV_len {v k : Nat} (hv : v < 2 ^ (7 * (k + 1))) : (putV v).length ≤ k + 1 := by
  induction k generalizing v with
  | zero => simp only [Nat.zero_add, Nat.mul_one, Nat.reducePow] at hv; rw [putV_small hv]; simp
  | succ k ih =>
    by_cases h : v < 128
    · rw [putV_small h]; simp
    · rw [putV_big h, List.length_cons]
      have := ih (v := v / 128) (by
        rw [pow7] at hv
        exact Nat.div_lt_of_lt_mul hv)
      omega

theorem putV_len10 {v : Nat} (hv : v < 18446744073709551616) : (putV v).length ≤ 10 := putV_len (k := 9) (Nat.lt_of_lt_of_le hv (by decide))

theorem putL_len {l : List Nat} (h : ∀ v ∈ l, v < 18446744073709551616) : (putL l).length ≤ 10 * l.length := by
  induction l with
  | nil => simp [putL]
  | cons v l ih =>
    have h1 := putV_len10 (h v List.mem_cons_self)
    have h2 := ih fun x hx => h x (List.mem_cons_of_mem _ hx)
    have : putL (v :: l) = putV v ++ putL l := by simp [putL]
    rw [this, List.length_append, List.length_cons]; omega

/-- A number is read, whatever stands behind it. -/
theorem take_put {most : Nat} (rest : List Nat) : ∀ (v i w : Nat), v * 2 ^ (7 * i) < 18446744073709551616 → w < 2 ^ (7 * i) → (i > 0 → v > 0) →
    takeV most i w (putV v ++ rest) = if w + v * 2 ^ (7 * i) > most then (0, 0, 22) else (w + v * 2 ^ (7 * i), i + (putV v).length, 0) := by
  intro v
  induction v using Nat.strongRecOn with
  | ind v ih =>
    intro i w hv hw hi
    by_cases h : v < 128
    · rw [putV_small h, List.singleton_append, takeV, if_neg (by
        rintro (⟨h1, h2⟩ | ⟨h1, h2⟩)
        · have := nine hv h1; omega
        · have := hi h1; omega), if_neg (by omega), Nat.mod_eq_of_lt h, Nat.mod_eq_of_lt hv, or_add hw]
      rfl
    · have h9 : i ≠ 9 := fun e => by have := nine hv e; omega
      have hdiv : v / 128 * 2 ^ (7 * (i + 1)) + v % 128 * 2 ^ (7 * i) = v * 2 ^ (7 * i) := by
        rw [pow7, ← Nat.mul_assoc, ← Nat.add_mul]; congr 1; omega
      have hlow : v % 128 * 2 ^ (7 * i) < 18446744073709551616 := by omega
      rw [putV_big h, List.cons_append, takeV, if_neg (by rintro (⟨h1, _⟩ | ⟨_, h2⟩) <;> omega), if_pos (by omega)]
      rw [show (v % 128 + 128) % 128 = v % 128 by omega, Nat.mod_eq_of_lt hlow, or_add hw]
      have hw' : w + v % 128 * 2 ^ (7 * i) < 2 ^ (7 * (i + 1)) := by
        rw [pow7]
        have : v % 128 * 2 ^ (7 * i) ≤ 127 * 2 ^ (7 * i) := Nat.mul_le_mul_right _ (by omega)
        omega
      rw [ih (v / 128) (by omega) (i + 1) _ (by omega) hw' (fun _ => by omega)]
      rw [show w + v % 128 * 2 ^ (7 * i) + v / 128 * 2 ^ (7 * (i + 1)) = w + v * 2 ^ (7 * i) by omega, List.length_cons]
      rw [show i + 1 + (putV (v / 128)).length = i + ((putV (v / 128)).length + 1) by omega]

theorem take_put0 {most v : Nat} (rest : List Nat) (hv : v < 18446744073709551616) (hm : v ≤ most) : takeV most 0 0 (putV v ++ rest) = (v, (putV v).length, 0) := by
  rw [take_put rest v 0 0 (by simpa using hv) (by simp) (fun h => by omega), if_neg (by simp; omega)]
  simp

theorem putL_cons (v : Nat) (l : List Nat) : putL (v :: l) = putV v ++ putL l := by simp [putL]
end Go.Ab

/- Edges in groups: the numbers that they are written as. No program in sight. -/
namespace Go.Ab
open Go
set_option linter.unusedVariables false
set_option linter.unusedSimpArgs false

abbrev Nd := Nat × Nat
abbrev Gr := Nat × List Nat
def ltN (a b : Nd) : Prop := a.1 < b.1 ∨ a.1 = b.1 ∧ a.2 < b.2
instance (a b : Nd) : Decidable (ltN a b) := by unfold ltN; infer_instance
def gfl (g : Gr) : List Nd := g.2.map fun v => (g.1, v)
def gflat (gs : List Gr) : List Nd := gs.flatMap gfl
def Inc : Nat → List Nat → Prop
  | _, [] => True
  | last, v :: vs => last < v ∧ Inc v vs
def gaps : Nat → List Nat → List Nat
  | _, [] => []
  | last, v :: vs => (v - last - 1) :: gaps v vs
def gbody : Nat → List Gr → List Nat
  | _, [] => []
  | next, g :: gs => (g.1 - next) :: g.2.length :: (gaps g.1 g.2 ++ gbody (g.1 + 1) gs)
def GoodG : Nat → List Gr → Prop
  | _, [] => True
  | next, g :: gs => next ≤ g.1 ∧ g.2 ≠ [] ∧ Inc g.1 g.2 ∧ GoodG (g.1 + 1) gs
def genc (gs : List Gr) : List Nat := putL (gs.length :: gbody 0 gs)
def gnx : Nat → List Gr → Nat
  | n, [] => n
  | _, g :: gs => gnx (g.1 + 1) gs
def lastOf : Nat → List Nat → Nat
  | u, [] => u
  | _, v :: vs => lastOf v vs
def Strict (l : List Nd) : Prop := l.Pairwise ltN ∧ ∀ e ∈ l, e.1 < e.2

theorem lastOf_append {u v : Nat} {vs : List Nat} : lastOf u (vs ++ [v]) = v := by
  induction vs generalizing u with
  | nil => rfl
  | cons w vs ih => exact ih
theorem gaps_append {u v : Nat} {vs : List Nat} : gaps u (vs ++ [v]) = gaps u vs ++ [v - lastOf u vs - 1] := by
  induction vs generalizing u with
  | nil => rfl
  | cons w vs ih => simp only [List.cons_append, gaps, lastOf, ih]
theorem gaps_length {u : Nat} {vs : List Nat} : (gaps u vs).length = vs.length := by
  induction vs generalizing u with
  | nil => rfl
  | cons w vs ih => simp [gaps, ih]
theorem Inc_append {u v : Nat} {vs : List Nat} : Inc u (vs ++ [v]) ↔ Inc u vs ∧ lastOf u vs < v := by
  induction vs generalizing u with
  | nil => simp [Inc, lastOf]
  | cons w vs ih => simp only [List.cons_append, Inc, lastOf, ih, and_assoc]
theorem gnx_append {n : Nat} {gs : List Gr} {g : Gr} : gnx n (gs ++ [g]) = g.1 + 1 := by
  induction gs generalizing n with
  | nil => rfl
  | cons w vs ih => exact ih
theorem gbody_append {n : Nat} {gs : List Gr} {g : Gr} : gbody n (gs ++ [g]) = gbody n gs ++ (g.1 - gnx n gs) :: g.2.length :: gaps g.1 g.2 := by
  induction gs generalizing n with
  | nil => simp [gbody, gnx]
  | cons w vs ih => simp only [List.cons_append, gbody, gnx, ih, List.append_assoc]
theorem GoodG_append {n : Nat} {gs : List Gr} {g : Gr} : GoodG n (gs ++ [g]) ↔ GoodG n gs ∧ gnx n gs ≤ g.1 ∧ g.2 ≠ [] ∧ Inc g.1 g.2 := by
  induction gs generalizing n with
  | nil => simp [GoodG, gnx]
  | cons w vs ih => simp only [List.cons_append, GoodG, gnx, ih, and_assoc]
theorem gflat_append {a b : List Gr} : gflat (a ++ b) = gflat a ++ gflat b := by simp [gflat]
theorem gflat_one {g : Gr} : gflat [g] = gfl g := by simp [gflat]
theorem gflat_cons {g : Gr} {gs : List Gr} : gflat (g :: gs) = gfl g ++ gflat gs := by simp [gflat]
theorem putL_append {a b : List Nat} : putL (a ++ b) = putL a ++ putL b := by simp [putL]

theorem Inc_mem {u : Nat} {vs : List Nat} (h : Inc u vs) : ∀ v ∈ vs, u < v := by
  induction vs generalizing u with
  | nil => intro v hv; cases hv
  | cons w vs ih =>
    intro v hv
    rcases List.mem_cons.1 hv with rfl | hv
    · exact h.1
    · exact Nat.lt_trans h.1 (ih h.2 v hv)
theorem Inc_pw {u : Nat} {vs : List Nat} (h : Inc u vs) : vs.Pairwise (· < ·) := by
  induction vs generalizing u with
  | nil => exact .nil
  | cons w vs ih => exact List.pairwise_cons.2 ⟨Inc_mem h.2, ih h.2⟩
theorem GoodG_mem {n : Nat} {gs : List Gr} (h : GoodG n gs) : ∀ g ∈ gs, n ≤ g.1 ∧ Inc g.1 g.2 ∧ g.2 ≠ [] := by
  induction gs generalizing n with
  | nil => intro v hv; cases hv
  | cons w vs ih =>
    intro v hv
    rcases List.mem_cons.1 hv with rfl | hv
    · exact ⟨h.1, h.2.2.1, h.2.1⟩
    · have := ih h.2.2.2 v hv
      have h1 := h.1
      exact ⟨by omega, this.2⟩
theorem gfl_mem {g : Gr} {e : Nd} : e ∈ gfl g ↔ e.1 = g.1 ∧ e.2 ∈ g.2 := by
  simp only [gfl, List.mem_map]
  constructor
  · rintro ⟨v, hv, rfl⟩; exact ⟨rfl, hv⟩
  · rintro ⟨h1, h2⟩; exact ⟨e.2, h2, Prod.ext h1.symm rfl⟩
theorem gflat_mem {gs : List Gr} {e : Nd} : e ∈ gflat gs ↔ ∃ g ∈ gs, e.1 = g.1 ∧ e.2 ∈ g.2 := by
  simp only [gflat, List.mem_flatMap, gfl_mem]
theorem GoodG_strict {n : Nat} {gs : List Gr} (h : GoodG n gs) : Strict (gflat gs) := by
  refine ⟨?_, fun e he => ?_⟩
  · induction gs generalizing n with
    | nil => exact .nil
    | cons g gs ih =>
      rw [gflat_cons]
      refine List.pairwise_append.2 ⟨?_, ih h.2.2.2, fun a ha b hb => ?_⟩
      · unfold gfl
        rw [List.pairwise_map]
        exact (Inc_pw h.2.2.1).imp fun hab => .inr ⟨rfl, hab⟩
      · obtain ⟨g', hg', e1, _⟩ := gflat_mem.1 hb
        have := (GoodG_mem h.2.2.2 g' hg').1
        have := (gfl_mem.1 ha).1
        exact .inl (by omega)
  · obtain ⟨g, hg, e1, e2⟩ := gflat_mem.1 he
    have := Inc_mem (GoodG_mem h g hg).2.1 _ e2
    omega

/-- Edges are grouped in one way. -/
theorem good_one {n : Nat} {gs hs : List Gr} (h : GoodG n gs) (k : GoodG n hs) (e : gflat gs = gflat hs) : gs = hs := by
  induction gs generalizing n hs with
  | nil =>
    cases hs with
    | nil => rfl
    | cons g hs =>
      rw [gflat_cons] at e
      obtain ⟨v, vs, hv⟩ := List.exists_cons_of_ne_nil k.2.1
      simp [gflat, gfl, hv] at e
  | cons g gs ih =>
    cases hs with
    | nil =>
      rw [gflat_cons] at e
      obtain ⟨v, vs, hv⟩ := List.exists_cons_of_ne_nil h.2.1
      simp [gflat, gfl, hv] at e
    | cons g' hs =>
      have e1 : g.1 = g'.1 := by
        obtain ⟨v, vs, hv⟩ := List.exists_cons_of_ne_nil h.2.1
        obtain ⟨w, ws, hw⟩ := List.exists_cons_of_ne_nil k.2.1
        rw [gflat_cons, gflat_cons] at e
        simp only [gfl, hv, hw, List.map_cons, List.cons_append, List.cons.injEq, Prod.mk.injEq] at e
        exact e.1.1
      have part : ∀ {m : Nat} {x : Gr} {xs : List Gr}, GoodG (x.1 + 1) xs → (gflat (x :: xs)).filter (fun y => y.1 == x.1) = gfl x ∧ (gflat (x :: xs)).filter (fun y => !(y.1 == x.1)) = gflat xs := by
        intro m x xs hx
        rw [gflat_cons, List.filter_append, List.filter_append]
        have a1 : (gfl x).filter (fun y => y.1 == x.1) = gfl x := List.filter_eq_self.2 fun y hy => by simp [(gfl_mem.1 hy).1]
        have a2 : (gfl x).filter (fun y => !(y.1 == x.1)) = [] := List.filter_eq_nil_iff.2 fun y hy => by simp [(gfl_mem.1 hy).1]
        have hne : ∀ y ∈ gflat xs, y.1 ≠ x.1 := fun y hy => by
          obtain ⟨z, hz, e1, _⟩ := gflat_mem.1 hy
          have := (GoodG_mem hx z hz).1
          omega
        have b1 : (gflat xs).filter (fun y => y.1 == x.1) = [] := List.filter_eq_nil_iff.2 fun y hy => by simp [hne y hy]
        have b2 : (gflat xs).filter (fun y => !(y.1 == x.1)) = gflat xs := List.filter_eq_self.2 fun y hy => by simp [hne y hy]
        rw [a1, a2, b1, b2]; simp
      obtain ⟨p1, p2⟩ := part (m := 0) h.2.2.2
      obtain ⟨q1, q2⟩ := part (m := 0) k.2.2.2
      rw [e, e1] at p1 p2
      have r1 := p1.symm.trans q1
      have r2 := p2.symm.trans q2
      have r3 : g.2 = g'.2 := by
        have := congrArg (List.map (·.2)) r1
        unfold gfl at this
        rw [List.map_map, List.map_map] at this
        have id1 : ∀ (a : Nat), ((fun (x : Nd) => x.2) ∘ fun v => (a, v)) = id := fun a => rfl
        rw [id1, id1, List.map_id, List.map_id] at this
        exact this
      have hg : g = g' := Prod.ext e1 r3
      subst hg
      rw [ih h.2.2.2 k.2.2.2 r2]

/-- Reading. -/
def eIn (n u : Nat) : Nat → Nat → List Nat → Bool → List Nd → List Nat × Bool × List Nd
  | 0, _, bs, ok, out => (bs, ok, out)
  | k + 1, last, bs, ok, out =>
    if ok = true then
      if (takeV 4294967295 0 0 bs).2.2 = 0 ∧ (last + ((takeV 4294967295 0 0 bs).1 + 1)) % 18446744073709551616 < n ∧ (last + ((takeV 4294967295 0 0 bs).1 + 1)) % 18446744073709551616 ≤ 4294967295 then
        eIn n u k ((last + ((takeV 4294967295 0 0 bs).1 + 1)) % 18446744073709551616) (bs.drop (takeV 4294967295 0 0 bs).2.1) true (out ++ [(u % 4294967296, (last + ((takeV 4294967295 0 0 bs).1 + 1)) % 18446744073709551616)])
      else (bs.drop (takeV 4294967295 0 0 bs).2.1, false, out)
    else (bs, false, out)

def eOut (n : Nat) : Nat → Nat → List Nat → Bool → List Nd → List Nat × Bool × List Nd
  | 0, _, bs, ok, out => (bs, ok, out)
  | m + 1, next, bs, ok, out =>
    if ok = true then
      let r := takeV 4294967295 0 0 bs
      let u := (next + r.1) % 18446744073709551616
      let q := takeV 4294967295 0 0 (bs.drop r.2.1)
      let z := eIn n u q.1 u ((bs.drop r.2.1).drop q.2.1) (decide (r.2.2 = 0) && decide (q.2.2 = 0)) out
      eOut n m ((u + 1) % 18446744073709551616) z.1 z.2.1 z.2.2
    else (bs, false, out)

def eRead (n : Nat) (bs : List Nat) : List Nat × Bool × List Nd :=
  eOut n (takeV 4294967295 0 0 bs).1 0 (bs.drop (takeV 4294967295 0 0 bs).2.1) (decide ((takeV 4294967295 0 0 bs).2.2 = 0)) []

theorem takeV_some {most : Nat} : ∀ (bs : List Nat) (i v : Nat), ((takeV most i v bs).2.2 = 0 ∧ i + 1 ≤ (takeV most i v bs).2.1 ∧ (takeV most i v bs).2.1 ≤ i + bs.length ∧ (takeV most i v bs).1 ≤ most) ∨ ((takeV most i v bs).2.2 ≠ 0 ∧ (takeV most i v bs).2.1 = 0 ∧ (takeV most i v bs).1 = 0 ∧ (takeV most i v bs).2.2 ≤ 22) := by
  intro bs
  induction bs with
  | nil => intro i v; exact .inr ⟨by simp [takeV], rfl, rfl, by simp [takeV]⟩
  | cons c bs ih =>
    intro i v
    rw [takeV]
    split
    · exact .inr ⟨by simp, rfl, rfl, by simp⟩
    · split
      · rcases ih (i + 1) (v ||| ((c % 128) * 2 ^ (7 * i) % 18446744073709551616)) with ⟨a, b, c', d⟩ | h
        · exact .inl ⟨a, by omega, by rw [List.length_cons]; omega, d⟩
        · exact .inr h
      · split
        · exact .inr ⟨by simp, rfl, rfl, by simp⟩
        · exact .inl ⟨rfl, Nat.le_refl _, by rw [List.length_cons]; show i + 1 ≤ _; omega, by show (v ||| _) ≤ most; omega⟩

/-- All that are read are fit. -/
def FitE (n : Nat) (l : List Nd) : Prop := ∀ e ∈ l, e.1 ≤ 4294967295 ∧ e.2 ≤ 4294967295 ∧ e.2 < n
theorem FitE.snoc {n : Nat} {l : List Nd} {e : Nd} (h : FitE n l) (he : e.1 ≤ 4294967295 ∧ e.2 ≤ 4294967295 ∧ e.2 < n) : FitE n (l ++ [e]) := fun x hx => by
  rcases List.mem_append.1 hx with hx | hx
  · exact h x hx
  · rw [List.mem_singleton.1 hx]; exact he
theorem eIn_inv {n u L : Nat} : ∀ (k last : Nat) (bs : List Nat) (ok : Bool) (out : List Nd), FitE n out → out.length + bs.length ≤ L →
    FitE n (eIn n u k last bs ok out).2.2 ∧ (eIn n u k last bs ok out).2.2.length + (eIn n u k last bs ok out).1.length ≤ L := by
  intro k
  induction k with
  | zero => intro last bs ok out h1 h2; exact ⟨h1, h2⟩
  | succ k ih =>
    intro last bs ok out h1 h2
    rw [eIn]
    split
    · split
      · rename_i h3 h4
        rcases takeV_some (most := 4294967295) bs 0 0 with ⟨a, b, c, d⟩ | ⟨a, _⟩
        · exact ih _ _ _ _ (h1.snoc ⟨by show _ % _ ≤ _; omega, h4.2.2, h4.2.1⟩) (by rw [List.length_append, List.length_drop, List.length_singleton]; omega)
        · exact absurd h4.1 a
      · exact ⟨h1, by rw [List.length_drop]; show out.length + _ ≤ L; omega⟩
    · exact ⟨h1, h2⟩
theorem eOut_inv {n L : Nat} : ∀ (m next : Nat) (bs : List Nat) (ok : Bool) (out : List Nd), FitE n out → out.length + bs.length ≤ L →
    FitE n (eOut n m next bs ok out).2.2 ∧ (eOut n m next bs ok out).2.2.length + (eOut n m next bs ok out).1.length ≤ L := by
  intro m
  induction m with
  | zero => intro last bs ok out h1 h2; exact ⟨h1, h2⟩
  | succ k ih =>
    intro next bs ok out h1 h2
    rw [eOut]
    split
    · have := eIn_inv (n := n) (u := (next + (takeV 4294967295 0 0 bs).1) % 18446744073709551616) (L := L) (takeV 4294967295 0 0 (bs.drop (takeV 4294967295 0 0 bs).2.1)).1 ((next + (takeV 4294967295 0 0 bs).1) % 18446744073709551616) ((bs.drop (takeV 4294967295 0 0 bs).2.1).drop (takeV 4294967295 0 0 (bs.drop (takeV 4294967295 0 0 bs).2.1)).2.1) (decide ((takeV 4294967295 0 0 bs).2.2 = 0) && decide ((takeV 4294967295 0 0 (bs.drop (takeV 4294967295 0 0 bs).2.1)).2.2 = 0)) out h1 (by simp only [List.length_drop]; omega)
      exact ih _ _ _ _ this.1 this.2
    · exact ⟨h1, h2⟩
theorem eRead_inv (n : Nat) (bs : List Nat) : FitE n (eRead n bs).2.2 ∧ (eRead n bs).2.2.length ≤ bs.length := by
  have := eOut_inv (n := n) (L := bs.length) (takeV 4294967295 0 0 bs).1 0 (bs.drop (takeV 4294967295 0 0 bs).2.1) (decide ((takeV 4294967295 0 0 bs).2.2 = 0)) [] (fun e he => absurd he (by simp)) (by simp)
  unfold eRead
  exact ⟨this.1, by omega⟩

/-- What is written is read. -/
theorem eIn_good {n u : Nat} (hu : u ≤ 4294967295) : ∀ (vs : List Nat) (last : Nat) (rest : List Nat) (out : List Nd), Inc last vs → (∀ v ∈ vs, v < n ∧ v ≤ 4294967295) →
    eIn n u vs.length last (putL (gaps last vs) ++ rest) true out = (rest, true, out ++ gfl (u, vs)) := by
  intro vs
  induction vs with
  | nil => intro last rest out _ _; simp [eIn, gaps, putL, gfl]
  | cons v vs ih =>
    intro last rest out h1 h2
    have hv := h2 v List.mem_cons_self
    have h3 := h1.1
    have e1 : takeV 4294967295 0 0 (putL (gaps last (v :: vs)) ++ rest) = (v - last - 1, (putV (v - last - 1)).length, 0) := by
      rw [gaps, putL_cons, List.append_assoc]
      exact take_put0 _ (by omega) (by omega)
    have e2 : (putL (gaps last (v :: vs)) ++ rest).drop (putV (v - last - 1)).length = putL (gaps v vs) ++ rest := by
      rw [gaps, putL_cons, List.append_assoc, List.drop_left]
    rw [List.length_cons, eIn, e1, e2, if_pos rfl]
    have e3 : (last + ((v - last - 1) + 1)) % 18446744073709551616 = v := by omega
    simp only [e3]
    rw [if_pos ⟨trivial, hv⟩, ih v rest _ h1.2 (fun x hx => h2 x (List.mem_cons_of_mem _ hx)), Nat.mod_eq_of_lt (by omega), List.append_assoc]
    rfl
theorem eOut_good {n : Nat} : ∀ (gs : List Gr) (next : Nat) (out : List Nd), GoodG next gs → (∀ e ∈ gflat gs, e.2 < n ∧ e.2 ≤ 4294967295) → (∀ g ∈ gs, g.2.length ≤ 4294967295) →
    eOut n gs.length next (putL (gbody next gs)) true out = ([], true, out ++ gflat gs) := by
  intro gs
  induction gs with
  | nil => intro next out _ _ _; simp [eOut, gbody, putL, gflat]
  | cons g gs ih =>
    intro next out h1 h2 h4
    obtain ⟨a1, a2, a3, a4⟩ := h1
    have hg : ∀ v ∈ g.2, v < n ∧ v ≤ 4294967295 := fun v hv => h2 (g.1, v) (by rw [gflat_cons]; exact List.mem_append_left _ (gfl_mem.2 ⟨rfl, hv⟩))
    have hu : g.1 < 4294967295 := by
      obtain ⟨v, vs, hv⟩ := List.exists_cons_of_ne_nil a2
      have b1 := Inc_mem a3 v (by rw [hv]; exact List.mem_cons_self)
      have b2 := hg v (by rw [hv]; exact List.mem_cons_self)
      omega
    have hl := h4 g List.mem_cons_self
    have e1 : takeV 4294967295 0 0 (putL (gbody next (g :: gs))) = (g.1 - next, (putV (g.1 - next)).length, 0) := by
      rw [gbody, putL_cons]
      exact take_put0 _ (by omega) (by omega)
    have e2 : (putL (gbody next (g :: gs))).drop (putV (g.1 - next)).length = putL (g.2.length :: (gaps g.1 g.2 ++ gbody (g.1 + 1) gs)) := by
      rw [gbody, putL_cons, List.drop_left]
    have e3 : takeV 4294967295 0 0 (putL (g.2.length :: (gaps g.1 g.2 ++ gbody (g.1 + 1) gs))) = (g.2.length, (putV g.2.length).length, 0) := by
      rw [putL_cons]
      exact take_put0 _ (by omega) (by omega)
    have e4 : (putL (g.2.length :: (gaps g.1 g.2 ++ gbody (g.1 + 1) gs))).drop (putV g.2.length).length = putL (gaps g.1 g.2) ++ putL (gbody (g.1 + 1) gs) := by
      rw [putL_cons, List.drop_left, putL_append]
    have e5 : (next + (g.1 - next)) % 18446744073709551616 = g.1 := by omega
    rw [List.length_cons, eOut, if_pos rfl]
    simp only [e1, e2, e3, e4, e5, decide_true, Bool.and_self]
    rw [eIn_good (by omega) g.2 g.1 _ out a3 hg]
    simp only []
    rw [Nat.mod_eq_of_lt (by omega), ih _ _ a4 (fun e he => h2 e (by rw [gflat_cons]; exact List.mem_append_right _ he)) (fun x hx => h4 x (List.mem_cons_of_mem _ hx)), gflat_cons, List.append_assoc]
theorem gbody_len {next : Nat} {gs : List Gr} : 2 * gs.length + (gflat gs).length = (gbody next gs).length := by
  induction gs generalizing next with
  | nil => rfl
  | cons g gs ih =>
    have := ih (next := g.1 + 1)
    rw [gbody, gflat_cons]
    simp only [List.length_cons, List.length_append, gaps_length, gfl, List.length_map]
    omega
theorem gflat_len {gs : List Gr} : ∀ g ∈ gs, g.2.length ≤ (gflat gs).length := by
  induction gs with
  | nil => intro g hg; cases hg
  | cons w gs ih =>
    intro g hg
    rw [gflat_cons, List.length_append]
    rcases List.mem_cons.1 hg with rfl | hg
    · simp [gfl]
    · have := ih g hg; omega
theorem eRead_good {n : Nat} {gs : List Gr} (h : GoodG 0 gs) (hf : ∀ e ∈ gflat gs, e.2 < n ∧ e.2 ≤ 4294967295) (hl : (genc gs).length ≤ 1000000) : eRead n (genc gs) = ([], true, gflat gs) := by
  have h1 := putL_length (gs.length :: gbody 0 gs)
  rw [show putL (gs.length :: gbody 0 gs) = genc gs from rfl, List.length_cons, ← gbody_len] at h1
  have e1 : takeV 4294967295 0 0 (genc gs) = (gs.length, (putV gs.length).length, 0) := by
    rw [genc, putL_cons]
    exact take_put0 _ (by omega) (by omega)
  have e2 : (genc gs).drop (putV gs.length).length = putL (gbody 0 gs) := by
    rw [genc, putL_cons, List.drop_left]
  unfold eRead
  simp only [e1, e2, decide_true]
  rw [eOut_good gs 0 [] h hf (fun g hg => by have := gflat_len g hg; omega)]
  rfl

/-- What bytes are: edges that fit. -/
def AdjIs (n : Nat) (bs : List Nat) (l : List Nd) : Prop := ∃ gs, GoodG 0 gs ∧ gflat gs = l ∧ genc gs = bs ∧ ∀ e ∈ l, e.2 < n ∧ e.2 ≤ 4294967295

end Go.Ab
