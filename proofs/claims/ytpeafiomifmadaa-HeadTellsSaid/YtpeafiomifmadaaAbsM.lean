/- Walks on the abstract machine: rows that are read, rows of one's own. -/
import Derived.Test.YtpeafiomifmadaaAbsL
namespace Go.Ab
open Go
set_option linter.unusedVariables false
set_option linter.unusedSimpArgs false
structure Up (n : Nat) (st st' : St) : Prop where
 le : n ≤ st.next
 next : st.next ≤ st'.next
 same : ∀ o, o < n → st'.get o = st.get o
 low : st.Low → st'.Low
theorem Up.refl {n : Nat} {st : St} (h : n ≤ st.next) : Up n st st := ⟨h, Nat.le_refl _, fun _ _ => rfl, fun h => h⟩
theorem Up.trans {n : Nat} {a b c : St} (h : Up n a b) (k : Up n b c) : Up n a c := ⟨h.le, Nat.le_trans h.next k.next, fun o ho => (k.same o ho).trans (h.same o ho), fun l => k.low (h.low l)⟩
theorem Up.mono {n m : Nat} {a b : St} (h : Up n a b) (k : m ≤ n) : Up m a b := ⟨Nat.le_trans k h.le, h.next, fun o ho => h.same o (Nat.lt_of_lt_of_le ho k), h.low⟩
theorem Up.push {n : Nat} {st : St} (x : Obj) (h : n ≤ st.next) : Up n st (st.push x) := ⟨h, by rw [St.next_push]; omega, fun o ho => by rw [St.get_push, if_neg (by omega)], fun l o y e => by
 rw [St.get_push] at e
 rw [St.next_push]
 split at e
 ·omega
 ·have := l o y e; omega⟩
theorem Up.set {n : Nat} {st : St} {o : Nat} (x : Obj) (h : n ≤ st.next) (ho : n ≤ o) (hl : o < st.next) : Up n st (st.set o x) := ⟨h, Nat.le_refl _, fun p hp => by rw [St.get_set, if_neg (by omega)], fun l p y e => by
 rw [St.get_set] at e
 split at e
 ·rename_i hp; subst hp; exact hl
 ·exact l p y e⟩
inductive Slc (st : St) (esz : Nat) : V → List (List V) → Prop where
 | nil : Slc st esz .nils []
 | row {o g off ln : Nat} {cap : Option Nat} {row : List (List V)} {gen live : Nat} {ro : Bool} {es : List (List V)} (h : st.get o = some (.row row gen live ro)) (hl : live ≤ g) (hb : off + ln ≤ row.length) (he : cut row off ln = es) : Slc st esz (.sl o g off ln esz cap) es
inductive Own (st : St) (n esz : Nat) : V → List (List V) → Prop where
 | nil : Own st n esz .nils []
 | row {o g live : Nat} {es : List (List V)} (h : st.get o = some (.row es g live false)) (hl : live ≤ g) (hn : n ≤ o) (hlt : o < st.next) : Own st n esz (.sl o g 0 es.length esz none) es
theorem part_all {α : Type} (l : List α) : cut l 0 l.length = l := by simp [cut]
theorem part_length {α : Type} {l : List α} {a n : Nat} (h : a + n ≤ l.length) : (cut l a n).length = n := by simp [cut]; omega
theorem part_get {α : Type} {l : List α} {a n i : Nat} (h : i < n) : (cut l a n)[i]? = l[a + i]? := by
 unfold cut
 rw [List.getElem?_take, if_pos h, List.getElem?_drop]
theorem part_cut {α : Type} {l : List α} {a n b m : Nat} (h : b + m ≤ n) : cut (cut l a n) b m = cut l (a + b) m := by
 unfold cut
 rw [List.drop_take, List.drop_drop, List.take_take]
 congr 1; omega
theorem Own.slc {st : St} {n esz : Nat} {x : V} {es : List (List V)} (h : Own st n esz x es) : Slc st esz x es := by
 cases h with
 | nil => exact .nil
 | row h hl _ _ => exact .row h hl (by omega) (part_all _)
theorem Slc.up {st st' : St} {esz : Nat} {x : V} {es : List (List V)} (h : Slc st esz x es) (l : st.Low) (u : Up st.next st st') : Slc st' esz x es := by
 cases h with
 | nil => exact .nil
 | row h hl hb he => exact .row (by rw [u.same _ (l _ _ h)]; exact h) hl hb he
theorem Own.up {st st' : St} {n esz : Nat} {x : V} {es : List (List V)} (h : Own st n esz x es) (u : Up st.next st st') : Own st' n esz x es := by
 cases h with
 | nil => exact .nil
 | row h hl hn hlt => exact .row (by rw [u.same _ hlt]; exact h) hl hn (Nat.lt_of_lt_of_le hlt u.next)
theorem Own.sl {st : St} {n esz : Nat} {x : V} {es : List (List V)} (h : Own st n esz x es) (hne : es ≠ []) : ∃ o g, x = .sl o g 0 es.length esz none ∧ n ≤ o ∧ o < st.next := by
 cases h with
 | nil => exact absurd rfl hne
 | row h hl hn hlt => exact ⟨_, _, rfl, hn, hlt⟩
theorem Own.lower {st : St} {n m esz : Nat} {x : V} {es : List (List V)} (h : Own st n esz x es) (k : m ≤ n) : Own st m esz x es := by
 cases h with
 | nil => exact .nil
 | row h hl hn hlt => exact .row h hl (Nat.le_trans k hn) hlt
theorem Slc.keep {st st' : St} {n esz : Nat} {x : V} {es : List (List V)} (h : Slc st esz x es) (hb : ∀ o g off ln e c, x = .sl o g off ln e c → o < n) (u : Up n st st') : Slc st' esz x es := by
 cases h with
 | nil => exact .nil
 | row h hl hb' he => exact .row (by rw [u.same _ (hb _ _ _ _ _ _ rfl)]; exact h) hl hb' he
theorem Slc.len {st : St} {esz : Nat} {x : V} {es : List (List V)} (h : Slc st esz x es) {env : Env} {o : Opd} (he : o.ev env = x) : (IOp.len .sl o).ex env st = some (.int .i64 es.length, st) := by
 cases h with
 | nil => simp [IOp.ex, he]
 | row h hl hb hes => subst hes; simp [IOp.ex, he, part_length hb]
theorem Slc.one {st : St} {esz : Nat} {x : V} {es : List (List V)} (h : Slc st esz x es) : cellsOf x = some [x] ∧ V.one x = true := by
 cases h <;> exact ⟨rfl, rfl⟩
theorem Slc.elems {st : St} {esz : Nat} {x : V} {es : List (List V)} (h : Slc st esz x es) : st.elems esz x = some es := by
 cases h with
 | nil => rfl
 | row h hl hb hes => simp [St.elems, h, hl, hb, hes]
theorem Slc.at {st : St} {esz : Nat} {x : V} {es : List (List V)} (h : Slc st esz x es) {i : Nat} {e : List V} (hi : es[i]? = some e) {env : Env} {a b : Opd} {k : IntKind} (ha : a.ev env = x) (hb : b.ev env = .int k (i : Int)) :
  ∃ o g j, (IOp.iaddr esz a b).ex env st = some (.ptr o g j 0, st) ∧ ∀ s n agg, s + n ≤ e.length → st.load (.ptr o g j s) n agg = ofCells agg (cut e s n) := by
 cases h with
 | nil => cases hi
 | row h hl hbd hes =>
  subst hes
  rename_i o g off ln cap row gen live ro
  have hlt : i < ln := by
   have := (List.getElem?_eq_some_iff.1 hi).1
   rwa [part_length hbd] at this
  rw [part_get hlt] at hi
  refine ⟨o, g, off + i, by simp [IOp.ex, ha, hb, hlt], fun s n agg hs => ?_⟩
  simp [St.load, h, hl, hi, hs]
theorem Own.append {st : St} {n esz bytes : Nat} {x : V} {es ys : List (List V)} (h : Own st n esz x es) (hn : n ≤ st.next) (hr : (es.length + ys.length) * bytes ≤ room) :
  ∃ x' st', st.append esz bytes x ys = some (x', st') ∧ Own st' n esz x' (es ++ ys) ∧ Up n st st' := by
 cases h with
 | nil =>
  simp only [List.nil_append, List.length_nil, Nat.zero_add] at hr ⊢
  by_cases hy : ys = []
  ·subst hy
   exact ⟨.nils, st, by simp [St.append], .nil, .refl hn⟩
  ·refine ⟨.sl st.next 0 0 ys.length esz none, st.push (.row ys 0 0 false), by simp [St.append, hy, hr], ?_, Up.push _ hn⟩
   exact .row (by rw [St.get_push, if_pos rfl]) (Nat.le_refl _) hn (by rw [St.next_push]; omega)
 | row h hl hno hlt =>
  rename_i o g live
  by_cases hy : ys = []
  ·subst hy
   exact ⟨.sl o g 0 es.length esz none, st, by simp [St.append], by rw [List.append_nil]; exact .row h hl hno hlt, .refl hn⟩
  ·refine ⟨.sl o (g + 1) 0 (es.length + ys.length) esz none, st.set o (.row (es ++ ys) (g + 1) live false), by simp [St.append, hy, h, hr], ?_, Up.set _ hn hno hlt⟩
   rw [show es.length + ys.length = (es ++ ys).length by simp]
   exact .row (live := live) (by simp [St.get_set]) (by omega) hno hlt
theorem Own.append_old {st st' : St} {n esz bytes : Nat} {x x' : V} {es ys : List (List V)} (h : Own st n esz x es) (ha : st.append esz bytes x ys = some (x', st')) : Slc st' esz x es := by
 cases h with
 | nil => exact .nil
 | row h hl hno hlt =>
  rename_i o g live
  by_cases hy : ys = []
  ·subst hy
   simp [St.append] at ha
   obtain ⟨_, rfl⟩ := ha
   exact .row h hl (by omega) (cut_all _)
  ·simp [St.append, hy, h] at ha
   obtain ⟨_, _, rfl⟩ := ha
   exact .row (gen := g + 1) (live := live) (by rw [St.get_set, if_pos rfl]) hl (by simp) (by simp [cut])
theorem Own.new {st : St} (es : List (List V)) {n esz : Nat} (hn : n ≤ st.next) : Own (st.push (.row es 0 0 false)) n esz (.sl st.next 0 0 es.length esz none) es :=
 .row (by rw [St.get_push, if_pos rfl]) (Nat.le_refl _) hn (by rw [St.next_push]; omega)
theorem slc_new {st : St} (es : List (List V)) (esz : Nat) : Slc (st.push (.row es 0 0 false)) esz (.sl st.next 0 0 es.length esz none) es := (Own.new (n := 0) es (Nat.zero_le _)).slc
theorem Slc.slice {st : St} {esz : Nat} {x : V} {es : List (List V)} (h : Slc st esz x es) {lo hi : Option V} {a b : Nat} (ha : lo = none ∧ a = 0 ∨ ∃ k, lo = some (.int k (a : Int))) (hb : hi = none ∧ b = es.length ∨ ∃ k, hi = some (.int k (b : Int))) (h1 : a ≤ b) (h2 : b ≤ es.length) :
  ∃ y, V.slice false esz x lo hi none = some y ∧ Slc st esz y (cut es a (b - a)) := by
 have hlo : optInt lo = some (if lo = none then none else some (a : Int)) ∧ (if lo = none then none else some (a : Int)).getD (0 : Int) = a := by
  rcases ha with ⟨rfl, rfl⟩ | ⟨k, rfl⟩ <;> simp [optInt]
 have hhi : optInt hi = some (if hi = none then none else some (b : Int)) ∧ (if hi = none then none else some (b : Int)).getD (es.length : Int) = b := by
  rcases hb with ⟨rfl, rfl⟩ | ⟨k, rfl⟩ <;> simp [optInt]
 cases h with
 | nil =>
  simp only [List.length_nil] at h2 hhi
  have : b = 0 := by omega
  have : a = 0 := by omega
  subst_vars
  refine ⟨.nils, ?_, ?_⟩
  ·unfold V.slice
   rw [hlo.1, hhi.1]
   simp only [optInt]
   rw [hlo.2]
   have := hhi.2
   simp only [Int.natCast_zero] at this
   rw [show (((0 : Nat) : Int)) = 0 from rfl] at *
   simp only [this, and_self, if_true]
  ·simp only [cut]; simp; exact .nil
 | row h hl hbd hes =>
  rename_i o g off ln cap row gen live ro
  subst hes
  rw [part_length hbd] at h2 hhi
  refine ⟨.sl o g (off + a) (b - a) esz (cap.map fun c => c - a), ?_, .row h hl (by omega) ?_⟩
  ·unfold V.slice
   rw [hlo.1, hhi.1]
   simp only [optInt]
   rw [hlo.2, hhi.2]
   rw [if_pos ⟨trivial, by omega, by omega, by omega⟩]
   have e1 : ((a : Nat) : Int).toNat = a := by omega
   have e2 : ((b : Nat) - (a : Nat) : Int).toNat = b - a := by omega
   simp only [e1, e2]
  ·rw [part_cut (by omega)]
theorem Low_push {st : St} {x : Obj} (l : st.Low) : (st.push x).Low := (Up.push (n := 0) x (Nat.zero_le _)).low l
end Go.Ab
