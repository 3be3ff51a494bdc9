/- Events of a block: the bits that they are written as. No program in sight. -/
import Derived.Test.YtbkbelaogegpgaaHistP
import Derived.Test.YtbkbelaogegpgaaDelW
namespace Go.Ab
open Go
set_option linter.unusedVariables false
set_option linter.unusedSimpArgs false
def dgap (last e : Ev) : Nat := (e.1 - last.1 + 1).toNat
def dsame (last : Ev) (any : Bool) (e : Ev) : Bool := any && decide (e.1 = last.1)
def du (last : Ev) (any : Bool) (e : Ev) : Nat := if dsame last any e = true then (e.2.1 + 1 - last.2.1).toNat else (e.2.1 + 1).toNat
def dv (last : Ev) (any : Bool) (e : Ev) : Nat := if dsame last any e = true ∧ e.2.1 = last.2.1 then (e.2.2.1 - last.2.2.1).toNat else (e.2.2.1 - e.2.1).toNat
def dbits (last : Ev) (any : Bool) (e : Ev) : List Bool := gbits (dgap last e) ++ ([e.2.2.2] ++ (gbits (du last any e) ++ gbits (dv last any e)))
def dall : Ev → Bool → List Ev → List Bool
 | _, _, [] => []
 | last, any, e :: r => dbits last any e ++ dall e true r
def ev0 (first : Int) : Ev := (first, 0, 0, false)
def db (first : Int) (l : List Ev) : List Bool := dall (ev0 first) false l
def DNext (last : Ev) (any : Bool) (e : Ev) : Prop :=
 (0 ≤ last.1 ∧ last.1 ≤ e.1 ∧ e.1 ≤ 4611686018427387903) ∧ (0 ≤ e.2.1 ∧ e.2.1 < e.2.2.1 ∧ e.2.2.1 ≤ 4294967295) ∧ (0 ≤ last.2.1 ∧ last.2.1 ≤ 4294967295 ∧ 0 ≤ last.2.2.1 ∧ last.2.2.1 ≤ 4294967295) ∧ (any = true → last.2.1 < last.2.2.1) ∧
 (any = true → e.1 = last.1 → last.2.1 ≤ e.2.1 ∧ (e.2.1 = last.2.1 → last.2.2.1 < e.2.2.1))
def DCh : Ev → Bool → List Ev → Prop
 | _, _, [] => True
 | last, any, e :: r => DNext last any e ∧ DCh e true r
def RightD (first : Int) (l : List Ev) : Prop := (∀ e ∈ l, 0 ≤ e.1 ∧ e.1 ≤ 4611686018427387903 ∧ e.2.1 < e.2.2.1) ∧ RisV l ∧ (∀ e r, l = e :: r → e.1 = first)
theorem DNext.gap {last e : Ev} {any : Bool} (h : DNext last any e) : 1 ≤ dgap last e ∧ dgap last e ≤ 4611686018427387904 := by
 have := h.1
 unfold dgap
 omega
theorem DNext.u {last e : Ev} {any : Bool} (h : DNext last any e) : 1 ≤ du last any e ∧ du last any e ≤ 4294967296 := by
 have h1 := h.2.1
 have h2 := h.2.2.2.2
 have h3 := h.2.2.1
 unfold du
 split
 ·rename_i hs
  unfold dsame at hs
  simp only [Bool.and_eq_true, decide_eq_true_eq] at hs
  have := h2 hs.1 hs.2
  omega
 ·omega
theorem DNext.v {last e : Ev} {any : Bool} (h : DNext last any e) : 1 ≤ dv last any e ∧ dv last any e ≤ 4294967296 := by
 have h1 := h.2.1
 have h2 := h.2.2.2.2
 have h3 := h.2.2.1
 unfold dv
 split
 ·rename_i hs
  unfold dsame at hs
  simp only [Bool.and_eq_true, decide_eq_true_eq] at hs
  have := h2 hs.1.1 hs.1.2
  omega
 ·omega
theorem gbits_le {v : Nat} (h : v < 18446744073709551616) : (gbits v).length ≤ 128 := by
 rw [gbits_length]
 have := nb_bound (v := v) (n := 64) h
 omega
theorem dbits_le {last e : Ev} {any : Bool} (h : DNext last any e) : (dbits last any e).length ≤ 400 := by
 have a := gbits_le (v := dgap last e) (by have := h.gap; omega)
 have b := gbits_le (v := du last any e) (by have := h.u; omega)
 have c := gbits_le (v := dv last any e) (by have := h.v; omega)
 unfold dbits
 simp only [List.length_append, List.length_singleton]
 omega
theorem dall_le : ∀ (l : List Ev) (last : Ev) (any : Bool), DCh last any l → (dall last any l).length ≤ 400 * l.length
 | [], _, _, _ => by simp [dall]
 | e :: r, last, any, h => by
  have := dbits_le h.1
  have := dall_le r e true h.2
  rw [dall, List.length_append, List.length_cons]; omega
theorem right_chain : ∀ (l : List Ev) (last : Ev) (any : Bool), (∀ e ∈ l, 0 ≤ e.1 ∧ e.1 ≤ 4611686018427387903 ∧ e.2.1 < e.2.2.1) → EvOk l → RisV l → (0 ≤ last.2.1 ∧ last.2.1 ≤ 4294967295 ∧ 0 ≤ last.2.2.1 ∧ last.2.2.1 ≤ 4294967295) → (any = true → last.2.1 < last.2.2.1) →
  (∀ e r, l = e :: r → 0 ≤ last.1 ∧ last.1 ≤ e.1 ∧ (any = true → ltV last e)) → DCh last any l
 | [], _, _, _, _, _, _, _, _ => trivial
 | e :: r, last, any, h1, h2, h3, h4, h5, h6 => by
  obtain ⟨a, b, c⟩ := h6 e r rfl
  have p := h1 e List.mem_cons_self
  have q := h2 e List.mem_cons_self
  have s := List.pairwise_cons.1 h3
  refine ⟨⟨⟨a, b, p.2.1⟩, ⟨q.1.1, p.2.2, q.2.2⟩, h4, h5, fun ha ht => ?_⟩, right_chain r e true (fun x hx => h1 x (List.mem_cons_of_mem _ hx)) (fun x hx => h2 x (List.mem_cons_of_mem _ hx)) s.2 ⟨q.1.1, q.1.2, q.2.1, q.2.2⟩ (fun _ => p.2.2) (fun x y hxy => ?_)⟩
  ·have := c ha
   unfold ltV ltE edOf at this
   simp only at this
   omega
  ·have hm : x ∈ r := by rw [hxy]; exact List.mem_cons_self
   have hx := s.1 x hm
   exact ⟨p.1, ltV_le hx, fun _ => hx⟩
theorem RightD.chain {first : Int} {l : List Ev} (h : RightD first l) (ho : EvOk l) : DCh (ev0 first) false l := by
 refine right_chain l (ev0 first) false h.1 ho h.2.1 (by unfold ev0; simp only; omega) (fun h => by cases h) fun e r hl => ?_
 have h1 := h.2.2 e r hl
 have h2 := h.1 e (by rw [hl]; exact List.mem_cons_self)
 unfold ev0
 exact ⟨by simp only; omega, by simp only; omega, fun h => by cases h⟩
end Go.Ab
