/- From the row's template to the start of a law's call. -/
import Derived.Test.YtpeafiomifmadaaAbsN
import Derived.ProofKit
namespace Go.Ab
open Go Go.RowKit
set_option linter.unusedVariables false
set_option linter.unusedSimpArgs false
def IsRow (k : IntKind) (w : World) (a : Option Addr) (len cap : Nat) (zs : List Int) : Prop :=
 (a = none ∧ len = 0 ∧ cap = 0 ∧ zs = []) ∨
 ∃ x, a = some x ∧ len ≤ cap ∧ cap ≤ maxLen ∧ zs.length = cap ∧ (∀ i, i < zs.length → w.cell? (x.add i) = some (.int k (zs.getD i 0))) ∧ (∀ n ∈ zs, (Lit.int k n).wf = true) ∧ ∃ arr t fr, w.heap[x.block]? = some (.cells arr t fr)
theorem block_of_okWide {P : Program} {w : World} {r : Reach} {base : Nat} {t e : TypeId} {a : Addr} {len cap : Nat} (ht : P.underlying t = some (.slice e)) (h : Value.okWide P w r base t (.slice (some a) len cap)) : ∃ arr t fr, w.heap[a.block]? = some (.cells arr t fr) := by
 unfold Value.okWide at h
 simp only [ht] at h
 unfold Cell.okWide at h
 simp only [ht] at h
 unfold Cell.ok at h
 simp only [ht] at h
 obtain ⟨_, _, hh⟩ := h
 unfold World.has at hh
 obtain ⟨_, _, row, cells, hs, _⟩ := hh
 unfold World.shape? at hs
 split at hs
 ·rename_i c elem fr hc; exact ⟨c, elem, fr, hc⟩
 ·cases hs
theorem Start.arg {φ : Phi} {st : St} {w : World} (h : Start φ st w) {k : IntKind} {a : Option Addr} {len cap : Nat} {zs : List Int} (hr : IsRow k w a len cap zs) :
  ∃ φ' st' x, Start φ' st' w ∧ φ.le φ' ∧ Up st.next st st' ∧ VR φ' x (.slice a len cap) ∧ Slc st' 1 x ((zs.take len).map fun n => [.int k n]) := by
 rcases hr with ⟨rfl, rfl, rfl, rfl⟩ | ⟨x, rfl, h1, h2, h3, h4, h5, arr, t, fr, h6⟩
 ·exact ⟨φ, st, .nils, h, φ.le_refl, .refl (Nat.le_refl _), VR_nils, .nil⟩
 ·obtain ⟨φ', st', y, k1, k2, k3, k4, k5, rfl, rfl⟩ := h.ints h6 h1 (by have : maxLen = 9223372036854775807 := rfl; unfold maxI; omega) h3 h4 h5
  refine ⟨φ', _, _, k1, k2, Up.push _ (Nat.le_refl _), k5, ?_⟩
  have hl : ((zs.take len).map fun n => [V.int k n]).length = len := by simp; omega
  have he : ((zs.take len).map fun n => V.int k n).map (fun y => [y]) = (zs.take len).map fun n => [V.int k n] := by rw [List.map_map]; rfl
  rw [he]
  refine .row (by rw [St.get_push, if_pos rfl]) (Nat.le_refl _) (by rw [hl]; omega) ?_
  have := part_all ((zs.take len).map fun n => [V.int k n])
  rw [hl] at this; exact this
theorem nats_of {k : IntKind} {zs : List Int} (hk : k.min = 0) (h : ∀ n ∈ zs, (Lit.int k n).wf = true) : ∃ ls : List Nat, zs = ls.map (fun (n : Nat) => (n : Int)) ∧ ∀ n ∈ ls, (n : Int) ≤ k.max := by
 induction zs with
 | nil => exact ⟨[], rfl, by simp⟩
 | cons z zs ih =>
  obtain ⟨ls, h1, h2⟩ := ih fun n hn => h n (List.mem_cons_of_mem _ hn)
  have := h z List.mem_cons_self
  simp only [Lit.wf, Bool.and_eq_true, decide_eq_true_eq] at this
  rw [hk] at this
  refine ⟨z.toNat :: ls, by rw [h1]; simp; omega, fun n hn => ?_⟩
  rcases List.mem_cons.1 hn with e | e
  ·subst e; omega
  ·exact h2 n e
theorem nat_of {k : IntKind} {z : Int} (hk : k.min = 0) (h : (Lit.int k z).wf = true) : ∃ n : Nat, z = (n : Int) ∧ (n : Int) ≤ k.max := by
 simp only [Lit.wf, Bool.and_eq_true, decide_eq_true_eq] at h
 rw [hk] at h
 exact ⟨z.toNat, by omega, by omega⟩
theorem Start.nums {φ : Phi} {st : St} {w : World} (h : Start φ st w) {k : IntKind} {a : Option Addr} {len cap : Nat} {zs : List Int} (hk : k.min = 0) (hr : IsRow k w a len cap zs) :
  ∃ φ' st' x ls, Start φ' st' w ∧ φ.le φ' ∧ Up st.next st st' ∧ VR φ' x (.slice a len cap) ∧ Slc st' 1 x (nums k ls) ∧ (∀ n ∈ ls, (n : Int) ≤ k.max) ∧ ls.length = len := by
 have hw : ∀ n ∈ zs.take len, (Lit.int k n).wf = true := by
  intro n hn
  have hn := List.mem_of_mem_take hn
  rcases hr with ⟨_, _, _, rfl⟩ | ⟨x, _, _, _, _, _, h5, _⟩
  ·cases hn
  ·exact h5 n hn
 obtain ⟨ls, h1, h2⟩ := nats_of hk hw
 obtain ⟨φ', st', x, k1, k2, k3, k4, k5⟩ := h.arg hr
 rw [h1] at k5
 refine ⟨φ', st', x, ls, k1, k2, k3, k4, ?_, h2, ?_⟩
 ·have : (ls.map fun (n : Nat) => (n : Int)).map (fun n => [V.int k n]) = Ab.nums k ls := by rw [List.map_map]; rfl
  rw [this] at k5; exact k5
 ·have h3 := congrArg List.length h1
  simp only [List.length_map, List.length_take] at h3
  rcases hr with ⟨_, rfl, _, rfl⟩ | ⟨x, _, h4, _, h5, _⟩
  ·simpa using h3.symm
  ·omega
theorem Slc.next {st st' : St} {esz n : Nat} {x : V} {es : List (List V)} (h : Slc st esz x es) (l : st.Low) (u : Up st.next st st') : Slc st' esz x es := h.up l u
theorem IsRow.len {k : IntKind} {w : World} {a : Option Addr} {len cap : Nat} {zs : List Int} (h : IsRow k w a len cap zs) : len ≤ 9223372036854775807 := by
 rcases h with ⟨_, rfl, _, _⟩ | ⟨x, _, h1, h2, _⟩
 ·omega
 ·have : maxLen = 9223372036854775807 := rfl
  omega
end Go.Ab
