/- Where a law's call starts: what it is handed is there to be read. -/
import Derived.Test.YtpeafiomifmadaaAbsK
import Derived.Below
import Derived.ChangeSlices
namespace Go.Ab
open Go Go.RowKit
set_option linter.unusedVariables false
set_option linter.unusedSimpArgs false
structure Start (φ : Phi) (st : St) (w : World) : Prop where
 rep : Rep w.heap.size φ st w
 low : st.Low
 free : ∀ o g, st.next ≤ o → φ o g = none
 ro : ∀ o, st.ro o = true
theorem Start.empty (w : World) : Start (fun _ _ => none) St.empty w where
 rep := ⟨Nat.le_refl _, fun o x h => (by rw [St.get_empty] at h; cases h), fun o g L o' g' L' h => (by cases h), fun o g L h => (by cases h), fun o g L h => (by cases h)⟩
 low := fun o x h => (by rw [St.get_empty] at h; cases h)
 free := fun o g h => rfl
 ro := fun o => St.ro_of_none (St.get_empty o)
theorem Start.row {φ : Phi} {st : St} {w : World} (h : Start φ st w) {L : Loc} {es : List (List V)} (hat : RowAt (φ.put st.next 0 L) w L es true) (hlen : L.len = es.length) (hL : L.block < w.heap.size) :
  Start (φ.put st.next 0 L) (st.push (.row es 0 0 true)) w ∧ φ.le (φ.put st.next 0 L) ∧ ∀ o x, st.get o = some x → (st.push (.row es 0 0 true)).get o = some x := by
 have hle : φ.le (φ.put st.next 0 L) := Phi.le_put L (h.free _ _ (Nat.le_refl _))
 have hro : ∀ o, (st.push (.row es 0 0 true)).ro o = true := fun o => by
  by_cases e : o = st.next
  ·subst e; rw [St.ro_of_get (by rw [St.get_push, if_pos rfl])]; rfl
  ·have := h.ro o
   unfold St.ro at this ⊢
   rw [St.get_push, if_neg e]; exact this
 have hlook : ∀ {o g M}, (φ.put st.next 0 L) o g = some M → (o = st.next ∧ g = 0 ∧ M = L) ∨ (o ≠ st.next ∧ φ o g = some M) := fun {o g M} e => by
  by_cases k : o = st.next ∧ g = 0
  ·obtain ⟨rfl, rfl⟩ := k; rw [Phi.put_same] at e; cases e; exact .inl ⟨rfl, rfl, rfl⟩
  ·rw [Phi.put_other φ L k] at e
   refine .inr ⟨fun he => ?_, e⟩
   rw [he, h.free _ _ (Nat.le_refl _)] at e; cases e
 refine ⟨⟨⟨Nat.le_refl _, fun o x hx => ?_, fun o g L1 o' g' L2 _ _ _ hr => (by rw [hro] at hr; cases hr), fun o g L1 _ hr => (by rw [hro] at hr; cases hr), fun o g M e => ?_⟩, fun o x hx => ?_, fun o g ho => ?_, hro⟩, hle, fun o x hx => ?_⟩
 ·rw [St.get_push] at hx
  by_cases e : o = st.next
  ·subst e; rw [if_pos rfl] at hx; cases hx
   refine ⟨Nat.le_refl _, fun g M hM => ?_, fun g _ hg => ?_, fun g M g' M' hM hM' _ => ?_⟩
   ·rcases hlook hM with ⟨_, rfl, _⟩ | ⟨hn, _⟩
    ·exact Nat.le_refl _
    ·exact absurd rfl hn
   ·obtain rfl : g = 0 := by omega
    exact ⟨L, Phi.put_same φ _ _ _, hat, fun _ => hlen⟩
   ·rcases hlook hM with ⟨_, rfl, rfl⟩ | ⟨hn, _⟩
    ·rcases hlook hM' with ⟨_, rfl, rfl⟩ | ⟨hn, _⟩
     ·exact ⟨rfl, rfl⟩
     ·exact absurd rfl hn
    ·exact absurd rfl hn
  ·rw [if_neg e] at hx
   have h1 := h.rep.here o x hx
   cases x with
   | row es' gen live ro =>
    obtain ⟨a1, a2, a3, a4⟩ := h1
    refine ⟨a1, fun g M hM => ?_, fun g g1 g2 => ?_, fun g M g' M' hM hM' hb => ?_⟩
    ·rcases hlook hM with ⟨k, _⟩ | ⟨_, hM⟩
     ·exact absurd k e
     ·exact a2 g M hM
    ·obtain ⟨M, b1, b2, b3⟩ := a3 g g1 g2
     exact ⟨M, hle _ _ _ b1, b2.move hle rfl, b3⟩
    ·rcases hlook hM with ⟨k, _⟩ | ⟨_, hM⟩
     ·exact absurd k e
     ·rcases hlook hM' with ⟨k, _⟩ | ⟨_, hM'⟩
      ·exact absurd k e
      ·exact a4 g M g' M' hM hM' hb
   | map es' =>
    obtain ⟨M, ents, clock, b1, b2, b3⟩ := h1
    exact ⟨M, ents, clock, hle _ _ _ b1, b2, VRm_mono hle b3⟩
 ·rcases hlook e with ⟨_, _, rfl⟩ | ⟨_, e⟩
  ·exact hL
  ·exact h.rep.inh o g M e
 ·rw [St.get_push] at hx
  rw [St.next_push]
  by_cases e : o = st.next
  ·omega
  ·rw [if_neg e] at hx
   have := h.low o x hx; omega
 ·rw [St.next_push] at ho
  rw [Phi.put_other φ L (by omega)]
  exact h.free o g (by omega)
 ·rw [St.get_push, if_neg (by have := h.low o x hx; omega)]; exact hx
theorem Start.slice {φ : Phi} {st : St} {w : World} (h : Start φ st w) {a : Addr} {len cap : Nat} {arr : Array Value} {t : TypeId} {fr : Nat × Nat} (hg : w.heap[a.block]? = some (.cells arr t fr)) (hl : len ≤ cap) (hm : cap ≤ maxI) {es : List V} (hn : es.length = len)
  (hc : 0 < cap → a.spot = none ∧ a.off + cap ≤ arr.size) (hes : ∀ i x, es[i]? = some x → V.one x = true ∧ ∃ u, arr[a.off + i]? = some u ∧ VR φ x u) :
  ∃ φ' st' x, Start φ' st' w ∧ φ.le φ' ∧ (∀ o y, st.get o = some y → st'.get o = some y) ∧ st.next ≤ st'.next ∧ VR φ' x (.slice (some a) len cap) ∧
   x = .sl st.next 0 0 len 1 none ∧ st' = st.push (.row (es.map fun y => [y]) 0 0 true) := by
 have hlt : a.block < w.heap.size := (Array.getElem?_eq_some_iff.1 hg).1
 let L : Loc := if 0 < cap then ⟨a.block, a.off, len, cap, 1⟩ else ⟨a.block, 0, 0, 0, 1⟩
 have hLb : L.block = a.block := by simp only [L]; split <;> rfl
 have hLl : L.len = len := by simp only [L]; split <;> simp; omega
 have hLe : L.esz = 1 := by simp only [L]; split <;> rfl
 have hle : φ.le (φ.put st.next 0 L) := Phi.le_put L (h.free _ _ (Nat.le_refl _))
 have hsz : L.base + L.cap * L.esz ≤ arr.size := by
  by_cases hc0 : 0 < cap
  ·have := hc hc0; simp only [L, if_pos hc0]; omega
  ·simp only [L, if_neg hc0]; omega
 have hlc : L.len ≤ L.cap := by
  by_cases hc0 : 0 < cap
  ·simp only [L, if_pos hc0]; omega
  ·simp only [L, if_neg hc0]; omega
 have hcl : ∀ i e, i < L.len → (es.map fun y => [y])[i]? = some e → e.length = L.esz ∧ e.all V.one = true ∧ VRs (φ.put st.next 0 L) e (cut arr.toList (L.base + i * L.esz) L.esz) := by
  intro i e hi he
  rw [hLl] at hi
  rw [List.getElem?_map] at he
  cases hy : es[i]? with
  | none => rw [hy] at he; cases he
  | some x =>
   rw [hy] at he
   simp only [Option.map_some, Option.some.injEq] at he
   subst he
   obtain ⟨e1, u, e2, e3⟩ := hes i x hy
   have hc0 : 0 < cap := by omega
   refine ⟨by rw [hLe]; rfl, by simp [e1], ?_⟩
   have hbase : L.base + i * L.esz = a.off + i := by simp only [L, if_pos hc0]; omega
   rw [hbase, hLe]
   have hcut : cut arr.toList (a.off + i) 1 = [u] := by
    unfold cut
    have h2 : arr.toList[a.off + i]? = some u := by simpa using e2
    obtain ⟨h3, h4⟩ := List.getElem?_eq_some_iff.1 h2
    rw [List.drop_eq_getElem_cons h3, h4]
    rfl
   rw [hcut]
   simp only [VRs]
   exact ⟨u, [], rfl, VR_mono hle _ _ e3, rfl⟩
 obtain ⟨k1, k2, k3⟩ := h.row (L := L) (es := es.map fun y => [y]) ⟨⟨hlc, by simp; omega⟩, arr, t, fr.1, fr.2, by rw [hLb]; exact hg, hsz, fun hr => (by cases hr), hcl⟩ (by simp; omega) (by rw [hLb]; exact hlt)
 ·refine ⟨φ.put st.next 0 L, _, .sl st.next 0 0 len 1 none, k1, k2, k3, by rw [St.next_push]; omega, ?_, rfl, rfl⟩
  simp only [VR]
  refine ⟨L, a, cap, Phi.put_same _ _ _ _, hLe, rfl, hl, by omega, fun hc0 => ?_, fun c' hc' => (by cases hc'), hm⟩
  have := hc hc0
  simp only [L, if_pos hc0]
  obtain ⟨ab, ao, as⟩ := a
  simp only at this
  simp [this.1]
theorem Start.ints {φ : Phi} {st : St} {w : World} (h : Start φ st w) {k : IntKind} {a : Addr} {len cap : Nat} {zs : List Int} {arr : Array Value} {t : TypeId} {fr : Nat × Nat} (hg : w.heap[a.block]? = some (.cells arr t fr)) (hl : len ≤ cap) (hm : cap ≤ maxI) (hz : zs.length = cap)
  (hcell : ∀ i, i < zs.length → w.cell? (a.add i) = some (.int k (zs.getD i 0))) (hw : ∀ n ∈ zs, (Lit.int k n).wf = true) :
  ∃ φ' st' x, Start φ' st' w ∧ φ.le φ' ∧ (∀ o y, st.get o = some y → st'.get o = some y) ∧ st.next ≤ st'.next ∧ VR φ' x (.slice (some a) len cap) ∧
   x = .sl st.next 0 0 len 1 none ∧ st' = st.push (.row (((zs.take len).map fun n => .int k n).map fun y => [y]) 0 0 true) := by
 have hat : ∀ i, i < cap → a.spot = none ∧ a.off + i < arr.size ∧ arr[a.off + i]? = some (.int k (zs.getD i 0)) := fun i hi => by
  have := hcell i (by omega)
  have hb : (a.add i).block = a.block := by unfold Addr.add; split <;> rfl
  have hoff : (a.add i).off = a.off + i := by unfold Addr.add; split <;> simp_all
  unfold World.cell? at this
  rw [hb, hg] at this
  simp only at this
  split at this
  ·cases this
  ·rename_i hs
   rw [hoff] at this
   refine ⟨?_, (Array.getElem?_eq_some_iff.1 this).1, this⟩
   have h0 := hcell 0 (by omega)
   have hb0 : a.add 0 = a := by unfold Addr.add; simp
   unfold World.cell? at h0
   rw [hb0, hg] at h0
   simp only at h0
   split at h0
   ·cases h0
   ·rename_i hs; simpa using hs
 refine h.slice hg hl hm (es := (zs.take len).map fun n => .int k n) (by simp; omega) (fun hc => ⟨(hat 0 hc).1, ?_⟩) fun i x hx => ?_
 ·have := (hat (cap - 1) (by omega)).2.1; omega
 ·rw [List.getElem?_map, List.getElem?_take] at hx
  split at hx
  ·rename_i hi
   cases hy : zs[i]? with
   | none => rw [hy] at hx; cases hx
   | some n =>
    rw [hy] at hx
    simp only [Option.map_some, Option.some.injEq] at hx
    subst hx
    refine ⟨rfl, _, (hat i (by omega)).2.2, ?_⟩
    have hn : zs.getD i 0 = n := by rw [List.getD_eq_getElem?_getD, hy]; rfl
    rw [hn]
    have := hw n (List.mem_of_getElem? hy)
    simp only [Lit.wf, Bool.and_eq_true, decide_eq_true_eq] at this
    simp only [VR]
    exact ⟨trivial, this⟩
  ·cases hx
theorem law_true {P : Program} {T : Tab} (hT : TabOk P T) (hm : P.follows .mixedOrders = true) {f : Nat} {args : List V} {φ : Phi} {st st' : St} {w : World} {cargs : Array Value} (hS : Start φ st w) (h : F T f args st = some (.bool true, st')) (hA : VRs φ args cargs.toList) :
  Calls P f cargs w (fun e w' => e = .returned (.bool true) ∧ Below w.heap.size w w') := by
 refine (F_calls hT hm h hS.rep hS.low (fun o g h1 _ => hS.free o g h1) hA).mono fun e w' he => ?_
 obtain ⟨u, ψ, rfl, hx, hv⟩ := he
 simp only [VR] at hv
 subst hv
 exact ⟨rfl, hx.os, hx.tape, hx.output, hx.size, fun k hk => hx.frame k hk fun o g L _ _ => hS.ro o⟩
theorem VR_lit {φ : Phi} {k : IntKind} {n : Int} (h : (Lit.int k n).wf = true) : VR φ (.int k n) (.int k n) := by
 simp only [Lit.wf, Bool.and_eq_true, decide_eq_true_eq] at h
 simp only [VR]; exact ⟨trivial, h⟩
theorem VR_nils {φ : Phi} : VR φ .nils (.slice none 0 0) := by simp only [VR]
end Go.Ab
