/- A law's arguments, of whatever types: whole numbers, bools, strings, structs, slices of all these. -/
import Derived.Test.YtpeafiomifmadaaValM
import Derived.Test.YtpeafiomifmadaaAbsO
import Derived.Deep.Slices
import Derived.ChangeArms
namespace Go.Ab
open Go Go.RowKit Go.ChangeShapes Go.WideShapes
set_option linter.unusedVariables false
set_option linter.unusedSimpArgs false
inductive Sh where
 | bool
 | int (k : IntKind)
 | str
 | sl (cs : List Sh)
mutual
def Sh.fits : Sh → U → Prop
 | .bool, u => ∃ b, u = .bool b
 | .int k, u => ∃ n, u = .int k n ∧ k.min ≤ n ∧ n ≤ k.max
 | .str, u => ∃ s : List Int, u = .str s ∧ s.length ≤ maxI ∧ ∀ b ∈ s, 0 ≤ b ∧ b < 256
 | .sl cs, u => ∃ es, u = .list false cs.length es ∧ es.length ≤ maxI ∧ ∀ e ∈ es, Sh.fitsL cs e
def Sh.fitsL : List Sh → List U → Prop
 | [], us => us = []
 | c :: cs, us => ∃ u us', us = u :: us' ∧ Sh.fits c u ∧ Sh.fitsL cs us'
end
theorem Sh.fitsL_append : ∀ {a b : List Sh} {us vs : List U}, Sh.fitsL a us → Sh.fitsL b vs → Sh.fitsL (a ++ b) (us ++ vs)
 | [], b, us, vs, h, k => by simp only [Sh.fitsL] at h; subst h; exact k
 | c :: a, b, us, vs, h, k => by
  simp only [Sh.fitsL] at h
  obtain ⟨u, us', rfl, h1, h2⟩ := h
  simp only [List.cons_append, Sh.fitsL]
  exact ⟨u, us' ++ vs, rfl, h1, Sh.fitsL_append h2 k⟩
theorem Sh.fitsL_length : ∀ {a : List Sh} {us : List U}, Sh.fitsL a us → us.length = a.length
 | [], us, h => by simp only [Sh.fitsL] at h; subst h; rfl
 | c :: a, us, h => by
  simp only [Sh.fitsL] at h
  obtain ⟨u, us', rfl, h1, h2⟩ := h
  simp [Sh.fitsL_length h2]
def shFs (P : Program) (chk : TypeId → List Sh → Bool) : List Field → Nat → List Sh → Bool
 | [], _, l => l.isEmpty
 | f :: fs, off, l => decide (f.offset = off) && (decide (P.cellsOf f.type ≤ l.length) && (chk f.type (l.take (P.cellsOf f.type)) && shFs P chk fs (off + P.cellsOf f.type) (l.drop (P.cellsOf f.type))))
def shOk (P : Program) : Nat → TypeId → List Sh → Bool
 | 0, _, _ => false
 | n + 1, t, l =>
  match P.underlying t, l with
  | some .bool, [.bool] => true
  | some (.int k), [.int k'] => decide (k' = k)
  | some .string, [.str] => true
  | some (.slice e), [.sl cs] => decide (0 < P.cellsOf e) && (decide (cs.length = P.cellsOf e) && shOk P n e cs)
  | some (.struct fs), l => decide (l.length = P.cellsOf t) && shFs P (shOk P n) fs.toList 0 l
  | _, _ => false
def HasCells (w : World) : Prop := ∃ (b : Nat) (arr : Array Value) (t : TypeId) (fr : Nat × Nat), w.heap[b]? = some (.cells arr t fr)
abbrev NoX : Nat → Prop := fun _ => False
theorem L2.up {st st' : St} (l : st.Low) (u : Up st.next st st') {us : List U} {vs : List V} (h : L2 (RV st NoX []) us vs) : L2 (RV st' NoX []) us vs :=
 h.mono fun u' v' hv => hv.grow ⟨l, fun o _ e => e, fun o ho _ => .same (u.same o ho), fun _ _ e => e⟩
def Opens (w : World) (sh : List Sh) (cs : List Value) : Prop :=
 ∀ φ st, Start φ st w → ∃ φ' st' us vs, Start φ' st' w ∧ φ.le φ' ∧ Up st.next st st' ∧ VRs φ' vs cs ∧ Sh.fitsL sh us ∧ L2 (RV st' NoX []) us vs ∧ vs.all V.one = true
theorem Opens.nil (w : World) : Opens w [] [] := fun φ st h => ⟨φ, st, [], [], h, φ.le_refl, .refl (Nat.le_refl _), by simp only [VRs], by simp only [Sh.fitsL], by simp [L2], rfl⟩
theorem Opens.append {w : World} {a b : List Sh} {xs ys : List Value} (h : Opens w a xs) (k : Opens w b ys) : Opens w (a ++ b) (xs ++ ys) := by
 intro φ st hS
 obtain ⟨φ1, st1, us1, vs1, S1, le1, u1, r1, f1, l1, o1⟩ := h φ st hS
 obtain ⟨φ2, st2, us2, vs2, S2, le2, u2, r2, f2, l2, o2⟩ := k φ1 st1 S1
 exact ⟨φ2, st2, us1 ++ us2, vs1 ++ vs2, S2, fun o g L e => le2 _ _ _ (le1 _ _ _ e), u1.trans (u2.mono u1.next), VRs_append (VRs_mono le2 _ _ r1) r2, Sh.fitsL_append f1 f2, (l1.up S1.low u2).append l2, by rw [List.all_append, o1, o2]; rfl⟩
theorem Opens.rows {w : World} {sh : List Sh} {row : Nat → List Value} : ∀ (n : Nat), (∀ i, i < n → Opens w sh (row i)) → ∀ φ st, Start φ st w →
  ∃ φ' st' us vs, Start φ' st' w ∧ φ.le φ' ∧ Up st.next st st' ∧ us.length = n ∧ vs.length = n ∧ (∀ i e, vs[i]? = some e → VRs φ' e (row i) ∧ e.all V.one = true) ∧ (∀ e ∈ us, Sh.fitsL sh e) ∧ L2 (L2 (RV st' NoX [])) us vs
 | 0, _, φ, st, h => ⟨φ, st, [], [], h, φ.le_refl, .refl (Nat.le_refl _), rfl, rfl, fun i e h => (by simp at h), fun e h => (by cases h), by simp [L2]⟩
 | n + 1, hr, φ, st, h => by
  obtain ⟨φ1, st1, us1, vs1, S1, le1, u1, n1, m1, r1, f1, l1⟩ := Opens.rows n (fun i hi => hr i (by omega)) φ st h
  obtain ⟨φ2, st2, us2, vs2, S2, le2, u2, r2, f2, l2, o2⟩ := hr n (by omega) φ1 st1 S1
  refine ⟨φ2, st2, us1 ++ [us2], vs1 ++ [vs2], S2, fun o g L e => le2 _ _ _ (le1 _ _ _ e), u1.trans (u2.mono u1.next), by simp [n1], by simp [m1], fun i e he => ?_, fun e he => ?_, (l1.mono fun a b hab => hab.up S1.low u2).append ⟨l2, trivial⟩⟩
  ·by_cases hi : i < n
   ·rw [List.getElem?_append_left (by omega)] at he
    exact ⟨VRs_mono le2 _ _ (r1 i e he).1, (r1 i e he).2⟩
   ·rw [List.getElem?_append_right (by omega), m1] at he
    cases hj : i - n with
    | zero =>
     rw [hj] at he
     simp only [List.getElem?_cons_zero, Option.some.injEq] at he
     subst he
     obtain rfl : i = n := by omega
     exact ⟨r2, o2⟩
    | succ j => rw [hj] at he; simp at he
  ·rcases List.mem_append.1 he with he | he
   ·exact f1 e he
   ·rw [List.mem_singleton] at he; subst he; exact f2
section
variable {H : Type} {enc : TypeId × Value → H} {P : Program} {w : World} {held : Bool}
theorem Opens.slice {sh : List Sh} {a : Addr} {len cap E : Nat} {row : Nat → List Value} (hE : 0 < E) (hsh : sh.length = E) (hl : len ≤ cap) (hm : cap ≤ maxI) (hC : HasCells w)
  (hrow : ∀ i, i < cap → w.cells? 0 (a.add (i * E)) E = some (row i) ∧ Opens w sh (row i)) : Opens w [.sl sh] [.slice (some a) len cap] := by
 intro φ st hS
 obtain ⟨φ1, st1, us, vs, S1, le1, u1, n1, m1, r1, f1, l1⟩ := Opens.rows len (fun i hi => (hrow i (by omega)).2) φ st hS
 obtain ⟨b0, arr0, t0, fr0, h0⟩ := hC
 have hcell : ∀ i, i < cap → ∀ j, j < E → w.cell? (a.add (i * E + j)) = (row i)[j]? := fun i hi j hj => by
  have := (World.cells?_some (hrow i hi).1).2.2 j hj
  rwa [Deep.add_add] at this
 have hlen : ∀ i, i < cap → (row i).length = E := fun i hi => (World.cells?_some (hrow i hi).1).2.1
 have hblk : 0 < cap → ∃ arr t fr, w.heap[a.block]? = some (.cells arr t fr) ∧ a.spot = none ∧ ∀ i, i < cap → ∀ j, j < E → arr[a.off + (i * E + j)]? = (row i)[j]? := fun hc => by
  have hcell' : ∀ i, i < cap → ∀ j, j < E → ∃ arr t fr, w.heap[a.block]? = some (.cells arr t fr) ∧ (a.add (i * E + j)).spot = none ∧ arr[a.off + (i * E + j)]? = (row i)[j]? := fun i hi j hj => by
   have h1 := hcell i hi j hj
   have h2 : (row i)[j]? = some ((row i)[j]'(by rw [hlen i hi]; exact hj)) := List.getElem?_eq_getElem _
   rw [h2] at h1
   have hb : (a.add (i * E + j)).block = a.block := by unfold Addr.add; split <;> rfl
   have hoff : (a.add (i * E + j)).off = a.off + (i * E + j) := by unfold Addr.add; split <;> simp_all
   unfold World.cell? at h1
   rw [hb] at h1
   split at h1
   ·rename_i c t fr hc
    split at h1
    ·cases h1
    ·rename_i hs
     rw [hoff] at h1
     exact ⟨c, t, fr, hc, by simpa using hs, by rw [h1, h2]⟩
   ·cases h1
  obtain ⟨arr, t, fr, g1, g2, _⟩ := hcell' 0 hc 0 hE
  refine ⟨arr, t, fr, g1, ?_, fun i hi j hj => ?_⟩
  ·have hb0 : a.add (0 * E + 0) = a := by unfold Addr.add; simp
   rwa [hb0] at g2
  ·obtain ⟨arr', t', fr', k1, _, k2⟩ := hcell' i hi j hj
   rw [g1] at k1; cases k1; exact k2
 let L : Loc := if 0 < cap then ⟨a.block, a.off, len, cap, E⟩ else ⟨b0, 0, 0, 0, E⟩
 have hLl : L.len = len := by simp only [L]; split <;> simp; omega
 have hLe : L.esz = E := by simp only [L]; split <;> rfl
 have hlc : L.len ≤ L.cap := by
  by_cases hc0 : 0 < cap
  ·simp only [L, if_pos hc0]; omega
  ·simp only [L, if_neg hc0]; omega
 have hle : φ1.le (φ1.put st1.next 0 L) := Phi.le_put L (S1.free _ _ (Nat.le_refl _))
 obtain ⟨arr, t, fr, hg, hsz, hcut⟩ : ∃ arr t fr, w.heap[L.block]? = some (.cells arr t fr) ∧ L.base + L.cap * L.esz ≤ arr.size ∧ ∀ i, i < L.len → cut arr.toList (L.base + i * L.esz) L.esz = row i := by
  by_cases hc0 : 0 < cap
  ·obtain ⟨arr, t, fr, g1, g2, g3⟩ := hblk hc0
   have key : ∀ i, i < cap → ∀ j, j < E → a.off + (i * E + j) < arr.size := fun i hi j hj => by
    have := g3 i hi j hj
    rw [List.getElem?_eq_getElem (by rw [hlen i hi]; exact hj)] at this
    exact (Array.getElem?_eq_some_iff.1 this).1
   refine ⟨arr, t, fr, by simp only [L, if_pos hc0]; exact g1, ?_, fun i hi => ?_⟩
   ·simp only [L, if_pos hc0]
    have := key (cap - 1) (by omega) (E - 1) (by omega)
    have e : cap * E = (cap - 1) * E + E := by rw [← Nat.succ_mul]; congr 1; omega
    omega
   ·rw [hLl] at hi
    rw [hLe]
    simp only [L, if_pos hc0]
    apply List.ext_getElem?
    intro j
    rw [cut_get]
    by_cases hj : j < E
    ·rw [if_pos hj, ← g3 i (by omega) j hj, ← Nat.add_assoc]; simp
    ·rw [if_neg hj, List.getElem?_eq_none (by rw [hlen i (by omega)]; omega)]
  ·refine ⟨arr0, t0, fr0, by simp only [L, if_neg hc0]; exact h0, by simp only [L, if_neg hc0]; omega, fun i hi => ?_⟩
   rw [hLl] at hi; omega
 have hlt : L.block < w.heap.size := (Array.getElem?_eq_some_iff.1 hg).1
 have hcl : ∀ i e, i < L.len → vs[i]? = some e → e.length = L.esz ∧ e.all V.one = true ∧ VRs (φ1.put st1.next 0 L) e (cut arr.toList (L.base + i * L.esz) L.esz) := by
  intro i e hi he
  obtain ⟨k1, k2⟩ := r1 i e he
  rw [hcut i hi]
  exact ⟨by rw [VRs_length k1, hlen i (by omega), hLe], k2, VRs_mono hle _ _ k1⟩
 obtain ⟨k1, k2, k3⟩ := S1.row (L := L) (es := vs) ⟨⟨hlc, by omega⟩, arr, t, fr.1, fr.2, hg, hsz, fun hr => (by cases hr), hcl⟩ (by omega) hlt
 have hu : Up st1.next st1 (st1.push (.row vs 0 0 true)) := Up.push _ (Nat.le_refl _)
 refine ⟨φ1.put st1.next 0 L, _, [.list false E us], [.sl st1.next 0 0 len E none], k1, fun o g M e => k2 _ _ _ (le1 _ _ _ e), u1.trans (hu.mono u1.next), ?_, ?_, ?_, rfl⟩
 ·rw [VRs_cons2]
  refine ⟨?_, by simp only [VRs]⟩
  simp only [VR]
  refine ⟨L, a, cap, Phi.put_same _ _ _ _, hLe, rfl, hl, by omega, fun hc0 => ?_, fun c' hc' => (by cases hc'), hm⟩
  obtain ⟨_, _, _, _, g2, _⟩ := hblk hc0
  simp only [L, if_pos hc0]
  obtain ⟨ab, ao, as⟩ := a
  simp only at g2
  simp [g2]
 ·simp only [Sh.fitsL, Sh.fits]
  exact ⟨_, [], rfl, ⟨us, by rw [hsh], by omega, f1⟩, rfl⟩
 ·refine ⟨?_, trivial⟩
  simp only [RV]
  refine .inr ⟨st1.next, 0, 0, len, none, vs, 0, 0, true, rfl, fun h => h, by rw [St.get_push, if_pos rfl], Nat.le_refl _, by omega, ?_, fun h => (by cases h)⟩
  have : cut vs 0 len = vs := by rw [← m1]; exact cut_all vs
  rw [this]
  exact RLL_iff.2 (l1.mono fun a b hab => hab.up S1.low hu)
theorem Opens.one {sh : Sh} {v : Value} {u : U} {x : V} (hf : sh.fits u) (hr : ∀ φ, VR φ x v) (hv : ∀ st, RV st NoX [] u x) (ho : V.one x = true) : Opens w [sh] [v] := fun φ st h =>
 ⟨φ, st, [u], [x], h, φ.le_refl, .refl (Nat.le_refl _), by rw [VRs_cons2]; exact ⟨hr φ, by simp only [VRs]⟩, by simp only [Sh.fitsL]; exact ⟨u, [], rfl, hf, rfl⟩, ⟨hv st, trivial⟩, by rw [List.all_cons, ho]; rfl⟩
theorem wf_has {k : IntKind} {n : Int} (h : (Lit.int k n).wf = true) : k.min ≤ n ∧ n ≤ k.max := by
 simpa only [Lit.wf, Bool.and_eq_true, decide_eq_true_eq] using h
theorem opens_of_trod : ∀ (n : Nat) (t : TypeId) (sh : List Sh), shOk P n t sh = true → ∀ (fuel : Nat) (cs : List Value) (x : DataW H × List MemPlace), DataW.trod enc P w 0 (fun _ => true) held fuel t cs = some x →
  (∀ a len cap, Value.slice (some a) len cap ∈ cs → HasCells w) → Opens w sh cs := by
 intro n
 induction n with
 | zero => intro t sh h; simp [shOk] at h
 | succ n ih =>
  intro t sh h fuel cs x ht hB
  unfold shOk at h
  split at h
  ·rename_i hu
   obtain ⟨b, rfl, _⟩ := DataW.trod_bool hu ht
   exact Opens.one (u := .bool b) (x := .bool b) (by simp only [Sh.fits]; exact ⟨b, rfl⟩) (fun φ => by simp only [VR]) (fun st => by simp only [RV]) rfl
  ·rename_i k k' hu
   simp only [decide_eq_true_eq] at h
   subst h
   obtain ⟨z, rfl, _, hw⟩ := DataW.trod_int hu ht
   have := wf_has hw
   exact Opens.one (u := .int k' z) (x := .int k' z) (by simp only [Sh.fits]; exact ⟨z, rfl, this⟩) (fun φ => by simp only [VR]; exact ⟨trivial, this⟩) (fun st => by simp only [RV]) rfl
  ·rename_i hu
   obtain ⟨s, rfl, _, hs⟩ := DataW.trod_string hu ht
   have hs' : (s.data.toList.map fun b => (b.toNat : Int)).length ≤ maxI := by
    have : maxLen = 9223372036854775807 := rfl
    have e : s.size = s.data.size := rfl
    rw [List.length_map, Array.length_toList]
    unfold maxI; omega
   refine Opens.one (u := .str (s.data.toList.map fun b => (b.toNat : Int))) (x := .str (s.data.toList.map fun b => (b.toNat : Int))) ?_ (fun φ => by simp only [VR]; exact ⟨s, rfl, rfl, hs'⟩) (fun st => by simp only [RV]) rfl
   simp only [Sh.fits]
   refine ⟨_, rfl, hs', fun b hb => ?_⟩
   obtain ⟨c, _, rfl⟩ := List.mem_map.1 hb
   have := c.toNat_lt
   exact ⟨by omega, by omega⟩
  ·rename_i e sh' hu
   simp only [Bool.and_eq_true, decide_eq_true_eq] at h
   obtain ⟨h1, h2, h3⟩ := h
   rcases Deep.open_slice hu ht with ⟨rfl, _⟩ | ⟨a, len, cap, m, n', D, Pl, rfl, _, hl, hm, hmm, _, hel⟩
   ·exact Opens.one (u := .list false sh'.length []) (x := .nils) (by simp only [Sh.fits]; exact ⟨[], rfl, by simp, fun e h => (by cases h)⟩) (fun φ => by simp only [VR]) (fun st => by simp only [RV]; exact .inl ⟨trivial, by simp only [RLL]⟩) rfl
   ·simp only [if_true] at hmm
    subst hmm
    have hC := hB _ _ _ List.mem_cons_self
    have hel' : ∀ i, i < m → w.cells? 0 (a.add (i * P.cellsOf e)) (P.cellsOf e) = some ((w.cells? 0 (a.add (i * P.cellsOf e)) (P.cellsOf e)).getD []) ∧ Opens w sh' ((w.cells? 0 (a.add (i * P.cellsOf e)) (P.cellsOf e)).getD []) := fun i hi => by
     obtain ⟨cs', k1, k2⟩ := hel i hi
     rw [k1]
     exact ⟨rfl, ih e sh' h3 _ _ _ k2 fun _ _ _ _ => hC⟩
    have : maxLen = 9223372036854775807 := rfl
    exact Opens.slice h1 h2 hl (by unfold maxI; omega) hC hel'
  ·rename_i fs hu
   simp only [Bool.and_eq_true, decide_eq_true_eq] at h
   obtain ⟨h1, h2⟩ := h
   obtain ⟨xs, n', rfl, _, hlen, hxs, hf⟩ := DataW.trod_struct hu ht
   have hf' : ∀ f ∈ fs.toList, ∃ y, DataW.trod enc P w 0 (fun _ => true) held n' f.type ((cs.drop f.offset).take (P.cellsOf f.type)) = some y := fun f hfm => by
    obtain ⟨i, hi⟩ := List.mem_iff_getElem?.1 hfm
    have hi' : fs[i]? = some f := by simpa using hi
    have := hf i f hi'
    have hlt : i < fs.size := (Array.getElem?_eq_some_iff.1 hi').1
    rw [List.getElem?_eq_getElem (by omega)] at this
    exact ⟨_, this⟩
   clear hf hu hxs ht
   have key : ∀ (fl : List Field) (off : Nat) (l : List Sh), shFs P (shOk P n) fl off l = true → (∀ f ∈ fl, ∃ y, DataW.trod enc P w 0 (fun _ => true) held n' f.type ((cs.drop f.offset).take (P.cellsOf f.type)) = some y) → off + l.length = cs.length → Opens w l (cs.drop off) := by
    intro fl
    induction fl with
    | nil =>
     intro off l hl _ ho
     simp only [shFs, List.isEmpty_iff] at hl
     subst hl
     rw [List.drop_eq_nil_of_le (by simp at ho; omega)]
     exact Opens.nil w
    | cons f fl ihf =>
     intro off l hl hy ho
     simp only [shFs, Bool.and_eq_true, decide_eq_true_eq] at hl
     obtain ⟨rfl, g2, g3, g4⟩ := hl
     obtain ⟨y, hy1⟩ := hy f List.mem_cons_self
     have o1 := ih f.type _ g3 _ _ _ hy1 fun a len cap hm => hB a len cap (List.mem_of_mem_drop (List.mem_of_mem_take hm))
     have o2 := ihf _ _ g4 (fun f' hf' => hy f' (List.mem_cons_of_mem _ hf')) (by rw [List.length_drop]; omega)
     have := o1.append o2
     rw [List.take_append_drop] at this
     have e : List.take (P.cellsOf f.type) (List.drop f.offset cs) ++ List.drop (f.offset + P.cellsOf f.type) cs = List.drop f.offset cs := by
      rw [← List.drop_drop, List.take_append_drop]
     rwa [e] at this
   exact key fs.toList 0 _ h2 hf' (by omega)
  ·cases h
inductive Ar where
 | one (c : Sh)
 | agg (cs : List Sh)
def Ar.fits : Ar → U → Prop
 | .one c, u => c.fits u
 | .agg cs, u => ∃ us, u = .agg us ∧ Sh.fitsL cs us
def Ars : List Ar → List U → Prop
 | [], us => us = []
 | a :: as, us => ∃ u us', us = u :: us' ∧ a.fits u ∧ Ars as us'
def arOk (P : Program) (t : TypeId) : Ar → Bool
 | .one c => (match P.underlying t with | some (.struct _) => false | some (.array _ _) => false | _ => true) && shOk P 20 t [c]
 | .agg cs => (match P.underlying t with | some (.struct _) => true | _ => false) && shOk P 20 t cs
def arsOk (P : Program) : List TypeId → List Ar → Bool
 | [], [] => true
 | t :: ts, a :: as => arOk P t a && arsOk P ts as
 | _, _ => false
theorem block_of_has {r : Reach} {base : Nat} {a : Addr} {e : TypeId} {n : Nat} (h : w.has P r base a e n) : HasCells w := by
 unfold World.has at h
 obtain ⟨_, _, row, cells, hs, _⟩ := h
 unfold World.shape? at hs
 split at hs
 ·rename_i c elem fr hc; exact ⟨_, c, elem, fr, hc⟩
 ·cases hs
theorem block_of_cell {r : Reach} {base : Nat} {t : TypeId} {a : Addr} {len cap : Nat} (h : Cell.okWide P w r base t (.slice (some a) len cap)) : HasCells w := by
 unfold Cell.okWide at h
 split at h <;> first | (rename_i h1 h2; cases h2) | skip
 unfold Cell.ok at h
 split at h <;> first | (rename_i h1 h2; cases h2; exact block_of_has h.2.2) | (rename_i h1 h2; cases h2) | exact h.elim | skip
theorem block_of_value {r : Reach} {base : Nat} {t : TypeId} {v : Value} (h : Value.okWide P w r base t v) {a : Addr} {len cap : Nat} (hm : Value.slice (some a) len cap ∈ v.cells.toList) : HasCells w := by
 have hrow : ∀ cs, Row.okWide P w r base t cs → Value.slice (some a) len cap ∈ cs.toList → HasCells w := fun cs hr hm => by
  obtain ⟨ts, _, _, hi⟩ := hr
  obtain ⟨i, hi'⟩ := List.mem_iff_getElem?.1 hm
  obtain ⟨u, _, hk⟩ := hi i _ (by simpa using hi')
  exact block_of_cell hk
 unfold Value.okWide at h
 split at h
 ·obtain ⟨cs, rfl, _, hr⟩ := h; exact hrow cs hr hm
 ·obtain ⟨cs, rfl, _, hr⟩ := h; exact hrow cs hr hm
 ·by_cases hv : ∃ cs, v = .agg cs
  ·obtain ⟨cs, rfl⟩ := hv
   exfalso
   unfold Cell.okWide at h
   split at h <;> first | (rename_i h1 h2; cases h2) | skip
   unfold Cell.ok at h
   split at h <;> first | (rename_i h1 h2; cases h2) | exact h.elim
  ·have : v.cells = #[v] := by cases v <;> first | rfl | exact absurd ⟨_, rfl⟩ hv
   rw [this] at hm
   simp only [List.mem_singleton] at hm
   subst hm
   exact block_of_cell h
theorem cells_one {r : Reach} {base : Nat} {t : TypeId} {v : Value} (h : Value.okWide P w r base t v) (hs : (match P.underlying t with | some (.struct _) => false | some (.array _ _) => false | _ => true) = true) : v.cells.toList = [v] := by
 unfold Value.okWide at h
 split at h
 ·rename_i hu; rw [hu] at hs; cases hs
 ·rename_i hu; rw [hu] at hs; cases hs
 ·by_cases hv : ∃ cs, v = .agg cs
  ·obtain ⟨cs, rfl⟩ := hv
   exfalso
   unfold Cell.okWide at h
   split at h <;> first | (rename_i h1 h2; cases h2) | skip
   unfold Cell.ok at h
   split at h <;> first | (rename_i h1 h2; cases h2) | exact h.elim
  ·cases v <;> first | rfl | exact absurd ⟨_, rfl⟩ hv
theorem open_args {r : Reach} {base : Nat} : ∀ {ts : List TypeId} {as : List Ar} {args : List Value} {ds : List (DataW H)} {ps : List MemPlace}, arsOk P ts as = true → DataW.TrodAll enc P w 0 (fun _ => true) held ts args ds ps →
  (∀ (j : Nat) t v, ts[j]? = some t → args[j]? = some v → Value.okWide P w r base t v) → ∀ φ st, Start φ st w →
  ∃ φ' st' us vs, Start φ' st' w ∧ φ.le φ' ∧ Up st.next st st' ∧ VRs φ' vs args ∧ Ars as us ∧ L2 (RV st' NoX []) us vs
 | [], as, args, ds, ps, ha, hd, hv, φ, st, hS => by
  cases as with
  | cons a as => simp [arsOk] at ha
  | nil =>
   obtain ⟨rfl, _, _⟩ := trodAll_nil hd
   exact ⟨φ, st, [], [], hS, φ.le_refl, .refl (Nat.le_refl _), by simp only [VRs], rfl, by simp [L2]⟩
 | t :: ts, as, args, ds, ps, ha, hd, hv, φ, st, hS => by
  cases as with
  | nil => simp [arsOk] at ha
  | cons a as =>
   simp only [arsOk, Bool.and_eq_true] at ha
   obtain ⟨v, vs, d, ds', p, q, rfl, rfl, rfl, h1, h2⟩ := trodAll_cons hd
   have hv0 := hv 0 t v rfl rfl
   obtain ⟨fuel, hf⟩ := h1
   obtain ⟨φ1, st1, us, xs, S1, le1, u1, r1, f1, l1⟩ : ∃ φ' st' u x, Start φ' st' w ∧ φ.le φ' ∧ Up st.next st st' ∧ VR φ' x v ∧ a.fits u ∧ RV st' NoX [] u x := by
    cases a with
    | one c =>
     have ha1 := ha.1
     simp only [arOk, Bool.and_eq_true] at ha1
     obtain ⟨φ1, st1, us, xs, S1, le1, u1, r1, f1, l1, _⟩ := opens_of_trod 20 t [c] ha1.2 fuel _ _ hf (fun a len cap hm => block_of_value hv0 hm) φ st hS
     rw [cells_one hv0 ha1.1] at r1
     simp only [Sh.fitsL] at f1
     obtain ⟨u, us', rfl, f1, rfl⟩ := f1
     obtain ⟨x, xs', rfl, l1, l2⟩ := l1.cons
     rw [VRs_cons2] at r1
     exact ⟨φ1, st1, u, x, S1, le1, u1, r1.1, f1, l1⟩
    | agg cs =>
     have ha1 := ha.1
     simp only [arOk, Bool.and_eq_true] at ha1
     obtain ⟨φ1, st1, us, xs, S1, le1, u1, r1, f1, l1, _⟩ := opens_of_trod 20 t cs ha1.2 fuel _ _ hf (fun a len cap hm => block_of_value hv0 hm) φ st hS
     have hagg : ∃ vs, v = .agg vs := by
      unfold Value.okWide at hv0
      split at hv0
      ·exact ⟨_, hv0.choose_spec.1⟩
      ·exact ⟨_, hv0.choose_spec.1⟩
      ·rename_i g1 g2
       have := ha1.1
       split at this
       ·rename_i fs hu; exact absurd hu (g1 _)
       ·cases this
     obtain ⟨vs, rfl⟩ := hagg
     refine ⟨φ1, st1, .agg us, .agg xs, S1, le1, u1, by simp only [VR]; exact ⟨vs, rfl, r1⟩, ⟨us, rfl, f1⟩, by simp only [RV]; exact ⟨xs, rfl, RL_iff.2 l1⟩⟩
   obtain ⟨φ2, st2, us2, xs2, S2, le2, u2, r2, f2, l2⟩ := open_args ha.2 h2 (fun j t' v' h3 h4 => hv (j + 1) t' v' h3 h4) φ1 st1 S1
   refine ⟨φ2, st2, us :: us2, xs :: xs2, S2, fun o g L e => le2 _ _ _ (le1 _ _ _ e), u1.trans (u2.mono u1.next), ?_, ⟨us, us2, rfl, f1, f2⟩, ⟨?_, l2⟩⟩
   ·rw [VRs_cons2]; exact ⟨VR_mono le2 _ _ r1, r2⟩
   ·exact l1.grow ⟨S1.low, fun o _ e => e, fun o ho _ => .same (u2.same o ho), fun _ _ e => e⟩
theorem Sh.noOwn {c : Sh} {u : U} (h : c.fits u) : u.noOwn := by
 cases c with
 | bool => simp only [Sh.fits] at h; obtain ⟨b, rfl⟩ := h; exact ⟨fun _ _ h => (by cases h), fun _ _ _ _ h => (by cases h)⟩
 | int k => simp only [Sh.fits] at h; obtain ⟨n, rfl, _⟩ := h; exact ⟨fun _ _ h => (by cases h), fun _ _ _ _ h => (by cases h)⟩
 | str => simp only [Sh.fits] at h; obtain ⟨s, rfl, _⟩ := h; exact ⟨fun _ _ h => (by cases h), fun _ _ _ _ h => (by cases h)⟩
 | sl cs => simp only [Sh.fits] at h; obtain ⟨es, rfl, _⟩ := h; exact noOwn_list
theorem Ars.noOwn : ∀ {as : List Ar} {us : List U}, Ars as us → ∀ u ∈ us, u.noOwn
 | [], us, h, u, hu => by simp only [Ars] at h; subst h; cases hu
 | a :: as, us, h, u, hu => by
  obtain ⟨u', us', rfl, h1, h2⟩ := h
  rcases List.mem_cons.1 hu with rfl | hu
  ·cases a with
   | one c => exact Sh.noOwn h1
   | agg cs => obtain ⟨us, rfl, _⟩ := h1; exact ⟨fun _ _ h => (by cases h), fun _ _ _ _ h => (by cases h)⟩
  ·exact Ars.noOwn h2 u hu
theorem shut_args (hl : laidOutB P = true) {W W' : World} (hb : Below W.heap.size W W') : ∀ {ts : List TypeId} {args : List Value} {ds : List (DataW H)} {ps : List MemPlace}, ts.all (fun t => P.readableRec t && decide (t < P.types.size)) = true →
  DataW.TrodAll enc P W 0 (fun _ => true) true ts args ds ps → (∀ x ∈ ps, x.block < W.heap.size) → DataW.TrodAll enc P W' 0 (fun b => decide (b < W.heap.size)) true ts args ds ps
 | [], args, ds, ps, _, h, _ => by obtain ⟨rfl, rfl, rfl⟩ := trodAll_nil h; exact trodAll_mk0
 | t :: ts, args, ds, ps, ha, h, hlt => by
  simp only [List.all_cons, Bool.and_eq_true, decide_eq_true_eq] at ha
  obtain ⟨v, vs, d, ds', p, q, rfl, rfl, rfl, h1, h2⟩ := trodAll_cons h
  exact trodAll_cons_mk (Below.trod hl ha.1.1 ha.1.2 h1 hb fun x hx => hlt x (List.mem_append_left _ hx)) (shut_args hl hb ha.2 h2 fun x hx => hlt x (List.mem_append_right _ hx))
end
theorem law_whole {H : Type} {enc : TypeId × Value → H} {P : Program} {T : GTab} {Tb : Tab} (hTb : TabSim T Tb) (hCl : CloneOk T Tb) (hT : TabOk P Tb) (hm : P.follows .mixedOrders = true) {f : Nat} {ts : List TypeId} {shs : List Ar} (hk : arsOk P ts shs = true)
  (law : ∀ us, Ars shs us → GF T f us [] 0 = some (.bool true, [])) {W : World} {r : Reach} {base : Nat} {args : Array Value} {ds : List (DataW H)} {ps : List MemPlace}
  (hd : DataW.TrodAll enc P W 0 (fun _ => true) true ts args.toList ds ps) (hv : ∀ (j : Nat) t v, ts[j]? = some t → args.toList[j]? = some v → Value.okWide P W r base t v) :
  Calls P f args W (fun e w' => e = .returned (.bool true) ∧ Below W.heap.size W w') := by
 obtain ⟨φ, st, us, vs, hS, _, _, h1, h2, h3⟩ := open_args (P := P) hk hd hv _ _ (Start.empty W)
 obtain ⟨st', hF⟩ := law_F hTb hCl (law us h2) hS.low h3 h2.noOwn
 exact law_true hT hm hS hF h1
theorem trodAll_lt {H : Type} {enc : TypeId × Value → H} {P : Program} {w : World} {held : Bool} : ∀ {ts : List TypeId} {args : List Value} {ds : List (DataW H)} {ps : List MemPlace}, DataW.TrodAll enc P w 0 (fun _ => true) held ts args ds ps → ∀ x ∈ ps, x.block < w.heap.size
 | [], args, ds, ps, h, x, hx => by obtain ⟨rfl, rfl, rfl⟩ := trodAll_nil h; cases hx
 | t :: ts, args, ds, ps, h, x, hx => by
  obtain ⟨v, vs, d, ds', p, q, rfl, rfl, rfl, h1, h2⟩ := trodAll_cons h
  rcases List.mem_append.1 hx with hx | hx
  ·obtain ⟨m, hm⟩ := h1; exact DataW.trod_lt m _ _ _ hm x hx
  ·exact trodAll_lt h2 x hx
theorem trodAll_length {H : Type} {enc : TypeId × Value → H} {P : Program} {w : World} {base : Nat} {sp : Nat → Bool} {held : Bool} : ∀ {ts : List TypeId} {args : List Value} {ds : List (DataW H)} {ps : List MemPlace}, DataW.TrodAll enc P w base sp held ts args ds ps → ds.length = ts.length
 | [], args, ds, ps, h => by obtain ⟨rfl, rfl, rfl⟩ := trodAll_nil h; rfl
 | t :: ts, args, ds, ps, h => by
  obtain ⟨v, vs, d, ds', p, q, rfl, rfl, rfl, h1, h2⟩ := trodAll_cons h
  simp [trodAll_length h2]
theorem len_cons {α : Type} {l : List α} {n : Nat} (h : l.length = n + 1) : ∃ a m, l = a :: m ∧ m.length = n := by
 cases l with
 | nil => simp at h
 | cons a m => exact ⟨a, m, rfl, by simpa using h⟩
theorem map_of {α β : Type} {p : α → β} {q : α → Prop} : ∀ {l : List β}, (∀ b ∈ l, ∃ a, b = p a ∧ q a) → ∃ m : List α, l = m.map p ∧ ∀ a ∈ m, q a
 | [], _ => ⟨[], rfl, by simp⟩
 | b :: l, h => by
  obtain ⟨a, rfl, ha⟩ := h _ List.mem_cons_self
  obtain ⟨m, rfl, hm⟩ := map_of (l := l) fun b hb => h b (List.mem_cons_of_mem _ hb)
  exact ⟨a :: m, rfl, fun x hx => by rcases List.mem_cons.1 hx with rfl | hx; exact ha; exact hm x hx⟩
theorem Sh.nat {k : IntKind} {u : U} (hk : k.min = 0) (h : (Sh.int k).fits u) : ∃ n : Nat, u = .int k (n : Int) ∧ (n : Int) ≤ k.max := by
 simp only [Sh.fits] at h
 obtain ⟨z, rfl, h1, h2⟩ := h
 rw [hk] at h1
 exact ⟨z.toNat, by rw [Int.toNat_of_nonneg h1], by omega⟩
theorem Sh.ofSlice {cs : List Sh} {u : U} (h : (Sh.sl cs).fits u) {α : Type} {f : α → List U} {q : α → Prop} (hf : ∀ e, Sh.fitsL cs e → ∃ a, e = f a ∧ q a) : ∃ l : List α, u = .list false cs.length (l.map f) ∧ l.length ≤ maxI ∧ ∀ a ∈ l, q a := by
 simp only [Sh.fits] at h
 obtain ⟨es, rfl, h1, h2⟩ := h
 obtain ⟨l, rfl, hl⟩ := map_of (p := f) (q := q) fun e he => hf e (h2 e he)
 exact ⟨l, rfl, by simpa using h1, hl⟩
theorem Sh.fits1 {c : Sh} {e : List U} (h : Sh.fitsL [c] e) : ∃ u, e = [u] ∧ c.fits u := by
 simp only [Sh.fitsL] at h
 obtain ⟨u, us, rfl, h1, rfl⟩ := h
 exact ⟨u, rfl, h1⟩
theorem Sh.fits2 {c d : Sh} {e : List U} (h : Sh.fitsL [c, d] e) : ∃ u v, e = [u, v] ∧ c.fits u ∧ d.fits v := by
 simp only [Sh.fitsL] at h
 obtain ⟨u, us, rfl, h1, v, vs, rfl, h2, rfl⟩ := h
 exact ⟨u, v, rfl, h1, h2⟩
theorem Sh.fits4 {c d c' d' : Sh} {e : List U} (h : Sh.fitsL [c, d, c', d'] e) : ∃ u v u' v', e = [u, v, u', v'] ∧ c.fits u ∧ d.fits v ∧ c'.fits u' ∧ d'.fits v' := by
 simp only [Sh.fitsL] at h
 obtain ⟨u, us, rfl, h1, v, vs, rfl, h2, u', us', rfl, h3, v', vs', rfl, h4, rfl⟩ := h
 exact ⟨u, v, u', v', rfl, h1, h2, h3, h4⟩
theorem Sh.nums {k : IntKind} {u : U} (hk : k.min = 0) (h : (Sh.sl [.int k]).fits u) : ∃ l : List Nat, u = .list false 1 (un k l) ∧ l.length ≤ maxI ∧ ∀ n ∈ l, (n : Int) ≤ k.max :=
 Sh.ofSlice h (f := fun (n : Nat) => [U.int k (n : Int)]) (q := fun n => (n : Int) ≤ k.max) fun e he => by
  obtain ⟨u, rfl, hu⟩ := Sh.fits1 he
  obtain ⟨n, rfl, hn⟩ := Sh.nat hk hu
  exact ⟨n, rfl, hn⟩
theorem Sh.ints {k : IntKind} {u : U} (h : (Sh.sl [.int k]).fits u) : ∃ l : List Int, u = .list false 1 (ui k l) ∧ l.length ≤ maxI ∧ ∀ n ∈ l, k.min ≤ n ∧ n ≤ k.max :=
 Sh.ofSlice h (f := fun (n : Int) => [U.int k n]) (q := fun n => k.min ≤ n ∧ n ≤ k.max) fun e he => by
  obtain ⟨u, rfl, hu⟩ := Sh.fits1 he
  simp only [Sh.fits] at hu
  obtain ⟨n, rfl, hn⟩ := hu
  exact ⟨n, rfl, hn⟩
def uns (k : IntKind) (l : List (List Nat)) : List (List U) := l.map fun x => [.list false 1 (un k x)]
theorem Sh.rows {k : IntKind} {u : U} (hk : k.min = 0) (h : (Sh.sl [.sl [.int k]]).fits u) : ∃ l : List (List Nat), u = .list false 1 (uns k l) ∧ l.length ≤ maxI ∧ ∀ x ∈ l, x.length ≤ maxI ∧ ∀ n ∈ x, (n : Int) ≤ k.max :=
 Sh.ofSlice h (f := fun (x : List Nat) => [U.list false 1 (un k x)]) (q := fun x => x.length ≤ maxI ∧ ∀ n ∈ x, (n : Int) ≤ k.max) fun e he => by
  obtain ⟨u, rfl, hu⟩ := Sh.fits1 he
  obtain ⟨l, rfl, h1, h2⟩ := Sh.nums hk hu
  exact ⟨l, rfl, h1, h2⟩
end Go.Ab
