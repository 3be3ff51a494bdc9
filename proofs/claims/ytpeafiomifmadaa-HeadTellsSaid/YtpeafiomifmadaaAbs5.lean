/- The abstract machine's single operations stand for the program's. Part 2: what makes memory. -/
import Derived.Test.YtpeafiomifmadaaAbs4
namespace Go.Ab
open Go
set_option linter.unusedVariables false
set_option linter.unusedSimpArgs false
def RowsAt (φ : Phi) (es : List (List V)) (esz : Nat) (cells : List Value) : Prop :=
 ∀ (i : Nat) (e : List V), es[i]? = some e → e.length = esz ∧ e.all V.one = true ∧ VRs φ e (cut cells (i * esz) esz)
theorem RowsAt.mono {φ ψ : Phi} (h : φ.le ψ) {es : List (List V)} {esz : Nat} {cells : List Value} (k : RowsAt φ es esz cells) : RowsAt ψ es esz cells :=
 fun i e he => ⟨(k i e he).1, (k i e he).2.1, VRs_mono h _ _ (k i e he).2.2⟩
theorem Ext.pushRow {B : Nat} {φ : Phi} {st : St} {w w' : World} (hR : Rep B φ st w) (hN : Room φ st) {es : List (List V)} {esz cap : Nat} {arr : Array Value} {t : TypeId} {lo hi : Nat}
  (hheap : w'.heap = w.heap.push (.cells arr t (lo, hi))) (hos : w'.os = w.os) (htape : w'.tape = w.tape) (hout : w'.output = w.output)
  (hcap : es.length ≤ cap) (hsz : cap * esz ≤ arr.size) (hfr : lo = hi ∨ arr.size ≤ lo) (hc : RowsAt φ es esz arr.toList) :
  Ext B φ st w (φ.put st.next 0 ⟨w.heap.size, 0, es.length, cap, esz⟩) (st.push (.row es 0 0 false)) w' := by
 have hno : φ st.next 0 = none := hN.phi 0
 have hle := Phi.le_put (φ := φ) ⟨w.heap.size, 0, es.length, cap, esz⟩ hno
 refine Ext.push hR hN rfl hos htape hout (by rw [hheap]; simp) (fun b hb => by rw [hheap, Array.getElem?_push, if_neg (by omega)]) (Nat.le_refl _) (by rw [hheap]; simp) ?_
 have h0 : ∀ g L, (φ.put st.next 0 ⟨w.heap.size, 0, es.length, cap, esz⟩) st.next g = some L → g = 0 ∧ L = ⟨w.heap.size, 0, es.length, cap, esz⟩ := fun g L e => by
  by_cases hg : g = 0
  ·subst hg; rw [Phi.put_same] at e; cases e; exact ⟨rfl, rfl⟩
  ·rw [Phi.put_other _ _ (by omega), hN.phi] at e; cases e
 refine ⟨Nat.le_refl _, fun g L e => ?_, fun g h1 h2 => ?_, fun g L g' L' e e' _ => by rw [(h0 g L e).2, (h0 g' L' e').2]; exact ⟨rfl, rfl⟩⟩
 ·by_cases hg : g = 0
  ·omega
  ·rw [Phi.put_other _ _ (by omega), hN.phi] at e; cases e
 ·obtain rfl : g = 0 := by omega
  refine ⟨_, Phi.put_same _ _ _ _, ⟨⟨hcap, Nat.le_refl _⟩, arr, t, lo, hi, by rw [hheap, Array.getElem?_push, if_pos rfl], by simpa using hsz, fun _ => hfr, fun i e _ he => ?_⟩, fun _ => rfl⟩
  obtain ⟨a, b, c⟩ := hc i e he
  exact ⟨a, b, by simpa using VRs_mono hle _ _ c⟩
theorem VR_new_sl {φ : Phi} {o b ln cap esz c : Nat} (h1 : ln ≤ c) (h2 : c ≤ cap) (h3 : c ≤ maxI) : VR (φ.put o 0 ⟨b, 0, ln, cap, esz⟩) (.sl o 0 0 ln esz none) (.slice (some ⟨b, 0, none⟩) ln c) := by
 simp only [VR]
 exact ⟨_, _, _, Phi.put_same _ _ _ _, rfl, rfl, h1, by simp, fun _ => ⟨by simp, by simpa using h2⟩, (fun _ h => by cases h), h3⟩
theorem box_sound {P : Program} {B : Nat} {φ : Phi} {st : St} {w : World} (hR : Rep B φ st w) (hN : Room φ st) {cs : List V} {arr : Array Value} (hx : VRs φ cs arr.toList) (ho : cs.all V.one = true) (t : TypeId) :
  ∃ ψ, Ext B φ st w ψ (st.push (.row [cs] 0 0 false)) (w.alloc (.cells arr t)) ∧ VR ψ (.ptr st.next 0 0 0) (.pointer (some ⟨w.heap.size, 0, none⟩)) := by
 have hl : cs.length = arr.size := by simpa using VRs_length hx
 refine ⟨_, Ext.pushRow hR hN (es := [cs]) (esz := cs.length) (cap := 1) (arr := arr) (t := t) (lo := 0) (hi := 0) rfl rfl rfl rfl (Nat.le_refl _) (by omega) (.inl rfl) (fun i e he => ?_), ?_⟩
 ·cases i with
  | zero => simp at he; subst he; refine ⟨rfl, ho, ?_⟩; rw [hl, Nat.zero_mul, ← Array.length_toList, cut_all]; exact hx
  | succ i => simp at he
 ·simp only [VR]
  exact ⟨_, Phi.put_same _ _ _ _, by simp, by simp⟩
theorem foldl_lay (off : Nat) : ∀ (x : List Value) (k : Nat) (cells : Array Value), off + k + x.length ≤ cells.size →
  (x.zipIdx k).foldl (fun cs (cj : Value × Nat) => cs.setIfInBounds (off + cj.2) cj.1) cells = (lay cells.toList (off + k) x).toArray
 | [], k, cells, _ => by simp [lay]
 | v :: x, k, cells, h => by
  simp only [List.length_cons] at h
  simp only [List.zipIdx_cons, List.foldl_cons]
  rw [foldl_lay off x (k + 1) _ (by simp; omega), Array.toList_setIfInBounds, show off + (k + 1) = off + k + 1 from rfl, lay_cons _ _ _ _ (by simp; omega)]
theorem fill_step {place : Nat → Option (Nat × Nat)} {cells : Array Value} {i off n : Nat} {v : Value} {r : List (Nat × Value)} (hp : place i = some (off, n)) (hn : v.cells.size = n) (hf : off + n ≤ cells.size) :
  Instr.fill place cells ((i, v) :: r) = Instr.fill place (lay cells.toList off v.cells.toList).toArray r := by
 have e : v.cells.zipIdx.foldl (fun (cs : Array Value) (cj : Value × Nat) => cs.setIfInBounds (off + cj.2) cj.1) cells = (lay cells.toList off v.cells.toList).toArray := by
  have := foldl_lay off v.cells.toList 0 cells (by simp; omega)
  rw [Nat.add_zero] at this
  rw [← this, ← Array.foldl_toList]
  simp
 simp only [Instr.fill, hp, hn, ne_eq, not_true_eq_false, decide_false, Bool.false_or, decide_eq_true_eq]
 rw [if_neg (by simp; omega)]
 rw [← e]
theorem fillCells_sound {P : Program} {φ : Phi} {env : Env} {a : Act} (hE : ER φ env a.tmps) {place : Nat → Option (Nat × Nat)} : ∀ {parts : List (Nat × Operand)} {ps : List (Nat × Nat × Opd)}, partsOf P place parts = some ps →
  ∀ {zero cs : List V} {cells : Array Value}, VRs φ zero cells.toList → fillCells zero env ps = some cs →
  ∃ out : Array Value, Instr.fill place cells (parts.map fun (i, x) => (i, a.eval x)) = some out ∧ VRs φ cs out.toList
 | [], ps, h, zero, cs, cells, hz, hf => by
  simp only [partsOf, Option.some.injEq] at h; subst h
  simp only [fillCells, Option.some.injEq] at hf; subst hf
  exact ⟨cells, rfl, hz⟩
 | (i, x) :: r, ps, h, zero, cs, cells, hz, hf => by
  simp only [partsOf] at h
  split at h
  ·rename_i off n y l hp hy hl
   cases h
   simp only [fillCells] at hf
   split at hf
   ·rename_i xs hxs
    split at hf
    ·rename_i hc
     have hv := cells_of_VR (opdOf_VR hE hy) hxs
     have hsz : (a.eval x).cells.size = n := by
      have := VRs_length hv; simp at this; omega
     have hzl := VRs_length hz
     simp at hzl
     simp only [List.map_cons]
     rw [fill_step hp hsz (by omega)]
     refine fillCells_sound hE hl ?_ hf
     simpa using VRs_lay hz hv off
    ·cases hf
   ·cases hf
  ·cases h
theorem fillRow_sound {φ : Phi} {env : Env} {a : Act} (hE : ER φ env a.tmps) {esz : Nat} : ∀ {parts : List (Nat × Operand)} {ps : List (Nat × Opd)}, rowPartsOf parts = some ps →
  ∀ {row es : List (List V)} {cells : Array Value}, RowsAt φ row esz cells.toList → row.length * esz ≤ cells.size → fillRow row esz env ps = some es →
  ∃ out : Array Value, Instr.fill (fun i => some (i * esz, esz)) cells (parts.map fun (i, x) => (i, a.eval x)) = some out ∧ RowsAt φ es esz out.toList ∧ es.length = row.length ∧ out.size = cells.size
 | [], ps, h, row, es, cells, hz, hs, hf => by
  simp only [rowPartsOf, Option.some.injEq] at h; subst h
  simp only [fillRow, Option.some.injEq] at hf; subst hf
  exact ⟨cells, rfl, hz, rfl, rfl⟩
 | (i, x) :: r, ps, h, row, es, cells, hz, hs, hf => by
  simp only [rowPartsOf] at h
  split at h
  ·rename_i y l hy hl
   cases h
   simp only [fillRow] at hf
   split at hf
   ·rename_i xs hxs
    split at hf
    ·rename_i hc
     obtain ⟨hc1, hc2, hc3⟩ := hc
     have hv := cells_of_VR (opdOf_VR hE hy) hxs
     have hsz : (a.eval x).cells.size = esz := by
      have := VRs_length hv; simp at this; omega
     have hm := mul_lt esz hc2
     simp only [List.map_cons]
     rw [fill_step rfl hsz (by omega)]
     have hll := lay_length cells.toList (i * esz) (a.eval x).cells.toList (by simp; omega)
     simp at hll
     have hrows : RowsAt φ (row.set i xs) esz (lay cells.toList (i * esz) (a.eval x).cells.toList) := by
      intro j e he
      by_cases hji : j = i
      ·subst hji
       rw [List.getElem?_set_self hc2] at he; cases he
       refine ⟨hc1, hc3, ?_⟩
       have := cut_lay_in cells.toList (j * esz) esz 0 (a.eval x).cells.toList (by simp; omega) (by simp; omega)
       rw [Nat.add_zero] at this
       rw [this]
       have hcl : (cut cells.toList (j * esz) esz).length = esz := by rw [cut_length]; simp; omega
       have : lay (cut cells.toList (j * esz) esz) 0 (a.eval x).cells.toList = (a.eval x).cells.toList := by
        unfold lay
        rw [List.drop_of_length_le (by simp; omega)]; simp
       rw [this]; exact hv
      ·rw [List.getElem?_set_ne (fun h => hji h.symm)] at he
       obtain ⟨a1, a2, a3⟩ := hz j e he
       refine ⟨a1, a2, ?_⟩
       rw [cut_lay_out _ _ _ _ _ (by simp; omega)]
       ·exact a3
       ·rcases Nat.lt_or_gt_of_ne hji with h | h
        ·have := mul_lt esz h; simp; omega
        ·have := mul_lt esz h; simp; omega
     obtain ⟨out, h1, h2, h3, h4⟩ := fillRow_sound hE hl (row := row.set i xs) (cells := (lay cells.toList (i * esz) (a.eval x).cells.toList).toArray) hrows (by simp [hll]; omega) hf
     exact ⟨out, h1, h2, by simpa using h3, by simp [h4, hll]⟩
    ·cases hf
   ·cases hf
  ·cases h
theorem zeros_get {z : List Value} {n m j : Nat} (hm : m = n * z.length) (hj : j < m) (h0 : 0 < z.length) : (((Array.range m).map fun i => z.toArray[i % z.toArray.size]!).toList)[j]? = z[j % z.length]? := by
 have : j % z.length < z.length := Nat.mod_lt _ h0
 simp [hj, this]
theorem RowsAt_zeros {φ : Phi} {zero : List V} {z : Array Value} (hz : VRs φ zero z.toList) (ho : zero.all V.one = true) (n : Nat) :
  RowsAt φ (List.replicate n zero) zero.length (((Array.range (n * zero.length)).map fun i => z[i % z.size]!).toList) := by
 intro i e he
 have hi : i < n := by
  rcases Nat.lt_or_ge i n with h | h
  ·exact h
  ·rw [List.getElem?_eq_none (by simpa using h)] at he; cases he
 rw [List.getElem?_replicate, if_pos hi] at he
 cases he
 have hl : zero.length = z.size := by simpa using VRs_length hz
 refine ⟨rfl, ho, ?_⟩
 have e : cut (((Array.range (n * zero.length)).map fun i => z[i % z.size]!).toList) (i * zero.length) zero.length = z.toList := by
  apply List.ext_getElem?
  intro j
  rw [cut_get]
  by_cases hj : j < zero.length
  ·have hm := mul_lt zero.length hi
   rw [if_pos hj]
   have hmod : (i * zero.length + j) % z.size = j := by rw [hl, Nat.add_comm, Nat.add_mul_mod_self_right]; exact Nat.mod_eq_of_lt (by omega)
   have hlt : i * zero.length + j < n * zero.length := by omega
   have hjz : j < z.size := by omega
   simp [hlt, hmod, hjz]
  ·rw [if_neg hj, List.getElem?_eq_none (by simp; omega)]
 rw [e]; exact hz
theorem zeroOf_cases {P : Program} {t : TypeId} {zs : List V} (h : zeroOf P t = some zs) : ∃ i z, P.info? t = some i ∧ i.zero = some z ∧ (∀ φ, VRs φ zs z.cells.toList) := by
 unfold zeroOf at h
 split at h
 ·rename_i v hv
  rw [Option.bind_eq_some_iff] at hv
  obtain ⟨i, hi, hz⟩ := hv
  exact ⟨i, v, hi, hz, fun φ => scalarsOf_VR h⟩
 ·cases h
theorem run_zeroValue_of {P : Program} {t : TypeId} {i : TypeInfo} {z : Value} (w : World) (h : P.info? t = some i) (hz : i.zero = some z) : (zeroValue t).run P w = .ok z w := by
 simp [zeroValue, typeInfo, h, hz]
theorem sizeOf?_cases {P : Program} {t : TypeId} {n : Nat} (h : sizeOf? P t = some n) : ∃ i, P.info? t = some i ∧ i.size = n := by
 unfold sizeOf? at h; rw [Option.map_eq_some_iff] at h; exact h
theorem buildSlice_sound {P : Program} {B : Nat} {φ : Phi} {st : St} {w : World} (hR : Rep B φ st w) (hN : Room φ st) {env : Env} {a : Act} (hE : ER φ env a.tmps) {t e : TypeId} {ln n : Nat} {parts : Array (Nat × Operand)} {ps : List (Nat × Opd)} {zs : List V}
  (hu : P.underlying t = some (.slice e)) (hs : sizeOf? P e = some n) (hz : zeroOf P e = some zs) (hp : rowPartsOf parts.toList = some ps) (h0 : 0 < n) (hzl : zs.length = n) (hsm : ln * n ≤ 16777216) (hzo : zs.all V.one = true)
  {es : List (List V)} (hf : fillRow (List.replicate ln zs) n env ps = some es) :
  ∃ u w' ψ, (Instr.buildSlice t ln (parts.map fun (i, x) => (i, a.eval x))).run P w = .ok u w' ∧ Ext B φ st w ψ (st.push (.row es 0 0 false)) w' ∧ VR ψ (.sl st.next 0 0 ln n none) u := by
 obtain ⟨i, hi, hin⟩ := sizeOf?_cases hs
 obtain ⟨i', z, hi', hzv, hzr⟩ := zeroOf_cases hz
 rw [hi] at hi'; cases hi'
 have hzc : z.cells.size = n := by have := VRs_length (hzr φ); simp at this; omega
 have hrow := RowsAt_zeros (hzr φ) hzo ln
 rw [hzl] at hrow
 obtain ⟨out, h1, h2, h3, h4⟩ := fillRow_sound (φ := φ) hE hp (row := List.replicate ln zs) (cells := (Array.range (ln * n)).map fun i => z.cells[i % z.cells.size]!) hrow (by simp) hf
 simp only [List.length_replicate] at h3
 have hos : out.size = ln * n := by simpa using h4
 refine ⟨.slice (some ⟨w.heap.size, 0, none⟩) ln ln, w.alloc (.cells out e), _, ?_, Ext.pushRow hR hN (cap := ln) (arr := out) (t := e) (lo := 0) (hi := 0) rfl rfl rfl rfl (by omega) (by omega) (.inl rfl) h2, ?_⟩
 ·have hmap : (parts.map fun (x : Nat × Operand) => (x.1, a.eval x.2)).toList = parts.toList.map fun (x : Nat × Operand) => (x.1, a.eval x.2) := by simp
  have h24 : ¬ (ln * n > 2 ^ 24) := by omega
  unfold Instr.buildSlice
  simp only [Sem.run_bind, run_underlying hu, Result.andThen_ok, run_sizeOf_of w hi, hin, h24, if_false, Sem.run_pure]
  by_cases hl0 : ln * n = 0
  ·have hn0 : ln = 0 := by rcases Nat.mul_eq_zero.1 hl0 with h | h <;> omega
   subst hn0
   simp only [Nat.zero_mul, if_true, Sem.run_bind, Sem.run_pure, Result.andThen_ok]
   simp only [Nat.zero_mul] at h1
   rw [hmap]
   have : ((Array.range 0).map fun i => z.cells[i % z.cells.size]!) = ((Array.range 0).map fun x => (#[] : Array Value)[x % (#[] : Array Value).size]!) := by simp
   rw [this] at h1
   simp only [h1]
   simp [newRow]
  ·simp only [hl0, if_false, Sem.run_bind, run_zeroValue_of w hi hzv, Result.andThen_ok, Sem.run_pure]
   rw [hmap]
   simp only [h1]
   simp [newRow]
 ·rw [h3]
  exact VR_new_sl (Nat.le_refl _) (Nat.le_refl _) (by unfold maxI; have := Nat.le_mul_of_pos_right ln h0; omega)
end Go.Ab
