/- The abstract machine's single operations stand for the program's. Part 1: words on runs, constants, loads and stores. -/
import Derived.Test.YtpeafiomifmadaaAbs3
namespace Go.Ab
open Go
set_option linter.unusedVariables false
set_option linter.unusedSimpArgs false
theorem cut_length {α : Type} (l : List α) (o n : Nat) : (cut l o n).length = min n (l.length - o) := by simp [cut]
theorem cut_get {α : Type} (l : List α) (o n j : Nat) : (cut l o n)[j]? = if j < n then l[o + j]? else none := by
 simp only [cut, List.getElem?_take, List.getElem?_drop]
theorem cut_all {α : Type} (l : List α) : cut l 0 l.length = l := by simp [cut]
theorem cut_cut {α : Type} (l : List α) (o n p m : Nat) (h : p + m ≤ n) : cut (cut l o n) p m = cut l (o + p) m := by
 apply List.ext_getElem?
 intro j
 simp only [cut_get]
 by_cases hj : j < m
 ·rw [if_pos hj, if_pos hj, if_pos (by omega)]; congr 1; omega
 ·rw [if_neg hj, if_neg hj]
theorem lay_length {α : Type} (l : List α) (o : Nat) (x : List α) (h : o + x.length ≤ l.length) : (lay l o x).length = l.length := by
 simp [lay]; omega
theorem lay_get {α : Type} (l : List α) (o : Nat) (x : List α) (h : o + x.length ≤ l.length) (j : Nat) : (lay l o x)[j]? = if o ≤ j ∧ j < o + x.length then x[j - o]? else l[j]? := by
 unfold lay
 rw [List.append_assoc, List.getElem?_append]
 have ht : (l.take o).length = o := by simp; omega
 rw [ht]
 by_cases h1 : j < o
 ·rw [if_pos h1, if_neg (by omega), List.getElem?_take, if_pos h1]
 ·rw [if_neg h1, List.getElem?_append]
  by_cases h2 : j - o < x.length
  ·rw [if_pos h2, if_pos (by omega)]
  ·rw [if_neg h2, if_neg (by omega), List.getElem?_drop]; congr 1; omega
def ER (φ : Phi) (env : Env) (tmps : Array Value) : Prop := ∀ n, VR φ (Env.get env n) (tmps.getD n undef)
theorem ER_mono {φ ψ : Phi} (h : φ.le ψ) {env : Env} {tmps : Array Value} (e : ER φ env tmps) : ER ψ env tmps := fun n => VR_mono h _ _ (e n)
theorem scalarOf_VR {φ : Phi} {v : Value} {x : V} (h : scalarOf v = some x) : VR φ x v := by
 unfold scalarOf at h
 split at h
 ·cases h; simp only [VR]
 ·split at h
  ·cases h; rename_i hk; simp only [VR, true_and]; exact hk
  ·cases h
 ·split at h
  ·cases h; rename_i s hl; simp only [VR]; refine ⟨s, rfl, rfl, ?_⟩; simp only [List.length_map]; unfold maxI; omega
  ·cases h
 all_goals first | (cases h; simp only [VR]; done) | cases h
theorem scalarsOf_VR {φ : Phi} : ∀ {vs : List Value} {xs : List V}, scalarsOf vs = some xs → VRs φ xs vs
 | [], xs, h => by simp only [scalarsOf, Option.some.injEq] at h; subst h; rw [VRs_nil]
 | v :: vs, xs, h => by
  simp only [scalarsOf] at h
  split at h
  ·rename_i x l hx hl; cases h; rw [VRs_cons2]; exact ⟨scalarOf_VR hx, scalarsOf_VR hl⟩
  ·cases h
theorem scalarsOf_length {vs : List Value} {xs : List V} (h : scalarsOf vs = some xs) : xs.length = vs.length :=
 VRs_length (scalarsOf_VR (φ := fun _ _ => none) h)
theorem constOf_VR {φ : Phi} {v : Value} {x : V} (h : constOf v = some x) : VR φ x v := by
 unfold constOf at h
 split at h
 ·rename_i cs
  cases hs : scalarsOf cs.toList with
  | none => rw [hs] at h; cases h
  | some l => rw [hs] at h; cases h; simp only [VR]; exact ⟨cs, rfl, scalarsOf_VR hs⟩
 ·exact scalarOf_VR h
theorem opdOf_VR {φ : Phi} {env : Env} {a : Act} (hE : ER φ env a.tmps) {x : Operand} {y : Opd} (h : opdOf x = some y) : VR φ (y.ev env) (a.eval x) := by
 cases x with
 | tmp t => simp only [opdOf, Option.some.injEq] at h; subst h; exact hE t
 | const v =>
  simp only [opdOf, Option.map_eq_some_iff] at h
  obtain ⟨c, hc, rfl⟩ := h
  exact constOf_VR hc
 | global g => cases h
 | func f => simp only [opdOf, Option.some.injEq] at h; subst h; simp only [Opd.ev, Act.eval, VR]; exact ⟨#[], #[], rfl, by rw [VRs_nil], by rw [VRs_nil]⟩
theorem opdsOf_VR {φ : Phi} {env : Env} {a : Act} (hE : ER φ env a.tmps) : ∀ {xs : List Operand} {ys : List Opd}, opdsOf xs = some ys → VRs φ (evs env ys) (xs.map a.eval)
 | [], ys, h => by simp only [opdsOf, Option.some.injEq] at h; subst h; simp only [evs, List.map_nil]; rw [VRs_nil]
 | x :: xs, ys, h => by
  simp only [opdsOf] at h
  split at h
  ·rename_i y l hy hl; cases h; simp only [evs, List.map_cons]; rw [VRs_cons2]; exact ⟨opdOf_VR hE hy, opdsOf_VR hE hl⟩
  ·cases h
theorem shapeOf_cases {P : Program} {t : TypeId} {n : Nat} {g : Bool} (h : shapeOf P t = some (n, g)) :
  ∃ d i, P.underlying t = some d ∧ P.info? t = some i ∧ i.size = n ∧ aggD d = g ∧ (g = false → n = 1) := by
 unfold shapeOf aggOf sizeOf? at h
 cases hu : P.underlying t with
 | none => simp [hu] at h
 | some d =>
  cases hi : P.info? t with
  | none => simp [hu, hi] at h
  | some i =>
   refine ⟨d, i, rfl, rfl, ?_⟩
   simp only [hu, hi, Option.map_some] at h
   cases hd : aggD d with
   | true =>
    simp only [hd, Option.some.injEq, Prod.mk.injEq] at h
    obtain ⟨rfl, rfl⟩ := h
    exact ⟨rfl, rfl, by simp⟩
   | false =>
    simp only [hd] at h
    split at h
    ·simp only [Option.some.injEq, Prod.mk.injEq] at h
     obtain ⟨rfl, rfl⟩ := h
     rename_i h1
     exact ⟨h1, rfl, fun _ => rfl⟩
    ·cases h
theorem run_isAgg_of {P : Program} {t : TypeId} {d : TypeDesc} (w : World) (h : P.underlying t = some d) : (isAgg t).run P w = .ok (aggD d) w := by
 unfold isAgg
 rw [Sem.run_bind, run_underlying h w]
 cases d <;> rfl
theorem run_sizeOf_of {P : Program} {t : TypeId} {i : TypeInfo} (w : World) (h : P.info? t = some i) : (sizeOf t).run P w = .ok i.size w := by
 simp [sizeOf, typeInfo, h]
theorem run_typeInfo_of {P : Program} {t : TypeId} {i : TypeInfo} (w : World) (h : P.info? t = some i) : (typeInfo t).run P w = .ok i w := by
 simp [typeInfo, h]
theorem ofCells_VR {φ : Phi} {g : Bool} {cs : List V} {vs : List Value} {v : V} (h : VRs φ cs vs) (ho : ofCells g cs = some v) :
  (g = true ∧ VR φ v (.agg vs.toArray)) ∨ (g = false ∧ ∃ u, vs = [u] ∧ VR φ v u) := by
 unfold ofCells at ho
 cases g with
 | true =>
  simp only [if_true, Option.some.injEq] at ho; subst ho
  refine .inl ⟨rfl, ?_⟩
  simp only [VR]; exact ⟨vs.toArray, rfl, by simpa using h⟩
 | false =>
  simp only [Bool.false_eq_true, if_false] at ho
  split at ho
  ·cases ho
   rw [VRs_cons] at h; obtain ⟨u, us, rfl, hu, h⟩ := h
   rw [VRs_nil] at h; subst h
   exact .inr ⟨rfl, u, rfl, hu⟩
  ·cases ho
theorem Rep.rowOf {B : Nat} {φ : Phi} {st : St} {w : World} (hR : Rep B φ st w) {o g : Nat} {L : Loc} (hL : φ o g = some L) {es : List (List V)} {gen live : Nat} {ro : Bool} (hg : st.get o = some (.row es gen live ro)) (hl : live ≤ g) :
  RowAt φ w L es ro ∧ g ≤ gen ∧ (g = gen → L.len = es.length) := by
 obtain ⟨_, h2, h3, _⟩ := hR.here o _ hg
 obtain ⟨L', e, r, q⟩ := h3 g hl (h2 g L hL)
 rw [hL] at e; cases e
 exact ⟨r, h2 g L hL, q⟩
theorem list_get_of_cut {α : Type} {l : List α} {o n j : Nat} (h : j < n) : l[o + j]? = (cut l o n)[j]? := by rw [cut_get, if_pos h]
theorem run_loadCells_cut {P : Program} {w : World} {b o n : Nat} {arr : Array Value} {t : TypeId} {fr : Nat × Nat} (hg : w.heap[b]? = some (.cells arr t fr)) (hn : o + n ≤ arr.size) :
  (loadCells ⟨b, o, none⟩ n).run P w = .ok (cut arr.toList o n).toArray w := by
 have hl : (cut arr.toList o n).length = n := by rw [cut_length]; simp; omega
 have := run_loadCells_list (P := P) w ⟨b, o, none⟩ (cut arr.toList o n) (fun j v hv => by
  rw [Addr.add_lit, cell_of_row w b (o + j) arr t fr hg]
  rw [cut_get] at hv
  split at hv
  ·simpa using hv
  ·cases hv)
 rw [hl] at this
 exact this
theorem load_sound {P : Program} {B : Nat} {φ : Phi} {st : St} {w : World} (hR : Rep B φ st w) {av : V} {cv : Value} (ha : VR φ av cv) {t : TypeId} {n : Nat} {g : Bool} (hs : shapeOf P t = some (n, g)) {v : V} (hl : st.load av n g = some v) :
  ∃ u, (Instr.loadAt t cv).run P w = .ok u w ∧ VR φ v u := by
 obtain ⟨d, inf, hu, hi, hsz, hd, h1⟩ := shapeOf_cases hs
 unfold St.load at hl
 split at hl
 ·rename_i o gn i s
  split at hl
  ·rename_i es gen live ro hg
   split at hl
   ·rename_i hlive
    split at hl
    ·rename_i cs hcs
     split at hl
     ·rename_i hsn
      simp only [VR] at ha
      obtain ⟨L, hL, rfl, hiL⟩ := ha
      obtain ⟨⟨hlen, arr, et, lo, hi', hheap, hsize, _, hcells⟩, _, _⟩ := hR.rowOf hL hg hlive
      obtain ⟨hel, _, hvs⟩ := hcells i cs hiL hcs
      have hmul : (i + 1) * L.esz ≤ L.cap * L.esz := Nat.mul_le_mul_right _ (by omega)
      have hmul' : (i + 1) * L.esz = i * L.esz + L.esz := Nat.succ_mul _ _
      have hc := VRs_cut hvs s n
      rw [cut_cut _ _ _ _ _ (by omega)] at hc
      rcases ofCells_VR hc hl with ⟨rfl, hv⟩ | ⟨rfl, u, hu1, hv⟩
      ·refine ⟨_, ?_, hv⟩
       simp only [Instr.loadAt, Instr.sureAddr, Sem.run_bind, Sem.run_pure, Result.andThen_ok, loadVar, run_isAgg_of w hu, hd, if_true, run_sizeOf_of w hi, hsz, run_loadCells_cut hheap (show L.base + i * L.esz + s + n ≤ arr.size by omega)]
      ·refine ⟨u, ?_, hv⟩
       obtain rfl := h1 rfl
       have hcell : w.cell? ⟨L.block, L.base + i * L.esz + s, none⟩ = some u := by
        rw [cell_of_row w _ _ _ _ _ hheap]
        have := list_get_of_cut (l := arr.toList) (o := L.base + i * L.esz + s) (n := 1) (j := 0) (by omega)
        rw [hu1] at this
        simpa using this
       simp only [Instr.loadAt, Instr.sureAddr, Sem.run_bind, Sem.run_pure, Result.andThen_ok, loadVar, run_isAgg_of w hu, hd, Bool.false_eq_true, if_false, run_load, hcell]
     ·cases hl
    ·cases hl
   ·cases hl
  ·cases hl
 ·cases hl
def putBlock (w : World) (b : Nat) (x : Go.Obj) : World := { w with heap := w.heap.setIfInBounds b x }
theorem putBlock_size (w : World) (b : Nat) (x : Go.Obj) : (putBlock w b x).heap.size = w.heap.size := by simp [putBlock]
theorem putBlock_same {w : World} {b : Nat} (x : Go.Obj) (h : b < w.heap.size) : (putBlock w b x).heap[b]? = some x := by simp [putBlock, h]
theorem putBlock_other (w : World) {b c : Nat} (x : Go.Obj) (h : b ≠ c) : (putBlock w b x).heap[c]? = w.heap[c]? := by
 simp [putBlock, Array.getElem?_setIfInBounds_ne h]
theorem putBlock_put (w : World) (b : Nat) (x y : Go.Obj) : putBlock (putBlock w b x) b y = putBlock w b y := by
 simp [putBlock]
theorem setCell_put {w : World} {b o : Nat} {arr : Array Value} {t : TypeId} {fr : Nat × Nat} (hg : w.heap[b]? = some (.cells arr t fr)) (v : Value) :
  w.setCell ⟨b, o, none⟩ v = putBlock w b (.cells (arr.setIfInBounds o v) t fr) := by
 unfold World.setCell putBlock
 congr 1
 apply Array.ext_getElem?
 intro i
 rw [Array.getElem?_modify, Array.getElem?_setIfInBounds]
 by_cases h : b = i
 ·subst h
  obtain ⟨hb, he⟩ := Array.getElem?_eq_some_iff.1 hg
  simp [he, hb]
 ·simp [h]
theorem frozen_of {w : World} {b o : Nat} {arr : Array Value} {t : TypeId} {lo hi : Nat} (hg : w.heap[b]? = some (.cells arr t (lo, hi))) (h : ¬ (lo ≤ o ∧ o < hi)) : w.frozen? ⟨b, o, none⟩ = false := by
 simp only [World.frozen?, hg]
 simpa using h
theorem lay_cons {α : Type} (l : List α) (o : Nat) (v : α) (x : List α) (h : o + (x.length + 1) ≤ l.length) : lay (l.set o v) (o + 1) x = lay l o (v :: x) := by
 apply List.ext_getElem?
 intro j
 rw [lay_get _ _ _ (by simp; omega), lay_get _ _ _ (by simpa using h)]
 simp only [List.length_cons]
 by_cases h1 : o + 1 ≤ j ∧ j < o + 1 + x.length
 ·rw [if_pos h1, if_pos (by omega)]
  rw [show j - o = (j - (o + 1)) + 1 from by omega]; simp
 ·rw [if_neg h1]
  by_cases h2 : j = o
  ·rw [if_pos (by omega), h2, Nat.sub_self, List.getElem?_set_self (by omega)]; rfl
  ·rw [if_neg (by omega), List.getElem?_set_ne (by omega)]
theorem run_storeCells_put {P : Program} {b o : Nat} {t : TypeId} {lo hi : Nat} : ∀ (vs : List Value) (i : Nat) (arr : Array Value) (w : World), w.heap[b]? = some (.cells arr t (lo, hi)) → o + i + vs.length ≤ arr.size →
  (∀ j, j < vs.length → ¬ (lo ≤ o + i + j ∧ o + i + j < hi)) → (∀ v ∈ vs, v.oneCell' = true) →
  (storeCells ⟨b, o, none⟩ vs i).run P w = .ok () (putBlock w b (.cells (lay arr.toList (o + i) vs).toArray t (lo, hi)))
 | [], i, arr, w, hg, _, _, _ => by
  simp only [storeCells, Sem.run_pure]
  have hb : b < w.heap.size := (Array.getElem?_eq_some_iff.1 hg).1
  have e : w.heap.setIfInBounds b (.cells (lay arr.toList (o + i) []).toArray t (lo, hi)) = w.heap := by
   apply Array.ext_getElem?
   intro j
   rw [Array.getElem?_setIfInBounds]
   by_cases h : b = j
   ·subst h; simp only [hb, if_true]; rw [hg]; simp [lay]
   ·simp [h]
  unfold putBlock
  rw [e]
 | v :: r, i, arr, w, hg, hl, hf, h1 => by
  simp only [List.length_cons] at hl hf
  have hb : b < w.heap.size := (Array.getElem?_eq_some_iff.1 hg).1
  have hst : (store ((⟨b, o, none⟩ : Addr).add i) v).run P w = .ok () (putBlock w b (.cells (arr.setIfInBounds (o + i) v) t (lo, hi))) := by
   rw [Addr.add_lit, run_store P w _ v _ (h1 v (by simp)), cell_of_row w b (o + i) arr t _ hg, frozen_of hg (by simpa using hf 0 (by omega)), setCell_put hg]
   rw [Array.getElem?_eq_getElem (by omega)]
   rfl
  simp only [storeCells, Sem.run_bind, hst, Result.andThen_ok]
  rw [run_storeCells_put r (i + 1) (arr.setIfInBounds (o + i) v) _ (putBlock_same _ hb) (by simp; omega) (fun j hj => by have := hf (j + 1) (by omega); rwa [show o + (i + 1) + j = o + i + (j + 1) from by omega]) (fun u hu => h1 u (by simp [hu])), putBlock_put]
  congr 3
  rw [Array.toList_setIfInBounds, show o + (i + 1) = o + i + 1 from by omega, lay_cons _ _ _ _ (by simp; omega)]
theorem cut_lay_in {α : Type} (l : List α) (o n s : Nat) (x : List α) (h : s + x.length ≤ n) (hl : o + n ≤ l.length) : cut (lay l (o + s) x) o n = lay (cut l o n) s x := by
 apply List.ext_getElem?
 intro j
 rw [cut_get, lay_get _ _ _ (by omega), lay_get _ _ _ (by rw [cut_length]; omega), cut_get]
 by_cases hj : j < n
 ·rw [if_pos hj, if_pos hj]
  by_cases h1 : s ≤ j ∧ j < s + x.length
  ·rw [if_pos h1, if_pos (by omega)]; congr 1; omega
  ·rw [if_neg h1, if_neg (by omega)]
 ·rw [if_neg hj, if_neg hj, if_neg (by omega)]
theorem cut_lay_out {α : Type} (l : List α) (o n p : Nat) (x : List α) (hp : p + x.length ≤ l.length) (h : p + x.length ≤ o ∨ o + n ≤ p) : cut (lay l p x) o n = cut l o n := by
 apply List.ext_getElem?
 intro j
 rw [cut_get, cut_get]
 by_cases hj : j < n
 ·rw [if_pos hj, if_pos hj, lay_get _ _ _ hp, if_neg (by omega)]
 ·rw [if_neg hj, if_neg hj]
theorem mul_step (i n : Nat) : (i + 1) * n = i * n + n := Nat.succ_mul _ _
theorem mul_lt {i j : Nat} (n : Nat) (h : i < j) : i * n + n ≤ j * n := by rw [← mul_step]; exact Nat.mul_le_mul_right _ h
theorem lay_one {cs xs : List V} (s : Nat) (h : cs.all V.one = true) (k : xs.all V.one = true) : (lay cs s xs).all V.one = true := by
 unfold lay
 rw [List.all_append, List.all_append, k]
 rw [List.all_eq_true] at h
 simp only [Bool.and_true, Bool.and_eq_true, List.all_eq_true]
 exact ⟨fun x hx => h x (List.mem_of_mem_take hx), fun x hx => h x (List.mem_of_mem_drop hx)⟩
theorem one_of_VRs {φ : Phi} : ∀ {xs : List V} {vs : List Value}, VRs φ xs vs → xs.all V.one = true → ∀ v ∈ vs, v.oneCell' = true
 | [], vs, h, _, v, hv => by rw [VRs_nil] at h; subst h; cases hv
 | x :: xs, vs, h, ho, v, hv => by
  rw [VRs_cons] at h; obtain ⟨y, ys, rfl, hy, h⟩ := h
  simp only [List.all_cons, Bool.and_eq_true] at ho
  rcases List.mem_cons.1 hv with rfl | hv
  ·exact one_of_VR hy ho.1
  ·exact one_of_VRs h ho.2 v hv
theorem store_sound {P : Program} {B : Nat} {φ : Phi} {st : St} {w : World} (hR : Rep B φ st w) {av xv : V} {cv u : Value} (ha : VR φ av cv) (hx : VR φ xv u) {t : TypeId} {n : Nat} (hs : sizeOf? P t = some n) {st' : St} (hl : st.store av n xv = some st') :
  ∃ w', (Instr.storeAt t cv u).run P w = .ok () w' ∧ Ext B φ st w φ st' w' := by
 unfold sizeOf? at hs
 rw [Option.map_eq_some_iff] at hs
 obtain ⟨inf, hi, hsz⟩ := hs
 unfold St.store at hl
 split at hl
 ·rename_i o gn i s
  split at hl
  ·rename_i es gen live ro hg
   split at hl
   ·rename_i hro
    obtain ⟨rfl, rfl⟩ := hro
    split at hl
    ·rename_i cs xs hcs hxs
     split at hl
     ·rename_i hsn
      obtain ⟨hsn, hxl, hone⟩ := hsn
      cases hl
      simp only [VR] at ha
      obtain ⟨L, hL, rfl, hiL⟩ := ha
      obtain ⟨hlg, _, hgens, hsb⟩ := hR.here o _ hg
      obtain ⟨⟨hlen, arr, et, lo, hi', hheap, hsize, hfr, hcells⟩, _, hlast⟩ := hR.rowOf hL hg hlg
      have hll := hlast rfl
      obtain ⟨hel, heo, hvs⟩ := hcells i cs hiL hcs
      have hmul := mul_lt L.esz (show i < L.cap by omega)
      have hus := cells_of_VR hx hxs
      have hul : u.cells.toList.length = n := by rw [← VRs_length hus, hxl]
      have hul' : u.cells.size = n := by simpa using hul
      have hb : L.block < w.heap.size := hR.inh _ _ _ hL
      refine ⟨putBlock w L.block (.cells (lay arr.toList (L.base + i * L.esz + s) u.cells.toList).toArray et (lo, hi')), ?_, ?_⟩
      ·simp only [Instr.storeAt, Instr.sureAddr, Sem.run_bind, Sem.run_pure, Result.andThen_ok, storeVar, run_sizeOf_of w hi, hsz, hul', ne_eq, not_true_eq_false, if_false]
       rw [run_storeCells_put _ 0 arr w hheap (by simp only [Nat.add_zero]; omega) (fun j hj => by rcases hfr rfl with hf | hf <;> omega) (one_of_VRs hus hone)]
       simp only [Nat.add_zero, Result.andThen_ok, Sem.run_pure]
      ·refine Ext.turn hR hg rfl rfl rfl rfl rfl (Nat.le_of_eq (putBlock_size _ _ _).symm) φ.le_refl (fun _ _ _ _ e => e) (fun b _ hbn => putBlock_other _ _ (hbn _ _ hL)) (fun g L e => .inl ⟨g, L, e, rfl⟩) (fun g L e => by rw [putBlock_size]; exact hR.inh _ _ _ e) ?_
       refine ⟨Nat.le_refl _, fun g L e => (hR.here o _ hg).2.1 g L e, fun g h1 h2 => ?_, hsb⟩
       obtain rfl : g = gn := by omega
       refine ⟨L, hL, ⟨⟨hlen.1, by simp [hll]⟩, _, et, lo, hi', putBlock_same _ hb, ?_, (fun hro => by rw [List.size_toArray, lay_length _ _ _ (by simp; omega)]; exact hfr hro), fun j e hj he => ?_⟩, fun _ => by simpa using hll⟩
       ·have := lay_length arr.toList (L.base + i * L.esz + s) u.cells.toList (by simp; omega)
        simp only [List.size_toArray, this]; simpa using hsize
       ·have hlay := lay_length cs s xs (by omega)
        have harr : arr.toList.length = arr.size := by simp
        by_cases hji : j = i
        ·subst hji
         rw [List.getElem?_set_self (by rw [← hll]; exact hj)] at he; cases he
         refine ⟨by rw [hlay]; exact hel, lay_one s heo hone, ?_⟩
         rw [cut_lay_in _ _ _ _ _ (by omega) (by omega)]
         exact VRs_lay hvs hus s
        ·rw [List.getElem?_set_ne (fun h => hji h.symm)] at he
         obtain ⟨h1, h2, h3⟩ := hcells j e hj he
         refine ⟨h1, h2, ?_⟩
         rw [cut_lay_out _ _ _ _ _ (by omega)]
         ·exact h3
         ·rcases Nat.lt_or_gt_of_ne hji with h | h
          ·have := mul_lt L.esz h; omega
          ·have := mul_lt L.esz h; omega
     ·cases hl
    ·cases hl
   ·cases hl
  ·cases hl
 ·cases hl
end Go.Ab
