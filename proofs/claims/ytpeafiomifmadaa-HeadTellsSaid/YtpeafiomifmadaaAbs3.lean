/- What it means that the abstract machine's values and memory stand for the program's: the relation, and what keeps it. -/
import Derived.Test.YtpeafiomifmadaaAbs2
namespace Go.Ab
open Go
set_option linter.unusedVariables false
theorem Tr.get_sing : ∀ (f n : Nat) (x : Obj) (m : Nat), n ≤ f → (Tr.sing f n x).get m = if m = n then some x else none
 | 0, n, x, m, h => by
  obtain rfl : n = 0 := by omega
  simp only [Tr.sing, Tr.get]
  split <;> simp
 | f + 1, n, x, m, h => by
  simp only [Tr.sing]
  by_cases h0 : n = 0
  ·subst h0; simp only [if_true, Tr.get]; split <;> simp
  ·rw [if_neg h0]
   by_cases h1 : n % 2 = 1
   ·rw [if_pos h1]; simp only [Tr.get]
    by_cases m0 : m = 0
    ·subst m0; rw [if_pos rfl, if_neg (by omega)]
    ·rw [if_neg m0]
     by_cases m1 : m % 2 = 1
     ·rw [if_pos m1, Tr.get_sing f _ x _ (by omega)]
      by_cases e : m = n
      ·subst e; simp
      ·rw [if_neg e, if_neg (by omega)]
     ·rw [if_neg m1, if_neg (by omega)]
   ·rw [if_neg h1]; simp only [Tr.get]
    by_cases m0 : m = 0
    ·subst m0; rw [if_pos rfl, if_neg (by omega)]
    ·rw [if_neg m0]
     by_cases m1 : m % 2 = 1
     ·rw [if_pos m1, if_neg (by omega)]
     ·rw [if_neg m1, Tr.get_sing f _ x _ (by omega)]
      by_cases e : m = n
      ·subst e; simp
      ·rw [if_neg e, if_neg (by omega)]
theorem Tr.get_set : ∀ (t : Tr) (n : Nat) (x : Obj) (m : Nat), (t.set n x).get m = if m = n then some x else t.get m
 | .leaf, n, x, m => by simp only [Tr.set, Tr.get]; exact Tr.get_sing n n x m (Nat.le_refl _)
 | .node v l r, n, x, m => by
  simp only [Tr.set]
  by_cases h0 : n = 0
  ·subst h0; simp only [if_true, Tr.get]; split <;> simp
  ·rw [if_neg h0]
   by_cases h1 : n % 2 = 1
   ·rw [if_pos h1]; simp only [Tr.get]
    by_cases m0 : m = 0
    ·subst m0; simp only [if_true]; rw [if_neg (by omega)]
    ·rw [if_neg m0]
     by_cases m1 : m % 2 = 1
     ·rw [if_pos m1, Tr.get_set l]
      by_cases e : m = n
      ·subst e; simp
      ·rw [if_neg e, if_neg (by omega), if_neg m0, if_pos m1]
     ·rw [if_neg m1, if_neg (by omega), if_neg m0, if_neg m1]
   ·rw [if_neg h1]; simp only [Tr.get]
    by_cases m0 : m = 0
    ·subst m0; simp only [if_true]; rw [if_neg (by omega)]
    ·rw [if_neg m0]
     by_cases m1 : m % 2 = 1
     ·rw [if_pos m1, if_neg (by omega), if_neg m0, if_pos m1]
     ·rw [if_neg m1, Tr.get_set r]
      by_cases e : m = n
      ·subst e; simp
      ·rw [if_neg e, if_neg (by omega), if_neg m0, if_neg m1]
theorem St.get_set (st : St) (o : Nat) (x : Obj) (p : Nat) : (st.set o x).get p = if p = o then some x else st.get p := Tr.get_set _ _ _ _
theorem St.get_push (st : St) (x : Obj) (p : Nat) : (st.push x).get p = if p = st.next then some x else st.get p := Tr.get_set _ _ _ _
theorem St.next_set (st : St) (o : Nat) (x : Obj) : (st.set o x).next = st.next := rfl
theorem St.next_push (st : St) (x : Obj) : (st.push x).next = st.next + 1 := rfl
theorem St.get_empty (o : Nat) : St.empty.get o = none := rfl
def Obj.ro : Obj → Bool
 | .row _ _ _ ro => ro
 | .map _ => false
def St.ro (st : St) (o : Nat) : Bool := match st.get o with
 | some x => x.ro
 | none => true
structure Loc where
 block : Nat
 base : Nat
 len : Nat
 cap : Nat
 esz : Nat
abbrev Phi := Nat → Nat → Option Loc
def Phi.le (φ ψ : Phi) : Prop := ∀ o g L, φ o g = some L → ψ o g = some L
theorem Phi.le_refl (φ : Phi) : φ.le φ := fun _ _ _ h => h
theorem Phi.le_trans {a b c : Phi} (h : a.le b) (k : b.le c) : a.le c := fun o g L e => k o g L (h o g L e)
def Phi.put (φ : Phi) (o g : Nat) (L : Loc) : Phi := fun p h => if p = o ∧ h = g then some L else φ p h
theorem Phi.put_same (φ : Phi) (o g : Nat) (L : Loc) : (φ.put o g L) o g = some L := by simp [Phi.put]
theorem Phi.put_other (φ : Phi) {o g : Nat} (L : Loc) {p h : Nat} (n : ¬ (p = o ∧ h = g)) : (φ.put o g L) p h = φ p h := by simp [Phi.put, n]
theorem Phi.le_put {φ : Phi} {o g : Nat} (L : Loc) (h : φ o g = none) : φ.le (φ.put o g L) := fun p k M e => by
 by_cases n : p = o ∧ k = g
 ·obtain ⟨rfl, rfl⟩ := n; rw [h] at e; cases e
 ·rw [Phi.put_other φ L n]; exact e
def maxI : Nat := 9223372036854775807
mutual
def VR (φ : Phi) : V → Value → Prop
 | .undef, _ => True
 | .bool b, v => v = .bool b
 | .int k n, v => v = .int k n ∧ k.min ≤ n ∧ n ≤ k.max
 | .str l, v => ∃ s : ByteArray, v = .string s ∧ (s.data.toList.map fun b => (b.toNat : Int)) = l ∧ l.length ≤ maxI
 | .nilp, v => v = .pointer none
 | .ptr o g i s, v => ∃ L, φ o g = some L ∧ v = .pointer (some ⟨L.block, L.base + i * L.esz + s, none⟩) ∧ i < L.len
 | .nils, v => v = .slice none 0 0
 | .sl o g off ln esz cap, v => ∃ L a c, φ o g = some L ∧ L.esz = esz ∧ v = .slice (some a) ln c ∧ ln ≤ c ∧ off + ln ≤ L.len ∧
   (0 < c → a = ⟨L.block, L.base + off * esz, none⟩ ∧ off + c ≤ L.cap) ∧ (∀ c', cap = some c' → c = c') ∧ c ≤ maxI
 | .nilm, v => v = .map none
 | .map o, v => ∃ L, φ o 0 = some L ∧ v = .map (some L.block)
 | .nilf, v => v = .nilFunc
 | .fn f a c, v => ∃ a' c' : Array Value, v = .func f a' c' ∧ VRs φ a a'.toList ∧ VRs φ c c'.toList
 | .agg cs, v => ∃ vs : Array Value, v = .agg vs ∧ VRs φ cs vs.toList
 | .tup cs, v => ∃ vs : Array Value, v = .tuple vs ∧ VRs φ cs vs.toList
def VRs (φ : Phi) : List V → List Value → Prop
 | [], vs => vs = []
 | x :: xs, vs => ∃ y ys, vs = y :: ys ∧ VR φ x y ∧ VRs φ xs ys
end
mutual
theorem VR_mono {φ ψ : Phi} (h : φ.le ψ) : ∀ (x : V) (v : Value), VR φ x v → VR ψ x v
 | .undef, _, _ => by simp only [VR]
 | .bool _, _, e => by simp only [VR] at *; exact e
 | .int _ _, _, e => by simp only [VR] at *; exact e
 | .str _, _, e => by simp only [VR] at *; exact e
 | .nilp, _, e => by simp only [VR] at *; exact e
 | .ptr o g i s, _, e => by
  simp only [VR] at *; obtain ⟨L, a, b⟩ := e; exact ⟨L, h _ _ _ a, b⟩
 | .nils, _, e => by simp only [VR] at *; exact e
 | .sl .., _, e => by
  simp only [VR] at *; obtain ⟨L, a, c, e1, e2⟩ := e; exact ⟨L, a, c, h _ _ _ e1, e2⟩
 | .nilm, _, e => by simp only [VR] at *; exact e
 | .map _, _, e => by
  simp only [VR] at *; obtain ⟨L, a, b⟩ := e; exact ⟨L, h _ _ _ a, b⟩
 | .nilf, _, e => by simp only [VR] at *; exact e
 | .fn f a c, _, e => by
  simp only [VR] at *; obtain ⟨a', c', e1, e2, e3⟩ := e; exact ⟨a', c', e1, VRs_mono h _ _ e2, VRs_mono h _ _ e3⟩
 | .agg cs, _, e => by
  simp only [VR] at *; obtain ⟨vs, e1, e2⟩ := e; exact ⟨vs, e1, VRs_mono h _ _ e2⟩
 | .tup cs, _, e => by
  simp only [VR] at *; obtain ⟨vs, e1, e2⟩ := e; exact ⟨vs, e1, VRs_mono h _ _ e2⟩
theorem VRs_mono {φ ψ : Phi} (h : φ.le ψ) : ∀ (xs : List V) (vs : List Value), VRs φ xs vs → VRs ψ xs vs
 | [], _, e => by simp only [VRs] at *; exact e
 | x :: xs, _, e => by
  simp only [VRs] at *; obtain ⟨y, ys, e1, e2, e3⟩ := e; exact ⟨y, ys, e1, VR_mono h _ _ e2, VRs_mono h _ _ e3⟩
end
theorem VRs_nil {φ : Phi} {vs : List Value} : VRs φ [] vs ↔ vs = [] := by simp only [VRs]
theorem VRs_cons {φ : Phi} {x : V} {xs : List V} {vs : List Value} : VRs φ (x :: xs) vs ↔ ∃ y ys, vs = y :: ys ∧ VR φ x y ∧ VRs φ xs ys := by simp only [VRs]
theorem VRs_cons2 {φ : Phi} {x : V} {xs : List V} {v : Value} {vs : List Value} : VRs φ (x :: xs) (v :: vs) ↔ VR φ x v ∧ VRs φ xs vs := by
 rw [VRs_cons]; constructor
 ·rintro ⟨y, ys, e, a, b⟩; cases e; exact ⟨a, b⟩
 ·rintro ⟨a, b⟩; exact ⟨_, _, rfl, a, b⟩
theorem VRs_length {φ : Phi} : ∀ {xs : List V} {vs : List Value}, VRs φ xs vs → xs.length = vs.length
 | [], vs, h => by rw [VRs_nil] at h; simp [h]
 | x :: xs, vs, h => by
  rw [VRs_cons] at h; obtain ⟨y, ys, rfl, _, h⟩ := h
  simp [VRs_length h]
theorem VRs_get {φ : Phi} : ∀ {xs : List V} {vs : List Value}, VRs φ xs vs → ∀ {i : Nat} {x : V}, xs[i]? = some x → ∃ v, vs[i]? = some v ∧ VR φ x v
 | [], vs, h, i, x, e => by simp at e
 | y :: xs, vs, h, i, x, e => by
  rw [VRs_cons] at h; obtain ⟨v, ws, rfl, hv, h⟩ := h
  cases i with
  | zero => simp at e; subst e; exact ⟨v, by simp, hv⟩
  | succ i => simp at e; simpa using VRs_get h e
theorem VRs_of_get {φ : Phi} : ∀ {xs : List V} {vs : List Value}, xs.length = vs.length → (∀ (i : Nat) (x : V), xs[i]? = some x → ∃ v, vs[i]? = some v ∧ VR φ x v) → VRs φ xs vs
 | [], vs, hl, _ => by
  rw [VRs_nil]; cases vs with
  | nil => rfl
  | cons _ _ => simp at hl
 | y :: xs, vs, hl, h => by
  cases vs with
  | nil => simp at hl
  | cons v ws =>
   rw [VRs_cons2]
   obtain ⟨u, hu, hv⟩ := h 0 y (by simp)
   simp at hu; subst hu
   exact ⟨hv, VRs_of_get (by simpa using hl) fun i x e => by simpa using h (i + 1) x (by simpa using e)⟩
theorem VRs_append {φ : Phi} {a b : List V} {x y : List Value} (h : VRs φ a x) (k : VRs φ b y) : VRs φ (a ++ b) (x ++ y) := by
 induction a generalizing x with
 | nil => rw [VRs_nil] at h; subst h; simpa using k
 | cons v a ih =>
  rw [VRs_cons] at h; obtain ⟨u, us, rfl, hu, h⟩ := h
  simp only [List.cons_append]
  rw [VRs_cons2]; exact ⟨hu, ih h⟩
theorem VRs_take {φ : Phi} {a : List V} {x : List Value} (h : VRs φ a x) (n : Nat) : VRs φ (a.take n) (x.take n) := by
 have hl := VRs_length h
 refine VRs_of_get (by simp [hl]) fun i v e => ?_
 have hi : i < n := by
  rcases Nat.lt_or_ge i n with h | h
  ·exact h
  ·simp [List.getElem?_take, Nat.not_lt.2 h] at e
 rw [List.getElem?_take, if_pos hi] at e
 rw [List.getElem?_take, if_pos hi]
 exact VRs_get h e
theorem VRs_drop {φ : Phi} {a : List V} {x : List Value} (h : VRs φ a x) (n : Nat) : VRs φ (a.drop n) (x.drop n) := by
 have hl := VRs_length h
 refine VRs_of_get (by simp [hl]) fun i v e => ?_
 rw [List.getElem?_drop] at e ⊢
 exact VRs_get h e
theorem VRs_cut {φ : Phi} {a : List V} {x : List Value} (h : VRs φ a x) (o n : Nat) : VRs φ (cut a o n) (cut x o n) := VRs_take (VRs_drop h o) n
theorem VRs_lay {φ : Phi} {a b : List V} {x y : List Value} (h : VRs φ a x) (k : VRs φ b y) (o : Nat) : VRs φ (lay a o b) (lay x o y) := by
 unfold lay
 rw [← VRs_length k]
 exact VRs_append (VRs_append (VRs_take h _) k) (VRs_drop h _)
theorem cells_of_VR {φ : Phi} {x : V} {v : Value} {cs : List V} (h : VR φ x v) (hc : cellsOf x = some cs) : VRs φ cs v.cells.toList := by
 cases x <;> simp only [cellsOf, Option.some.injEq, reduceCtorEq] at hc <;> subst hc
 case agg cs => simp only [VR] at h; obtain ⟨vs, rfl, h⟩ := h; exact h
 all_goals
  rw [VRs_cons]
  refine ⟨v, [], ?_, h, by rw [VRs_nil]⟩
  simp only [VR] at h
 case bool => subst h; rfl
 case int => obtain ⟨rfl, _⟩ := h; rfl
 case str => obtain ⟨s, rfl, _⟩ := h; rfl
 case nilp => subst h; rfl
 case ptr => obtain ⟨L, _, rfl, _⟩ := h; rfl
 case nils => subst h; rfl
 case sl => obtain ⟨L, a, c, _, _, rfl, _⟩ := h; rfl
 case nilm => subst h; rfl
 case map => obtain ⟨L, _, rfl⟩ := h; rfl
 case nilf => subst h; rfl
 case fn => obtain ⟨a, c, rfl, _⟩ := h; rfl
 case tup => obtain ⟨vs, rfl, _⟩ := h; rfl
theorem one_of_VR {φ : Phi} {x : V} {v : Value} (h : VR φ x v) (ho : x.one = true) : v.oneCell' = true := by
 cases x <;> simp only [V.one, Bool.false_eq_true] at ho <;> simp only [VR] at h
 case bool => subst h; rfl
 case int => obtain ⟨rfl, _⟩ := h; rfl
 case str => obtain ⟨s, rfl, _⟩ := h; rfl
 case nilp => subst h; rfl
 case ptr => obtain ⟨L, _, rfl, _⟩ := h; rfl
 case nils => subst h; rfl
 case sl => obtain ⟨L, a, c, _, _, rfl, _⟩ := h; rfl
 case nilm => subst h; rfl
 case map => obtain ⟨L, _, rfl⟩ := h; rfl
 case nilf => subst h; rfl
 case fn => obtain ⟨a, c, rfl, _⟩ := h; rfl
def VRm (φ : Phi) : List (V × V) → List MapEntry → Prop
 | [], es => es = []
 | (k, v) :: r, es => ∃ e es', es = e :: es' ∧ VR φ k e.key ∧ VR φ v e.val ∧ VRm φ r es'
theorem VRm_mono {φ ψ : Phi} (h : φ.le ψ) : ∀ {l : List (V × V)} {es : List MapEntry}, VRm φ l es → VRm ψ l es
 | [], _, e => e
 | (_, _) :: _, _, ⟨e, es', rfl, a, b, c⟩ => ⟨e, es', rfl, VR_mono h _ _ a, VR_mono h _ _ b, VRm_mono h c⟩
structure RowAt (φ : Phi) (w : World) (L : Loc) (es : List (List V)) (ro : Bool) : Prop where
 len : L.len ≤ L.cap ∧ L.len ≤ es.length
 cells : ∃ (arr : Array Value) (t : TypeId) (lo hi : Nat), w.heap[L.block]? = some (.cells arr t (lo, hi)) ∧ L.base + L.cap * L.esz ≤ arr.size ∧
  (ro = false → lo = hi ∨ arr.size ≤ lo) ∧
  ∀ i e, i < L.len → es[i]? = some e → e.length = L.esz ∧ e.all V.one = true ∧ VRs φ e (cut arr.toList (L.base + i * L.esz) L.esz)
def ObjAt (φ : Phi) (w : World) (o : Nat) : Obj → Prop
 | .row es gen live ro => live ≤ gen ∧ (∀ g L, φ o g = some L → g ≤ gen) ∧
   (∀ g, live ≤ g → g ≤ gen → ∃ L, φ o g = some L ∧ RowAt φ w L es ro ∧ (g = gen → L.len = es.length)) ∧
   ∀ g L g' L', φ o g = some L → φ o g' = some L' → L.block = L'.block → L.base = L'.base ∧ L.esz = L'.esz
 | .map es => ∃ L ents clock, φ o 0 = some L ∧ w.heap[L.block]? = some (.map ents clock) ∧ VRm φ es ents.toList
structure Rep (B : Nat) (φ : Phi) (st : St) (w : World) : Prop where
 bot : B ≤ w.heap.size
 here : ∀ o x, st.get o = some x → ObjAt φ w o x
 apart : ∀ o g L o' g' L', φ o g = some L → φ o' g' = some L' → o ≠ o' → st.ro o = false → L.block ≠ L'.block
 above : ∀ o g L, φ o g = some L → st.ro o = false → B ≤ L.block
 inh : ∀ o g L, φ o g = some L → L.block < w.heap.size
def St.Low (st : St) : Prop := ∀ o x, st.get o = some x → o < st.next
structure St.Step (st st' : St) : Prop where
 next : st.next ≤ st'.next
 keep : ∀ o x, st.get o = some x → ∃ x', st'.get o = some x' ∧ x'.ro = x.ro
 fresh : ∀ o x, st'.get o = some x → st.get o = none → st.next ≤ o ∧ o < st'.next
theorem St.Step.refl (st : St) : St.Step st st := ⟨Nat.le_refl _, fun o x h => ⟨x, h, rfl⟩, fun o x h n => by rw [n] at h; cases h⟩
theorem St.Step.trans {a b c : St} (h : St.Step a b) (k : St.Step b c) : St.Step a c where
 next := Nat.le_trans h.next k.next
 keep := fun o x e => by
  obtain ⟨y, e1, r1⟩ := h.keep o x e
  obtain ⟨z, e2, r2⟩ := k.keep o y e1
  exact ⟨z, e2, r2.trans r1⟩
 fresh := fun o x e n => by
  cases hb : b.get o with
  | none => have := k.fresh o x e hb; have := h.next; omega
  | some y => have := h.fresh o y hb n; have := k.next; omega
theorem St.Step.low {a b : St} (h : St.Step a b) (l : a.Low) : b.Low := fun o x e => by
 cases ha : a.get o with
 | none => exact (h.fresh o x e ha).2
 | some y => exact Nat.lt_of_lt_of_le (l o y ha) h.next
theorem St.Step.push {st : St} (l : st.Low) (x : Obj) : St.Step st (st.push x) where
 next := Nat.le_succ _
 keep := fun o y e => ⟨y, by rw [St.get_push, if_neg (by have := l o y e; omega)]; exact e, rfl⟩
 fresh := fun o y e n => by
  rw [St.get_push] at e
  by_cases h : o = st.next
  ·rw [St.next_push]; omega
  ·rw [if_neg h, n] at e; cases e
theorem St.Step.set {st : St} {o : Nat} {x : Obj} (h : st.get o = some x) {y : Obj} (hr : y.ro = x.ro) : St.Step st (st.set o y) where
 next := Nat.le_refl _
 keep := fun p z e => by
  rw [St.get_set]
  by_cases hp : p = o
  ·subst hp; rw [h] at e; cases e; exact ⟨y, by simp, hr⟩
  ·rw [if_neg hp]; exact ⟨z, e, rfl⟩
 fresh := fun p z e n => by
  rw [St.get_set] at e
  by_cases hp : p = o
  ·subst hp; rw [h] at n; cases n
  ·rw [if_neg hp, n] at e; cases e
def Free (φ : Phi) (st st' : St) : Prop := ∀ o g, st.next ≤ o → o < st'.next → φ o g = none
theorem RowAt.move {φ ψ : Phi} {w w' : World} {L : Loc} {es : List (List V)} {ro : Bool} (h : RowAt φ w L es ro) (hle : φ.le ψ) (hb : w'.heap[L.block]? = w.heap[L.block]?) : RowAt ψ w' L es ro := by
 obtain ⟨hl, arr, t, lo, hi, h1, h2, h3, h4⟩ := h
 refine ⟨hl, arr, t, lo, hi, hb.trans h1, h2, h3, fun i e a b => ?_⟩
 obtain ⟨c, c', d⟩ := h4 i e a b
 exact ⟨c, c', VRs_mono hle _ _ d⟩
theorem ObjAt.move {φ ψ : Phi} {w w' : World} {o : Nat} {x : Obj} (h : ObjAt φ w o x) (hle : φ.le ψ) (hsame : ∀ g L, ψ o g = some L → φ o g = some L) (hb : ∀ g L, φ o g = some L → w'.heap[L.block]? = w.heap[L.block]?) : ObjAt ψ w' o x := by
 cases x with
 | row es gen live ro =>
  obtain ⟨a, b, c, d⟩ := h
  refine ⟨a, fun g L e => b g L (hsame g L e), fun g h1 h2 => ?_, fun g L g' L' e e' => d g L g' L' (hsame g L e) (hsame g' L' e')⟩
  obtain ⟨L, hL, hr, hl⟩ := c g h1 h2
  exact ⟨L, hle _ _ _ hL, hr.move hle (hb g L hL), hl⟩
 | map es =>
  obtain ⟨L, ents, clock, a, b, c⟩ := h
  exact ⟨L, ents, clock, hle _ _ _ a, (hb 0 L a).trans b, VRm_mono hle c⟩
structure Ext (B : Nat) (φ : Phi) (st : St) (w : World) (ψ : Phi) (st' : St) (w' : World) : Prop where
 le : φ.le ψ
 rep : Rep B ψ st' w'
 size : w.heap.size ≤ w'.heap.size
 os : w'.os = w.os
 tape : w'.tape = w.tape
 output : w'.output = w.output
 frame : ∀ b, b < w.heap.size → (∀ o g L, φ o g = some L → L.block = b → st.ro o = true) → w'.heap[b]? = w.heap[b]?
 new : ∀ o g L, ψ o g = some L → (∃ g' L', φ o g' = some L' ∧ L'.block = L.block) ∨ w.heap.size ≤ L.block
 dom : ∀ o g L, ψ o g = some L → φ o g = some L ∨ (∃ x, st.get o = some x) ∨ (st.next ≤ o ∧ o < st'.next)
theorem St.ro_of_get {st : St} {o : Nat} {x : Obj} (h : st.get o = some x) : st.ro o = x.ro := by simp [St.ro, h]
theorem St.ro_of_none {st : St} {o : Nat} (h : st.get o = none) : st.ro o = true := by simp [St.ro, h]
theorem Ext.refl {B : Nat} {φ : Phi} {st : St} {w : World} (h : Rep B φ st w) : Ext B φ st w φ st w where
 le := φ.le_refl
 rep := h
 size := Nat.le_refl _
 os := rfl
 tape := rfl
 output := rfl
 frame := fun _ _ _ => rfl
 new := fun o g L e => .inl ⟨g, L, e, rfl⟩
 dom := fun o g L e => .inl e
theorem Ext.free {B : Nat} {φ ψ : Phi} {a b c : St} {w x : World} (h : Ext B φ a w ψ b x) (ha : a.Low) (s : St.Step a b) (hF : Free φ a c) : Free ψ b c := fun o g h1 h2 => by
 cases e : ψ o g with
 | none => rfl
 | some L =>
  rcases h.dom o g L e with e | ⟨y, e⟩ | ⟨_, e⟩
  ·rw [hF o g (Nat.le_trans s.next h1) h2] at e; cases e
  ·have := ha o y e; have := s.next; omega
  ·omega
theorem Ext.trans {B : Nat} {φ ψ χ : Phi} {a b c : St} {w x y : World} (h : Ext B φ a w ψ b x) (k : Ext B ψ b x χ c y) (s : St.Step a b) (t : St.Step b c) (hF : Free φ a b) : Ext B φ a w χ c y where
 le := Phi.le_trans h.le k.le
 rep := k.rep
 size := Nat.le_trans h.size k.size
 os := k.os.trans h.os
 tape := k.tape.trans h.tape
 output := k.output.trans h.output
 frame := fun p hp hro => by
  rw [← h.frame p hp hro]
  refine k.frame p (Nat.lt_of_lt_of_le hp h.size) fun o g L e eb => ?_
  rcases h.new o g L e with ⟨g', L', e', eb'⟩ | hn
  ·have hr := hro o g' L' e' (eb'.trans eb)
   cases ha : a.get o with
   | some z =>
    obtain ⟨z', hz', hq⟩ := s.keep o z ha
    rw [St.ro_of_get hz', hq, ← St.ro_of_get ha]; exact hr
   | none =>
    cases hb : b.get o with
    | none => exact St.ro_of_none hb
    | some z =>
     have := s.fresh o z hb ha
     rw [hF o g' this.1 this.2] at e'; cases e'
  ·omega
 new := fun o g L e => by
  rcases k.new o g L e with ⟨g', L', e', eb⟩ | hn
  ·rcases h.new o g' L' e' with ⟨g'', L'', e'', eb'⟩ | hn
   ·exact .inl ⟨g'', L'', e'', eb'.trans eb⟩
   ·exact .inr (by omega)
  ·exact .inr (Nat.le_trans h.size hn)
 dom := fun o g L e => by
  have s1 := s.next
  have t1 := t.next
  rcases k.dom o g L e with e | ⟨z, e⟩ | e
  ·rcases h.dom o g L e with e | e | e
   ·exact .inl e
   ·exact .inr (.inl e)
   ·exact .inr (.inr (by omega))
  ·cases ha : a.get o with
   | some z' => exact .inr (.inl ⟨z', rfl⟩)
   | none => have := s.fresh o z e ha; exact .inr (.inr (by omega))
  ·exact .inr (.inr (by omega))
theorem Rep.of_heap {B : Nat} {φ : Phi} {st : St} {w w' : World} (h : Rep B φ st w) (e : w'.heap = w.heap) : Rep B φ st w' where
 bot := by rw [e]; exact h.bot
 here := fun o x hg => (h.here o x hg).move φ.le_refl (fun _ _ e => e) (fun _ _ _ => by rw [e])
 apart := h.apart
 above := h.above
 inh := by rw [e]; exact h.inh
theorem Ext.turn {B : Nat} {φ ψ : Phi} {st : St} {w w' : World} (hR : Rep B φ st w) {o : Nat} {x x' : Obj} (hg : st.get o = some x) (hx : x.ro = false) (hx' : x'.ro = false)
  (hos : w'.os = w.os) (htape : w'.tape = w.tape) (hout : w'.output = w.output) (hsize : w.heap.size ≤ w'.heap.size)
  (hle : φ.le ψ) (honly : ∀ p g L, p ≠ o → ψ p g = some L → φ p g = some L)
  (hblk : ∀ b, b < w.heap.size → (∀ g L, φ o g = some L → L.block ≠ b) → w'.heap[b]? = w.heap[b]?)
  (hnew : ∀ g L, ψ o g = some L → (∃ g' L', φ o g' = some L' ∧ L'.block = L.block) ∨ w.heap.size ≤ L.block)
  (hinh : ∀ g L, ψ o g = some L → L.block < w'.heap.size)
  (hat : ObjAt ψ w' o x') : Ext B φ st w ψ (st.set o x') w' where
 le := hle
 size := hsize
 os := hos
 tape := htape
 output := hout
 frame := fun b hb hro => hblk b hb fun g L e eb => by
  have := hro o g L e eb
  rw [St.ro_of_get hg, hx] at this; cases this
 new := fun p g L e => by
  by_cases hp : p = o
  ·subst hp
   rcases hnew g L e with ⟨g', L', e', eb⟩ | h
   ·exact .inl ⟨g', L', e', eb⟩
   ·exact .inr h
  ·exact .inl ⟨g, L, honly p g L hp e, rfl⟩
 dom := fun p g L e => by
  by_cases hp : p = o
  ·subst hp; exact .inr (.inl ⟨x, hg⟩)
  ·exact .inl (honly p g L hp e)
 rep := by
  have hro : ∀ p, (st.set o x').ro p = st.ro p := fun p => by
   simp only [St.ro, St.get_set]
   by_cases hp : p = o
   ·subst hp; simp [hg, hx, hx']
   ·rw [if_neg hp]
  have hoth : ∀ p g L, p ≠ o → φ p g = some L → w'.heap[L.block]? = w.heap[L.block]? := fun p g L hp e =>
   hblk _ (hR.inh _ _ _ e) fun g' L' e' => hR.apart o g' L' p g L e' e (fun h => hp h.symm) (by rw [St.ro_of_get hg, hx])
  refine ⟨Nat.le_trans hR.bot hsize, fun p y e => ?_, fun p g L q g' L' e e' hne hr => ?_, fun p g L e hr => ?_, fun p g L e => ?_⟩
  ·rw [St.get_set] at e
   by_cases hp : p = o
   ·subst hp; rw [if_pos rfl] at e; cases e; exact hat
   ·rw [if_neg hp] at e
    exact (hR.here p y e).move hle (fun g L => honly p g L hp) (fun g L => hoth p g L hp)
  ·rw [hro] at hr
   by_cases hp : p = o
   ·subst hp
    have hq : q ≠ p := fun h => hne h.symm
    have e'' := honly q g' L' hq e'
    rcases hnew g L e with ⟨g2, L2, e2, eb⟩ | h
    ·rw [← eb]; exact hR.apart _ _ _ _ _ _ e2 e'' hne hr
    ·have := hR.inh _ _ _ e''; omega
   ·have e1 := honly p g L hp e
    by_cases hq : q = o
    ·subst hq
     rcases hnew g' L' e' with ⟨g2, L2, e2, eb⟩ | h
     ·rw [← eb]; exact hR.apart _ _ _ _ _ _ e1 e2 hne hr
     ·have := hR.inh _ _ _ e1; omega
    ·exact hR.apart _ _ _ _ _ _ e1 (honly q g' L' hq e') hne hr
  ·rw [hro] at hr
   by_cases hp : p = o
   ·subst hp
    rcases hnew g L e with ⟨g2, L2, e2, eb⟩ | h
    ·rw [← eb]; exact hR.above _ _ _ e2 hr
    ·exact Nat.le_trans hR.bot h
   ·exact hR.above _ _ _ (honly p g L hp e) hr
  ·by_cases hp : p = o
   ·subst hp; exact hinh g L e
   ·exact Nat.lt_of_lt_of_le (hR.inh _ _ _ (honly p g L hp e)) hsize
structure Room (φ : Phi) (st : St) : Prop where
 get : st.get st.next = none
 phi : ∀ g, φ st.next g = none
theorem Room.of {φ : Phi} {st : St} {x : Obj} (l : st.Low) (hF : Free φ st (st.push x)) : Room φ st where
 get := by
  cases e : st.get st.next with
  | none => rfl
  | some y => have := l _ _ e; omega
 phi := fun g => hF _ g (Nat.le_refl _) (Nat.lt_succ_self _)
theorem Ext.push {B : Nat} {φ : Phi} {st : St} {w w' : World} (hR : Rep B φ st w) (hN : Room φ st) {x : Obj} (hx : x.ro = false)
  (hos : w'.os = w.os) (htape : w'.tape = w.tape) (hout : w'.output = w.output) (hsize : w.heap.size ≤ w'.heap.size)
  (hblk : ∀ b, b < w.heap.size → w'.heap[b]? = w.heap[b]?) {L : Loc} (hL : w.heap.size ≤ L.block) (hL' : L.block < w'.heap.size)
  (hat : ObjAt (φ.put st.next 0 L) w' st.next x) : Ext B φ st w (φ.put st.next 0 L) (st.push x) w' := by
 have hle := Phi.le_put (φ := φ) L (hN.phi 0)
 have hput : ∀ p g M, (φ.put st.next 0 L) p g = some M → (p = st.next ∧ g = 0 ∧ M = L) ∨ (p ≠ st.next ∧ φ p g = some M) := fun p g M e => by
  by_cases h : p = st.next ∧ g = 0
  ·obtain ⟨rfl, rfl⟩ := h; rw [Phi.put_same] at e; cases e; exact .inl ⟨rfl, rfl, rfl⟩
  ·rw [Phi.put_other φ L h] at e
   refine .inr ⟨fun hp => ?_, e⟩
   subst hp; rw [hN.phi] at e; cases e
 have hro : ∀ p, p ≠ st.next → (st.push x).ro p = st.ro p := fun p hp => by
  simp only [St.ro, St.get_push, if_neg hp]
 refine ⟨hle, ?_, hsize, hos, htape, hout, fun b hb _ => hblk b hb, fun p g M e => ?_, fun p g M e => ?_⟩
 ·refine ⟨Nat.le_trans hR.bot hsize, fun p y e => ?_, fun p g M q g' M' e e' hne hr => ?_, fun p g M e hr => ?_, fun p g M e => ?_⟩
  ·rw [St.get_push] at e
   by_cases hp : p = st.next
   ·subst hp; rw [if_pos rfl] at e; cases e; exact hat
   ·rw [if_neg hp] at e
    refine (hR.here p y e).move hle (fun g M e => ?_) (fun g M e => hblk _ (hR.inh _ _ _ e))
    rcases hput p g M e with ⟨rfl, rfl, rfl⟩ | ⟨_, e⟩
    ·exact absurd rfl hp
    ·exact e
  ·rcases hput p g M e with ⟨h1, h2, h3⟩ | ⟨hp, e1⟩
   ·rcases hput q g' M' e' with ⟨h4, h5, h6⟩ | ⟨hq, e2⟩
    ·exact absurd (h1.trans h4.symm) hne
    ·have := hR.inh _ _ _ e2; rw [h3]; omega
   ·rcases hput q g' M' e' with ⟨h4, h5, h6⟩ | ⟨hq, e2⟩
    ·have := hR.inh _ _ _ e1; rw [h6]; omega
    ·exact hR.apart _ _ _ _ _ _ e1 e2 hne (by rw [← hro p hp]; exact hr)
  ·rcases hput p g M e with ⟨h1, h2, h3⟩ | ⟨hp, e1⟩
   ·rw [h3]; exact Nat.le_trans hR.bot hL
   ·exact hR.above _ _ _ e1 (by rw [← hro p hp]; exact hr)
  ·rcases hput p g M e with ⟨h1, h2, h3⟩ | ⟨hp, e1⟩
   ·rw [h3]; exact hL'
   ·exact Nat.lt_of_lt_of_le (hR.inh _ _ _ e1) hsize
 ·rcases hput p g M e with ⟨h1, h2, h3⟩ | ⟨hp, e1⟩
  ·rw [h3]; exact .inr hL
  ·exact .inl ⟨g, M, e1, rfl⟩
 ·rcases hput p g M e with ⟨h1, h2, h3⟩ | ⟨hp, e1⟩
  ·rw [St.next_push]; exact .inr (.inr (by omega))
  ·exact .inl e1
theorem Ext.drew {B : Nat} {φ : Phi} {st : St} {w : World} (h : Rep B φ st w) : Ext B φ st w φ st w.drew :=
 { Ext.refl h with rep := h.of_heap rfl }
end Go.Ab
