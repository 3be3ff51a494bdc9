/- Regions of open order. Part 2: what holds while one order of the program goes on. -/
import Derived.Test.YtpeafiomifmadaaAbsE
namespace Go.Ab
open Go
set_option linter.unusedVariables false
set_option linter.unusedSimpArgs false
structure Ctx (P : Program) (B : Nat) (call : CallF) (ops : Array Oper) (ord : List Nat) (is : List IOper) (nt : Nat) (E : Nat → Env) (S : Nat → St) (U : Nat → V) (φ0 : Phi) (w0 : World) : Prop where
 hC : CallOk P B call
 O : OrdP ops ord is
 T : ∀ p, TrAt call is E S U p
 low : (S 0).Low
 free : Free φ0 (S 0) (S ops.size)
 code : ∀ p, p < ops.size → ∃ o x, ops[ord.getD p 0]? = some o ∧ is[p]? = some x ∧ opOf P o = some x.op ∧ guardOf ops o.guard = some x.guard ∧ o.dst = x.dst ∧ x.dst.all (· < nt) = true
 chk : ∀ p o l h, is[p]? = some o → o.chk = some (l, h) → wantedI (E p) o.guard = true → Chk.ok (actSts is S) ⟨o.op, E p, U p, l, h⟩ = true
def Lst (ord : List Nat) (listed : Array Bool) (p : Nat) : Prop := listed.getD (ord.getD p 0) false = true
structure Inv (B : Nat) (ops : Array Oper) (ord : List Nat) (is : List IOper) (nt : Nat) (E : Nat → Env) (S : Nat → St) (U : Nat → V) (φ0 : Phi) (w0 : World) (d0 : List Deferred)
  (listed : Array Bool) (a : Act) (w : World) (b : Nat) (φ : Phi) (s : St) : Prop where
 bn : b ≤ ops.size
 size : listed.size = ops.size
 i1 : ∀ p, p < b → Lst ord listed p
 i2 : ∀ p, p < ops.size → b ≤ p → Lst ord listed p → actAt is p = false
 closed : ∀ p q, p < ops.size → q < ops.size → Lst ord listed p → ahead ops ord p q = true → Lst ord listed q
 i3 : ∀ p d, p < ops.size → Lst ord listed p → dstAt is p = some d → VR φ (U p) (a.tmps.getD d undef)
 i4 : ∀ t, (∀ p, p < ops.size → Lst ord listed p → dstAt is p ≠ some t) → VR φ (Env.get (E 0) t) (a.tmps.getD t undef)
 rep : Rep B φ s w
 i6 : ∀ o x, (S b).get o = some x → s.get o = some x
 i7 : ∀ r x, b ≤ r → Lst ord listed r → New is S r x → s.get (S r).next = some x
 i8 : ∀ o x, s.get o = some x → (S b).get o = some x ∨ ∃ r, b ≤ r ∧ Lst ord listed r ∧ New is S r x ∧ o = (S r).next
 i9 : ∀ o g L, φ o g = some L → φ0 o g = some L ∨ (∃ x, s.get o = some x) ∨ ((S 0).next ≤ o ∧ o < (S b).next)
 le : φ0.le φ
 wsize : w0.heap.size ≤ w.heap.size
 os : w.os = w0.os
 tape : w.tape = w0.tape
 output : w.output = w0.output
 frame : ∀ b, b < w0.heap.size → (∀ o g L, φ0 o g = some L → L.block = b → (S 0).ro o = true) → w.heap[b]? = w0.heap[b]?
 new : ∀ o g L, φ o g = some L → (∃ g' L', φ0 o g' = some L' ∧ L'.block = L.block) ∨ w0.heap.size ≤ L.block
 tn : a.tmps.size = nt
 df : a.defers = d0
theorem Lst_set {ops : Array Oper} {ord : List Nat} {is : List IOper} (O : OrdP ops ord is) {listed : Array Bool} (hs : listed.size = ops.size) {p q : Nat} (hp : p < ops.size) (hq : q < ops.size) : Lst ord (listed.setIfInBounds (ord.getD p 0) true) q ↔ q = p ∨ Lst ord listed q := by
 unfold Lst
 have hj := O.j_lt hp
 by_cases h : q = p
 ·subst h
  simp only [true_or, iff_true]
  rw [Array.getD_eq_getD_getElem?, Array.getElem?_setIfInBounds, if_pos rfl, if_pos (by omega)]; rfl
 ·have hne : ord.getD p 0 ≠ ord.getD q 0 := fun e => h (O.inj hq hp e.symm)
  have : (listed.setIfInBounds (ord.getD p 0) true).getD (ord.getD q 0) false = listed.getD (ord.getD q 0) false := by
   simp only [Array.getD_eq_getD_getElem?, Array.getElem?_setIfInBounds_ne hne]
  rw [this]
  simp [h]
section
variable {P : Program} {B : Nat} {call : CallF} {ops : Array Oper} {ord : List Nat} {is : List IOper} {nt : Nat} {E : Nat → Env} {S : Nat → St} {U : Nat → V} {φ0 : Phi} {w0 : World} {d0 : List Deferred}
theorem low_at (C : Ctx P B call ops ord is nt E S U φ0 w0) {p : Nat} (hp : p ≤ ops.size) : (S p).Low := trace_low C.T C.hC C.low (by rw [C.O.ilen]; exact hp)
theorem steps_at (C : Ctx P B call ops ord is nt E S U φ0 w0) {p q : Nat} (h : p ≤ q) (hq : q ≤ ops.size) : St.Step (S p) (S q) := trace_steps C.T C.hC C.low h (by rw [C.O.ilen]; exact hq)
theorem quiet_at (C : Ctx P B call ops ord is nt E S U φ0 w0) {b q : Nat} (h : b ≤ q) (hq : q ≤ ops.size) (hn : ∀ r, b ≤ r → r < q → actAt is r = false) :
  (∀ o x, (S b).get o = some x → (S q).get o = some x) ∧ (∀ o x, (S q).get o = some x → (S b).get o = some x ∨ ∃ r, b ≤ r ∧ r < q ∧ New is S r x ∧ o = (S r).next) ∧
  (∀ r x, b ≤ r → r < q → New is S r x → (S q).get (S r).next = some x) := trace_quiet C.T C.hC C.low h (by rw [C.O.ilen]; exact hq) hn
theorem new_lt {r : Nat} {x : Obj} (C : Ctx P B call ops ord is nt E S U φ0 w0) (h : New is S r x) : r < ops.size := by rw [← C.O.ilen]; exact h.1
theorem new_next {r : Nat} {x : Obj} (h : New is S r x) : (S (r + 1)).next = (S r).next + 1 := by rw [h.2]; rfl
theorem new_inj (C : Ctx P B call ops ord is nt E S U φ0 w0) {r q : Nat} {x y : Obj} (h : New is S r x) (k : New is S q y) (e : (S r).next = (S q).next) : r = q := by
 rcases Nat.lt_trichotomy r q with h1 | h1 | h1
 ·have := (steps_at C (show r + 1 ≤ q by omega) (Nat.le_of_lt (new_lt C k))).next
  rw [new_next h] at this; omega
 ·exact h1
 ·have := (steps_at C (show q + 1 ≤ r by omega) (Nat.le_of_lt (new_lt C h))).next
  rw [new_next k] at this; omega
variable {listed : Array Bool} {a : Act} {w : World} {b : Nat} {φ : Phi} {s : St}
theorem Inv.below (I : Inv B ops ord is nt E S U φ0 w0 d0 listed a w b φ s) {p : Nat} (hu : ¬ Lst ord listed p) : b ≤ p := by
 rcases Nat.lt_or_ge p b with h | h
 ·exact absurd (I.i1 p h) hu
 ·exact h
theorem Inv.operands (C : Ctx P B call ops ord is nt E S U φ0 w0) (I : Inv B ops ord is nt E S U φ0 w0 d0 listed a w b φ s) {p : Nat} (hp : p < ops.size) (hu : ¬ Lst ord listed p) (hr : ∀ q, q < ops.size → ahead ops ord p q = true → Lst ord listed q) :
  ∃ env, ER φ env a.tmps ∧ Agree env (E p) (usesAt is p) := by
 classical
 let l : Env := (List.range ops.size).filterMap fun q => if Lst ord listed q then (dstAt is q).map fun d => (d, U q) else none
 have hl : ∀ t v, (t, v) ∈ l ↔ ∃ q, q < ops.size ∧ Lst ord listed q ∧ dstAt is q = some t ∧ v = U q := by
  intro t v
  simp only [l, List.mem_filterMap, List.mem_range]
  constructor
  ·rintro ⟨q, hq, h⟩
   split at h
   ·rename_i hL
    rw [Option.map_eq_some_iff] at h
    obtain ⟨d, hd, e⟩ := h
    cases e
    exact ⟨q, hq, hL, hd, rfl⟩
   ·cases h
  ·rintro ⟨q, hq, hL, hd, rfl⟩
   exact ⟨q, hq, by rw [if_pos hL, hd]; rfl⟩
 refine ⟨l ++ E 0, fun t => ?_, fun t ht => ?_⟩
 ·rcases Env.get_append l (E 0) t with ⟨v, h1, h2⟩ | ⟨h1, h2⟩
  ·obtain ⟨q, hq, hL, hd, rfl⟩ := (hl t v).1 h1
   rw [h2]; exact I.i3 q t hq hL hd
  ·rw [h2]
   exact I.i4 t fun q hq hL hd => h1 (U q) ((hl t (U q)).2 ⟨q, hq, hL, hd, rfl⟩)
 ·rcases trace_env C.T (p := p) (by rw [C.O.ilen]; omega) t with ⟨q, hq, hd, hg⟩ | ⟨hno, hg⟩
  ·rw [hg]
   have hqn : q < ops.size := by omega
   have hLq : Lst ord listed q := by
    rcases C.O.look p q t hp hqn ht hd with h | h | h
    ·omega
    ·exact hr q hqn h
    ·have := C.O.back q p hqn hp h; omega
   rcases Env.get_append l (E 0) t with ⟨v, h1, h2⟩ | ⟨h1, _⟩
   ·obtain ⟨q', hq', hL', hd', rfl⟩ := (hl t v).1 h1
    rw [h2, C.O.dst q q' t hqn hq' hd hd']
   ·exact absurd ((hl t (U q)).2 ⟨q, hqn, hLq, hd, rfl⟩) (h1 (U q))
  ·rw [hg]
   rcases Env.get_append l (E 0) t with ⟨v, h1, h2⟩ | ⟨_, h2⟩
   ·exfalso
    obtain ⟨q, hq, hL, hd, rfl⟩ := (hl t v).1 h1
    rcases C.O.look p q t hp hq ht hd with h | h | h
    ·subst h; exact hu hL
    ·exact hno q (C.O.back p q hp hq h) hd
    ·exact hu (I.closed q p hq hp hL h)
   ·exact h2
theorem Inv.vals (C : Ctx P B call ops ord is nt E S U φ0 w0) (I : Inv B ops ord is nt E S U φ0 w0 d0 listed a w b φ s) {p : Nat} (hp : p < ops.size) (hu : ¬ Lst ord listed p) {ψ : Phi} (hle : φ.le ψ) {d : Option Nat} (hd : dstAt is p = d) (hdn : d.all (· < nt) = true) {u : Value} (hv : VR ψ (U p) u) :
  (∀ q e, q < ops.size → Lst ord (listed.setIfInBounds (ord.getD p 0) true) q → dstAt is q = some e → VR ψ (U q) ((a.put d u).tmps.getD e undef)) ∧
  (∀ t, (∀ q, q < ops.size → Lst ord (listed.setIfInBounds (ord.getD p 0) true) q → dstAt is q ≠ some t) → VR ψ (Env.get (E 0) t) ((a.put d u).tmps.getD t undef)) ∧
  (a.put d u).tmps.size = nt ∧ (a.put d u).defers = d0 := by
 have hget : ∀ e, (∀ k, d = some k → k ≠ e) → (a.put d u).tmps.getD e undef = a.tmps.getD e undef := by
  intro e he
  cases d with
  | none => rfl
  | some k =>
   simp only [Act.put]
   simp [Array.getElem?_setIfInBounds_ne (he k rfl)]
 refine ⟨fun q e hq hL hqd => ?_, fun t ht => ?_, ?_, ?_⟩
 ·rcases (Lst_set C.O I.size hp hq).1 hL with h | h
  ·subst h
   rw [hd] at hqd
   subst hqd
   simp only [Option.all_some, decide_eq_true_eq] at hdn
   have : (a.put (some e) u).tmps.getD e undef = u := by simp [Act.put, I.tn, hdn]
   rw [this]; exact hv
  ·rw [hget e fun k hk hke => by
    subst hk; subst hke
    have := C.O.dst p q k hp hq hd hqd
    subst this; exact hu h]
   exact VR_mono hle _ _ (I.i3 q e hq h hqd)
 ·rw [hget t fun k hk hke => by
   subst hk; subst hke
   exact ht p hp ((Lst_set C.O I.size hp hp).2 (.inl rfl)) hd]
  exact VR_mono hle _ _ (I.i4 t fun q hq hL => ht q hq ((Lst_set C.O I.size hp hq).2 (.inr hL)))
 ·cases d with
  | none => exact I.tn
  | some k => simpa [Act.put] using I.tn
 ·cases d with
  | none => exact I.df
  | some k => exact I.df
theorem Inv.closed' (C : Ctx P B call ops ord is nt E S U φ0 w0) (I : Inv B ops ord is nt E S U φ0 w0 d0 listed a w b φ s) {p : Nat} (hp : p < ops.size) (hr : ∀ q, q < ops.size → ahead ops ord p q = true → Lst ord listed q) :
  ∀ r q, r < ops.size → q < ops.size → Lst ord (listed.setIfInBounds (ord.getD p 0) true) r → ahead ops ord r q = true → Lst ord (listed.setIfInBounds (ord.getD p 0) true) q := by
 intro r q hr' hq hL ha
 refine (Lst_set C.O I.size hp hq).2 (.inr ?_)
 rcases (Lst_set C.O I.size hp hr').1 hL with h | h
 ·subst h; exact hr q hq ha
 ·exact I.closed r q hr' hq h ha
theorem Inv.quiet (C : Ctx P B call ops ord is nt E S U φ0 w0) (I : Inv B ops ord is nt E S U φ0 w0 d0 listed a w b φ s) {p : Nat} (hp : p < ops.size) (hr : ∀ q, q < ops.size → ahead ops ord p q = true → Lst ord listed q) (hact : actAt is p = true) :
  (∀ q, q < p → Lst ord listed q) ∧ ∀ q, b ≤ q → q < p → actAt is q = false := by
 have h1 : ∀ q, q < p → Lst ord listed q := fun q hq => hr q (by omega) (C.O.act p q hp hq hact)
 exact ⟨h1, fun q hb hq => I.i2 q (by omega) hb (h1 q hq)⟩
theorem Inv.there (C : Ctx P B call ops ord is nt E S U φ0 w0) (I : Inv B ops ord is nt E S U φ0 w0 d0 listed a w b φ s) {p : Nat} (hp : p < ops.size) (hu : ¬ Lst ord listed p) (hr : ∀ q, q < ops.size → ahead ops ord p q = true → Lst ord listed q) (hact : actAt is p = true) :
  (∀ o x, (S p).get o = some x → s.get o = some x) ∧ ∀ o x, s.get o = some x → (S p).get o = some x ∨ ∃ r, p < r ∧ Lst ord listed r ∧ New is S r x ∧ o = (S r).next := by
 have hb := I.below hu
 obtain ⟨h1, h2⟩ := I.quiet C hp hr hact
 obtain ⟨q1, q2, q3⟩ := quiet_at C hb (by omega) h2
 refine ⟨fun o x h => ?_, fun o x h => ?_⟩
 ·rcases q2 o x h with h | ⟨r, r1, r2, r3, r4⟩
  ·exact I.i6 o x h
  ·rw [r4]; exact I.i7 r x r1 (h1 r r2) r3
 ·rcases I.i8 o x h with h | ⟨r, r1, r2, r3, r4⟩
  ·exact .inl (q1 o x h)
  ·rcases Nat.lt_trichotomy r p with h | h | h
   ·rw [r4]; exact .inl (q3 r x r1 h r3)
   ·subst h; exact absurd r2 hu
   ·exact .inr ⟨r, h, r2, r3, r4⟩
theorem Rep.less {t : St} (h : Rep B φ s w) (k : ∀ o x, t.get o = some x → s.get o = some x) : Rep B φ t w := by
 have hro : ∀ o, t.ro o = false → s.ro o = false := fun o ho => by
  cases e : t.get o with
  | none => rw [St.ro_of_none e] at ho; cases ho
  | some x => rw [St.ro_of_get (k o x e)]; rw [St.ro_of_get e] at ho; exact ho
 exact ⟨h.bot, fun o x e => h.here o x (k o x e), fun o g L o' g' L' e e' n r => h.apart o g L o' g' L' e e' n (hro o r), fun o g L e r => h.above o g L e (hro o r), h.inh⟩
theorem Inv.unknown (C : Ctx P B call ops ord is nt E S U φ0 w0) (I : Inv B ops ord is nt E S U φ0 w0 d0 listed a w b φ s) {o g : Nat} {L : Loc} (h : φ o g = some L) (h1 : (S b).next ≤ o) (h2 : o < (S ops.size).next) : ∃ r x, b ≤ r ∧ Lst ord listed r ∧ New is S r x ∧ o = (S r).next := by
 rcases I.i9 o g L h with h | ⟨x, h⟩ | h
 ·have := (steps_at C (Nat.zero_le b) I.bn).next
  rw [C.free o g (by omega) h2] at h; cases h
 ·rcases I.i8 o x h with h | ⟨r, r1, r2, r3, r4⟩
  ·have := low_at C I.bn o x h; omega
  ·exact ⟨r, x, r1, r2, r3, r4⟩
 ·omega
theorem Inv.ro (C : Ctx P B call ops ord is nt E S U φ0 w0) (I : Inv B ops ord is nt E S U φ0 w0 d0 listed a w b φ s) {o g : Nat} {L : Loc} (h : φ0 o g = some L) (hr : (S 0).ro o = true) : s.ro o = true := by
 cases e : s.get o with
 | none => exact St.ro_of_none e
 | some x =>
  cases e0 : (S 0).get o with
  | some y =>
   obtain ⟨z, hz, hzr⟩ := (steps_at C (Nat.zero_le b) I.bn).keep o y e0
   have := I.i6 o z hz
   rw [e] at this; cases this
   rw [St.ro_of_get e, hzr, ← St.ro_of_get e0]; exact hr
  | none =>
   exfalso
   rcases I.i8 o x e with h8 | ⟨r, r1, r2, r3, r4⟩
   ·have := (steps_at C (Nat.zero_le b) I.bn).fresh o x h8 e0
    have h9 := (steps_at C I.bn (Nat.le_refl _)).next
    rw [C.free o g this.1 (by omega)] at h; cases h
   ·have hrn := new_lt C r3
    have h9 := (steps_at C (Nat.zero_le r) (by omega)).next
    have h10 := (steps_at C (show r + 1 ≤ ops.size by omega) (Nat.le_refl _)).next
    have h11 := new_next r3
    rw [C.free o g (by omega) (by omega)] at h; cases h
end
end Go.Ab
