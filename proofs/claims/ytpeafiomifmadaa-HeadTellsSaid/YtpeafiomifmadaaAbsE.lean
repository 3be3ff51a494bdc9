/- Regions of open order: what one order of the abstract machine comes to, every order of the program does. Part 1: the order, the trace. -/
import Derived.Test.YtpeafiomifmadaaAbsD
namespace Go.Ab
open Go
set_option linter.unusedVariables false
set_option linter.unusedSimpArgs false
structure OrdP (ops : Array Oper) (ord : List Nat) (is : List IOper) : Prop where
 nodup : ord.Nodup
 len : ord.length = ops.size
 ilen : is.length = ops.size
 lt : ∀ j, j ∈ ord → j < ops.size
 all : ∀ j, j < ops.size → j ∈ ord
 back : ∀ p q, p < ops.size → q < ops.size → ahead ops ord p q = true → q < p
 trans : ∀ p q r, p < ops.size → q < ops.size → r < ops.size → ahead ops ord p q = true → ahead ops ord q r = true → ahead ops ord p r = true
 edge : ∀ p, p < ops.size → ∃ o, ops[ord.getD p 0]? = some o ∧ ∀ e ∈ o.after, Region.binds .any e = true → e.on < ops.size ∧ ((Region.before ops).getD (ord.getD p 0) 0).testBit e.on = true
 why : ∀ p q, p < ops.size → q < ops.size → ahead ops ord p q = true → ∃ o, ops[ord.getD p 0]? = some o ∧ ∃ e ∈ o.after, Region.binds .any e = true ∧ (e.on = ord.getD q 0 ∨ ((Region.before ops).getD e.on 0).testBit (ord.getD q 0) = true)
 act : ∀ p q, p < ops.size → q < p → actAt is p = true → ahead ops ord p q = true
 look : ∀ p q t, p < ops.size → q < ops.size → t ∈ usesAt is p → dstAt is q = some t → q = p ∨ ahead ops ord p q = true ∨ ahead ops ord q p = true
 dst : ∀ p q d, p < ops.size → q < ops.size → dstAt is p = some d → dstAt is q = some d → q = p
 chk : ∀ p, p < ops.size → chkAt ops ord is ops.size p = true
theorem orderOk_P {ops : Array Oper} {ord : List Nat} {is : List IOper} (h : orderOk ops ord is = true) : OrdP ops ord is := by
 unfold orderOk at h
 simp only [Bool.and_eq_true, decide_eq_true_eq, List.all_eq_true, List.mem_range, Bool.or_eq_true, Bool.not_eq_true', Array.all_eq_true'] at h
 obtain ⟨⟨⟨⟨⟨⟨⟨⟨⟨⟨⟨⟨h1, h2⟩, h3⟩, h4⟩, h5⟩, h6⟩, h7⟩, h8⟩, h9⟩, h10⟩, h11⟩, h12⟩, h13⟩ := h
 refine ⟨h1, h2, h3, h4, fun j hj => by simpa using h5 j hj, fun p q hp hq ha => ?_, fun p q r hp hq hr ha hb => ?_, fun p hp => ?_, fun p q hp hq ha => ?_, fun p q hp hq ha => ?_, fun p q t hp hq ht hd => ?_, fun p q d hp hq hd hd' => ?_, h13⟩
 ·rcases h6 p hp q hq with h | h
  ·rw [ha] at h; cases h
  ·exact h
 ·rcases h7 p hp q hq with h | h
  ·rw [ha] at h; cases h
  ·rcases h r hr with h | h
   ·rw [hb] at h; cases h
   ·exact h
 ·have := h8 p hp
  split at this
  ·rename_i o ho
   refine ⟨o, ho, fun e he hb => ?_⟩
   rw [Array.all_eq_true'] at this
   have := this e he
   rw [hb] at this
   simpa using this
  ·cases this
 ·rcases h9 p hp q hq with h | h
  ·rw [ha] at h; cases h
  ·split at h
   ·rename_i o ho
    refine ⟨o, ho, ?_⟩
    rw [Array.any_eq_true'] at h
    obtain ⟨e, he, hh⟩ := h
    simp only [Bool.and_eq_true, Bool.or_eq_true, beq_iff_eq] at hh
    exact ⟨e, he, hh.1, hh.2⟩
   ·cases h
 ·rcases h10 p hp with h | h
  ·rw [ha] at h; cases h
  ·exact h q hq
 ·rcases h11 p hp t ht q hq with ((h | h) | h) | h
  ·rw [hd] at h; simp at h
  ·exact .inl (by simpa using h)
  ·exact .inr (.inl h)
  ·exact .inr (.inr h)
 ·rcases h12 p hp q hq with (h | h) | h
  ·exact by simpa using h
  ·rw [hd] at h; cases h
  ·rw [hd, hd'] at h; simp at h
theorem OrdP.j_lt {ops : Array Oper} {ord : List Nat} {is : List IOper} (O : OrdP ops ord is) {p : Nat} (hp : p < ops.size) : ord.getD p 0 < ops.size := by
 refine O.lt _ ?_
 rw [List.getD_eq_getElem?_getD, List.getElem?_eq_getElem (by rw [O.len]; exact hp)]
 exact List.getElem_mem _
theorem OrdP.pos {ops : Array Oper} {ord : List Nat} {is : List IOper} (O : OrdP ops ord is) {j : Nat} (hj : j < ops.size) : ∃ p, p < ops.size ∧ ord.getD p 0 = j := by
 obtain ⟨p, hp, e⟩ := List.mem_iff_getElem.1 (O.all j hj)
 exact ⟨p, by rw [← O.len]; exact hp, by rw [List.getD_eq_getElem?_getD, List.getElem?_eq_getElem hp]; exact e⟩
theorem OrdP.inj {ops : Array Oper} {ord : List Nat} {is : List IOper} (O : OrdP ops ord is) {p q : Nat} (hp : p < ops.size) (hq : q < ops.size) (h : ord.getD p 0 = ord.getD q 0) : p = q := by
 have hp' : p < ord.length := by rw [O.len]; exact hp
 have hq' : q < ord.length := by rw [O.len]; exact hq
 rw [List.getD_eq_getElem?_getD, List.getD_eq_getElem?_getD, List.getElem?_eq_getElem hp', List.getElem?_eq_getElem hq'] at h
 have hn := List.pairwise_iff_getElem.1 O.nodup
 rcases Nat.lt_trichotomy p q with e | e | e
 ·exact absurd (Option.some.inj (by simpa using h)) (hn p q hp' hq' e)
 ·exact e
 ·exact absurd (Option.some.inj (by simpa using h.symm)) (hn q p hq' hp' e)
def TrAt (call : CallF) (is : List IOper) (E : Nat → Env) (S : Nat → St) (U : Nat → V) (p : Nat) : Prop :=
 ∀ o, is[p]? = some o → guardOk (E p) o.guard = true ∧ E (p + 1) = Env.put (E p) o.dst (U p) ∧
  ((wantedI (E p) o.guard = true ∧ o.op.run call (E p) (S p) = some (U p, S (p + 1))) ∨ (wantedI (E p) o.guard = false ∧ U p = .tup [] ∧ S (p + 1) = S p))
def actSts : List IOper → (Nat → St) → List St
 | [], S => [S 0]
 | o :: r, S => if o.op.kind = .act then S 0 :: actSts r (fun p => S (p + 1)) else actSts r (fun p => S (p + 1))
def consF {α : Type} (x : α) (f : Nat → α) : Nat → α
 | 0 => x
 | p + 1 => f p
theorem evRegD_trace {call : CallF} : ∀ {is : List IOper} {env env' : Env} {st st' : St} {sts : List St} {cs : List Chk}, evRegD call is env st sts cs = some (env', st') →
  ∃ E S U, E 0 = env ∧ S 0 = st ∧ E is.length = env' ∧ S is.length = st' ∧ (∀ p, TrAt call is E S U p) ∧ (∀ c ∈ cs, Chk.ok (sts.reverse ++ actSts is S) c = true) ∧
   ∀ p o l h, is[p]? = some o → o.chk = some (l, h) → wantedI (E p) o.guard = true → Chk.ok (sts.reverse ++ actSts is S) ⟨o.op, E p, U p, l, h⟩ = true
 | [], env, env', st, st', sts, cs, h => by
  simp only [evRegD] at h
  split at h
  ·rename_i hc
   cases h
   refine ⟨fun _ => env, fun _ => st, fun _ => .undef, rfl, rfl, rfl, rfl, fun p o ho => by simp at ho, ?_, fun p o l h ho => by simp at ho⟩
   rw [List.all_eq_true] at hc
   exact hc
  ·cases h
 | o :: os, env, env', st, st', sts, cs, h => by
  simp only [evRegD] at h
  have key : ∀ (v : V) (s1 : St) (cs' : List Chk), (∀ c ∈ cs, c ∈ cs') → guardOk env o.guard = true →
    ((wantedI env o.guard = true ∧ o.op.run call env st = some (v, s1)) ∨ (wantedI env o.guard = false ∧ v = .tup [] ∧ s1 = st)) →
    (∀ l h, o.chk = some (l, h) → wantedI env o.guard = true → (⟨o.op, env, v, l, h⟩ : Chk) ∈ cs') →
    evRegD call os (Env.put env o.dst v) s1 (if o.op.kind = .act then st :: sts else sts) cs' = some (env', st') →
    ∃ E S U, E 0 = env ∧ S 0 = st ∧ E (o :: os).length = env' ∧ S (o :: os).length = st' ∧ (∀ p, TrAt call (o :: os) E S U p) ∧ (∀ c ∈ cs, Chk.ok (sts.reverse ++ actSts (o :: os) S) c = true) ∧
     ∀ p q l h, (o :: os)[p]? = some q → q.chk = some (l, h) → wantedI (E p) q.guard = true → Chk.ok (sts.reverse ++ actSts (o :: os) S) ⟨q.op, E p, U p, l, h⟩ = true := by
   intro v s1 cs' hsub hg hw hchk hrec
   obtain ⟨E, S, U, e1, e2, e3, e4, e5, e6, e7⟩ := evRegD_trace hrec
   have hF : sts.reverse ++ actSts (o :: os) (consF st S) = (if o.op.kind = .act then st :: sts else sts).reverse ++ actSts os S := by
    simp only [actSts]
    have : (fun p => consF st S (p + 1)) = S := rfl
    rw [this]
    by_cases hk : o.op.kind = .act
    ·rw [if_pos hk, if_pos hk]; simp [consF]
    ·rw [if_neg hk, if_neg hk]
   refine ⟨consF env E, consF st S, consF v U, rfl, rfl, e3, e4, fun p q hq => ?_, fun c hc => ?_, fun p q l h hq hl hwq => ?_⟩
   ·cases p with
    | zero =>
     simp at hq; subst hq
     refine ⟨hg, e1, ?_⟩
     show (wantedI env o.guard = true ∧ o.op.run call env st = some (v, S 0)) ∨ (wantedI env o.guard = false ∧ v = .tup [] ∧ S 0 = st)
     rw [e2]; exact hw
    | succ p => exact e5 p q (by simpa using hq)
   ·rw [hF]; exact e6 c (hsub c hc)
   ·rw [hF]
    cases p with
    | zero => simp at hq; subst hq; exact e6 _ (hchk l h hl hwq)
    | succ p => exact e7 p q l h (by simpa using hq) hl hwq
  split at h
  ·rename_i hg hw
   split at h
   ·rename_i v s1 h1
    refine key v s1 _ (fun c hc => ?_) hg (.inl ⟨hw, h1⟩) (fun l h hl _ => ?_) h
    ·split
     ·exact List.mem_cons_of_mem _ hc
     ·exact hc
    ·rw [hl]; exact List.mem_cons_self
   ·cases h
  ·rename_i hg hw
   exact key (.tup []) st cs (fun c hc => hc) hg (.inr ⟨hw, rfl, rfl⟩) (fun l h hl hw' => by rw [hw] at hw'; cases hw') h
  ·cases h
theorem actAt_of {is : List IOper} {p : Nat} {o : IOper} (h : is[p]? = some o) : actAt is p = decide (o.op.kind = .act) := by simp [actAt, h]
theorem actSts_get : ∀ (is : List IOper) (S : Nat → St) (b : Nat), b ≤ is.length → ∃ q, b ≤ q ∧ q ≤ is.length ∧ (∀ r, b ≤ r → r < q → actAt is r = false) ∧ (q < is.length → actAt is q = true) ∧
  (actSts is S)[(List.range b).countP (actAt is)]? = some (S q)
 | [], S, b, hb => ⟨0, by simpa using hb, Nat.le_refl _, fun r _ h => by omega, fun h => by simp at h, by
   have : b = 0 := by simpa using hb
   subst this; rfl⟩
 | o :: r, S, 0, _ => by
  by_cases hk : o.op.kind = .act
  ·exact ⟨0, Nat.le_refl _, Nat.zero_le _, fun r _ h => by omega, fun _ => by simp [actAt, hk], by simp [actSts, hk]⟩
  ·obtain ⟨q, _, h2, h3, h4, h5⟩ := actSts_get r (fun p => S (p + 1)) 0 (Nat.zero_le _)
   refine ⟨q + 1, Nat.zero_le _, by simpa using h2, fun s _ hs => ?_, fun hq => ?_, ?_⟩
   ·cases s with
    | zero => simp [actAt, hk]
    | succ s => have := h3 s (Nat.zero_le _) (by omega); simpa [actAt] using this
   ·have := h4 (by simpa using hq); simpa [actAt] using this
   ·simp only [actSts, hk, if_false]; simpa using h5
 | o :: r, S, b + 1, hb => by
  obtain ⟨q, h1, h2, h3, h4, h5⟩ := actSts_get r (fun p => S (p + 1)) b (by simpa using hb)
  have hc : (List.range (b + 1)).countP (actAt (o :: r)) = (List.range b).countP (actAt r) + if actAt (o :: r) 0 then 1 else 0 := by
   rw [List.range_succ_eq_map, List.countP_cons, List.countP_map]
   rfl
  refine ⟨q + 1, by omega, by simpa using h2, fun s hs1 hs2 => ?_, fun hq => ?_, ?_⟩
  ·cases s with
   | zero => omega
   | succ s => have := h3 s (by omega) (by omega); simpa [actAt] using this
  ·have := h4 (by simpa using hq); simpa [actAt] using this
  ·rw [hc]
   have h0 : actAt (o :: r) 0 = decide (o.op.kind = .act) := by simp [actAt]
   rw [h0]
   by_cases hk : o.op.kind = .act
   ·simp only [actSts, hk, if_true, decide_true]
    simpa using h5
   ·simp only [actSts, hk, if_false, decide_false]
    simpa using h5
theorem Env.get_append (l env : Env) (t : Nat) : (∃ v, (t, v) ∈ l ∧ Env.get (l ++ env) t = v) ∨ ((∀ v, (t, v) ∉ l) ∧ Env.get (l ++ env) t = Env.get env t) := by
 induction l with
 | nil => exact .inr ⟨(fun v h => by cases h), rfl⟩
 | cons x l ih =>
  obtain ⟨k, u⟩ := x
  simp only [List.cons_append, Env.get]
  by_cases h : k = t
  ·subst h; rw [if_pos rfl]; exact .inl ⟨u, List.mem_cons_self, rfl⟩
  ·rw [if_neg h]
   rcases ih with ⟨v, h1, h2⟩ | ⟨h1, h2⟩
   ·exact .inl ⟨v, List.mem_cons_of_mem _ h1, h2⟩
   ·refine .inr ⟨fun v hv => ?_, h2⟩
    rcases List.mem_cons.1 hv with e | e
    ·cases e; exact h rfl
    ·exact h1 v e
theorem trace_env {call : CallF} {is : List IOper} {E : Nat → Env} {S : Nat → St} {U : Nat → V} (T : ∀ p, TrAt call is E S U p) {p : Nat} (hp : p ≤ is.length) (t : Nat) : (∃ q, q < p ∧ dstAt is q = some t ∧ Env.get (E p) t = U q) ∨ ((∀ q, q < p → dstAt is q ≠ some t) ∧ Env.get (E p) t = Env.get (E 0) t) := by
 induction p with
 | zero => exact .inr ⟨fun q h => by omega, rfl⟩
 | succ p ih =>
  have hlt : p < is.length := by omega
  obtain ⟨o, ho⟩ : ∃ o, is[p]? = some o := ⟨is[p], List.getElem?_eq_getElem hlt⟩
  obtain ⟨_, hE, _⟩ := T p o ho
  have hd : dstAt is p = o.dst := by simp [dstAt, ho]
  rw [hE]
  cases hdst : o.dst with
  | none =>
   simp only [Env.put]
   rcases ih (by omega) with ⟨q, h1, h2, h3⟩ | ⟨h1, h2⟩
   ·exact .inl ⟨q, by omega, h2, h3⟩
   ·refine .inr ⟨fun q hq => ?_, h2⟩
    by_cases hqp : q = p
    ·subst hqp; rw [hd, hdst]; simp
    ·exact h1 q (by omega)
  | some d =>
   simp only [Env.put, Env.get]
   by_cases hdt : d = t
   ·subst hdt; rw [if_pos rfl]; exact .inl ⟨p, by omega, by rw [hd, hdst], rfl⟩
   ·rw [if_neg hdt]
    rcases ih (by omega) with ⟨q, h1, h2, h3⟩ | ⟨h1, h2⟩
    ·exact .inl ⟨q, by omega, h2, h3⟩
    ·refine .inr ⟨fun q hq => ?_, h2⟩
     by_cases hqp : q = p
     ·subst hqp; rw [hd, hdst]; simpa using hdt
     ·exact h1 q (by omega)
theorem trace_step {call : CallF} {is : List IOper} {E : Nat → Env} {S : Nat → St} {U : Nat → V} (T : ∀ p, TrAt call is E S U p) {P : Program} {B : Nat} (hC : CallOk P B call) {p : Nat} (hp : p < is.length) (l : (S p).Low) : St.Step (S p) (S (p + 1)) := by
 obtain ⟨_, _, h | h⟩ := T p _ (List.getElem?_eq_getElem hp)
 ·exact run_step hC l h.2
 ·rw [h.2.2]; exact .refl _
theorem trace_low {call : CallF} {is : List IOper} {E : Nat → Env} {S : Nat → St} {U : Nat → V} (T : ∀ p, TrAt call is E S U p) {P : Program} {B : Nat} (hC : CallOk P B call) (l : (S 0).Low) : ∀ {p : Nat}, p ≤ is.length → (S p).Low
 | 0, _ => l
 | p + 1, hp => (trace_step T hC (by omega) (trace_low T hC l (by omega))).low (trace_low T hC l (by omega))
theorem trace_steps {call : CallF} {is : List IOper} {E : Nat → Env} {S : Nat → St} {U : Nat → V} (T : ∀ p, TrAt call is E S U p) {P : Program} {B : Nat} (hC : CallOk P B call) (l : (S 0).Low) {p : Nat} : ∀ {q : Nat}, p ≤ q → q ≤ is.length → St.Step (S p) (S q)
 | 0, h, _ => by obtain rfl : p = 0 := (by omega); exact .refl _
 | q + 1, h, hq => by
  by_cases e : p = q + 1
  ·subst e; exact .refl _
  ·exact (trace_steps T hC l (by omega) (by omega)).trans (trace_step T hC (by omega) (trace_low T hC l (by omega)))
def New (is : List IOper) (S : Nat → St) (r : Nat) (x : Obj) : Prop := r < is.length ∧ S (r + 1) = (S r).push x
theorem trace_quiet {call : CallF} {is : List IOper} {E : Nat → Env} {S : Nat → St} {U : Nat → V} (T : ∀ p, TrAt call is E S U p) {P : Program} {B : Nat} (hC : CallOk P B call) (l : (S 0).Low) {b : Nat} : ∀ {q : Nat}, b ≤ q → q ≤ is.length → (∀ r, b ≤ r → r < q → actAt is r = false) →
  (∀ o x, (S b).get o = some x → (S q).get o = some x) ∧ (∀ o x, (S q).get o = some x → (S b).get o = some x ∨ ∃ r, b ≤ r ∧ r < q ∧ New is S r x ∧ o = (S r).next) ∧
  (∀ r x, b ≤ r → r < q → New is S r x → (S q).get (S r).next = some x)
 | 0, h, _, _ => by
  obtain rfl : b = 0 := by omega
  exact ⟨fun o x h => h, fun o x h => .inl h, fun r x _ h => by omega⟩
 | q + 1, h, hq, hn => by
  by_cases e : b = q + 1
  ·subst e; exact ⟨fun o x h => h, fun o x h => .inl h, fun r x _ h => by omega⟩
  ·obtain ⟨i1, i2, i3⟩ := trace_quiet T hC l (b := b) (q := q) (by omega) (by omega) (fun r h1 h2 => hn r h1 (by omega))
   have hlt : q < is.length := by omega
   have hlow := trace_low T hC l (p := q) (by omega)
   have hact := hn q (by omega) (by omega)
   rw [actAt_of (List.getElem?_eq_getElem hlt), decide_eq_false_iff_not] at hact
   have hS : S (q + 1) = S q ∨ ∃ x, S (q + 1) = (S q).push x := by
    obtain ⟨_, _, h | h⟩ := T q _ (List.getElem?_eq_getElem hlt)
    ·have h2 := h.2
     rw [run_ex (kind_isCall hact)] at h2
     cases hk : is[q].op.kind with
     | pure => exact .inl (ex_still (.inl hk) h2)
     | read => exact .inl (ex_still (.inr hk) h2)
     | fresh => obtain ⟨x, hx, _⟩ := ex_fresh hk h2; exact .inr ⟨x, hx⟩
     | act => exact absurd hk hact
    ·exact .inl h.2.2
   rcases hS with hS | ⟨y, hS⟩
   ·have nope : ∀ x, ¬ New is S q x := fun x hx => by
     have := hx.2
     rw [hS] at this
     have := congrArg St.next this
     rw [St.next_push] at this; omega
    rw [hS]
    refine ⟨i1, fun o x ho => ?_, fun r x h1 h2 hx => ?_⟩
    ·rcases i2 o x ho with h | ⟨r, h1, h2, h3, h4⟩
     ·exact .inl h
     ·exact .inr ⟨r, h1, by omega, h3, h4⟩
    ·by_cases hr : r = q
     ·subst hr; exact absurd hx (nope x)
     ·exact i3 r x h1 (by omega) hx
   ·rw [hS]
    refine ⟨fun o x ho => ?_, fun o x ho => ?_, fun r x h1 h2 hx => ?_⟩
    ·have := i1 o x ho
     rw [St.get_push, if_neg (by have := hlow o x this; omega)]; exact this
    ·rw [St.get_push] at ho
     by_cases hoq : o = (S q).next
     ·rw [if_pos hoq] at ho; cases ho
      exact .inr ⟨q, by omega, by omega, ⟨hlt, hS⟩, hoq⟩
     ·rw [if_neg hoq] at ho
      rcases i2 o x ho with h | ⟨r, h1, h2, h3, h4⟩
      ·exact .inl h
      ·exact .inr ⟨r, h1, by omega, h3, h4⟩
    ·by_cases hr : r = q
     ·subst hr
      have := hx.2
      rw [hS] at this
      have h3 : ((S r).push y).get (S r).next = ((S r).push x).get (S r).next := by rw [this]
      rw [St.get_push, St.get_push, if_pos rfl, if_pos rfl] at h3
      rw [St.get_push, if_pos rfl]; exact h3
     ·have := i3 r x h1 (by omega) hx
      rw [St.get_push, if_neg (by have := hlow _ x this; omega)]; exact this
end Go.Ab
