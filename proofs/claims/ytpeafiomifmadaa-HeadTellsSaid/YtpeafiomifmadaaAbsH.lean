/- Regions of open order. Part 4: what makes memory, what turns it; the whole region. -/
import Derived.Test.YtpeafiomifmadaaAbsG
namespace Go.Ab
open Go
set_option linter.unusedVariables false
set_option linter.unusedSimpArgs false
theorem seen_known {P : Program} {φ : Phi} {env : Env} {a : Act} (hE : ER φ env a.tmps) {o : Oper} {i : IOp} (hc : opOf P o = some i) {ob : Nat} (hs : i.seen env = some ob) : ∃ g L, φ ob g = some L := by
 have key : ∀ {x : Operand} {y : Opd}, opdOf x = some y → objOf (y.ev env) = some ob → ∃ g L, φ ob g = some L := by
  intro x y hy ho
  have hv := opdOf_VR hE hy
  generalize y.ev env = yv at ho hv
  cases yv <;> simp only [objOf, reduceCtorEq, Option.some.injEq] at ho
  ·subst ho; simp only [VR] at hv; obtain ⟨L, h, _⟩ := hv; exact ⟨_, L, h⟩
  ·subst ho; simp only [VR] at hv; obtain ⟨L, _, _, h, _⟩ := hv; exact ⟨_, L, h⟩
  ·subst ho; simp only [VR] at hv; obtain ⟨L, h, _⟩ := hv; exact ⟨_, L, h⟩
 have keyL : ∀ {x : Operand} {y : Opd}, opdOf x = some y → (match y.ev env with | .map o => some o | _ => none) = some ob → ∃ g L, φ ob g = some L := by
  intro x y hy ho
  refine key hy ?_
  generalize y.ev env = yv at ho
  cases yv <;> simp only [reduceCtorEq] at ho
  exact ho
 cases i <;> simp only [IOp.seen, reduceCtorEq] at hs
 all_goals
  unfold opOf at hc
  split at hc
 all_goals first
  | (cases hc; done)
  | (rw [Option.map_eq_some_iff] at hc; obtain ⟨_, _, hc⟩ := hc; cases hc; done)
  | skip
 all_goals
  (repeat' split at hc)
 all_goals first
  | (cases hc; done)
  | (rw [Option.map_eq_some_iff] at hc; obtain ⟨_, _, hc⟩ := hc; cases hc; done)
  | (cases hc; exact key (by assumption) hs)
  | skip
 all_goals
  unfold callOf at hc
  (repeat' split at hc)
 all_goals first
  | (cases hc; done)
  | (rw [Option.map_eq_some_iff] at hc; obtain ⟨_, _, hc⟩ := hc; cases hc; done)
  | (cases hc; exact keyL (by assumption) hs)
theorem pend_fold {is : List IOper} {S : Nat → St} (p : Nat) (Q : Nat → Prop) (hinj : ∀ r q x y, New is S r x → New is S q y → (S r).next = (S q).next → r = q) (base : St) (hb : ∀ r x, p < r → New is S r x → base.get (S r).next = none) : ∀ m, ∃ s' : St,
  (∀ o x, base.get o = some x → s'.get o = some x) ∧ (∀ r x, p < r → r < m → Q r → New is S r x → s'.get (S r).next = some x) ∧
  (∀ o x, s'.get o = some x → base.get o = some x ∨ ∃ r, p < r ∧ r < m ∧ Q r ∧ New is S r x ∧ o = (S r).next)
 | 0 => ⟨base, fun o x h => h, fun r x _ h => by omega, fun o x h => .inl h⟩
 | m + 1 => by
  classical
  obtain ⟨s', h1, h2, h3⟩ := pend_fold p Q hinj base hb m
  by_cases hq : p < m ∧ Q m ∧ ∃ x, New is S m x
  ·obtain ⟨hpm, hQm, x, hx⟩ := hq
   refine ⟨s'.set (S m).next x, fun o y h => ?_, fun r y r1 r2 r3 r4 => ?_, fun o y h => ?_⟩
   ·rw [St.get_set]
    by_cases e : o = (S m).next
    ·subst e; rw [hb m x hpm hx] at h; cases h
    ·rw [if_neg e]; exact h1 o y h
   ·rw [St.get_set]
    by_cases e : r = m
    ·subst e
     rw [if_pos rfl]
     have e2 := hx.2
     rw [r4.2] at e2
     have e3 : ((S r).push y).get (S r).next = ((S r).push x).get (S r).next := by rw [e2]
     rw [St.get_push, St.get_push, if_pos rfl, if_pos rfl] at e3
     exact e3.symm
    ·rw [if_neg fun h => e (hinj r m y x r4 hx h)]
     exact h2 r y r1 (by omega) r3 r4
   ·rw [St.get_set] at h
    by_cases e : o = (S m).next
    ·rw [if_pos e] at h; cases h
     exact .inr ⟨m, hpm, by omega, hQm, hx, e⟩
    ·rw [if_neg e] at h
     rcases h3 o y h with h | ⟨r, r1, r2, r3⟩
     ·exact .inl h
     ·exact .inr ⟨r, r1, by omega, r3⟩
  ·refine ⟨s', h1, fun r y r1 r2 r3 r4 => ?_, fun o y h => ?_⟩
   ·by_cases e : r = m
    ·subst e; exact absurd ⟨r1, r3, y, r4⟩ hq
    ·exact h2 r y r1 (by omega) r3 r4
   ·rcases h3 o y h with h | ⟨r, r1, r2, r3⟩
    ·exact .inl h
    ·exact .inr ⟨r, r1, by omega, r3⟩
section
variable {P : Program} {B : Nat} {call : CallF} {ops : Array Oper} {ord : List Nat} {is : List IOper} {nt : Nat} {E : Nat → Env} {S : Nat → St} {U : Nat → V} {φ0 : Phi} {w0 : World} {d0 : List Deferred}
variable {listed : Array Bool} {a : Act} {w : World} {b : Nat} {φ : Phi} {s : St}
theorem Inv.world (C : Ctx P B call ops ord is nt E S U φ0 w0) (I : Inv B ops ord is nt E S U φ0 w0 d0 listed a w b φ s) {t t' : St} {ψ : Phi} {w' : World} (hx : Ext B φ t w ψ t' w') (ht : ∀ o x, t.get o = some x → s.get o = some x) :
  φ0.le ψ ∧ w0.heap.size ≤ w'.heap.size ∧ w'.os = w0.os ∧ w'.tape = w0.tape ∧ w'.output = w0.output ∧
  (∀ b, b < w0.heap.size → (∀ o g L, φ0 o g = some L → L.block = b → (S 0).ro o = true) → w'.heap[b]? = w0.heap[b]?) ∧
  (∀ o g L, ψ o g = some L → (∃ g' L', φ0 o g' = some L' ∧ L'.block = L.block) ∨ w0.heap.size ≤ L.block) := by
 have hro : ∀ o, s.ro o = true → t.ro o = true := fun o ho => by
  cases e : t.get o with
  | none => exact St.ro_of_none e
  | some x => rw [St.ro_of_get e, ← St.ro_of_get (ht o x e)]; exact ho
 refine ⟨Phi.le_trans I.le hx.le, Nat.le_trans I.wsize hx.size, hx.os.trans I.os, hx.tape.trans I.tape, hx.output.trans I.output, fun c hc hfr => ?_, fun o g L h => ?_⟩
 ·rw [← I.frame c hc hfr]
  refine hx.frame c (Nat.lt_of_lt_of_le hc I.wsize) fun o g L e eb => hro o ?_
  rcases I.new o g L e with ⟨g', L', e', eb'⟩ | h
  ·exact I.ro C e' (hfr o g' L' e' (eb'.trans eb))
  ·omega
 ·rcases hx.new o g L h with ⟨g', L', e', eb⟩ | h
  ·rcases I.new o g' L' e' with ⟨g'', L'', e'', eb'⟩ | h
   ·exact .inl ⟨g'', L'', e'', eb'.trans eb⟩
   ·exact .inr (by omega)
  ·exact .inr (Nat.le_trans I.wsize h)
theorem Inv.turned (C : Ctx P B call ops ord is nt E S U φ0 w0) (I : Inv B ops ord is nt E S U φ0 w0 d0 listed a w b φ s) {w' : World} (hx : Ext B φ s w φ s w') : Inv B ops ord is nt E S U φ0 w0 d0 listed a w' b φ s := by
 obtain ⟨g1, g2, g3, g4, g5, g6, g7⟩ := I.world C hx (fun _ _ h => h)
 exact { I with rep := hx.rep, le := g1, wsize := g2, os := g3, tape := g4, output := g5, frame := g6, new := g7 }
theorem pure_cvs {i : IOp} (h : i.kind = .pure) : i.isCvs = false := by cases i <;> first | rfl | (simp only [IOp.kind, reduceCtorEq] at h)
theorem regD_step (C : Ctx P B call ops ord is nt E S U φ0 w0) (I : Inv B ops ord is nt E S U φ0 w0 d0 listed a w b φ s) {p : Nat} (hp : p < ops.size) (hu : ¬ Lst ord listed p) (hr : ∀ q, q < ops.size → ahead ops ord p q = true → Lst ord listed q)
  {K : Act → World → Prop} {Q : Exit → Act → World → Prop} (hK : ∀ a' w' b' φ' s', Inv B ops ord is nt E S U φ0 w0 d0 (listed.setIfInBounds (ord.getD p 0) true) a' w' b' φ' s' → K a' w') : wpOp P ops Q (ord.getD p 0) K a w := by
 obtain ⟨o, x, ho, hx, hop, hg, hod, hdn⟩ := C.code p hp
 obtain ⟨env, hE, hA⟩ := I.operands C hp hu hr
 have hus : usesAt is p = x.op.uses ++ guardT x.guard := by simp [usesAt, hx]
 rw [hus] at hA
 have hAo : Agree env (E p) x.op.uses := hA.left
 have hdst : dstAt is p = x.dst := by simp [dstAt, hx]
 have hb := I.below hu
 obtain ⟨hgok, _, hstep⟩ := C.T p x hx
 have hgE : ∀ t c, x.guard = some (t, c) → VR φ (Env.get (E p) t) (a.tmps.getD t undef) := fun t c h => by
  have : Env.get env t = Env.get (E p) t := hA.right t (by rw [h]; simp [guardT])
  rw [← this]; exact hE t
 have hwt := guard_wanted (φ := φ) (tmps := a.tmps) hg hgE hgok rfl
 unfold wpOp
 rw [ho]
 simp only
 have hlistb := I.size
 have hset : ∀ {q}, q < ops.size → (Lst ord (listed.setIfInBounds (ord.getD p 0) true) q ↔ q = p ∨ Lst ord listed q) := fun hq => Lst_set C.O I.size hp hq
 rcases hstep.symm with ⟨hw, hU, hS⟩ | ⟨hw, hrun⟩
 ·rw [hwt, hw, if_neg (by decide)]
  obtain ⟨b', I'⟩ := I.still C hp hu hr hS hdst hdn (u := undef) (by rw [hU]; exact VR_undef)
  rw [hod]; exact hK _ _ _ _ _ I'
 rw [hwt, hw, if_pos rfl]
 refine .inl ?_
 cases hk : x.op.kind with
 | pure =>
  rw [run_ex (kind_isCall (by rw [hk]; decide))] at hrun
  have hS := ex_still (.inl hk) hrun
  have hex : x.op.run call env s = some (U p, s) := by
   rw [run_agree (call := call) hAo, run_ex (kind_isCall (by rw [hk]; decide))]
   exact ex_pure hk hrun s
  have hexx : x.op.ex env s = some (U p, s) := by rwa [run_ex (kind_isCall (by rw [hk]; decide))] at hex
  obtain ⟨nx, w', ψ, h1, h2, h3, h4, _⟩ := (ex_sound I.rep (fun y e => absurd (congrArg St.next e) (by rw [St.next_push]; omega)) hE hop (kind_isCall (by rw [hk]; decide)) hexx).out
  obtain ⟨_, rfl, rfl⟩ := h4 (.inl hk) (pure_cvs hk)
  unfold Oper.wp
  rw [h1]
  have fin : ∀ u, VR ψ (U p) u → K (a.put o.dst u) w' := fun u hv => by
   obtain ⟨b', I'⟩ := I.still C hp hu hr hS hdst hdn hv
   rw [hod]; exact hK _ _ _ _ _ I'
  cases nx <;> simp only [Came] at h3
  ·exact fin _ h3
  ·exact fin _ h3
 | read =>
  rw [run_ex (kind_isCall (by rw [hk]; decide))] at hrun
  have hS := ex_still (.inr hk) hrun
  rw [hS] at hrun
  have hseen : x.op.seen env = x.op.seen (E p) := by
   cases hxo : x.op <;> rw [hxo] at hAo hk <;> simp only [IOp.kind, reduceCtorEq] at hk <;> simp only [IOp.uses] at hAo <;> simp only [IOp.seen]
   ·rw [ev_agree hAo]
   ·rw [ev_agree hAo]
   ·rw [ev_agree hAo]
   ·rw [ev_agree hAo.left]
   ·rw [ev_agree hAo]
  have hexs := I.reads C hp hu hr hx hk hw hrun (fun ob hob => seen_known hE hop (by rw [hseen]; exact hob)) s (fun _ _ h => h)
  have hexx : x.op.ex env s = some (U p, s) := by
   have := run_agree (call := call) (st := s) hAo
   rw [run_ex (kind_isCall (by rw [hk]; decide)), run_ex (kind_isCall (by rw [hk]; decide))] at this
   rw [this]; exact hexs
  obtain ⟨nx, w', ψ, h1, h2, h3, _, h4⟩ := (ex_sound I.rep (fun y e => absurd (congrArg St.next e) (by rw [St.next_push]; omega)) hE hop (kind_isCall (by rw [hk]; decide)) hexx).out
  obtain ⟨_, rfl⟩ := h4 (.inr hk)
  unfold Oper.wp
  rw [h1]
  have fin : ∀ u, VR ψ (U p) u → K (a.put o.dst u) w' := fun u hv => by
   obtain ⟨b', I'⟩ := (I.turned C h2).still C hp hu hr hS hdst hdn hv
   rw [hod]; exact hK _ _ _ _ _ I'
  cases nx <;> simp only [Came] at h3
  ·exact fin _ h3
  ·exact fin _ h3
 | fresh =>
  have hnc := kind_isCall (i := x.op) (by rw [hk]; decide)
  rw [run_ex hnc] at hrun
  obtain ⟨y, hSy, hyr, hany⟩ := ex_fresh hk hrun
  have hnew : New is S p y := ⟨by rw [C.O.ilen]; exact hp, hSy⟩
  have hnn := new_next hnew
  have hn1 := (steps_at C (show p + 1 ≤ ops.size by omega) (Nat.le_refl _)).next
  have hn2 := (steps_at C hb (by omega)).next
  let sp : St := ⟨s.mem, (S p).next⟩
  have hsp : ∀ o, sp.get o = s.get o := fun _ => rfl
  have hexx : x.op.ex env sp = some (U p, sp.push y) := by
   have := run_agree (call := call) (st := sp) hAo
   rw [run_ex hnc, run_ex hnc] at this
   rw [this]; exact hany sp rfl
  have hfreeφ : ∀ g, φ (S p).next g = none := fun g => by
   cases e : φ (S p).next g with
   | none => rfl
   | some L =>
    obtain ⟨r, z, r1, r2, r3, r4⟩ := I.unknown C e (by omega) (by omega)
    have := new_inj C hnew r3 r4
    subst this; exact absurd r2 hu
  have hfreeS : s.get (S p).next = none := by
   cases e : s.get (S p).next with
   | none => rfl
   | some z =>
    rcases I.i8 _ z e with h | ⟨r, r1, r2, r3, r4⟩
    ·have := low_at C I.bn _ z h; omega
    ·have := new_inj C hnew r3 r4
     subst this; exact absurd r2 hu
  have hrep : Rep B φ sp w := I.rep.less fun o z h => h
  obtain ⟨nx, w', ψ, h1, h2, h3, _⟩ := (ex_sound hrep (fun z _ => ⟨hfreeS, hfreeφ⟩) hE hop hnc hexx).out
  unfold Oper.wp
  rw [h1]
  have hact : actAt is p = false := by rw [actAt_of hx, hk]; rfl
  have fin : ∀ u, VR ψ (U p) u → K (a.put o.dst u) w' := fun u hv => by
   obtain ⟨v1, v2, v3, v4⟩ := I.vals C hp hu h2.le hdst hdn hv
   obtain ⟨g1, g2, g3, g4, g5, g6, g7⟩ := I.world C h2 (fun o z h => h)
   rw [hod]
   refine hK _ _ b ψ (sp.push y) ⟨I.bn, by simpa using I.size, fun q hq => (hset (by have := I.bn; omega)).2 (.inr (I.i1 q hq)), fun q hq hbq hL => ?_, I.closed' C hp hr, v1, v2, h2.rep, fun o z h => ?_, fun r z q1 q2 q3 => ?_, fun o z h => ?_, fun o g L h => ?_, g1, g2, g3, g4, g5, g6, g7, v3, v4⟩
   ·rcases (hset hq).1 hL with h | h
    ·subst h; exact hact
    ·exact I.i2 q hq hbq h
   ·rw [St.get_push]
    have := low_at C I.bn o z h
    rw [if_neg (by show ¬ o = (S p).next; omega)]
    exact I.i6 o z h
   ·rw [St.get_push]
    rcases (hset (new_lt C q3)).1 q2 with h | h
    ·subst h
     rw [if_pos rfl]
     have e2 := q3.2
     rw [hSy] at e2
     have e3 : ((S r).push y).get (S r).next = ((S r).push z).get (S r).next := by rw [e2]
     rw [St.get_push, St.get_push, if_pos rfl, if_pos rfl] at e3
     exact e3
    ·rw [if_neg fun e => by
      have := new_inj C q3 hnew e
      subst this; exact hu h]
     exact I.i7 r z q1 h q3
   ·rw [St.get_push] at h
    by_cases e : o = sp.next
    ·rw [if_pos e] at h; cases h
     exact .inr ⟨p, hb, (hset hp).2 (.inl rfl), hnew, e⟩
    ·rw [if_neg e] at h
     rcases I.i8 o z h with h | ⟨r, r1, r2, r3, r4⟩
     ·exact .inl h
     ·exact .inr ⟨r, r1, (hset (new_lt C r3)).2 (.inr r2), r3, r4⟩
   ·rcases h2.dom o g L h with h | ⟨z, h⟩ | h
    ·rcases I.i9 o g L h with h | ⟨z, h⟩ | h
     ·exact .inl h
     ·refine .inr (.inl ⟨z, ?_⟩)
      rw [St.get_push, if_neg fun e => by rw [e] at h; exact absurd (h.symm.trans hfreeS) (by simp)]
      exact h
     ·exact .inr (.inr h)
    ·refine .inr (.inl ⟨z, ?_⟩)
     rw [St.get_push, if_neg fun e => by rw [e] at h; exact absurd (h.symm.trans hfreeS) (by simp)]
     exact h
    ·refine .inr (.inl ⟨y, ?_⟩)
     rw [St.next_push] at h
     rw [St.get_push, if_pos (by omega)]
  cases nx <;> simp only [Came] at h3
  ·exact fin _ h3
  ·exact fin _ h3
 | act =>
  have hact : actAt is p = true := by rw [actAt_of hx, hk]; rfl
  obtain ⟨q1, q2⟩ := I.quiet C hp hr hact
  obtain ⟨t1, t2⟩ := I.there C hp hu hr hact
  have hn2 := (steps_at C hb (by omega)).next
  have hn1 := (steps_at C (show p + 1 ≤ ops.size by omega) (Nat.le_refl _)).next
  have hrepS : Rep B φ (S p) w := I.rep.less t1
  have hlow := low_at C (show p ≤ ops.size by omega)
  have hstp : St.Step (S p) (S (p + 1)) := steps_at C (show p ≤ p + 1 by omega) (show p + 1 ≤ ops.size by omega)
  have hlater : ∀ {r y}, p < r → New is S r y → (S (p + 1)).next ≤ (S r).next := fun {r y} h1 h2 => (steps_at C (show p + 1 ≤ r by omega) (by have := new_lt C h2; omega)).next
  have hF : Free φ (S p) (S (p + 1)) := fun ob g h1 h2 => by
   cases e : φ ob g with
   | none => rfl
   | some L =>
    obtain ⟨r, z, r1, r2, r3, r4⟩ := I.unknown C e (by omega) (by omega)
    rcases Nat.lt_trichotomy r p with h | h | h
    ·have := (steps_at C (show r + 1 ≤ p by omega) (by omega)).next
     have := new_next r3
     omega
    ·subst h; exact absurd r2 hu
    ·have := hlater h r3; omega
  have hrun' : x.op.run call env (S p) = some (U p, S (p + 1)) := by rw [run_agree hAo]; exact hrun
  refine op_wp C.hC hrepS hlow hF hE hop hrun' fun u w' ψ hxx hv _ => ?_
  obtain ⟨v1, v2, v3, v4⟩ := I.vals C hp hu hxx.le hdst hdn hv
  obtain ⟨g1, g2, g3, g4, g5, g6, g7⟩ := I.world C hxx t1
  have hno : ∀ {r y}, p < r → New is S r y → (S (p + 1)).get (S r).next = none := fun {r y} h1 h2 => by
   cases e : (S (p + 1)).get (S r).next with
   | none => rfl
   | some z => have := low_at C (show p + 1 ≤ ops.size by omega) _ z e; have := hlater h1 h2; omega
  obtain ⟨s', p1, p2, p3⟩ := pend_fold p (fun r => Lst ord listed r) (fun r q y z h1 h2 e => new_inj C h1 h2 e) (S (p + 1)) (fun r y h1 h2 => hno h1 h2) ops.size
  rw [hod]
  have hnoS : ∀ {r y}, p < r → New is S r y → (S p).get (S r).next = none := fun {r y} h1 h2 => by
   cases e : (S p).get (S r).next with
   | none => rfl
   | some z => have := hlow _ z e; have := hlater h1 h2; have := hstp.next; omega
  have hpend : ∀ {r y}, p < r → Lst ord listed r → New is S r y → s.get (S r).next = some y := fun {r y} h1 h2 h3 => I.i7 r y (by omega) h2 h3
  have hsame : ∀ {r y}, p < r → New is S r y → ∀ g L, ψ (S r).next g = some L → φ (S r).next g = some L := fun {r y} h1 h3 g L h => by
   rcases hxx.dom _ g L h with h | ⟨z, h⟩ | h
   ·exact h
   ·rw [hnoS h1 h3] at h; cases h
   ·have := hlater h1 h3; omega
  have hyro : ∀ {r y}, p < r → Lst ord listed r → New is S r y → y.ro = false := fun {r y} h1 h2 h3 => by
   have hnact := I.i2 r (new_lt C h3) (by omega) h2
   obtain ⟨x2, hx2⟩ : ∃ x2, is[r]? = some x2 := ⟨is[r]'h3.1, List.getElem?_eq_getElem h3.1⟩
   rw [actAt_of hx2, decide_eq_false_iff_not] at hnact
   obtain ⟨_, _, hst⟩ := C.T r x2 hx2
   have hnn := new_next h3
   rcases hst with ⟨_, hrn⟩ | ⟨_, _, hSr⟩
   ·rw [run_ex (kind_isCall hnact)] at hrn
    by_cases hk2 : x2.op.kind = .fresh
    ·obtain ⟨y2, e1, e2, _⟩ := ex_fresh hk2 hrn
     have e3 : ((S r).push y2).get (S r).next = ((S r).push y).get (S r).next := by rw [← e1, h3.2]
     rw [St.get_push, St.get_push, if_pos rfl, if_pos rfl] at e3
     cases e3; exact e2
    ·have : Still x2.op := by
      unfold Still
      cases hkk : x2.op.kind <;> simp_all
     rw [ex_still this hrn] at hnn; omega
   ·rw [hSr] at hnn; omega
  have hsS : ∀ {ob}, s'.ro ob = false → (S (p + 1)).ro ob = false ∨ ∃ r y, p < r ∧ Lst ord listed r ∧ New is S r y ∧ ob = (S r).next := fun {ob} h => by
   cases e : s'.get ob with
   | none => rw [St.ro_of_none e] at h; cases h
   | some z =>
    rcases p3 ob z e with h' | ⟨r, r1, _, r2, r3, r4⟩
    ·rw [St.ro_of_get e] at h; exact .inl (by rw [St.ro_of_get h']; exact h)
    ·exact .inr ⟨r, z, r1, r2, r3, r4⟩
  have hrep' : Rep B ψ s' w' := by
   refine ⟨hxx.rep.bot, fun ob z h => ?_, fun ob g L ob' g' L' e e' hne hro => ?_, fun ob g L e hro => ?_, hxx.rep.inh⟩
   ·rcases p3 ob z h with h | ⟨r, r1, _, r2, r3, r4⟩
    ·exact hxx.rep.here ob z h
    ·subst r4
     refine (I.rep.here _ z (hpend r1 r2 r3)).move hxx.le (hsame r1 r3) fun g L e => ?_
     refine hxx.frame _ (I.rep.inh _ _ _ e) fun ob' g' L' e' eb => ?_
     by_cases ho' : ob' = (S r).next
     ·rw [ho']; exact St.ro_of_none (hnoS r1 r3)
     ·cases hb' : (S p).ro ob' with
      | true => rfl
      | false =>
       exfalso
       have : s.ro ob' = false := by
        cases e2 : (S p).get ob' with
        | none => rw [St.ro_of_none e2] at hb'; cases hb'
        | some z2 => rw [St.ro_of_get (t1 _ _ e2), ← St.ro_of_get e2]; exact hb'
       exact I.rep.apart ob' g' L' _ g L e' e ho' this eb
   ·rcases hsS hro with hro | ⟨r, y, r1, r2, r3, r4⟩
    ·exact hxx.rep.apart ob g L ob' g' L' e e' hne hro
    ·subst r4
     have e1 := hsame r1 r3 g L e
     have hsr : s.ro (S r).next = false := by rw [St.ro_of_get (hpend r1 r2 r3)]; exact hyro r1 r2 r3
     rcases hxx.new ob' g' L' e' with ⟨g2, L2, e2, eb⟩ | h
     ·rw [← eb]; exact I.rep.apart _ _ _ _ _ _ e1 e2 hne hsr
     ·have := I.rep.inh _ _ _ e1; omega
   ·rcases hsS hro with hro | ⟨r, y, r1, r2, r3, r4⟩
    ·exact hxx.rep.above ob g L e hro
    ·subst r4
     exact I.rep.above _ _ _ (hsame r1 r3 g L e) (by rw [St.ro_of_get (hpend r1 r2 r3)]; exact hyro r1 r2 r3)
  refine hK _ _ (p + 1) ψ s' ⟨by omega, by simpa using I.size, fun q hq => (hset (by omega)).2 ?_, fun q hq hbq hL => ?_, I.closed' C hp hr, v1, v2, hrep', p1, fun r z r1 r2 r3 => ?_, fun ob z h => ?_, fun ob g L h => ?_, g1, g2, g3, g4, g5, g6, g7, v3, v4⟩
  ·by_cases h : q = p
   ·exact .inl h
   ·exact .inr (q1 q (by omega))
  ·rcases (hset hq).1 hL with h | h
   ·omega
   ·exact I.i2 q hq (by omega) h
  ·rcases (hset (new_lt C r3)).1 r2 with h | h
   ·omega
   ·exact p2 r z (by omega) (new_lt C r3) h r3
  ·rcases p3 ob z h with h | ⟨r, r1, r5, r2, r3, r4⟩
   ·exact .inl h
   ·exact .inr ⟨r, by omega, (hset r5).2 (.inr r2), r3, r4⟩
  ·have hkeep : ∀ z, (S p).get ob = some z → ∃ z', s'.get ob = some z' := fun z hz => by
    obtain ⟨z', hz', _⟩ := hstp.keep ob z hz
    exact ⟨z', p1 ob z' hz'⟩
   rcases hxx.dom ob g L h with h | ⟨z, h⟩ | h
   ·rcases I.i9 ob g L h with h | ⟨z, h⟩ | h
    ·exact .inl h
    ·rcases t2 ob z h with h | ⟨r, r1, r2, r3, r4⟩
     ·exact .inr (.inl (hkeep z h))
     ·exact .inr (.inl ⟨z, by rw [r4]; exact p2 r z r1 (new_lt C r3) r2 r3⟩)
    ·have := hstp.next
     exact .inr (.inr (by omega))
   ·exact .inr (.inl (hkeep z h))
   ·have := (steps_at C (Nat.zero_le p) (by omega)).next
    exact .inr (.inr (by omega))
end
end Go.Ab
