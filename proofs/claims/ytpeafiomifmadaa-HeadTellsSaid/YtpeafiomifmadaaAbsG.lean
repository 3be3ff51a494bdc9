/- Regions of open order. Part 3: one operation more. -/
import Derived.Test.YtpeafiomifmadaaAbsF
namespace Go.Ab
open Go
set_option linter.unusedVariables false
set_option linter.unusedSimpArgs false
section
variable {P : Program} {B : Nat} {call : CallF} {ops : Array Oper} {ord : List Nat} {is : List IOper} {nt : Nat} {E : Nat → Env} {S : Nat → St} {U : Nat → V} {φ0 : Phi} {w0 : World} {d0 : List Deferred}
variable {listed : Array Bool} {a : Act} {w : World} {b : Nat} {φ : Phi} {s : St}
theorem Inv.still (C : Ctx P B call ops ord is nt E S U φ0 w0) (I : Inv B ops ord is nt E S U φ0 w0 d0 listed a w b φ s) {p : Nat} (hp : p < ops.size) (hu : ¬ Lst ord listed p) (hr : ∀ q, q < ops.size → ahead ops ord p q = true → Lst ord listed q)
    (hS : S (p + 1) = S p) {d : Option Nat} (hd : dstAt is p = d) (hdn : d.all (· < nt) = true) {u : Value} (hv : VR φ (U p) u) :
    ∃ b', Inv B ops ord is nt E S U φ0 w0 d0 (listed.setIfInBounds (ord.getD p 0) true) (a.put d u) w b' φ s := by
  obtain ⟨v1, v2, v3, v4⟩ := I.vals C hp hu φ.le_refl hd hdn hv
  have hcl := I.closed' C hp hr
  have hset : ∀ {q}, q < ops.size → (Lst ord (listed.setIfInBounds (ord.getD p 0) true) q ↔ q = p ∨ Lst ord listed q) := fun hq => Lst_set C.O I.size hp hq
  have hb := I.below hu
  have nope : ∀ x, ¬ New is S p x := fun x hx => by
    have := new_next hx; rw [hS] at this; omega
  cases hact : actAt is p with
  | false =>
    refine ⟨b, ⟨I.bn, by simpa using I.size, fun q hq => (hset (by have := I.bn; omega)).2 (.inr (I.i1 q hq)), fun q hq hbq hL => ?_, hcl, v1, v2, I.rep, I.i6, fun r x h1 h2 h3 => ?_, fun o x h => ?_, I.i9, I.le, I.wsize, I.os, I.tape, I.output, I.frame, I.new, v3, v4⟩⟩
    · rcases (hset hq).1 hL with h | h
      · subst h; exact hact
      · exact I.i2 q hq hbq h
    · rcases (hset (new_lt C h3)).1 h2 with h | h
      · subst h; exact absurd h3 (nope x)
      · exact I.i7 r x h1 h h3
    · rcases I.i8 o x h with h | ⟨r, r1, r2, r3, r4⟩
      · exact .inl h
      · exact .inr ⟨r, r1, (hset (new_lt C r3)).2 (.inr r2), r3, r4⟩
  | true =>
    obtain ⟨h1, h2⟩ := I.quiet C hp hr hact
    obtain ⟨t1, t2⟩ := I.there C hp hu hr hact
    refine ⟨p + 1, ⟨by omega, by simpa using I.size, fun q hq => (hset (by omega)).2 ?_, fun q hq hbq hL => ?_, hcl, v1, v2, I.rep, fun o x h => ?_, fun r x r1 r2 r3 => ?_, fun o x h => ?_, fun o g L h => ?_, I.le, I.wsize, I.os, I.tape, I.output, I.frame, I.new, v3, v4⟩⟩
    · by_cases h : q = p
      · exact .inl h
      · exact .inr (h1 q (by omega))
    · rcases (hset hq).1 hL with h | h
      · omega
      · exact I.i2 q hq (by omega) h
    · rw [hS] at h; exact t1 o x h
    · rcases (hset (new_lt C r3)).1 r2 with h | h
      · omega
      · exact I.i7 r x (by omega) h r3
    · rcases t2 o x h with h | ⟨r, r1, r2, r3, r4⟩
      · exact .inl (by rw [hS]; exact h)
      · exact .inr ⟨r, by omega, (hset (new_lt C r3)).2 (.inr r2), r3, r4⟩
    · rcases I.i9 o g L h with h | h | h
      · exact .inl h
      · exact .inr (.inl h)
      · have := (steps_at C (show b ≤ p + 1 by omega) (by omega)).next
        exact .inr (.inr (by omega))
theorem Inv.reads (C : Ctx P B call ops ord is nt E S U φ0 w0) (I : Inv B ops ord is nt E S U φ0 w0 d0 listed a w b φ s) {p : Nat} (hp : p < ops.size) (hu : ¬ Lst ord listed p) (hr : ∀ q, q < ops.size → ahead ops ord p q = true → Lst ord listed q)
    {x : IOper} (hx : is[p]? = some x) (hk : x.op.kind = .read) (hw : wantedI (E p) x.guard = true) (hex : x.op.ex (E p) (S p) = some (U p, S p)) (hknown : ∀ o, x.op.seen (E p) = some o → ∃ g L, φ o g = some L) :
    ∀ s2 : St, (∀ o y, s.get o = some y → s2.get o = some y) → x.op.ex (E p) s2 = some (U p, s2) := by
  have hb := I.below hu
  obtain ⟨q, q1, q2, q3, q4, q5⟩ := actSts_get is S b (by rw [C.O.ilen]; exact I.bn)
  rw [C.O.ilen] at q2
  obtain ⟨k1, k2, k3⟩ := quiet_at C q1 q2 (fun r h1 h2 => q3 r h1 h2)
  have hpr : actAt is p = false := by rw [actAt_of hx, hk]; rfl
  have hlst : ∀ r, r < ops.size → actAt is r = true → Lst ord listed r → r < b := fun r hr1 hr2 hr3 => by
    rcases Nat.lt_or_ge r b with h | h
    · exact h
    · have := I.i2 r hr1 h hr3; rw [hr2] at this; cases this
  have hq : (x.op.ex (E p) (S q) = some (U p, S q)) ∨ (∀ s2 : St, (∀ o y, s.get o = some y → s2.get o = some y) → x.op.ex (E p) s2 = some (U p, s2)) := by
    have hck := C.O.chk p hp
    simp only [chkAt, hx, hk, decide_true, Bool.not_true, Bool.false_or, Bool.or_eq_true, decide_eq_true_eq] at hck
    rcases hck with hck | hck
    · -- each turn is ahead of it, or behind
      have hall : ∀ r, r < ops.size → actAt is r = true → ahead ops ord p r = true ∨ ahead ops ord r p = true := by
        intro r hr1 hr2
        have hex1 : ∀ r, r ∈ List.range ops.size → (actAt is r && ahead ops ord p r) = true → (actAt is r && ahead ops ord r p) = true → False := by
          intro r hr1 h1 h2
          simp only [Bool.and_eq_true, List.mem_range] at h1 h2 hr1
          have := C.O.back p r hp hr1 h1.2
          have := C.O.back r p hr1 hp h2.2
          omega
        have key : ∀ l : List Nat, (∀ r, r ∈ l → r ∈ List.range ops.size) → l.countP (fun q => actAt is q && ahead ops ord p q) + l.countP (fun q => actAt is q && ahead ops ord q p) ≤ l.countP (fun q => actAt is q) ∧
            (l.countP (fun q => actAt is q && ahead ops ord p q) + l.countP (fun q => actAt is q && ahead ops ord q p) = l.countP (fun q => actAt is q) → ∀ r, r ∈ l → actAt is r = true → ahead ops ord p r = true ∨ ahead ops ord r p = true) := by
          intro l
          induction l with
          | nil => intro _; exact ⟨by simp, fun _ r h => by cases h⟩
          | cons c l ih =>
            intro hsub
            obtain ⟨i1, i2⟩ := ih fun r hr => hsub r (List.mem_cons_of_mem _ hr)
            have hc := hex1 c (hsub c List.mem_cons_self)
            simp only [List.countP_cons]
            cases ha : actAt is c <;> cases hp1 : ahead ops ord p c <;> cases hp2 : ahead ops ord c p <;> simp only [ha, hp1, hp2, Bool.and_true, Bool.and_false, Bool.true_and, Bool.false_and, if_true, Bool.false_eq_true, if_false, Nat.add_zero] at hc ⊢
            all_goals first
              | exact absurd (hc trivial trivial) (by simp)
              | (refine ⟨by omega, fun he r hr har => ?_⟩
                 rcases List.mem_cons.1 hr with rfl | hr
                 · first
                   | exact .inl hp1
                   | exact .inr hp2
                   | (exfalso; omega)
                   | exact absurd (ha.symm.trans har) (by decide)
                 · exact i2 (by omega) r hr har)
        exact (key (List.range ops.size) (fun r h => h)).2 hck r (List.mem_range.2 hr1) hr2
      have hpq : p ≤ q := by
        rcases Nat.lt_or_ge q p with h | h
        · exfalso
          have hqa := q4 (by rw [C.O.ilen]; omega)
          rcases hall q (by omega) hqa with h' | h'
          · have := hlst q (by omega) hqa (hr q (by omega) h'); omega
          · have := C.O.back q p (by omega) hp h'; omega
        · exact h
      obtain ⟨m1, _, _⟩ := quiet_at C hpq q2 (fun r h1 h2 => q3 r (by omega) h2)
      exact .inl (ex_read hk hex fun o y _ h => m1 o y h)
    · -- by the check
      cases hc : x.chk with
      | none => rw [hc] at hck; cases hck
      | some lh =>
        obtain ⟨l, h⟩ := lh
        rw [hc] at hck
        simp only [Bool.and_eq_true, decide_eq_true_eq] at hck
        have hcnt : ∀ {f g : Nat → Bool} {m : Nat}, (∀ r, r < m → f r = true → g r = true) → (List.range m).countP f ≤ (List.range m).countP g := fun {f g m} hfg =>
          List.countP_mono_left fun r hr hf => hfg r (List.mem_range.1 hr) hf
        have hsplit : ∀ (b m : Nat), b ≤ m → (List.range m).countP (fun r => actAt is r && decide (r < b)) = (List.range b).countP (actAt is) := by
          intro b m hm
          induction m with
          | zero => obtain rfl : b = 0 := (by omega); rfl
          | succ m ih =>
            by_cases hbm : b = m + 1
            · rw [← hbm]
              refine Nat.le_antisymm (hcnt fun r hr hf => ?_) (hcnt fun r hr hf => ?_)
              · simp only [Bool.and_eq_true] at hf; exact hf.1
              · simp only [Bool.and_eq_true, decide_eq_true_eq]; exact ⟨hf, hr⟩
            · rw [List.range_succ, List.countP_append, ih (by omega)]
              simp only [List.countP_cons, List.countP_nil]
              have : ¬ m < b := by omega
              simp [this]
        have hlow : l ≤ (List.range b).countP (actAt is) := by
          refine Nat.le_trans hck.1 ?_
          rw [← hsplit b ops.size I.bn]
          refine hcnt fun r hr1 hf => ?_
          simp only [Bool.and_eq_true, decide_eq_true_eq] at hf ⊢
          exact ⟨hf.1, hlst r hr1 hf.1 (hr r hr1 hf.2)⟩
        have hhigh : (List.range b).countP (actAt is) ≤ h := by
          have h1 : (List.range ops.size).countP (fun r => actAt is r && decide (r < b)) + actsBehind ops ord is ops.size p ≤ actsAll is ops.size := by
            unfold actsBehind actsAll
            have key : ∀ l : List Nat, (∀ r, r ∈ l → r < ops.size) → l.countP (fun r => actAt is r && decide (r < b)) + l.countP (fun q => actAt is q && ahead ops ord q p) ≤ l.countP (fun q => actAt is q) := by
              intro l
              induction l with
              | nil => intro _; simp
              | cons c l ih =>
                intro hsub
                have i1 := ih fun r hr => hsub r (List.mem_cons_of_mem _ hr)
                have hcb : ¬ (c < b ∧ ahead ops ord c p = true) := fun hcc => hu (I.closed c p (hsub c List.mem_cons_self) hp (I.i1 c hcc.1) hcc.2)
                simp only [List.countP_cons]
                by_cases h1 : c < b <;> cases ha : actAt is c <;> cases hp2 : ahead ops ord c p <;> simp only [h1, ha, hp2, decide_true, decide_false, Bool.and_true, Bool.and_false, Bool.true_and, Bool.false_and, if_true, Bool.false_eq_true, if_false, Nat.add_zero, true_and, and_true, not_true_eq_false, and_false, not_false_eq_true] at hcb ⊢ <;> first | omega | exact hcb.elim
            exact key _ fun r hr => List.mem_range.1 hr
          rw [hsplit b ops.size I.bn] at h1
          omega
        have hok := C.chk p x l h hx hc hw
        unfold Chk.ok at hok
        rw [List.all_eq_true] at hok
        have hmem : S q ∈ cut (actSts is S) l (h + 1 - l) := by
          refine List.mem_iff_getElem?.2 ⟨(List.range b).countP (actAt is) - l, ?_⟩
          rw [cut_get, if_pos (by omega)]
          rw [show l + ((List.range b).countP (actAt is) - l) = (List.range b).countP (actAt is) from by omega]
          exact q5
        have hat := hok _ hmem
        unfold Chk.at at hat
        simp only [Bool.or_eq_true] at hat
        rcases hat with hat | hat
        · split at hat
          · rename_i v s' hvs
            have := V.beq_eq _ _ hat
            subst this
            rw [ex_still (.inr hk) hvs] at hvs
            exact .inl hvs
          · cases hat
        split at hat
        · rename_i o ho
          have hle := of_decide_eq_true hat
          refine .inr fun s2 hs2 => ?_
          obtain ⟨g, L, hL⟩ := hknown o ho
          cases hz : (S p).get o with
          | none =>
            refine ex_read hk hex fun o' y ho' hy => ?_
            rw [ho] at ho'; cases ho'
            rw [hz] at hy; cases hy
          | some z =>
            have hzl := low_at C (show p ≤ ops.size by omega) o z hz
            have hbq := (steps_at C q1 q2).next
            obtain ⟨r', y', e1, e2, e3, e4⟩ := I.unknown C hL (by omega) (by have := (steps_at C (show p ≤ ops.size by omega) (Nat.le_refl _)).next; omega)
            have hrp : r' < p := by
              rcases Nat.lt_or_ge r' p with h | h
              · exact h
              · have := (steps_at C h (by have := new_lt C e3; omega)).next; omega
            obtain ⟨q', p1, p2, p3, p4, p5⟩ := actSts_get is S (r' + 1) (by rw [C.O.ilen]; omega)
            rw [C.O.ilen] at p2
            obtain ⟨m1, _, _⟩ := quiet_at C p1 p2 (fun r h1 h2 => p3 r h1 h2)
            have hy : (S (r' + 1)).get o = some y' := by rw [e3.2, e4, St.get_push, if_pos rfl]
            have hq' := m1 o y' hy
            have hql := low_at C p2 o y' hq'
            have hlow' : l ≤ (List.range (r' + 1)).countP (actAt is) := by
              refine Nat.le_trans hlow ?_
              rw [← hsplit b (r' + 1) (by omega)]
              exact hcnt fun r _ hf => by simp only [Bool.and_eq_true] at hf; exact hf.1
            have hhigh' : (List.range (r' + 1)).countP (actAt is) ≤ h := by
              have h1 : (List.range ops.size).countP (fun r => actAt is r && decide (r < r' + 1)) + actsBehind ops ord is ops.size p ≤ actsAll is ops.size := by
                unfold actsBehind actsAll
                have key : ∀ l : List Nat, (∀ r, r ∈ l → r < ops.size) → l.countP (fun r => actAt is r && decide (r < r' + 1)) + l.countP (fun q => actAt is q && ahead ops ord q p) ≤ l.countP (fun q => actAt is q) := by
                  intro l
                  induction l with
                  | nil => intro _; simp
                  | cons c l ih =>
                    intro hsub
                    have i1 := ih fun r hr => hsub r (List.mem_cons_of_mem _ hr)
                    have hcb : ¬ (c < r' + 1 ∧ ahead ops ord c p = true) := fun hcc => by
                      have := C.O.back c p (hsub c List.mem_cons_self) hp hcc.2
                      omega
                    simp only [List.countP_cons]
                    by_cases h1 : c < r' + 1 <;> cases ha : actAt is c <;> cases hp2 : ahead ops ord c p <;> simp only [h1, ha, hp2, decide_true, decide_false, Bool.and_true, Bool.and_false, Bool.true_and, Bool.false_and, if_true, Bool.false_eq_true, if_false, Nat.add_zero, true_and, and_true, not_true_eq_false, and_false, not_false_eq_true] at hcb ⊢ <;> first | omega | exact hcb.elim
                exact key _ fun r hr => List.mem_range.1 hr
              rw [hsplit (r' + 1) ops.size (by omega)] at h1
              omega
            have hmem' : S q' ∈ cut (actSts is S) l (h + 1 - l) := by
              refine List.mem_iff_getElem?.2 ⟨(List.range (r' + 1)).countP (actAt is) - l, ?_⟩
              rw [cut_get, if_pos (by omega)]
              rw [show l + ((List.range (r' + 1)).countP (actAt is) - l) = (List.range (r' + 1)).countP (actAt is) from by omega]
              exact p5
            have hat' := hok _ hmem'
            unfold Chk.at at hat'
            simp only [Bool.or_eq_true] at hat'
            rcases hat' with hat' | hat'
            · split at hat'
              · rename_i v s' hvs
                have := V.beq_eq _ _ hat'
                subst this
                rw [ex_still (.inr hk) hvs] at hvs
                refine ex_read hk hvs fun o' y ho' hy' => ?_
                rw [ho] at ho'; cases ho'
                rw [hq'] at hy'; cases hy'
                refine hs2 o y' ?_
                rw [e4]
                exact I.i7 r' y' e1 e2 e3
              · cases hat'
            · rw [ho] at hat'
              have := of_decide_eq_true hat'
              omega
        · cases hat
  rcases hq with hq | hq
  case inr => exact hq
  intro s2 hs2
  refine ex_read hk hq fun o y ho hy => hs2 o y ?_
  rcases k2 o y hy with h | ⟨r, r1, r2, r3, r4⟩
  · exact I.i6 o y h
  · obtain ⟨g, L, hL⟩ := hknown o ho
    have h1 := (steps_at C (show b ≤ r by omega) (by have := new_lt C r3; omega)).next
    have h2 := (steps_at C (show r + 1 ≤ ops.size by have := new_lt C r3; omega) (Nat.le_refl _)).next
    have h3 := new_next r3
    obtain ⟨r', y', e1, e2, e3, e4⟩ := I.unknown C hL (by omega) (by omega)
    have := new_inj C r3 e3 (by omega)
    subst this
    have hyy : y' = y := by
      have e5 : (S (r + 1)).get (S r).next = some y := by rw [r3.2, St.get_push, if_pos rfl]
      rw [e3.2, St.get_push, if_pos rfl] at e5
      cases e5; rfl
    rw [r4, ← hyy]
    exact I.i7 r y' r1 e2 e3
end
end Go.Ab
