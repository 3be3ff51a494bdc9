/- Regions of open order. Part 5: the whole region. -/
import Derived.Test.YtpeafiomifmadaaAbsH
namespace Go.Ab
open Go
set_option linter.unusedVariables false
set_option linter.unusedSimpArgs false
theorem opersD_code {P : Program} {nt : Nat} {ops : Array Oper} : ∀ {js : List Nat} {hs is : List IOper}, opersD P nt ops js hs = some is →
  ∀ p, p < js.length → ∃ o x, ops[js.getD p 0]? = some o ∧ is[p]? = some x ∧ opOf P o = some x.op ∧ guardOf ops o.guard = some x.guard ∧ o.dst = x.dst ∧ x.dst.all (· < nt) = true
 | [], hs, is, h, p, hp => by simp at hp
 | j :: js, [], is, h, p, hp => by simp [opersD] at h
 | j :: js, c :: hs, is, h, p, hp => by
  simp only [opersD] at h
  split at h
  ·rename_i o ho
   split at h
   ·rename_i i l hi hl
    cases h
    cases p with
    | zero =>
     unfold operOf at hi
     split at hi
     ·rename_i iop g hop hg
      split at hi
      ·rename_i hd
       cases hi
       exact ⟨o, _, ho, rfl, hop, hg, rfl, hd⟩
      ·cases hi
     ·cases hi
    | succ p =>
     have := opersD_code hl p (by simpa using hp)
     simpa using this
   ·cases h
  ·cases h
theorem countP_lt {α : Type} {f g : α → Bool} : ∀ {l : List α}, (∀ x ∈ l, g x = true → f x = true) → (∃ x ∈ l, f x = true ∧ g x = false) → l.countP g < l.countP f
 | [], _, ⟨x, h, _⟩ => by cases h
 | y :: l, h1, ⟨x, hx, hf, hg⟩ => by
  have hle : l.countP g ≤ l.countP f := List.countP_mono_left fun z hz => h1 z (List.mem_cons_of_mem _ hz)
  rw [List.countP_cons, List.countP_cons]
  rcases List.mem_cons.1 hx with e | e
  ·subst e; rw [hf, hg]; simp; omega
  ·have := countP_lt (fun z hz => h1 z (List.mem_cons_of_mem _ hz)) ⟨x, e, hf, hg⟩
   by_cases hy : g y = true
   ·rw [hy, h1 y List.mem_cons_self hy]; omega
   ·simp only [Bool.not_eq_true] at hy; rw [hy]; simp; omega
theorem getD_in {l : Array Bool} {j : Nat} (h : j < l.size) : l.getD j true = l.getD j false := by simp [h]
section
variable {P : Program} {B : Nat} {call : CallF} {ops : Array Oper} {ord : List Nat} {is : List IOper} {nt : Nat} {E : Nat → Env} {S : Nat → St} {U : Nat → V} {φ0 : Phi} {w0 : World} {d0 : List Deferred}
variable {listed : Array Bool} {a : Act} {w : World} {b : Nat} {φ : Phi} {s : St}
theorem Inv.ready (C : Ctx P B call ops ord is nt E S U φ0 w0) (I : Inv B ops ord is nt E S U φ0 w0 d0 listed a w b φ s) {p : Nat} (hp : p < ops.size) (h : ord.getD p 0 ∈ Region.ready .any ops listed) :
  ¬ Lst ord listed p ∧ ∀ q, q < ops.size → ahead ops ord p q = true → Lst ord listed q := by
 obtain ⟨h0, o, ho, hall⟩ := mem_ready.1 h
 have hj := C.O.j_lt hp
 refine ⟨fun hL => ?_, fun q hq ha => ?_⟩
 ·unfold Lst at hL
  rw [getD_in (by rw [I.size]; exact hj), hL] at h0; cases h0
 ·obtain ⟨o', ho', e, he, hb, hor⟩ := C.O.why p q hp hq ha
  rw [ho] at ho'; cases ho'
  have hl := hall e he hb
  rcases hor with hor | hor
  ·rw [hor] at hl; exact hl
  ·obtain ⟨o2, ho2, hed⟩ := C.O.edge p hp
   rw [ho] at ho2; cases ho2
   obtain ⟨r, hr, hre⟩ := C.O.pos (hed e he hb).1
   refine I.closed r q hr hq (by unfold Lst; rw [hre]; exact hl) ?_
   unfold ahead; rw [hre]; exact hor
theorem Inv.all (C : Ctx P B call ops ord is nt E S U φ0 w0) (I : Inv B ops ord is nt E S U φ0 w0 d0 listed a w b φ s) (h : Region.ready .any ops listed = []) : ∀ p, p < ops.size → Lst ord listed p := by
 intro p
 induction p using Nat.strongRecOn with
 | ind p ih =>
  intro hp
  cases hl : listed.getD (ord.getD p 0) true with
  | true =>
   unfold Lst
   have hj := C.O.j_lt hp
   rw [getD_in (by rw [I.size]; exact hj)] at hl; exact hl
  | false =>
   exfalso
   obtain ⟨o, ho, hed⟩ := C.O.edge p hp
   have : ord.getD p 0 ∈ Region.ready .any ops listed := mem_ready.2 ⟨hl, o, ho, fun e he hb => by
    obtain ⟨h1, h2⟩ := hed e he hb
    obtain ⟨r, hr, hre⟩ := C.O.pos h1
    have hrp := C.O.back p r hp hr (by unfold ahead; rw [hre]; exact h2)
    have := ih r hrp hr
    unfold Lst at this; rw [hre] at this; exact this⟩
   rw [h] at this; cases this
theorem Inv.fin (C : Ctx P B call ops ord is nt E S U φ0 w0) (I : Inv B ops ord is nt E S U φ0 w0 d0 listed a w b φ s) (h : ∀ p, p < ops.size → Lst ord listed p) :
  Ext B φ0 (S 0) w0 φ (S ops.size) w ∧ ER φ (E ops.size) a.tmps ∧ a.tmps.size = nt ∧ a.defers = d0 := by
 obtain ⟨q1, q2, q3⟩ := quiet_at C I.bn (Nat.le_refl _) fun r h1 h2 => I.i2 r h2 h1 (h r h2)
 refine ⟨⟨I.le, I.rep.less fun o x hx => ?_, I.wsize, I.os, I.tape, I.output, I.frame, I.new, fun o g L hL => ?_⟩, fun t => ?_, I.tn, I.df⟩
 ·rcases q2 o x hx with hx | ⟨r, r1, r2, r3, r4⟩
  ·exact I.i6 o x hx
  ·rw [r4]; exact I.i7 r x r1 (h r r2) r3
 ·have hs := steps_at C (Nat.zero_le b) I.bn
  have hn := (steps_at C I.bn (Nat.le_refl _)).next
  rcases I.i9 o g L hL with hL | ⟨x, hx⟩ | hL
  ·exact .inl hL
  ·rcases I.i8 o x hx with hx | ⟨r, r1, r2, r3, r4⟩
   ·cases e : (S 0).get o with
    | some y => exact .inr (.inl ⟨y, rfl⟩)
    | none => have := hs.fresh o x hx e; exact .inr (.inr (by omega))
   ·have hr := new_lt C r3
    have h1 := (steps_at C (Nat.zero_le r) (by omega)).next
    have h2 := (steps_at C (show r + 1 ≤ ops.size by omega) (Nat.le_refl _)).next
    have h3 := new_next r3
    exact .inr (.inr (by omega))
  ·exact .inr (.inr (by omega))
 ·rcases trace_env C.T (p := ops.size) (by rw [C.O.ilen]; exact Nat.le_refl _) t with ⟨q, hq, hd, hg⟩ | ⟨hno, hg⟩
  ·rw [hg]; exact I.i3 q t hq (h q hq) hd
  ·rw [hg]; exact I.i4 t fun q hq _ => hno q hq
theorem regD_any (C : Ctx P B call ops ord is nt E S U φ0 w0) {Q : Exit → Act → World → Prop} (hQ : ∀ a w φ, Ext B φ0 (S 0) w0 φ (S ops.size) w → ER φ (E ops.size) a.tmps → a.tmps.size = nt → a.defers = d0 → Q .normal a w) :
  ∀ (fuel : Nat) (listed : Array Bool) (a : Act) (w : World) (b : Nat) (φ : Phi) (s : St), (List.range ops.size).countP (fun j => !listed.getD j true) ≤ fuel →
   Inv B ops ord is nt E S U φ0 w0 d0 listed a w b φ s → wpAny P .any ops Q fuel listed a w := by
 intro fuel
 induction fuel with
 | zero =>
  intro listed a w b φ s hc I
  have hr : Region.ready .any ops listed = [] := by
   apply List.eq_nil_iff_forall_not_mem.2
   intro j hj
   obtain ⟨h0, o, ho, _⟩ := mem_ready.1 hj
   have hlt : j < ops.size := (Array.getElem?_eq_some_iff.1 ho).1
   have := List.countP_pos_iff (l := List.range ops.size) (p := fun j => !listed.getD j true) |>.2 ⟨j, List.mem_range.2 hlt, by simp only [h0, Bool.not_false]⟩
   omega
  obtain ⟨e1, e2, e3, e4⟩ := I.fin C (I.all C hr)
  exact ⟨hr, hQ _ _ _ e1 e2 e3 e4⟩
 | succ fuel ih =>
  intro listed a w b φ s hc I
  refine ⟨fun hr => ?_, fun j hj => ?_⟩
  ·obtain ⟨e1, e2, e3, e4⟩ := I.fin C (I.all C hr)
   exact hQ _ _ _ e1 e2 e3 e4
  ·obtain ⟨h0, o, ho, _⟩ := mem_ready.1 hj
   have hlt : j < ops.size := (Array.getElem?_eq_some_iff.1 ho).1
   obtain ⟨p, hp, rfl⟩ := C.O.pos hlt
   obtain ⟨r1, r2⟩ := I.ready C hp hj
   refine regD_step C I hp r1 r2 fun a' w' b' φ' s' I' => ih _ _ _ _ _ _ ?_ I'
   have := countP_lt (l := List.range ops.size) (f := fun j => !listed.getD j true) (g := fun j => !(listed.setIfInBounds (ord.getD p 0) true).getD j true) (fun x hx h => by
    by_cases e : ord.getD p 0 = x
    ·subst e
     simp only [h0, Bool.not_false]
    ·rw [getD_set_ne true e] at h; exact h) ⟨ord.getD p 0, List.mem_range.2 hlt, by simp only [h0, Bool.not_false], by
     simp [I.size, hlt]⟩
   omega
end
theorem regD_wp {P : Program} {B : Nat} {call : CallF} (hC : CallOk P B call) (hm : P.follows .mixedOrders = true) {n id : Nat} {ops : Array Oper} {ord : List Nat} {hs is : List IOper} (hc : opersD P n ops ord hs = some is) (ho : orderOk ops ord is = true)
  {Q : Exit → Act → World → Prop} {env env' : Env} {st st' : St} (he : evRegD call is env st [] [] = some (env', st')) {φ : Phi} {a : Act} {w : World} (hR : Rep B φ st w) (hL : st.Low) (hF : Free φ st st') (hE : ER φ env a.tmps) (hn : a.tmps.size = n)
  (hQ : ∀ a' w' ψ, Ext B φ st w ψ st' w' → ER ψ env' a'.tmps → a'.tmps.size = n → a'.defers = a.defers → Q .normal a' w') : (Code.region id ops true).wp P Q a w := by
 have O := orderOk_P ho
 obtain ⟨E, S, U, e1, e2, e3, e4, e5, _, e7⟩ := evRegD_trace he
 rw [O.ilen] at e3 e4
 subst e1; subst e2; subst e3; subst e4
 have C : Ctx P B call ops ord is n E S U φ w.drew := ⟨hC, O, e5, hL, hF, fun p hp => opersD_code hc p (by rw [O.len]; exact hp), fun p o l h h1 h2 h3 => by
  have := e7 p o l h h1 h2 h3
  simpa using this⟩
 refine wp_region_any hm (regD_any (d0 := a.defers) C (fun a' w' φ' k1 k2 k3 k4 => hQ a' w' φ' ((Ext.drew hR).trans k1 (.refl _) (steps_at C (Nat.zero_le _) (Nat.le_refl _)) (fun o g h1 h2 => (Nat.lt_irrefl _ (Nat.lt_of_le_of_lt h1 h2)).elim)) k2 k3 k4) _ _ _ _ 0 φ (S 0) ?_ ?_)
 ·exact Nat.le_trans List.countP_le_length (by simp)
 ·have hno : ∀ p, p < ops.size → ¬ Lst ord (Array.replicate ops.size false) p := fun p hp h => by
   unfold Lst at h
   have h2 : (Array.replicate ops.size false).getD (ord.getD p 0) false = false := by
    generalize ord.getD p 0 = j
    rw [Array.getD_eq_getD_getElem?, Array.getElem?_replicate]
    split <;> rfl
   rw [h2] at h; cases h
  exact { bn := Nat.zero_le _, size := by simp, i1 := fun p h => by omega, i2 := fun p hp _ h => absurd h (hno p hp), closed := fun p q hp _ h => absurd h (hno p hp), i3 := fun p d hp h => absurd h (hno p hp), i4 := fun t _ => hE t, rep := (Ext.drew hR).rep, i6 := fun o x h => h, i7 := fun r x _ h h2 => absurd h (hno r (new_lt C h2)), i8 := fun o x h => .inl h, i9 := fun o g L h => .inl h, le := φ.le_refl, wsize := Nat.le_refl _, os := rfl, tape := rfl, output := rfl, frame := fun b _ _ => rfl, new := fun o g L h => .inl ⟨g, L, h, rfl⟩, tn := hn, df := rfl }
end Go.Ab
