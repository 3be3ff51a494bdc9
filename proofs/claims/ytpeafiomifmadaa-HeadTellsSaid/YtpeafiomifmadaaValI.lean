/- Calls and regions: the machine of values and the abstract machine go side by side. -/
import Derived.Test.YtpeafiomifmadaaValH
namespace Go.Ab
open Go
set_option linter.unusedVariables false
set_option linter.unusedSimpArgs false
variable {st st' : St} {X X' : Nat → Prop} {α α' : List Ad} {ω ω' : Om} {h h' : GH} {genv : GEnv} {env : Env} {lo : Nat}
def TabSim (T : GTab) (Tb : Tab) : Prop := ∀ f g, T f = some (.code g) → Tb f = some g.fn
def CloneOk (T : GTab) (Tb : Tab) : Prop := ∀ f e b, T f = some (.clone e b) → ∀ (st : St) (x : V) (es : List (List V)), st.Low → Slc st e x es → es.length * b ≤ room →
 ∃ x' st', F Tb f [x] st = some (x', st') ∧ Own st' st.next e x' es ∧ Up st.next st st'
def Cells (st : St) (ω : Om) : Prop := ∀ o p, o < st.next → ω o = some p → ∃ k s, p = .cell k s
def Fin (lo : Nat) (st : St) (X : Nat → Prop) (α : List Ad) (ω : Om) (w : U) (h' : GH) (v : V) (st' : St) : Prop :=
 ∃ X' α' ω', Cf st' X' α' ω' h' ∧ RV st' X' α' w v ∧ OwnT st' X' ω' 0 w v ∧ Fr lo st X α ω st' X' α' ω'
def CallSim (T : GTab) (Tb : Tab) (call : GCallF) : Prop := ∀ f us h lo w h', call f us h lo = some (w, h') → (∀ g, T f = some (.code g) → g.mode = .own → h = []) →
 ∀ st X α ω vs, Cf st X α ω h → Cells st ω → L2 (RV st X α) us vs → (∀ u ∈ us, u.noOwn) → ∃ v st', F Tb f vs st = some (v, st') ∧ Fin lo st X α ω w h' v st'
def cellsOnly (n : Nat) (ω : Om) : Om := fun o => match ω o with
 | some (.cell k s) => if k < n then some (.cell k s) else none
 | _ => none
theorem cellsOnly_cell {n o k s : Nat} (e : ω o = some (.cell k s)) (hk : k < n) : cellsOnly n ω o = some (.cell k s) := by simp only [cellsOnly, e, hk, if_true]
theorem cellsOnly_some {n o : Nat} {p : Place} (e : cellsOnly n ω o = some p) : ∃ k s, p = .cell k s ∧ ω o = some (.cell k s) ∧ k < n := by
 simp only [cellsOnly] at e
 split at e
 ·rename_i k s hw
  split at e
  ·rename_i hk; cases e; exact ⟨k, s, rfl, hw, hk⟩
  ·cases e
 ·cases e
theorem cellsOnly_tmp {m o n j : Nat} (e : ω o = some (.tmp n j)) : cellsOnly m ω o = none := by simp only [cellsOnly, e]
theorem cellsOnly_none {n o : Nat} (e : ω o = none) : cellsOnly n ω o = none := by simp only [cellsOnly, e]
def toDst (dst : Option Nat) : Place → Option Place
 | .tmp _ j => dst.map fun d => .tmp d j
 | .cell k s => some (.cell k s)
def back (n0 : Nat) (ω ωc ω1 : Om) (dst : Option Nat) : Om := fun o => if o < n0 ∧ ωc o = none then ω o else (ω1 o).bind (toDst dst)
theorem back_keep {n0 o : Nat} {ωc ω1 : Om} {dst : Option Nat} (ho : o < n0) (e : ωc o = none) : back n0 ω ωc ω1 dst o = ω o := by unfold back; rw [if_pos ⟨ho, e⟩]
theorem back_new {n0 o : Nat} {ωc ω1 : Om} {dst : Option Nat} {p q : Place} (h1 : ω1 o = some p) (hq : toDst dst p = some q) (hn : o < n0 → ωc o = none → ω1 o = none) : back n0 ω ωc ω1 dst o = some q := by
 unfold back
 rw [if_neg]
 ·rw [h1]; exact hq
 ·rintro ⟨ho, e⟩
  rw [hn ho e] at h1; cases h1
theorem Cf.cells (hC : Cf st X α ω h) : Cf st X α (cellsOnly h.length ω) h :=
 ⟨hC.low, hC.len, hC.inj, hC.x, hC.lt, fun k a b ha hb => (hC.obj k a b ha hb).step (Grow.id hC.low) rfl fun o s _ _ e => ⟨rfl, cellsOnly_cell e (List.getElem?_eq_some_iff.1 hb).1⟩⟩
theorem call_rw {T : GTab} {Tb : Tab} {call : GCallF} (hK : CallSim T Tb call) (hC : Cf st X α ω h) (hE : EnvR st X α ω genv env) {f : Nat} {us : List U} {vs : List V} (hus : L2 (RV st X α) us vs) {lo' : Nat} (hlo : lo ≤ lo') {w : U} {dst : Option Nat}
  (e : call f (shares us) h lo' = some (w, h')) (hm : ∀ g, T f = some (.code g) → g.mode ≠ .own) : ∃ v st', F Tb f vs st = some (v, st') ∧ Post lo st X α ω dst w genv h' env v st' ∧ ((h.length ≤ lo' → ∀ o, o < st.next → st'.get o = st.get o)) := by
 obtain ⟨v, st', h1, X', α', ω1, k1, k2, k3, k4⟩ := hK f _ h lo' w h' e (fun g hg hmode => absurd hmode (hm g hg)) st X α (cellsOnly h.length ω) vs hC.cells (fun o p _ e => by obtain ⟨k, s, h, _⟩ := cellsOnly_some e; exact ⟨k, s, h⟩) (L2_shares hus) shares_noOwn
 have hnone : ∀ o, o < st.next → cellsOnly h.length ω o = none → ω1 o = none := k4.om
 have G := k4.grow hC.low
 refine ⟨v, st', h1, ⟨X', α', back st.next ω (cellsOnly h.length ω) ω1 dst, ?_, ?_, ?_⟩, ?_⟩
 ·exact k1.step (Grow.id k1.low) k1.low (Nat.le_refl _) k1.x (fun _ _ _ => rfl) fun o k s _ _ e => ⟨rfl, back_new e rfl (hnone o)⟩
 ·refine EnvR.put (hE.step G fun o n j ho hX e => ⟨k4.same o ho (fun k d hk hd => absurd (by rw [← hd]; exact hC.x _ _ hk) hX) (fun p hp => ?_), by rw [back_keep ho (cellsOnly_tmp e)]; exact e⟩) k2 fun d hd => ?_
  ·rw [cellsOnly_tmp e] at hp; cases hp
  ·subst hd
   have mv : ∀ {j q : Nat} {v : V}, OwnC st' X' ω1 (.tmp 0 j) q v → OwnC st' X' (back st.next ω (cellsOnly h.length ω) ω1 (some d)) (.tmp d j) q v := by
    intro j q v hv
    rcases hv with hv | ⟨o, g, row, live, q1, q0, q2, q3, q4⟩
    ·exact .inl hv
    ·exact .inr ⟨o, g, row, live, q1, q0, q2, q3, back_new q4 rfl (hnone o)⟩
   exact ⟨fun q es hq => mv (k3.1 q es hq), fun us vs j q es w a b c d => mv (k3.2 us vs j q es w a b c d)⟩
 ·refine ⟨k4.next, k4.al, k4.alnew, k4.x, fun o ho h2 h3 => k4.same o ho (fun k d hk hd => Nat.lt_of_lt_of_le (h2 k d hk hd) hlo) (fun p hp => ?_), k4.kp, fun o ho e => by rw [back_keep ho (cellsOnly_none e)]; exact e, fun o k s ho e hk => ?_⟩
  ·obtain ⟨k, s, rfl, e, _⟩ := cellsOnly_some hp
   obtain ⟨k', s', h5, h6⟩ := h3 _ e
   cases h5
   exact ⟨k, s, rfl, Nat.lt_of_lt_of_le h6 hlo⟩
  ·by_cases hkh : k < h.length
   ·exact back_new (k4.omlo o k s ho (cellsOnly_cell e hkh) (Nat.lt_of_lt_of_le hk hlo)) rfl (hnone o)
   ·rw [back_keep ho (by simp only [cellsOnly, e, hkh, if_false])]; exact e
 ·intro hl o ho
  refine k4.same o ho (fun k d hk _ => ?_) fun p hp => ?_
  ·have := (List.getElem?_eq_some_iff.1 hk).1
   rw [hC.len] at this; omega
  ·obtain ⟨k, s, rfl, _, hk⟩ := cellsOnly_some hp
   exact ⟨k, s, rfl, by omega⟩
def Made (st st' : St) (w : U) (v : V) : Prop := st'.Low ∧ st.next ≤ st'.next ∧ (∀ o, o < st.next → st'.get o = st.get o) ∧ ∀ e es, w = .own e es → es ≠ [] → scalLL es = true →
 ∃ o g row live, v = .sl o g 0 row.length e none ∧ st'.get o = some (.row row g live false) ∧ live ≤ g ∧ st.next ≤ o ∧ ∀ X α, L2 (L2 (RV st' X α)) es row
theorem call_own {T : GTab} {Tb : Tab} {call : GCallF} (hK : CallSim T Tb call) (hC : Cf st X α ω h) (hE : EnvR st X α ω genv env) {f : Nat} {us ws : List U} {b : Bool} {vs : List V} (hus : L2 (RV st X α) us vs) {w : U} {hx : GH} {dst : Option Nat}
  (hs : snapL h us = some (ws, b)) (e : call f ws [] 0 = some (w, hx)) (hx0 : hx = []) (hb : ¬ (b = true ∧ w.clean = false)) : ∃ v st', F Tb f vs st = some (v, st') ∧ Post lo st X α ω dst w genv h env v st' ∧ Made st st' w v := by
 have hws := snapL_sim hC (RL_iff.2 hus) hs
 have hC0 : Cf st (Xs X b) [] (fun _ => none) [] := ⟨hC.low, rfl, (fun i j a b e => by simp at e), (fun i a e => by simp at e), (fun i a e => by simp at e), (fun k a b e => by simp at e)⟩
 obtain ⟨v, st', h1, X1, α1, ω1, k1, k2, k3, k4⟩ := hK f _ [] 0 w hx e (fun _ _ _ => rfl) st (Xs X b) [] (fun _ => none) vs hC0 (fun o p _ e => by cases e) (RL_iff.1 hws) (snapL_noOwn hs)
 have hsame : ∀ o, o < st.next → st'.get o = st.get o := fun o ho => k4.same o ho (fun k d hk => by simp at hk) fun p hp => by cases hp
 have hnone : ∀ o, o < st.next → ω1 o = none := fun o ho => k4.om o ho rfl
 refine ⟨v, st', h1, ⟨fun o => X o ∧ o < st.next, α, fun o => if o < st.next then ω o else match ω1 o with | some (.tmp _ j) => dst.map fun d => .tmp d j | _ => none, ?_, ?_, ?_⟩, k1.low, k4.next, hsame, ?_⟩
 ·refine hC.step ⟨hC.low, fun o _ e => e.1, fun o ho _ => .same (hsame o ho), fun _ _ e => e⟩ k1.low k4.next (fun i a e => ⟨hC.x i a e, hC.lt i a e⟩) (fun i a e => hsame a.a (hC.lt i a e)) fun o k s ho _ e => ⟨hsame o ho, by simp only [ho, if_true]; exact e⟩
 ·refine EnvR.put (hE.step ⟨hC.low, fun o _ e => e.1, fun o ho _ => .same (hsame o ho), fun _ _ e => e⟩ fun o n j ho _ e => ⟨hsame o ho, by simp only [ho, if_true]; exact e⟩) ?_ fun d hd => ?_
  ·by_cases hbt : b = true
   ·refine clean_any k2 k3 (fun o p hp hX => ?_) (by cases hw : w.clean with | true => rfl | false => exact absurd ⟨hbt, hw⟩ hb)
    rw [hnone o hX.2] at hp; cases hp
   ·have hbf : b = false := by simpa using hbt
    refine k2.grow ⟨k1.low, fun o ho e => (k4.x o e.2).2 ⟨e.1, hbf⟩, fun _ _ _ => .same rfl, fun k a e => ?_⟩
    have hl := k1.len
    rw [hx0] at hl
    rw [List.eq_nil_of_length_eq_zero hl] at e
    simp at e
  ·subst hd
   have mv : ∀ {j q : Nat} {v : V}, OwnC st' X1 ω1 (.tmp 0 j) q v → OwnC st' (fun o => X o ∧ o < st.next) (fun o => if o < st.next then ω o else match ω1 o with | some (.tmp _ j) => (some d).map fun d => .tmp d j | _ => none) (.tmp d j) q v := by
    intro j q v hv
    rcases hv with hv | ⟨o, g, row, live, q1, q0, q2, q3, q4⟩
    ·exact .inl hv
    ·have ho : ¬ o < st.next := fun ho => by rw [hnone o ho] at q4; cases q4
     exact .inr ⟨o, g, row, live, q1, fun e => ho e.2, q2, q3, by simp only [ho, if_false, q4, Option.map_some]⟩
   exact ⟨fun q es hq => mv (k3.1 q es hq), fun us vs j q es w a b c d => mv (k3.2 us vs j q es w a b c d)⟩
 ·exact ⟨k4.next, fun _ _ e => e, fun _ _ e => .inl e, fun o ho => ⟨fun e => e.1, fun e => ⟨e, ho⟩⟩, fun o ho _ _ => hsame o ho, fun o ho _ => .same (hsame o ho), fun o ho e => by simp only [ho, if_true]; exact e, fun o k s ho e _ => by simp only [ho, if_true]; exact e⟩
 ·intro q0 es' hw hne hsc
  subst hw
  rcases k3.1 q0 es' rfl with q | ⟨o, g, row, live, q1, q0, q2, q3, q4⟩
  ·rw [q] at k2
   simp only [RV] at k2
   rcases k2 with ⟨_, h2⟩ | ⟨_, _, _, _, _, _, _, _, _, h2, _⟩
   ·exact absurd (RLL_iff.1 h2).nil' hne
   ·cases h2
  ·refine ⟨o, g, row, live, q1, q2, q3, ?_, fun X α => ?_⟩
   ·rcases Nat.lt_or_ge o st.next with ho | ho
    ·rw [hnone o ho] at q4; cases q4
    ·exact ho
   ·rw [q1] at k2
    simp only [RV] at k2
    rcases k2 with ⟨h2, _⟩ | ⟨_, _, _, _, _, _, _, _, _, h2, _, h3, _, _, h4⟩
    ·cases h2
    ·cases h2
     rw [q2] at h3
     cases h3
     rw [part_all] at h4
     exact scalLL_any (RLL_iff.1 h4) hsc
def CallOwn (T : GTab) (call : GCallF) : Prop := ∀ f us h lo w h' g, call f us h lo = some (w, h') → T f = some (.code g) → g.mode = .own → h' = []
theorem gcall_sim {T : GTab} {Tb : Tab} {call : GCallF} (hK : CallSim T Tb call) (hO : CallOwn T call) (hCl : CloneOk T Tb) (hC : Cf st X α ω h) (hE : EnvR st X α ω genv env) {f : Nat} {us : List U} {vs : List V} (hus : L2 (RV st X α) us vs) {w : U} {dst : Option Nat}
  (e : gcall T call lo f us h = some (w, h')) : ∃ v st', F Tb f vs st = some (v, st') ∧ Post lo st X α ω dst w genv h' env v st' ∧ (isRo T f = true → ∀ o, o < st.next → st'.get o = st.get o) ∧ (makes T f = true → h' = h ∧ Made st st' w v) := by
 unfold gcall at e
 split at e
 ·rename_i g hg
  split at e
  ·rename_i hmode
   split at e
   ·rename_i ws b hs
    split at e
    ·rename_i w' hx hw
     split at e
     ·cases e
     ·rename_i hb
      cases e
      obtain ⟨v, st', h1, h2, h3⟩ := call_own (lo := lo) (dst := dst) hK hC hE hus hs hw (hO _ _ _ _ _ _ g hw hg hmode) hb
      exact ⟨v, st', h1, h2, fun _ => h3.2.2.1, fun _ => ⟨rfl, h3⟩⟩
    ·cases e
   ·cases e
  ·rename_i hmode
   obtain ⟨v, st', h1, h2, h3⟩ := call_rw (lo := lo) (dst := dst) hK hC hE hus (lo' := max lo h.length) (Nat.le_max_left _ _) e (fun g' hg' => by rw [hg] at hg'; cases hg'; rw [hmode]; decide)
   exact ⟨v, st', h1, h2, fun _ => h3 (Nat.le_max_right _ _), fun hm => by simp only [makes, hg, hmode] at hm; cases hm⟩
  ·rename_i hmode
   obtain ⟨v, st', h1, h2, h3⟩ := call_rw (lo := lo) (dst := dst) hK hC hE hus (Nat.le_refl _) e (fun g' hg' => by rw [hg] at hg'; cases hg'; rw [hmode]; decide)
   exact ⟨v, st', h1, h2, (fun hro => by simp only [isRo, hg, hmode] at hro; cases hro), fun hm => by simp only [makes, hg, hmode] at hm; cases hm⟩
 ·rename_i e' b hg
  split at e
  ·cases e
  ·rename_i u hnot
   split at e
   ·rename_i es hes
    split at e
    ·rename_i hr
     cases e
     obtain ⟨v, vs', rfl, hu, hnil⟩ := hus.cons
     obtain rfl := hnil.nil
     obtain ⟨rows, h1, h2⟩ := els_sim hC hu hes
     have hslc : Slc st e' v rows := by
      cases v <;> simp only [St.elems] at h1 <;> try (cases h1; done)
      case nils => cases h1; exact .nil
      case str =>
       exfalso
       cases u <;> simp only [RV] at hu <;> try (cases hu; done)
       case undef => simp [els] at hes
       case str => exact hnot _ rfl
       case ptr => obtain ⟨_, _, h⟩ := hu; cases h
       case eptr => obtain ⟨_, _, _, _, _, _, _, _, h, _⟩ := hu; cases h
       case list => rcases hu with ⟨h, _⟩ | ⟨_, _, _, _, _, _, _, _, _, h, _⟩ <;> cases h
       case own => rcases hu with ⟨h, _⟩ | ⟨_, _, _, _, _, _, _, _, _, h, _⟩ <;> cases h
       case asl => obtain ⟨_, _, h⟩ := hu; cases h
       case map => obtain ⟨_, _, h⟩ := hu; cases h
       case fn => obtain ⟨_, _, h, _⟩ := hu; cases h
       case agg => obtain ⟨_, h, _⟩ := hu; cases h
       case tup => obtain ⟨_, h, _⟩ := hu; cases h
      case sl o g off ln esz cap =>
       split at h1
       ·rename_i row gen live ro hrow
        split at h1
        ·rename_i hc
         cases h1
         obtain ⟨rfl, hl, hb⟩ := hc
         exact .row hrow hl hb rfl
        ·cases h1
       ·cases h1
     obtain ⟨x', st', h3, h4, h5⟩ := hCl f e' b hg st v rows hC.low hslc (by rw [← h2.length]; exact hr)
     have hsame : ∀ o, o < st.next → st'.get o = st.get o := h5.same
     refine ⟨x', st', h3, ⟨fun o => X o ∧ o < st.next, α, fun o => if o < st.next then ω o else dst.map fun d => .tmp d 0, ?_, ?_, ?_⟩, fun _ => hsame, fun _ => ⟨rfl, h5.low hC.low, h5.next, hsame, ?_⟩⟩
     ·exact hC.step ⟨hC.low, fun o _ e => e.1, fun o ho _ => .same (hsame o ho), fun _ _ e => e⟩ (h5.low hC.low) h5.next (fun i a e => ⟨hC.x i a e, hC.lt i a e⟩) (fun i a e => hsame a.a (hC.lt i a e)) fun o k s ho _ e => ⟨hsame o ho, by simp only [ho, if_true]; exact e⟩
     ·have G : Grow st X α st' (fun o => X o ∧ o < st.next) α := ⟨hC.low, fun o _ e => e.1, fun o ho _ => .same (hsame o ho), fun _ _ e => e⟩
      have h2' : L2 (L2 (RV st' (fun o => X o ∧ o < st.next) α)) es rows := h2.mono fun u v e => e.mono fun u v e => e.grow G
      refine EnvR.put (hE.step G fun o n j ho _ e => ⟨hsame o ho, by simp only [ho, if_true]; exact e⟩) ?_ fun d hd => ⟨fun q es' hq => ?_, fun us vs j e es w he => by cases he⟩
      ·simp only [RV]
       cases h4 with
       | nil => exact .inl ⟨by trivial, RLL_iff.2 h2'⟩
       | row k1 k2 k3 k4 => exact .inr ⟨_, _, 0, _, none, _, _, _, false, rfl, fun e => by omega, k1, k2, by omega, by rw [part_all]; exact RLL_iff.2 h2'⟩
      ·cases hq
       cases h4 with
       | nil => exact .inl rfl
       | row k1 k2 k3 k4 =>
        refine .inr ⟨_, _, _, _, rfl, fun e => by omega, k1, k2, ?_⟩
        subst hd
        simp only [Option.map_some]
        rw [if_neg (by omega)]
     ·exact ⟨h5.next, fun _ _ e => e, fun _ _ e => .inl e, fun o ho => ⟨fun e => e.1, fun e => ⟨e, ho⟩⟩, fun o ho _ _ => hsame o ho, fun o ho _ => .same (hsame o ho), fun o ho e => by simp only [ho, if_true]; exact e, fun o k s ho e _ => by simp only [ho, if_true]; exact e⟩
     ·intro q es' hq hne hsc
      cases hq
      cases h4 with
      | nil => exact absurd h2.nil' hne
      | row k1 k2 k3 k4 =>
       exact ⟨_, _, _, _, rfl, k1, k2, k3, fun X α => scalLL_any h2 hsc⟩
    ·cases e
   ·cases e
  ·cases e
 ·cases e
theorem Post.thaw (hC : Cf st X α ω h) (hE : EnvR st X α ω genv env) {dst : Option Nat} {e : Nat} {es : List (List U)} {v : V} (hm : Made st st' (.own e es) v) (hne : es ≠ []) (hsc : scalLL es = true) :
  Post lo st X α ω dst (.asl none h.length 0 0 es.length e) genv (h ++ [.arr es 0 0]) env v st' := by
 obtain ⟨low, hn, hsame, hm⟩ := hm
 obtain ⟨o, g, row, live, rfl, h1, h2, h3, h4⟩ := hm e es rfl hne hsc
 have hlt := low _ _ h1
 have G : Grow st X α st' (fun p => X p ∧ p < st.next ∨ p = o) (α ++ [⟨o, g⟩]) := ⟨hC.low, fun p hp e => by rcases e with e | e; exact e.1; omega, fun p hp _ => .same (hsame p hp), fun k d e => by rw [List.getElem?_append_left (List.getElem?_eq_some_iff.1 e).1]; exact e⟩
 have hidx : ∀ (i : Nat) (d : Ad), (α ++ [⟨o, g⟩])[i]? = some d → α[i]? = some d ∨ (i = α.length ∧ d = ⟨o, g⟩) := fun i d e => by
  by_cases hi : i < α.length
  ·rw [List.getElem?_append_left hi] at e; exact .inl e
  ·rw [List.getElem?_append_right (by omega)] at e
   have h1 : i - α.length = 0 := by
    rcases Nat.eq_zero_or_pos (i - α.length) with h | h
    ·exact h
    ·rw [List.getElem?_eq_none (by simp; omega)] at e; cases e
   rw [h1] at e
   simp at e
   exact .inr ⟨by omega, e.symm⟩
 refine ⟨fun p => X p ∧ p < st.next ∨ p = o, α ++ [⟨o, g⟩], fun p => if p < st.next then ω p else none, ⟨low, by simp [hC.len], fun i j d d' e1 e2 ed => ?_, fun i d e => ?_, fun i d e => ?_, fun k d c e1 e2 => ?_⟩, ?_, ?_⟩
 ·rcases hidx _ _ e1 with f1 | ⟨f1, f1'⟩ <;> rcases hidx _ _ e2 with f2 | ⟨f2, f2'⟩
  ·exact hC.inj _ _ _ _ f1 f2 ed
  ·have := hC.lt _ _ f1; rw [ed, f2'] at this; simp at this; omega
  ·have := hC.lt _ _ f2; rw [← ed, f1'] at this; simp at this; omega
  ·omega
 ·rcases hidx _ _ e with f | ⟨_, f⟩
  ·exact .inl ⟨hC.x _ _ f, hC.lt _ _ f⟩
  ·exact .inr (by rw [f])
 ·rcases hidx _ _ e with f | ⟨_, f⟩
  ·have := hC.lt _ _ f; omega
  ·rw [f]; exact hlt
 ·rcases hidx _ _ e1 with f | ⟨f, f'⟩
  ·have hk : k < h.length := by rw [← hC.len]; exact (List.getElem?_eq_some_iff.1 f).1
   rw [List.getElem?_append_left hk] at e2
   exact (hC.obj k d c f e2).step G (hsame d.a (hC.lt _ _ f)) fun p s hp _ hc => ⟨hsame p hp, by simp only [hp, if_true]; exact hc⟩
  ·subst f f'
   rw [hC.len, List.getElem?_append_right (Nat.le_refl _), Nat.sub_self] at e2
   simp at e2
   subst e2
   exact ⟨row, live, h1, h2, h4 _ _⟩
 ·refine EnvR.putNo (hE.step G fun p n j hp _ e => ⟨hsame p hp, by simp only [hp, if_true]; exact e⟩) ?_ noOwn_asl
  simp only [RV]
  refine ⟨⟨o, g⟩, ?_, by rw [(h4 (fun _ => False) []).length]; rfl⟩
  rw [← hC.len, List.getElem?_append_right (Nat.le_refl _), Nat.sub_self]; rfl
 ·refine ⟨hn, G.al, fun k d e => ?_, fun p hp => ⟨fun e => by rcases e with e | e; exact e.1; omega, fun e => .inl ⟨e, hp⟩⟩, fun p hp _ _ => hsame p hp, fun p hp _ => .same (hsame p hp), fun p hp e => by simp only [hp, if_true]; exact e, fun p k s hp e _ => by simp only [hp, if_true]; exact e⟩
  rcases hidx _ _ e with f | ⟨_, f⟩
  ·exact .inl f
  ·exact .inr (by rw [f]; exact h3)
theorem run_sim {T : GTab} {Tb : Tab} {call : GCallF} (hK : CallSim T Tb call) (hO : CallOwn T call) (hCl : CloneOk T Tb) (hC : Cf st X α ω h) (hE : EnvR st X α ω genv env) {fl : Fl} {dst : Option Nat} {o : IOp} {u : U} {genv' : GEnv}
  (e : o.grun T call fl lo dst genv h = some (u, genv', h')) : ∃ v st', o.run (F Tb) env st = some (v, st') ∧ Post lo st X α ω dst u genv' h' env v st' ∧ (∀ f args, o = .call f args → isRo T f = true → ∀ p, p < st.next → st'.get p = st.get p) := by
 cases o
 case call f args =>
  simp only [IOp.grun] at e
  obtain ⟨r, h1, h2⟩ := Option.map_eq_some_iff.1 e
  cases h2
  obtain ⟨w, hh⟩ := r
  obtain ⟨v, st', k1, k2, k3, k4⟩ := gcall_sim (dst := dst) hK hO hCl hC hE (hE.opds args) h1
  refine ⟨v, st', k1, ?_, fun f' a' e' => by cases e'; exact k3⟩
  unfold thaw
  split
  ·rename_i hc
   simp only [Bool.and_eq_true] at hc
   obtain ⟨rfl, k5⟩ := k4 hc.2
   simp only
   split
   ·rename_i e es
    split
    ·exact k2
    ·rename_i hne
     split
     ·rename_i hsc
      exact Post.thaw hC hE k5 (by simpa using hne) hsc
     ·exact k2
   ·exact k2
  ·exact k2
 case callv f args =>
  simp only [IOp.grun] at e
  simp only [IOp.run]
  have hf := hE.opd f
  split at e
  ·rename_i g a c hg
   rw [hg] at hf
   simp only [RV] at hf
   obtain ⟨a', c', h1, h2, h3⟩ := hf
   obtain ⟨r, h4, h5⟩ := Option.map_eq_some_iff.1 e
   cases h5
   rw [h1]
   obtain ⟨v, st', k1, k2, k3, _⟩ := gcall_sim hK hO hCl hC hE (dst := dst) (((RL_iff.1 h2).append (hE.opds args)).append (RL_iff.1 h3)) h4
   exact ⟨v, st', k1, k2, fun _ _ h => by cases h⟩
  ·cases e
 all_goals
  simp only [IOp.grun] at e
  simp only [IOp.run]
  obtain ⟨v, st', h1, h2⟩ := gex_sim (dst := dst) hC hE e
  exact ⟨v, st', h1, h2, fun _ _ h => by cases h⟩
theorem guard_sim (hE : EnvR st X α ω genv env) {g : Option (Nat × Bool)} (e : gguardOk genv g = true) : guardOk env g = true ∧ (gwanted genv g = true → wantedI env g = true) ∧ (gwanted genv g = false → wantedI env g = false) := by
 cases g with
 | none => exact ⟨rfl, fun _ => rfl, fun h => h⟩
 | some p =>
  obtain ⟨t, b⟩ := p
  simp only [gguardOk] at e
  have ht := (hE t).1
  simp only [guardOk, gwanted, wantedI]
  cases hg : GEnv.get genv t <;> rw [hg] at e ht <;> simp only [RV] at ht <;> try (cases e; done)
  case bool c => rw [ht]; exact ⟨rfl, fun h => h, fun h => h⟩
  case ptr => obtain ⟨_, _, h⟩ := ht; rw [h]; exact ⟨rfl, fun h => h, fun h => h⟩
  case eptr => obtain ⟨_, _, _, _, _, _, _, _, h, _⟩ := ht; rw [h]; exact ⟨rfl, fun h => h, fun h => h⟩
  case list => rcases ht with ⟨h, _⟩ | ⟨_, _, _, _, _, _, _, _, _, h, _⟩ <;> rw [h] <;> exact ⟨rfl, fun h => h, fun h => h⟩
  case own => rcases ht with ⟨h, _⟩ | ⟨_, _, _, _, _, _, _, _, _, h, _⟩ <;> rw [h] <;> exact ⟨rfl, fun h => h, fun h => h⟩
  case asl => obtain ⟨_, _, h⟩ := ht; rw [h]; exact ⟨rfl, fun h => h, fun h => h⟩
  case map => obtain ⟨_, _, h⟩ := ht; rw [h]; exact ⟨rfl, fun h => h, fun h => h⟩
  case fn => obtain ⟨_, _, h, _⟩ := ht; rw [h]; exact ⟨rfl, fun h => h, fun h => h⟩
  case agg => obtain ⟨_, h, _⟩ := ht; rw [h]; exact ⟨rfl, fun h => h, fun h => h⟩
  case tup => obtain ⟨_, h, _⟩ := ht; rw [h]; exact ⟨rfl, fun h => h, fun h => h⟩
  all_goals rw [ht]; exact ⟨rfl, fun h => h, fun h => h⟩
def Behind (lo : Nat) (st : St) (X : Nat → Prop) (α : List Ad) (ω : Om) (genv' : GEnv) (h' : GH) (env' : Env) (st' : St) : Prop :=
 ∃ X' α' ω', Cf st' X' α' ω' h' ∧ EnvR st' X' α' ω' genv' env' ∧ Fr lo st X α ω st' X' α' ω'
theorem notup : (U.tup []).noOwn := ⟨fun _ _ h => (by cases h), fun us j e es h => by cases h; simp⟩
theorem RV_tup0 : RV st X α (.tup []) (.tup []) := by simp only [RV]; exact ⟨[], rfl, by simp only [RL]⟩
theorem reg_sim {T : GTab} {Tb : Tab} {call : GCallF} (hK : CallSim T Tb call) (hO : CallOwn T call) (hCl : CloneOk T Tb) {fl : Fl} : ∀ (ops : List IOper) {st : St} {X : Nat → Prop} {α : List Ad} {ω : Om} {h : GH} {genv : GEnv} {env : Env} {genv' : GEnv} {h' : GH}, Cf st X α ω h → EnvR st X α ω genv env →
  gevReg T call fl lo ops genv h = some (genv', h') → ∃ env' st', evReg (F Tb) ops env st = some (env', st') ∧ Behind lo st X α ω genv' h' env' st'
 | [], st, X, α, ω, h, genv, env, genv', h', hC, hE, e => by cases e; exact ⟨env, st, rfl, X, α, ω, hC, hE, .refl⟩
 | o :: os, st, X, α, ω, h, genv, env, genv', h', hC, hE, e => by
  unfold gevReg at e
  unfold evReg
  split at e
  ·rename_i g1 g2
   obtain ⟨k1, k2, _⟩ := guard_sim hE g1
   rw [k1, k2 g2]
   split at e
   ·rename_i u genv1 h1 hr
    obtain ⟨v, st1, h2, ⟨X1, α1, ω1, h3, h4, h5⟩, _⟩ := run_sim hK hO hCl hC hE hr
    simp only [h2]
    obtain ⟨env', st', h6, X2, α2, ω2, h7, h8, h9⟩ := reg_sim hK hO hCl os h3 h4 e
    exact ⟨env', st', h6, X2, α2, ω2, h7, h8, h5.trans h9⟩
   ·cases e
  ·rename_i g1 g2
   obtain ⟨k1, _, k2⟩ := guard_sim hE g1
   rw [k1, k2 g2]
   exact reg_sim hK hO hCl os hC (hE.putNo RV_tup0 notup) e
  ·cases e
end Go.Ab
