/- Steps: what stands side by side stands so behind them. -/
import Derived.Test.YtpeafiomifmadaaValC
namespace Go.Ab
open Go
set_option linter.unusedVariables false
set_option linter.unusedSimpArgs false
variable {st st' : St} {X X' : Nat → Prop} {α α' : List Ad} {ω ω' : Om} {h h' : GH} {genv : GEnv} {env : Env} {lo : Nat}
theorem OwnC.step {p : Place} {e : Nat} {v : V} (h : OwnC st X ω p e v) (G : Grow st X α st' X' α') (k : ∀ o, o < st.next → ¬ X o → ω o = some p → st'.get o = st.get o ∧ ω' o = some p) : OwnC st' X' ω' p e v := by
 rcases h with h | ⟨o, g, row, live, h1, hX, h2, h3, h4⟩
 ·exact .inl h
 ·have hlt := G.low _ _ h2
  obtain ⟨k1, k2⟩ := k o hlt hX h4
  exact .inr ⟨o, g, row, live, h1, fun e => hX (G.x o hlt e), by rw [k1]; exact h2, h3, k2⟩
theorem OwnT.step {n : Nat} {u : U} {v : V} (h : OwnT st X ω n u v) (G : Grow st X α st' X' α') (k : ∀ o j, o < st.next → ¬ X o → ω o = some (.tmp n j) → st'.get o = st.get o ∧ ω' o = some (.tmp n j)) : OwnT st' X' ω' n u v :=
 ⟨fun e es hu => (h.1 e es hu).step G fun o ho => k o 0 ho, fun us vs j e es w h1 h2 h3 h4 => (h.2 us vs j e es w h1 h2 h3 h4).step G fun o ho => k o (j + 1) ho⟩
theorem EnvR.step (hE : EnvR st X α ω genv env) (G : Grow st X α st' X' α') (k : ∀ o n j, o < st.next → ¬ X o → ω o = some (.tmp n j) → st'.get o = st.get o ∧ ω' o = some (.tmp n j)) : EnvR st' X' α' ω' genv env :=
 fun n => ⟨(hE n).1.grow G, (hE n).2.step G fun o j => k o n j⟩
theorem EnvR.stepx (hE : EnvR st X α ω genv env) (G : Grow st X α st' X' α') {n0 : Nat} (k : ∀ o n j, n ≠ n0 → o < st.next → ¬ X o → ω o = some (.tmp n j) → st'.get o = st.get o ∧ ω' o = some (.tmp n j)) {u : U} (hu : RV st' X' α' u (Env.get env n0)) (hn : u.noOwn) : EnvR st' X' α' ω' ((n0, u) :: genv) env := fun n => by
 simp only [GEnv.get]
 split
 ·rename_i e; subst e; exact ⟨hu, OwnT_noOwn hn⟩
 ·rename_i e; exact ⟨(hE n).1.grow G, (hE n).2.step G fun o j => k o n j (fun e' => e e'.symm)⟩
theorem EnvR.put (hE : EnvR st X α ω genv env) {d : Option Nat} {u : U} {v : V} (hu : RV st X α u v) (ho : ∀ n, d = some n → OwnT st X ω n u v) : EnvR st X α ω (GEnv.put genv d u) (Env.put env d v) := by
 cases d with
 | none => exact hE
 | some d =>
  intro n
  simp only [GEnv.put, Env.put, GEnv.get, Env.get]
  split
  ·rename_i e; subst e; exact ⟨hu, ho _ rfl⟩
  ·exact hE n
theorem EnvR.putNo (hE : EnvR st X α ω genv env) {d : Option Nat} {u : U} {v : V} (hu : RV st X α u v) (hn : u.noOwn) : EnvR st X α ω (GEnv.put genv d u) (Env.put env d v) := hE.put hu fun n _ => OwnT_noOwn hn
theorem ObjR.step {k : Nat} {d : Ad} {b : GObj} (hO : ObjR st X α ω k d b) (G : Grow st X α st' X' α') (hs : st'.get d.a = st.get d.a) (hc : ∀ o s, o < st.next → ¬ X o → ω o = some (.cell k s) → st'.get o = st.get o ∧ ω' o = some (.cell k s)) : ObjR st' X' α' ω' k d b := by
 cases b with
 | box cs =>
  obtain ⟨h0, vs, h1, h2, h3⟩ := hO
  exact ⟨h0, vs, by rw [hs]; exact h1, h2.mono fun u v e => e.grow G, fun s e es v k1 k2 => (h3 s e es v k1 k2).step G fun o ho => hc o s ho⟩
 | arr es gen live =>
  obtain ⟨rows, lv, h1, h0, h2⟩ := hO
  exact ⟨rows, lv, by rw [hs]; exact h1, h0, h2.mono fun u v e => e.mono fun u v e => e.grow G⟩
 | map ps =>
  obtain ⟨qs, h1, h2⟩ := hO
  exact ⟨qs, by rw [hs]; exact h1, h2.mono fun u v e => ⟨e.1.grow G, e.2.grow G⟩⟩
theorem Cf.step (hC : Cf st X α ω h) (G : Grow st X α st' X' α) (low : st'.Low) (hn : st.next ≤ st'.next) (hX : ∀ (i : Nat) (d : Ad), α[i]? = some d → X' d.a) (hs : ∀ (i : Nat) (d : Ad), α[i]? = some d → st'.get d.a = st.get d.a)
  (hc : ∀ o k s, o < st.next → ¬ X o → ω o = some (.cell k s) → st'.get o = st.get o ∧ ω' o = some (.cell k s)) : Cf st' X' α ω' h :=
 ⟨low, hC.len, hC.inj, hX, fun i a e => Nat.lt_of_lt_of_le (hC.lt i a e) hn, fun k a b ha hb => (hC.obj k a b ha hb).step G (hs k a ha) fun o s => hc o k s⟩
def Post (lo : Nat) (st : St) (X : Nat → Prop) (α : List Ad) (ω : Om) (dst : Option Nat) (u : U) (genv' : GEnv) (h' : GH) (env : Env) (v : V) (st' : St) : Prop :=
 ∃ X' α' ω', Cf st' X' α' ω' h' ∧ EnvR st' X' α' ω' (GEnv.put genv' dst u) (Env.put env dst v) ∧ Fr lo st X α ω st' X' α' ω'
theorem Post.pure (hC : Cf st X α ω h) (hE : EnvR st X α ω genv env) {dst : Option Nat} {u : U} {v : V} (hu : RV st X α u v) (hn : u.noOwn) : Post lo st X α ω dst u genv h env v st :=
 ⟨X, α, ω, hC, hE.putNo hu hn, .refl⟩
theorem grow_push (l : st.Low) (x : Obj) : Grow st X α (st.push x) (fun o => X o ∧ o < st.next) α :=
 ⟨l, fun o _ e => e.1, fun o ho _ => .same (by rw [St.get_push, if_neg (by omega)]), fun _ _ e => e⟩
theorem Post.own (hC : Cf st X α ω h) (hE : EnvR st X α ω genv env) {dst : Option Nat} {e : Nat} {es : List (List U)} {rows : List (List V)} (hr : L2 (L2 (RV st X α)) es rows) :
  Post lo st X α ω dst (.own e es) genv h env (.sl st.next 0 0 rows.length e none) (st.push (.row rows 0 0 false)) := by
 have G : Grow st X α (st.push (.row rows 0 0 false)) (fun o => X o ∧ o < st.next) α := grow_push hC.low _
 have hget : (st.push (.row rows 0 0 false)).get st.next = some (.row rows 0 0 false) := by rw [St.get_push, if_pos rfl]
 have hkeep : ∀ (o : Nat), o < st.next → (st.push (.row rows 0 0 false)).get o = st.get o := fun o ho => by rw [St.get_push, if_neg (by omega)]
 refine ⟨fun o => X o ∧ o < st.next, α, fun o => if o = st.next then dst.map fun d => .tmp d 0 else ω o, ?_, ?_, ?_⟩
 ·exact hC.step G (Low_push hC.low) (by rw [St.next_push]; omega) (fun i a e => ⟨hC.x i a e, hC.lt i a e⟩) (fun i a e => hkeep a.a (hC.lt i a e)) fun o k s ho _ hc => ⟨hkeep o ho, by rw [if_neg (by omega)]; exact hc⟩
 ·refine EnvR.put (hE.step G fun o n j ho _ hc => ⟨hkeep o ho, by rw [if_neg (by omega)]; exact hc⟩) ?_ fun n hd => ⟨fun e' es' he => ?_, fun us vs j e es w he => by cases he⟩
  ·simp only [RV]
   refine .inr ⟨st.next, 0, 0, rows.length, none, rows, 0, 0, false, rfl, fun e => by omega, hget, Nat.le_refl _, by omega, RLL_iff.2 ?_⟩
   rw [part_all]
   exact hr.mono fun u v e => e.mono fun u v e => e.grow G
  ·cases he
   exact .inr ⟨st.next, 0, rows, 0, rfl, fun e => by omega, hget, Nat.le_refl _, by simp only [if_true, hd, Option.map_some]⟩
 ·exact ⟨by rw [St.next_push]; omega, fun _ _ e => e, fun _ _ e => .inl e, fun o ho => ⟨fun e => e.1, fun e => ⟨e, ho⟩⟩, fun o ho _ _ => hkeep o ho, fun o ho _ => .same (hkeep o ho), fun o ho e => by rw [if_neg (by omega)]; exact e, fun o k s ho e _ => by rw [if_neg (by omega)]; exact e⟩
def re (ω : Om) (p q : Place) : Om := fun o => if ω o = some p then some q else ω o
theorem re_ne {p q r : Place} {o : Nat} (e : ω o = some r) (hr : r ≠ p) : re ω p q o = some r := by unfold re; rw [if_neg (by rw [e]; simp; exact hr)]; exact e
theorem re_eq {p q : Place} {o : Nat} (e : ω o = some p) : re ω p q o = some q := by unfold re; rw [if_pos e]
theorem re_none {p q : Place} {o : Nat} (e : ω o = none) : re ω p q o = none := by unfold re; rw [if_neg (by rw [e]; simp)]; exact e
theorem grow_obj (hC : Cf st X α ω h) (x : Obj) : Grow st X α (st.push x) (fun o => X o ∧ o < st.next ∨ o = st.next) (α ++ [⟨st.next, 0⟩]) :=
 ⟨hC.low, fun o ho e => by rcases e with e | e; exact e.1; omega, fun o ho _ => .same (by rw [St.get_push, if_neg (by omega)]), fun k a e => by rw [List.getElem?_append_left (List.getElem?_eq_some_iff.1 e).1]; exact e⟩
theorem Cf.newobj (hC : Cf st X α ω h) {x : Obj} {b : GObj} (hω : ∀ o k s, o < st.next → ω o = some (.cell k s) → ω' o = some (.cell k s))
  (hb : ObjR (st.push x) (fun o => X o ∧ o < st.next ∨ o = st.next) (α ++ [⟨st.next, 0⟩]) ω' h.length ⟨st.next, 0⟩ b) : Cf (st.push x) (fun o => X o ∧ o < st.next ∨ o = st.next) (α ++ [⟨st.next, 0⟩]) ω' (h ++ [b]) := by
 have G := grow_obj hC x
 have hkeep : ∀ (o : Nat), o < st.next → (st.push x).get o = st.get o := fun o ho => by rw [St.get_push, if_neg (by omega)]
 have hidx : ∀ (i : Nat) (d : Ad), (α ++ [⟨st.next, 0⟩])[i]? = some d → α[i]? = some d ∨ (i = α.length ∧ d = ⟨st.next, 0⟩) := fun i d e => by
  by_cases hi : i < α.length
  ·rw [List.getElem?_append_left hi] at e; exact .inl e
  ·rw [List.getElem?_append_right (by omega)] at e
   have h1 : i - α.length = 0 := by
    rcases Nat.eq_zero_or_pos (i - α.length) with h | h
    ·exact h
    ·rw [List.getElem?_eq_none (by simp; omega)] at e; cases e
   rw [h1] at e
   simp at e
   exact .inr ⟨by omega, e.symm⟩
 refine ⟨Low_push hC.low, by simp [hC.len], fun i j d d' e1 e2 ed => ?_, fun i d e => ?_, fun i d e => ?_, fun k d c e1 e2 => ?_⟩
 ·rcases hidx _ _ e1 with f1 | ⟨f1, f1'⟩ <;> rcases hidx _ _ e2 with f2 | ⟨f2, f2'⟩
  ·exact hC.inj _ _ _ _ f1 f2 ed
  ·have := hC.lt _ _ f1; rw [ed, f2'] at this; simp at this
  ·have := hC.lt _ _ f2; rw [← ed, f1'] at this; simp at this
  ·omega
 ·rcases hidx _ _ e with f | ⟨_, f⟩
  ·exact .inl ⟨hC.x _ _ f, hC.lt _ _ f⟩
  ·exact .inr (by rw [f])
 ·rw [St.next_push]
  rcases hidx _ _ e with f | ⟨_, f⟩
  ·have := hC.lt _ _ f; omega
  ·rw [f]; simp
 ·rcases hidx _ _ e1 with f | ⟨f, f'⟩
  ·have hk : k < h.length := by rw [← hC.len]; exact (List.getElem?_eq_some_iff.1 f).1
   rw [List.getElem?_append_left hk] at e2
   exact (hC.obj k d c f e2).step G (hkeep d.a (hC.lt _ _ f)) fun o s ho _ hc => ⟨hkeep o ho, hω o k s ho hc⟩
  ·subst f f'
   rw [hC.len, List.getElem?_append_right (Nat.le_refl _), Nat.sub_self] at e2
   simp at e2
   subst e2
   rw [hC.len]
   exact hb
theorem Fr.newobj (hC : Cf st X α ω h) {x : Obj} (hω : ∀ o, o < st.next → ω o = none → ω' o = none) (hω2 : ∀ o k s, o < st.next → ω o = some (.cell k s) → ω' o = some (.cell k s)) : Fr lo st X α ω (st.push x) (fun o => X o ∧ o < st.next ∨ o = st.next) (α ++ [⟨st.next, 0⟩]) ω' := by
 have hkeep : ∀ (o : Nat), o < st.next → (st.push x).get o = st.get o := fun o ho => by rw [St.get_push, if_neg (by omega)]
 refine ⟨by rw [St.next_push]; omega, (grow_obj hC x).al, fun k a e => ?_, fun o ho => ⟨fun e => by rcases e with e | e; exact e.1; omega, fun e => .inl ⟨e, ho⟩⟩, fun o ho _ _ => hkeep o ho, fun o ho _ => .same (hkeep o ho), hω, fun o k s ho e _ => hω2 o k s ho e⟩
 by_cases hi : k < α.length
 ·rw [List.getElem?_append_left hi] at e; exact .inl e
 ·rw [List.getElem?_append_right (by omega)] at e
  refine .inr ?_
  rcases Nat.eq_zero_or_pos (k - α.length) with h1 | h1
  ·rw [h1] at e; simp at e; rw [← e]; exact Nat.le_refl _
  ·rw [List.getElem?_eq_none (by simp; omega)] at e; cases e
theorem Post.newobj (hC : Cf st X α ω h) (hE : EnvR st X α ω genv env) {dst : Option Nat} {x : Obj} {b : GObj} {u : U} {v : V}
  (hb : ∀ X' α', Grow st X α (st.push x) X' α' → ObjR (st.push x) X' α' ω h.length ⟨st.next, 0⟩ b) (hu : ∀ X', RV (st.push x) X' (α ++ [⟨st.next, 0⟩]) u v) (hn : u.noOwn) :
  Post lo st X α ω dst u genv (h ++ [b]) env v (st.push x) := by
 have G := grow_obj hC x
 have hkeep : ∀ (o : Nat), o < st.next → (st.push x).get o = st.get o := fun o ho => by rw [St.get_push, if_neg (by omega)]
 exact ⟨_, _, ω, hC.newobj (fun _ _ _ _ e => e) (hb _ _ G), (hE.step G fun o n j ho _ e => ⟨hkeep o ho, e⟩).putNo (hu _) hn, Fr.newobj hC (fun _ _ e => e) (fun _ _ _ _ e => e)⟩
theorem al_last (hC : Cf st X α ω h) : (α ++ [(⟨st.next, 0⟩ : Ad)])[h.length]? = some ⟨st.next, 0⟩ := by
 rw [← hC.len, List.getElem?_append_right (Nat.le_refl _), Nat.sub_self]; rfl
theorem Post.fresh (hC : Cf st X α ω h) (hE : EnvR st X α ω genv env) {dst : Option Nat} {arr : Bool} {e : Nat} {es : List (List U)} {rows : List (List V)} (hr : L2 (L2 (RV st X α)) es rows) {u : U} {genv' : GEnv} {h' : GH} (he : gfresh arr e es genv h = some (u, genv', h')) :
  Post lo st X α ω dst u genv' h' env (.sl st.next 0 0 rows.length e none) (st.push (.row rows 0 0 false)) := by
 unfold gfresh at he
 split at he
 ·cases he
  refine Post.newobj hC hE (fun X' α' G => ⟨rows, 0, by rw [St.get_push, if_pos rfl], Nat.le_refl _, hr.mono fun u v e => e.mono fun u v e => e.grow G⟩) (fun X' => ?_) noOwn_asl
  simp only [RV]
  exact ⟨⟨st.next, 0⟩, al_last hC, by rw [hr.length]⟩
 ·cases he
  exact Post.own hC hE hr
theorem Grow.id (l : st.Low) : Grow st X α st X α := ⟨l, fun _ _ e => e, fun _ _ _ => .same rfl, fun _ _ e => e⟩
def reT (ω : Om) (n d : Nat) : Om := fun o => match ω o with
 | some (.tmp m j) => if m = n then some (.tmp d j) else some (.tmp m j)
 | r => r
theorem reT_ne {n d m j o : Nat} (e : ω o = some (.tmp m j)) (hm : m ≠ n) : reT ω n d o = some (.tmp m j) := by simp only [reT, e, if_neg hm]
theorem reT_eq {n d j o : Nat} (e : ω o = some (.tmp n j)) : reT ω n d o = some (.tmp d j) := by simp only [reT, e, if_true]
theorem reT_cell {n d k s o : Nat} (e : ω o = some (.cell k s)) : reT ω n d o = some (.cell k s) := by simp only [reT, e]
theorem reT_none {n d o : Nat} (e : ω o = none) : reT ω n d o = none := by simp only [reT, e]
theorem Post.moveT (hC : Cf st X α ω h) (hE : EnvR st X α ω genv env) {dst : Option Nat} {n : Nat} {u u' : U} (hn : GEnv.get genv n = u) (hu : RV st X α u' (Env.get env n)) (hno : u'.noOwn) :
  Post lo st X α ω dst u ((n, u') :: genv) h env (Env.get env n) st := by
 have hv := (hE n).1
 have ho := (hE n).2
 rw [hn] at hv ho
 refine ⟨X, α, (match dst with | some d => reT ω n d | none => ω), ?_, ?_, ?_⟩
 ·refine hC.step (Grow.id hC.low) hC.low (Nat.le_refl _) hC.x (fun _ _ _ => rfl) fun o k s _ _ e => ⟨rfl, ?_⟩
  cases dst with
  | none => exact e
  | some d => exact reT_cell e
 ·refine EnvR.put ?_ hv fun d hd => ?_
  ·refine hE.stepx (Grow.id hC.low) (fun o m j hm _ _ e => ⟨rfl, ?_⟩) hu hno
   cases dst with
   | none => exact e
   | some d => exact reT_ne e hm
  ·subst hd
   have mv : ∀ {j q : Nat} {v : V}, OwnC st X ω (.tmp n j) q v → OwnC st X (reT ω n d) (.tmp d j) q v := by
    intro j q v hv
    rcases hv with h | ⟨o, g, row, live, h1, h0, h2, h3, h4⟩
    ·exact .inl h
    ·exact .inr ⟨o, g, row, live, h1, h0, h2, h3, reT_eq h4⟩
   exact ⟨fun q es hq => mv (ho.1 q es hq), fun us vs j q es w a b c d => mv (ho.2 us vs j q es w a b c d)⟩
 ·refine ⟨Nat.le_refl _, fun _ _ e => e, fun _ _ e => .inl e, fun _ _ => Iff.rfl, fun _ _ _ _ => rfl, fun _ _ _ => .same rfl, fun o _ e => ?_, fun o k s _ e _ => ?_⟩
  ·cases dst with
   | none => exact e
   | some d => exact reT_none e
  ·cases dst with
   | none => exact e
   | some d => exact reT_cell e
theorem Post.move (hC : Cf st X α ω h) (hE : EnvR st X α ω genv env) {dst : Option Nat} {n e : Nat} {es : List (List U)} (hn : GEnv.get genv n = .own e es) :
  Post lo st X α ω dst (.own e es) ((n, .list false e es) :: genv) h env (Env.get env n) st := by
 have hv := (hE n).1
 rw [hn] at hv
 exact Post.moveT hC hE hn (RV_share hv) noOwn_list
theorem Post.append (hC : Cf st X α ω h) (hE : EnvR st X α ω genv env) {dst : Option Nat} {n e bytes : Nat} {es ys : List (List U)} {vs : List (List V)} (hn : GEnv.get genv n = .own e es) (hy : L2 (L2 (RV st X α)) ys vs) (hr : (es.length + ys.length) * bytes ≤ room) :
  ∃ v st', st.append e bytes (Env.get env n) vs = some (v, st') ∧ Post lo st X α ω dst (.own e (es ++ ys)) ((n, .list false e es) :: genv) h env v st' := by
 have hv := (hE n).1
 have ho := (hE n).2
 rw [hn] at hv ho
 by_cases hne : vs = []
 ·subst hne
  have := hy.nil'
  subst this
  rw [List.append_nil]
  refine ⟨Env.get env n, st, ?_, Post.move hC hE hn⟩
  rcases ho.1 e es rfl with h | ⟨o, g, row, live, h1, h0, h2, h3, h4⟩
  ·rw [h]; simp [St.append]
  ·rw [h1]; simp [St.append]
 ·rcases ho.1 e es rfl with h1 | ⟨o, g, row, live, h1, h0, h2, h3, h4⟩
  ·simp only [h1, RV] at hv
   have hes : es = [] := by
    rcases hv with ⟨_, h2⟩ | ⟨_, _, _, _, _, _, _, _, _, h2, _⟩
    ·exact (RLL_iff.1 h2).nil'
    ·cases h2
   subst hes
   rw [List.nil_append]
   simp only [List.length_nil, Nat.zero_add] at hr
   refine ⟨.sl st.next 0 0 vs.length e none, st.push (.row vs 0 0 false), by rw [h1, ← hy.length]; simp only [St.append, if_neg hne]; rw [← hy.length, if_pos hr], ?_⟩
   obtain ⟨X', α', ω', k1, k2, k3⟩ := Post.own (lo := lo) (dst := dst) (e := e) hC hE hy
   refine ⟨X', α', ω', k1, ?_, k3⟩
   cases dst with
   | none =>
    intro m
    simp only [GEnv.put, Env.put, GEnv.get]
    split
    ·rename_i hm
     subst hm
     rw [h1]
     refine ⟨by simp only [RV]; exact .inl ⟨by trivial, by simp only [RLL]⟩, OwnT_noOwn noOwn_list⟩
    ·exact k2 m
   | some d =>
    intro m
    have k2 := k2 m
    simp only [GEnv.put, Env.put, GEnv.get, Env.get] at k2 ⊢
    by_cases hd : d = m
    ·rw [if_pos hd] at k2 ⊢; rw [if_pos hd] at k2 ⊢; exact k2
    ·rw [if_neg hd] at k2 ⊢; rw [if_neg hd] at k2 ⊢
     split
     ·rename_i hm
      subst hm
      rw [h1]
      refine ⟨by simp only [RV]; exact .inl ⟨by trivial, by simp only [RLL]⟩, OwnT_noOwn noOwn_list⟩
     ·exact k2
  ·have hX : ¬ X o ∧ L2 (L2 (RV st X α)) es row := by
    simp only [h1, RV] at hv
    rcases hv with ⟨h5, _⟩ | ⟨o', g', off, ln, cap, row', gen, live', ro, h5, h6, h7, h8, h9, h10⟩
    ·cases h5
    ·cases h5
     rw [h2] at h7
     cases h7
     rw [part_all] at h10
     exact ⟨h6, RLL_iff.1 h10⟩
   obtain ⟨hX, hrow⟩ := hX
   have hlen := hrow.length
   have hlt := hC.low _ _ h2
   have hr' : (row.length + vs.length) * bytes ≤ room := by rw [← hlen, ← hy.length]; exact hr
   refine ⟨.sl o (g + 1) 0 (row.length + vs.length) e none, st.set o (.row (row ++ vs) (g + 1) live false), ?_, ?_⟩
   ·rw [h1]
    simp only [St.append, ne_eq, not_true_eq_false, if_false, if_neg hne, h2, Nat.le_refl, and_self, hr', if_true, List.take_length, true_and]
   ·have hget : (st.set o (.row (row ++ vs) (g + 1) live false)).get o = some (.row (row ++ vs) (g + 1) live false) := by rw [St.get_set, if_pos rfl]
    have hkeep : ∀ p, p ≠ o → (st.set o (.row (row ++ vs) (g + 1) live false)).get p = st.get p := fun p hp => by rw [St.get_set, if_neg hp]
    have hkp : ∀ p, Kp st (st.set o (.row (row ++ vs) (g + 1) live false)) p := fun p => by
     by_cases hp : p = o
     ·subst hp
      intro row' gen' live' ro' e
      rw [h2] at e
      cases e
      exact ⟨vs, g + 1, false, hget⟩
     ·exact .same (hkeep p hp)
    have G : Grow st X α (st.set o (.row (row ++ vs) (g + 1) live false)) X α := ⟨hC.low, fun _ _ e => e, fun p _ _ => hkp p, fun _ _ e => e⟩
    have low' : (st.set o (.row (row ++ vs) (g + 1) live false)).Low := (Up.set (n := 0) _ (Nat.zero_le _) (Nat.zero_le _) hlt).low hC.low
    refine ⟨X, α, (match dst with | some d => re ω (.tmp n 0) (.tmp d 0) | none => ω), ?_, ?_, ?_⟩
    ·refine hC.step G low' (Nat.le_refl _) hC.x (fun i a e => hkeep a.a fun e' => hX (by rw [← e']; exact hC.x _ _ e)) fun p k s _ _ e => ⟨hkeep p fun e' => ?_, ?_⟩
     ·subst e'; rw [h4] at e; cases e
     ·cases dst with
      | none => exact e
      | some d => exact re_ne e (by simp)
    ·refine EnvR.put ?_ ?_ fun d hd => ⟨fun e' es' he => ?_, fun us vs j e es w he => by cases he⟩
     ·refine hE.stepx G (fun p m j hm _ _ e => ⟨hkeep p fun e' => ?_, ?_⟩) ?_ noOwn_list
      ·subst e'; rw [h4] at e; cases e; exact hm rfl
      ·cases dst with
       | none => exact e
       | some d => exact re_ne e (by simp; intro h; exact absurd h hm)
      ·exact (RV_share hv).grow G
     ·simp only [RV]
      refine .inr ⟨o, g + 1, 0, row.length + vs.length, none, row ++ vs, g + 1, live, false, rfl, hX, hget, by omega, by simp, RLL_iff.2 ?_⟩
      rw [show row.length + vs.length = (row ++ vs).length by simp, part_all]
      exact (hrow.append hy).mono fun u v e => e.mono fun u v e => e.grow G
     ·cases he
      subst hd
      exact .inr ⟨o, g + 1, row ++ vs, live, by rw [List.length_append], hX, hget, by omega, re_eq h4⟩
    ·refine ⟨Nat.le_refl _, fun _ _ e => e, fun _ _ e => .inl e, fun _ _ => Iff.rfl, fun p _ _ hp => hkeep p fun e => ?_, fun p _ _ => hkp p, fun p _ e => ?_, fun p k s _ e _ => ?_⟩
     ·subst e
      obtain ⟨k, s, h5, _⟩ := hp _ h4
      cases h5
     ·cases dst with
      | none => exact e
      | some d => exact re_none e
     ·cases dst with
      | none => exact e
      | some d => exact re_ne e (by simp)
end Go.Ab
