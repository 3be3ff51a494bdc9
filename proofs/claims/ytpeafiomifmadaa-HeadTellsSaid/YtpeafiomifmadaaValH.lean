/- Calls: the machine of values and the abstract machine go side by side. -/
import Derived.Test.YtpeafiomifmadaaValG
namespace Go.Ab
open Go
set_option linter.unusedVariables false
set_option linter.unusedSimpArgs false
variable {st st' : St} {X X' : Nat → Prop} {α α' : List Ad} {ω ω' : Om} {h h' : GH} {genv : GEnv} {env : Env} {lo : Nat}
mutual
theorem RV_rf (hX : ∀ o, X' o → X o) : ∀ {u : U} {v : V}, RV st X α u v → u.rf = true → RV st X' α' u v
 | .undef, v, h, e => by simp [U.rf] at e
 | .bool b, v, h, e => by simp only [RV] at h ⊢; exact h
 | .int k n, v, h, e => by simp only [RV] at h ⊢; exact h
 | .str s, v, h, e => by simp only [RV] at h ⊢; exact h
 | .nilp, v, h, e => by simp only [RV] at h ⊢; exact h
 | .ptr .., v, h, e => by simp [U.rf] at e
 | .eptr .., v, h, e => by simp [U.rf] at e
 | .nils, v, h, e => by simp only [RV] at h ⊢; exact h
 | .list cp e es, v, h, he => by
  simp only [U.rf] at he
  simp only [RV] at h ⊢
  rcases h with ⟨h1, h2⟩ | ⟨o, g, off, ln, cap, row, gen, live, ro, h1, h2, h3, h4, h5, h6, h7⟩
  ·exact .inl ⟨h1, RLL_rf hX h2 he⟩
  ·exact .inr ⟨o, g, off, ln, cap, row, gen, live, ro, h1, fun e => h2 (hX o e), h3, h4, h5, RLL_rf hX h6 he, h7⟩
 | .own .., v, h, e => by simp [U.rf] at e
 | .asl .., v, h, e => by simp [U.rf] at e
 | .nilm, v, h, e => by simp only [RV] at h ⊢; exact h
 | .map .., v, h, e => by simp [U.rf] at e
 | .nilf, v, h, e => by simp only [RV] at h ⊢; exact h
 | .fn f a c, v, h, e => by
  simp only [U.rf, Bool.and_eq_true] at e
  simp only [RV] at h ⊢
  obtain ⟨a', c', h1, h2, h3⟩ := h
  exact ⟨a', c', h1, RL_rf hX h2 e.1, RL_rf hX h3 e.2⟩
 | .agg cs, v, h, e => by
  simp only [U.rf] at e
  simp only [RV] at h ⊢
  obtain ⟨vs, h1, h2⟩ := h
  exact ⟨vs, h1, RL_rf hX h2 e⟩
 | .tup .., v, h, e => by simp [U.rf] at e
theorem RL_rf (hX : ∀ o, X' o → X o) : ∀ {us : List U} {vs : List V}, RL st X α us vs → rfL us = true → RL st X' α' us vs
 | [], vs, h, e => by simp only [RL] at h ⊢; exact h
 | u :: us, vs, h, e => by
  simp only [rfL, Bool.and_eq_true] at e
  simp only [RL] at h ⊢
  obtain ⟨v, vs', h1, h2, h3⟩ := h
  exact ⟨v, vs', h1, RV_rf hX h2 e.1, RL_rf hX h3 e.2⟩
theorem RLL_rf (hX : ∀ o, X' o → X o) : ∀ {us : List (List U)} {vs : List (List V)}, RLL st X α us vs → rfLL us = true → RLL st X' α' us vs
 | [], vs, h, e => by simp only [RLL] at h ⊢; exact h
 | u :: us, vs, h, e => by
  simp only [rfLL, Bool.and_eq_true] at e
  simp only [RLL] at h ⊢
  obtain ⟨v, vs', h1, h2, h3⟩ := h
  exact ⟨v, vs', h1, RL_rf hX h2 e.1, RLL_rf hX h3 e.2⟩
end
def Xs (X : Nat → Prop) (b : Bool) : Nat → Prop := fun o => X o ∧ b = false
theorem Xs_or {b c : Bool} (o : Nat) (e : Xs X (b || c) o) : Xs X b o ∧ Xs X c o := by
 obtain ⟨h1, h2⟩ := e
 simp only [Bool.or_eq_false_iff] at h2
 exact ⟨⟨h1, h2.1⟩, h1, h2.2⟩
theorem rf_snap_self {u : U} (h : u.rf = true) : True := trivial
theorem RV_less (l : st.Low) (hX : ∀ o, X' o → X o) {u : U} {v : V} (h : RV st X α u v) : RV st X' α u v := h.grow ⟨l, fun o _ e => hX o e, fun _ _ _ => .same rfl, fun _ _ e => e⟩
theorem RL_less (l : st.Low) (hX : ∀ o, X' o → X o) {u : List U} {v : List V} (h : RL st X α u v) : RL st X' α u v := h.grow ⟨l, fun o _ e => hX o e, fun _ _ _ => .same rfl, fun _ _ e => e⟩
theorem RLL_less (l : st.Low) (hX : ∀ o, X' o → X o) {u : List (List U)} {v : List (List V)} (h : RLL st X α u v) : RLL st X' α u v := h.grow ⟨l, fun o _ e => hX o e, fun _ _ _ => .same rfl, fun _ _ e => e⟩
mutual
theorem snap_sim (hC : Cf st X α ω h) : ∀ {u : U} {v : V} {w : U} {b : Bool}, RV st X α u v → u.snap h = some (w, b) → RV st (Xs X b) [] w v
 | .undef, v, w, b, hr, e => by simp [U.snap] at e
 | .bool _, v, w, b, hr, e => by simp only [U.snap] at e; cases e; simp only [RV] at hr ⊢; exact hr
 | .int _ _, v, w, b, hr, e => by simp only [U.snap] at e; cases e; simp only [RV] at hr ⊢; exact hr
 | .str _, v, w, b, hr, e => by simp only [U.snap] at e; cases e; simp only [RV] at hr ⊢; exact hr
 | .nilp, v, w, b, hr, e => by simp only [U.snap] at e; cases e; simp only [RV] at hr ⊢; exact hr
 | .ptr .., v, w, b, hr, e => by simp [U.snap] at e
 | .eptr .., v, w, b, hr, e => by simp [U.snap] at e
 | .nils, v, w, b, hr, e => by simp only [U.snap] at e; cases e; simp only [RV] at hr ⊢; exact hr
 | .list cp q es, v, w, b, hr, e => by
  simp only [U.snap] at e
  obtain ⟨r, h1, h2⟩ := Option.map_eq_some_iff.1 e
  cases h2
  simp only [RV] at hr ⊢
  rcases hr with ⟨h3, h4⟩ | ⟨o, g, off, ln, cap, row, gen, live, ro, h3, h4, h5, h6, h7, h8, _⟩
  ·exact .inl ⟨h3, snapLL_sim hC h4 h1⟩
  ·exact .inr ⟨o, g, off, ln, cap, row, gen, live, ro, h3, fun e => h4 e.1, h5, h6, h7, snapLL_sim hC h8 h1, fun e => by cases e⟩
 | .own q es, v, w, b, hr, e => by
  simp only [U.snap] at e
  obtain ⟨r, h1, h2⟩ := Option.map_eq_some_iff.1 e
  cases h2
  simp only [RV] at hr ⊢
  rcases hr with ⟨h3, h4⟩ | ⟨o, g, off, ln, cap, row, gen, live, ro, h3, h4, h5, h6, h7, h8⟩
  ·exact .inl ⟨h3, snapLL_sim hC h4 h1⟩
  ·exact .inr ⟨o, g, off, ln, cap, row, gen, live, ro, h3, fun e => h4 e.1, h5, h6, h7, snapLL_sim hC h8 h1, fun e => by cases e⟩
 | .asl cap o g off ln q, v, w, b, hr, e => by
  simp only [U.snap] at e
  split at e
  ·rename_i es hes
   split at e
   ·rename_i hrf
    cases e
    obtain ⟨vs, h1, h2⟩ := els_sim hC hr hes
    simp only [RV] at hr
    obtain ⟨a, h3, rfl⟩ := hr
    simp only [St.elems] at h1
    split at h1
    ·rename_i row gen live ro hrow
     split at h1
     ·rename_i hc
      cases h1
      simp only [RV]
      exact .inr ⟨a.a, _, off, ln, cap, row, gen, live, ro, rfl, fun e => (by cases e.2), hrow, hc.2.1, hc.2.2, RLL_rf (fun o e => e.1) (RLL_iff.2 h2) hrf, fun e => by cases e⟩
     ·cases h1
    ·cases h1
   ·cases e
  ·cases e
 | .nilm, v, w, b, hr, e => by simp only [U.snap] at e; cases e; simp only [RV] at hr ⊢; exact hr
 | .map .., v, w, b, hr, e => by simp [U.snap] at e
 | .nilf, v, w, b, hr, e => by simp only [U.snap] at e; cases e; simp only [RV] at hr ⊢; exact hr
 | .fn f a c, v, w, b, hr, e => by
  simp only [U.snap] at e
  split at e
  ·rename_i x y hx hy
   cases e
   simp only [RV] at hr ⊢
   obtain ⟨a', c', h1, h2, h3⟩ := hr
   exact ⟨a', c', h1, RL_less hC.low (fun o e => (Xs_or o e).1) (snapL_sim hC h2 hx), RL_less hC.low (fun o e => (Xs_or o e).2) (snapL_sim hC h3 hy)⟩
  ·cases e
 | .agg cs, v, w, b, hr, e => by
  simp only [U.snap] at e
  obtain ⟨r, h1, h2⟩ := Option.map_eq_some_iff.1 e
  cases h2
  simp only [RV] at hr ⊢
  obtain ⟨vs, h3, h4⟩ := hr
  exact ⟨vs, h3, snapL_sim hC h4 h1⟩
 | .tup .., v, w, b, hr, e => by simp [U.snap] at e
theorem snapL_sim (hC : Cf st X α ω h) : ∀ {us : List U} {vs : List V} {r : List U × Bool}, RL st X α us vs → snapL h us = some r → RL st (Xs X r.2) [] r.1 vs
 | [], vs, r, hr, e => by simp only [snapL] at e; cases e; simp only [RL] at hr ⊢; exact hr
 | u :: us, vs, r, hr, e => by
  simp only [snapL] at e
  split at e
  ·rename_i x y hx hy
   cases e
   simp only [RL] at hr ⊢
   obtain ⟨v, vs', h1, h2, h3⟩ := hr
   exact ⟨v, vs', h1, RV_less hC.low (fun o e => (Xs_or o e).1) (snap_sim hC h2 hx), RL_less hC.low (fun o e => (Xs_or o e).2) (snapL_sim hC h3 hy)⟩
  ·cases e
theorem snapLL_sim (hC : Cf st X α ω h) : ∀ {us : List (List U)} {vs : List (List V)} {r : List (List U) × Bool}, RLL st X α us vs → snapLL h us = some r → RLL st (Xs X r.2) [] r.1 vs
 | [], vs, r, hr, e => by simp only [snapLL] at e; cases e; simp only [RLL] at hr ⊢; exact hr
 | u :: us, vs, r, hr, e => by
  simp only [snapLL] at e
  split at e
  ·rename_i x y hx hy
   cases e
   simp only [RLL] at hr ⊢
   obtain ⟨v, vs', h1, h2, h3⟩ := hr
   exact ⟨v, vs', h1, RL_less hC.low (fun o e => (Xs_or o e).1) (snapL_sim hC h2 hx), RLL_less hC.low (fun o e => (Xs_or o e).2) (snapLL_sim hC h3 hy)⟩
  ·cases e
end
theorem snap_noOwn {u w : U} {b : Bool} (e : u.snap h = some (w, b)) : w.noOwn := by
 cases u <;> simp only [U.snap] at e <;> try (cases e; done)
 case list => obtain ⟨_, _, h2⟩ := Option.map_eq_some_iff.1 e; cases h2; exact noOwn_list
 case own => obtain ⟨_, _, h2⟩ := Option.map_eq_some_iff.1 e; cases h2; exact noOwn_list
 case agg => obtain ⟨_, _, h2⟩ := Option.map_eq_some_iff.1 e; cases h2; exact noOwn_agg
 case asl =>
  split at e
  ·split at e
   ·cases e; exact noOwn_list
   ·cases e
  ·cases e
 case fn =>
  split at e
  ·cases e; exact noOwn_fn
  ·cases e
 all_goals cases e; exact ⟨fun _ _ h => (by cases h), fun _ _ _ _ h => (by cases h)⟩
theorem snapL_noOwn : ∀ {us : List U} {r : List U × Bool}, snapL h us = some r → ∀ w ∈ r.1, w.noOwn
 | [], r, e, w, hw => by simp only [snapL] at e; cases e; cases hw
 | u :: us, r, e, w, hw => by
  simp only [snapL] at e
  split at e
  ·rename_i x y hx hy
   cases e
   rcases List.mem_cons.1 hw with rfl | hw
   ·exact snap_noOwn hx
   ·exact snapL_noOwn hy w hw
  ·cases e
theorem shares_noOwn : ∀ {us : List U}, ∀ w ∈ shares us, w.noOwn
 | u :: us, w, hw => by
  rcases List.mem_cons.1 hw with rfl | hw
  ·exact noOwn_share u
  ·exact shares_noOwn w hw
theorem scal_any {u : U} {v : V} (hr : RV st X α u v) (e : u.scal = true) : RV st' X' α' u v := by
 cases u <;> simp [U.scal] at e <;> simp only [RV] at hr ⊢ <;> exact hr
theorem scalL_any : ∀ {us : List U} {vs : List V}, L2 (RV st X α) us vs → scalL us = true → L2 (RV st' X' α') us vs
 | [], [], _, _ => trivial
 | u :: us, v :: vs, hr, e => by
  simp only [scalL, Bool.and_eq_true] at e
  exact ⟨scal_any hr.1 e.1, scalL_any hr.2 e.2⟩
theorem scalLL_any : ∀ {us : List (List U)} {vs : List (List V)}, L2 (L2 (RV st X α)) us vs → scalLL us = true → L2 (L2 (RV st' X' α')) us vs
 | [], [], _, _ => trivial
 | u :: us, v :: vs, hr, e => by
  simp only [scalLL, Bool.and_eq_true] at e
  exact ⟨scalL_any hr.1 e.1, scalLL_any hr.2 e.2⟩
theorem clean1_any {p : Place} {u : U} {v : V} (hr : RV st X α u v) (ho : ∀ e es, u = .own e es → OwnC st X ω p e v) (hX : ∀ o, ω o = some p → ¬ X' o) (e : u.clean1 = true) : RV st X' α' u v := by
 cases u <;> simp only [U.clean1] at e <;> try exact scal_any hr e
 case agg cs =>
  simp only [RV] at hr ⊢
  obtain ⟨vs, h1, h2⟩ := hr
  exact ⟨vs, h1, RL_iff.2 (scalL_any (RL_iff.1 h2) e)⟩
 case own q es =>
  have ho := ho q es rfl
  simp only [RV] at hr ⊢
  rcases hr with ⟨h1, h2⟩ | ⟨o, g, off, ln, cap, row, gen, live, ro, h1, h2, h3, h4, h5, h6⟩
  ·exact .inl ⟨h1, RLL_iff.2 (scalLL_any (RLL_iff.1 h2) e)⟩
  ·refine .inr ⟨o, g, off, ln, cap, row, gen, live, ro, h1, ?_, h3, h4, h5, RLL_iff.2 (scalLL_any (RLL_iff.1 h6) e)⟩
   rcases ho with ho | ⟨o', g', row', live', k1, _, _, _, k2⟩
   ·rw [ho] at h1; cases h1
   ·rw [k1] at h1; cases h1; exact hX _ k2
theorem OwnT_clean {n : Nat} {us : List U} {vs : List V} (hX : ∀ o p, ω o = some p → ¬ X' o) (ho : OwnT st X ω n (.tup us) (.tup vs)) : ∀ {k : Nat} {xs : List U} {ys : List V}, us.drop k = xs → vs.drop k = ys → L2 (RV st X α) xs ys → cleanL xs = true → L2 (RV st X' α') xs ys
 | _, [], [], _, _, _, _ => trivial
 | k, x :: xs, y :: ys, h1, h2, hr, e => by
  simp only [cleanL, Bool.and_eq_true] at e
  have g1 : us[k]? = some x := by
   have := congrArg (·[0]?) h1
   simpa using this
  have g2 : vs[k]? = some y := by
   have := congrArg (·[0]?) h2
   simpa using this
  refine ⟨clean1_any (p := .tmp n (k + 1)) hr.1 (fun q es hq => ho.2 us vs k q es y rfl rfl (by rw [g1, hq]) g2) (fun o h => hX o _ h) e.1, ?_⟩
  refine OwnT_clean hX ho (k := k + 1) ?_ ?_ hr.2 e.2
  ·rw [← List.drop_drop, h1]; rfl
  ·rw [← List.drop_drop, h2]; rfl
theorem clean_any {n : Nat} {u : U} {v : V} (hr : RV st X α u v) (ho : OwnT st X ω n u v) (hX : ∀ o p, ω o = some p → ¬ X' o) (e : u.clean = true) : RV st X' α' u v := by
 by_cases ht : ∃ us, u = .tup us
 ·obtain ⟨us, rfl⟩ := ht
  simp only [U.clean] at e
  simp only [RV] at hr ⊢
  obtain ⟨vs, rfl, h2⟩ := hr
  exact ⟨vs, rfl, RL_iff.2 (OwnT_clean hX ho (k := 0) rfl rfl (RL_iff.1 h2) e)⟩
 ·have he : u.clean = u.clean1 := by cases u <;> first | rfl | exact absurd ⟨_, rfl⟩ ht
  rw [he] at e
  exact clean1_any hr ho.1 (fun o h => hX o _ h) e
end Go.Ab
