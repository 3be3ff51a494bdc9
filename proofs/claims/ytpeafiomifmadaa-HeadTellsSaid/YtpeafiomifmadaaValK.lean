/- Functions: what the machine of values comes to, the abstract machine does. -/
import Derived.Test.YtpeafiomifmadaaValJ
namespace Go.Ab
open Go
set_option linter.unusedVariables false
set_option linter.unusedSimpArgs false
variable {st st' : St} {X X' : Nat → Prop} {α α' : List Ad} {ω ω' : Om} {h h' : GH} {genv : GEnv} {env : Env} {lo : Nat}
theorem EnvR.keep (hE : EnvR st X α ω genv env) (ks : List Nat) : EnvR st X α ω (GEnv.keep genv ks) (Env.keep env ks) := by
 intro n
 induction ks with
 | nil => exact ⟨by simp only [GEnv.keep, GEnv.get, RV], OwnT_noOwn ⟨fun _ _ h => (by cases h), fun _ _ _ _ h => (by cases h)⟩⟩
 | cons k ks ih =>
  simp only [GEnv.keep, Env.keep, GEnv.get, Env.get]
  split
  ·rename_i e; subst e; exact hE _
  ·exact ih
theorem code_sim {T : GTab} {Tb : Tab} {call : GCallF} (hK : CallSim T Tb call) (hO : CallOwn T call) (hCl : CloneOk T Tb) {fl : Fl} {n : Nat} : ∀ (ic : IC) {st : St} {X : Nat → Prop} {α : List Ad} {ω : Om} {h : GH} {genv : GEnv} {env : Env} {e : Ex} {genv' : GEnv} {h' : GH},
  Cf st X α ω h → EnvR st X α ω genv env → gevC T fl lo n call ic genv h = some (e, genv', h') → Go.Ab.X Tb ic env st fun e' env' st' => e' = e ∧ Behind lo st X α ω genv' h' env' st' := by
 intro ic
 induction ic with
 | skip => intro st X α ω h genv env e genv' h' hC hE he; cases he; exact X_skip ⟨rfl, X, α, ω, hC, hE, .refl⟩
 | reg ops =>
  intro st X α ω h genv env e genv' h' hC hE he
  simp only [gevC] at he
  split at he
  ·rename_i g1 h1 hr
   cases he
   obtain ⟨env', st', k1, k2⟩ := reg_sim hK hO hCl ops hC hE hr
   exact X_reg k1 ⟨rfl, k2⟩
  ·cases he
 | regD ord ops =>
  intro st X α ω h genv env e genv' h' hC hE he
  simp only [gevC] at he
  split at he
  ·rename_i g1 h1 hr
   cases he
   obtain ⟨env', st', k1, k2⟩ := regD_sim hK hO hCl ops (sts := []) (acts := []) (racts := []) (ds := []) (ps := []) (rps := []) (cs := []) hC hE trivial trivial trivial (fun n hn => ⟨st, by rw [show cOf [] (.t n) = 0 from rfl]; rfl, fun o ho => RV.obj_lt hC (hE n).1 hn ho⟩) trivial (fun n hn => held_now (sts := []) hC (hE n).1 (fun h => by rw [h] at hn; cases hn)) (fun c hc => (by cases hc)) hr
   exact X_regD k1 ⟨rfl, k2⟩
  ·cases he
 | seq a b iha ihb =>
  intro st X α ω h genv env e genv' h' hC hE he
  simp only [gevC] at he
  refine X_seq ?_
  split at he
  ·rename_i g1 h1 hr
   refine (iha hC hE hr).mono fun e' env1 st1 k => ?_
   obtain ⟨rfl, X1, α1, ω1, k1, k2, k3⟩ := k
   refine thn_norm ((ihb k1 k2 he).mono fun e2 env2 st2 k => ?_)
   obtain ⟨rfl, X2, α2, ω2, k4, k5, k6⟩ := k
   exact ⟨rfl, X2, α2, ω2, k4, k5, k3.trans k6⟩
  ·rename_i hno
   refine (iha hC hE he).mono fun e' env1 st1 k => ?_
   obtain ⟨rfl, k⟩ := k
   cases e' with
   | norm => exact absurd he (by intro h2; exact hno _ _ h2)
   | exit j => exact ⟨rfl, k⟩
   | ret => exact ⟨rfl, k⟩
 | cond c a b iha ihb =>
  intro st X α ω h genv env e genv' h' hC hE he
  simp only [gevC] at he
  have hc := hE.opd c
  split at he
  ·rename_i hg
   rw [hg] at hc; simp only [RV] at hc
   exact X_true hc (iha hC hE he)
  ·rename_i hg
   rw [hg] at hc; simp only [RV] at hc
   exact X_false hc (ihb hC hE he)
  ·cases he
 | block id b ih =>
  intro st X α ω h genv env e genv' h' hC hE he
  simp only [gevC] at he
  refine X_block ?_
  split at he
  ·rename_i j g1 h1 hr
   split at he
   ·rename_i hj
    cases he
    subst hj
    refine (ih hC hE hr).mono fun e' env1 st1 k => ?_
    obtain ⟨rfl, k⟩ := k
    exact inb_hit ⟨rfl, k⟩
   ·rename_i hj
    cases he
    refine (ih hC hE hr).mono fun e' env1 st1 k => ?_
    obtain ⟨rfl, k⟩ := k
    exact inb_miss hj ⟨rfl, k⟩
  ·rename_i hno
   refine (ih hC hE he).mono fun e' env1 st1 k => ?_
   obtain ⟨rfl, k⟩ := k
   cases e' with
   | norm => exact inb_norm ⟨rfl, k⟩
   | exit j => exact absurd he (by intro h2; exact hno _ _ _ h2)
   | ret => exact inb_ret ⟨rfl, k⟩
 | loop keep b ih =>
  intro st X α ω h genv env e genv' h' hC hE he
  simp only [gevC] at he
  have key : ∀ m {st : St} {X : Nat → Prop} {α : List Ad} {ω : Om} {h : GH} {genv : GEnv} {env : Env} {e : Ex} {genv' : GEnv} {h' : GH}, Cf st X α ω h → EnvR st X α ω genv env → giter (fun env h => gevC T fl lo n call b (GEnv.keep env keep) h) m genv h = some (e, genv', h') →
    Go.Ab.X Tb (.loop keep b) env st fun e' env' st' => e' = e ∧ Behind lo st X α ω genv' h' env' st' := by
   intro m
   induction m with
   | zero => intro st X α ω h genv env e genv' h' hC hE he; simp [giter] at he
   | succ m ihm =>
    intro st X α ω h genv env e genv' h' hC hE he
    simp only [giter] at he
    refine X_loop ?_
    split at he
    ·rename_i g1 h1 hr
     refine (ih hC (hE.keep keep) hr).mono fun e' env1 st1 k => ?_
     obtain ⟨rfl, X1, α1, ω1, k1, k2, k3⟩ := k
     refine thn_norm ((ihm k1 k2 he).mono fun e2 env2 st2 k => ?_)
     obtain ⟨rfl, X2, α2, ω2, k4, k5, k6⟩ := k
     exact ⟨rfl, X2, α2, ω2, k4, k5, k3.trans k6⟩
    ·rename_i hno
     refine (ih hC (hE.keep keep) he).mono fun e' env1 st1 k => ?_
     obtain ⟨rfl, k⟩ := k
     cases e' with
     | norm => exact absurd he (by intro h2; exact hno _ _ h2)
     | exit j => exact ⟨rfl, k⟩
     | ret => exact ⟨rfl, k⟩
  exact key n hC hE he
 | exit id => intro st X α ω h genv env e genv' h' hC hE he; cases he; exact X_exit ⟨rfl, X, α, ω, hC, hE, .refl⟩
 | ret => intro st X α ω h genv env e genv' h' hC hE he; cases he; exact X_ret ⟨rfl, X, α, ω, hC, hE, .refl⟩
theorem handed_ne_tup {u : U} {us : List U} : u.handed ≠ .tup us := by cases u <;> simp [U.handed, U.share]
theorem share_ne_tup {u : U} {us : List U} : u.share ≠ .tup us := by cases u <;> simp [U.share]
def firstT (t : Nat) : List IRes → Option Nat
 | [] => none
 | .tmp s :: r => if s = t then some 0 else (firstT t r).map (· + 1)
 | .cell .. :: r => (firstT t r).map (· + 1)
theorem gres_sim (hC : Cf st X α ω h) {env : Env} : ∀ (rs : List IRes) {genv : GEnv} {us : List U}, (∀ n, RV st X α (GEnv.get genv n) (Env.get env n)) → gres genv h rs = some us →
  ∃ vs, evRes env st rs = some vs ∧ L2 (RV st X α) us vs ∧ (∀ u ∈ us, ∀ xs, u ≠ .tup xs) ∧ ∀ (j q : Nat) (es : List (List U)), us[j]? = some (.own q es) → ∃ t, firstT t rs = some j ∧ GEnv.get genv t = .own q es ∧ vs[j]? = some (Env.get env t)
 | [], genv, us, hR, e => by
  cases e
  exact ⟨[], rfl, trivial, (fun u hu => by cases hu), fun j q es h => by simp at h⟩
 | .tmp t :: rs, genv, us, hR, e => by
  simp only [gres] at e
  obtain ⟨us', h1, h2⟩ := Option.map_eq_some_iff.1 e
  subst h2
  have hR' : ∀ n, RV st X α (GEnv.get (demote genv (.t t)) n) (Env.get env n) := by
   intro n
   simp only [demote]
   split
   ·rename_i q es hq
    simp only [GEnv.get]
    split
    ·rename_i e; subst e
     have := hR t
     rw [hq] at this
     exact RV_share this
    ·exact hR n
   ·simp only [GEnv.get]
    split
    ·simp only [RV]
    ·exact hR n
   ·exact hR n
  obtain ⟨vs, k1, k2, k3, k4⟩ := gres_sim hC rs hR' h1
  refine ⟨Env.get env t :: vs, by simp only [evRes, k1, Option.map_some], ⟨RV_handed (hR t), k2⟩, ?_, ?_⟩
  ·intro u hu xs
   rcases List.mem_cons.1 hu with rfl | hu
   ·exact handed_ne_tup
   ·exact k3 u hu xs
  ·intro j q es hj
   cases j with
   | zero =>
    simp only [List.getElem?_cons_zero, Option.some.injEq] at hj
    refine ⟨t, by simp [firstT], ?_, rfl⟩
    cases hg : GEnv.get genv t <;> rw [hg] at hj <;> simp [U.handed, U.share] at hj
    rw [hj.1, hj.2]
   | succ j =>
    simp only [List.getElem?_cons_succ] at hj
    obtain ⟨s, f1, f2, f3⟩ := k4 j q es hj
    have hne : t ≠ s := by
     intro e; subst e
     simp only [demote] at f2
     split at f2
     ·simp [GEnv.get] at f2
     ·simp [GEnv.get] at f2
     ·rename_i hno _; exact hno _ _ f2
    refine ⟨s, by simp only [firstT, if_neg hne, f1, Option.map_some], ?_, f3⟩
    simp only [demote] at f2
    split at f2
    ·simp only [GEnv.get, if_neg hne] at f2; exact f2
    ·simp only [GEnv.get, if_neg hne] at f2; exact f2
    ·exact f2
 | .cell a n agg :: rs, genv, us, hR, e => by
  simp only [gres] at e
  split at e
  ·rename_i u us' h1 h2
   cases e
   obtain ⟨v, h3, h4⟩ := load_sim hC (hR a) h1
   obtain ⟨vs, k1, k2, k3, k4⟩ := gres_sim hC rs hR h2
   refine ⟨v :: vs, by simp only [evRes, h3, k1], ⟨RV_share h4, k2⟩, ?_, ?_⟩
   ·intro u hu xs
    rcases List.mem_cons.1 hu with rfl | hu
    ·exact share_ne_tup
    ·exact k3 u hu xs
   ·intro j q es hj
    cases j with
    | zero =>
     simp only [List.getElem?_cons_zero, Option.some.injEq] at hj
     exact absurd hj ((noOwn_share u).1 _ _)
    | succ j =>
     obtain ⟨s, f1, f2, f3⟩ := k4 j q es (by simpa using hj)
     exact ⟨s, by simp only [firstT, f1, Option.map_some], f2, f3⟩
  ·cases e
theorem outC_sim (hC : Cf st X α ω h) (hX : ∀ o, X' o → X o) (hn : ∀ (k : Nat) (d : Ad), α[k]? = some d → ¬ X' d.a) {u w : U} {v : V} (hr : RV st X α u v) (e : u.outC h = some w) : RV st X' [] w v ∧ (∀ q es, w ≠ .own q es) ∧ ∀ xs, w = .tup xs → False := by
 by_cases h2 : ∃ c o g off ln q, u = .asl c o g off ln q
 ·obtain ⟨c, o, g, off, ln, q, rfl⟩ := h2
  simp only [U.outC] at e
  split at e
  ·rename_i es hes
   split at e
   ·rename_i hrf
    cases e
    refine ⟨?_, (fun _ _ h => by cases h), fun _ h => by cases h⟩
    obtain ⟨vs, k1, k2⟩ := els_sim hC hr hes
    simp only [RV] at hr
    obtain ⟨a, h3, rfl⟩ := hr
    simp only [St.elems] at k1
    split at k1
    ·rename_i row gen live ro hrow
     split at k1
     ·rename_i hc
      cases k1
      simp only [RV]
      exact .inr ⟨a.a, _, off, ln, _, row, gen, live, ro, rfl, hn o a h3, hrow, hc.2.1, hc.2.2, RLL_rf hX (RLL_iff.2 k2) hrf, fun e => by cases e⟩
     ·cases k1
    ·cases k1
   ·cases e
  ·cases e
 ·have he : u.outC h = if u.rf then some u else none := by
   cases u <;> first | rfl | exact absurd ⟨_, _, _, _, _, _, rfl⟩ h2
  rw [he] at e
  split at e
  ·rename_i hrf
   cases e
   refine ⟨RV_rf hX hr hrf, fun q es h => ?_, fun xs h => ?_⟩
   ·subst h
    simp [U.rf] at hrf
   ·subst h
    simp [U.rf] at hrf
  ·cases e
theorem outCs_sim (hC : Cf st X α ω h) (hX : ∀ o, X' o → X o) (hn : ∀ (k : Nat) (d : Ad), α[k]? = some d → ¬ X' d.a) : ∀ {us ws : List U} {vs : List V}, L2 (RV st X α) us vs → outCs h us = some ws → L2 (RV st X' []) ws vs
 | [], ws, [], hr, e => by cases e; exact trivial
 | u :: us, ws, v :: vs, hr, e => by
  simp only [outCs] at e
  split at e
  ·rename_i w ws' h1 h2
   cases e
   exact ⟨(outC_sim hC hX hn hr.1 h1).1, outCs_sim hC hX hn hr.2 h2⟩
  ·cases e
theorem out_sim (hC : Cf st X α ω h) (hX : ∀ o, X' o → X o) (hn : ∀ (k : Nat) (d : Ad), α[k]? = some d → ¬ X' d.a) {u w : U} {v : V} (hr : RV st X α u v) (e : u.out h = some w) : RV st X' [] w v ∧ (∀ q es, w = .own q es → u = .own q es) ∧ ∀ xs, w = .tup xs → False := by
 by_cases h1 : ∃ q es, u = .own q es
 ·obtain ⟨q, es, rfl⟩ := h1
  simp only [U.out] at e
  split at e
  ·rename_i hrf
   cases e
   refine ⟨?_, fun _ _ h => h, fun _ h => by cases h⟩
   simp only [RV] at hr ⊢
   rcases hr with ⟨h1, h2⟩ | ⟨o, g, off, ln, cap, row, gen, live, ro, h1, h2, h3, h4, h5, h6⟩
   ·exact .inl ⟨h1, RLL_rf hX h2 hrf⟩
   ·exact .inr ⟨o, g, off, ln, cap, row, gen, live, ro, h1, fun e => h2 (hX o e), h3, h4, h5, RLL_rf hX h6 hrf⟩
  ·cases e
 ·by_cases h2 : ∃ c o g off ln q, u = .asl c o g off ln q
  ·obtain ⟨c, o, g, off, ln, q, rfl⟩ := h2
   simp only [U.out] at e
   split at e
   ·rename_i es hes
    split at e
    ·rename_i hrf
     cases e
     refine ⟨?_, (fun _ _ h => by cases h), fun _ h => by cases h⟩
     obtain ⟨vs, k1, k2⟩ := els_sim hC hr hes
     simp only [RV] at hr
     obtain ⟨a, h3, rfl⟩ := hr
     simp only [St.elems] at k1
     split at k1
     ·rename_i row gen live ro hrow
      split at k1
      ·rename_i hc
       cases k1
       simp only [RV]
       exact .inr ⟨a.a, _, off, ln, _, row, gen, live, ro, rfl, hn o a h3, hrow, hc.2.1, hc.2.2, RLL_rf hX (RLL_iff.2 k2) hrf, fun e => by cases e⟩
      ·cases k1
     ·cases k1
    ·cases e
   ·cases e
  ·by_cases h3 : ∃ cs, u = .agg cs
   ·obtain ⟨cs, rfl⟩ := h3
    simp only [U.out] at e
    split at e
    ·rename_i hrf
     cases e
     exact ⟨RV_rf hX hr (by simpa [U.rf] using hrf), (fun _ _ h => by cases h), fun xs h => by cases h⟩
    ·obtain ⟨ws, e1, rfl⟩ := Option.map_eq_some_iff.1 e
     simp only [RV] at hr
     obtain ⟨vs, rfl, hr⟩ := hr
     refine ⟨?_, (fun _ _ h => by cases h), fun xs h => by cases h⟩
     simp only [RV]
     exact ⟨vs, rfl, RL_iff.2 (outCs_sim hC hX hn (RL_iff.1 hr) e1)⟩
   have he : u.out h = if u.rf then some u else none := by
    cases u <;> first | rfl | exact absurd ⟨_, _, rfl⟩ h1 | exact absurd ⟨_, _, _, _, _, _, rfl⟩ h2 | exact absurd ⟨_, rfl⟩ h3
   rw [he] at e
   split at e
   ·rename_i hrf
    cases e
    refine ⟨RV_rf hX hr hrf, fun _ _ h => h, fun xs h => ?_⟩
    subst h
    simp [U.rf] at hrf
   ·cases e
theorem outs_sim (hC : Cf st X α ω h) (hX : ∀ o, X' o → X o) (hn : ∀ (k : Nat) (d : Ad), α[k]? = some d → ¬ X' d.a) : ∀ {us ws : List U} {vs : List V}, L2 (RV st X α) us vs → outs h us = some ws → L2 (RV st X' []) ws vs ∧ (∀ (j q : Nat) (es : List (List U)), ws[j]? = some (.own q es) → us[j]? = some (.own q es)) ∧ ∀ w ∈ ws, ∀ xs, w ≠ .tup xs
 | [], ws, [], hr, e => by cases e; exact ⟨trivial, (fun j q es h => by simp at h), fun w hw => by cases hw⟩
 | u :: us, ws, v :: vs, hr, e => by
  simp only [outs] at e
  split at e
  ·rename_i w ws' h1 h2
   cases e
   obtain ⟨k1, k2, k3⟩ := out_sim hC hX hn hr.1 h1
   obtain ⟨k4, k5, k6⟩ := outs_sim hC hX hn hr.2 h2
   refine ⟨⟨k1, k4⟩, fun j q es h => ?_, fun x hx xs h => ?_⟩
   ·cases j with
    | zero => simp only [List.getElem?_cons_zero, Option.some.injEq] at h ⊢; exact k2 q es h
    | succ j => exact k5 j q es (by simpa using h)
   ·rcases List.mem_cons.1 hx with rfl | hx
    ·exact k3 xs h
    ·exact k6 x hx xs h
  ·cases e
theorem ofRes_sim {us : List U} {vs : List V} (hr : L2 (RV st X α) us vs) (ht : ∀ u ∈ us, ∀ xs, u ≠ .tup xs) (ho : ∀ (j q : Nat) (es : List (List U)) (v : V), us[j]? = some (.own q es) → vs[j]? = some v → OwnC st X ω (.tmp 0 (if us.length = 1 then 0 else j + 1)) q v) :
  RV st X α (gofRes us) (ofRes vs) ∧ OwnT st X ω 0 (gofRes us) (ofRes vs) := by
 match us, vs, hr with
 | [], [], _ => exact ⟨RV_tup0, OwnT_noOwn notup⟩
 | [u], [v], hr =>
  refine ⟨hr.1, fun q es h => ?_, fun xs ys j q es w h => ?_⟩
  ·have h' : u = .own q es := h
   have := ho 0 q es v (by rw [h']; rfl) rfl
   simpa using this
  ·exact absurd h (ht u List.mem_cons_self xs)
 | u1 :: u2 :: us, v1 :: v2 :: vs, hr =>
  refine ⟨by simp only [gofRes, ofRes, RV]; exact ⟨_, rfl, RL_iff.2 hr⟩, (fun q es h => by cases h), fun xs ys j q es w h1 h2 h3 h4 => ?_⟩
  simp only [gofRes, U.tup.injEq] at h1
  simp only [ofRes, V.tup.injEq] at h2
  subst h1 h2
  have := ho j q es w h3 h4
  simpa using this
theorem fn_sim {T : GTab} {Tb : Tab} {call : GCallF} (hK : CallSim T Tb call) (hO : CallOwn T call) (hCl : CloneOk T Tb) {n f : Nat} {g : GFn} (hTb : Tb f = some g.fn) {us : List U} {w : U} (e : gevFn T n call g us h lo = some (w, h')) (hown : g.mode = .own → h = [])
  (hC : Cf st X α ω h) (hcell : Cells st ω) {vs : List V} (hus : L2 (RV st X α) us vs) (hno : ∀ u ∈ us, u.noOwn) : ∃ v st', F Tb f vs st = some (v, st') ∧ Fin lo st X α ω w h' v st' := by
 unfold gevFn at e
 split at e
 ·cases e
 ·rename_i hlen
  have hE : EnvR st X α ω (genvOf 0 us) (envOf 0 vs) := by
   have key : ∀ {us : List U} {vs : List V} (k : Nat), L2 (RV st X α) us vs → (∀ u ∈ us, u.noOwn) → EnvR st X α ω (genvOf k us) (envOf k vs) := by
    intro us
    induction us with
    | nil =>
     intro vs k hr _ n
     rw [hr.nil]
     exact ⟨by simp only [genvOf, GEnv.get, RV], OwnT_noOwn ⟨fun _ _ h => (by cases h), fun _ _ _ _ h => (by cases h)⟩⟩
    | cons u us ih =>
     intro vs k hr hno n
     obtain ⟨v, vs', rfl, h1, h2⟩ := hr.cons
     simp only [genvOf, envOf, GEnv.get, Env.get]
     split
     ·exact ⟨h1, OwnT_noOwn (hno u List.mem_cons_self)⟩
     ·exact ih (k + 1) h2 (fun u hu => hno u (List.mem_cons_of_mem _ hu)) n
   exact key 0 hus hno
  have body : ∀ {ex : Ex} {genv1 : GEnv} {h1 : GH}, (ex = .norm ∨ ex = .ret) → gevC T g.fl lo n call g.fn.body (genvOf 0 us) h = some (ex, genv1, h1) → (match gres genv1 h1 g.fn.results with | some us => gfin g.mode us h1 | none => none) = some (w, h') → ∃ v st', F Tb f vs st = some (v, st') ∧ Fin lo st X α ω w h' v st' := by
   intro ex genv1 h1 hex hc e
   split at e
   ·rename_i rs hrs
    refine F_fnR hTb (by rw [← hus.length]; simpa using hlen) ((code_sim hK hO hCl _ hC hE hc).mono fun e' env1 st1 k => ?_)
    obtain ⟨rfl, X1, α1, ω1, k1, k2, k3⟩ := k
    obtain ⟨ws, q1, q2, q3, q4⟩ := gres_sim k1 g.fn.results (fun n => (k2 n).1) hrs
    refine ⟨hex, ws, q1, ?_⟩
    obtain ⟨ω2, hω2⟩ : ∃ ω2 : Om, ω2 = fun o => match ω1 o with
      | some (.tmp t 0) => (firstT t g.fn.results).map fun j => .tmp 0 (if rs.length = 1 then 0 else j + 1)
      | some (.cell k s) => some (.cell k s)
      | _ => none := ⟨_, rfl⟩
    have w1 : ∀ o k s, ω1 o = some (.cell k s) → ω2 o = some (.cell k s) := fun o k s e => by rw [hω2]; simp only [e]
    have w2 : ∀ o, ω1 o = none → ω2 o = none := fun o e => by rw [hω2]; simp only [e]
    have w3 : ∀ o t j, ω1 o = some (.tmp t 0) → firstT t g.fn.results = some j → ω2 o = some (.tmp 0 (if rs.length = 1 then 0 else j + 1)) := fun o t j e1 e2 => by rw [hω2]; simp only [e1, e2, Option.map_some]
    have own : ∀ (j q : Nat) (es : List (List U)) (v : V), rs[j]? = some (.own q es) → ws[j]? = some v → OwnC st1 X1 ω2 (.tmp 0 (if rs.length = 1 then 0 else j + 1)) q v := by
     intro j q es v e1 e2
     obtain ⟨t, f1, f2, f3⟩ := q4 j q es e1
     rw [e2] at f3
     cases f3
     have := (k2 t).2
     rw [f2] at this
     rcases this.1 q es rfl with p | ⟨o, g', row, live, p1, p0, p2, p3, p4⟩
     ·exact .inl p
     ·exact .inr ⟨o, g', row, live, p1, p0, p2, p3, w3 o t j p4 f1⟩
    have fr : Fr lo st X α ω st1 X1 α1 ω2 := ⟨k3.next, k3.al, k3.alnew, k3.x, k3.same, k3.kp, fun o ho e => w2 o (k3.om o ho e), fun o k s ho e hk => w1 o k s (k3.omlo o k s ho e hk)⟩
    have cf : Cf st1 X1 α1 ω2 h1 := k1.step (Grow.id k1.low) k1.low (Nat.le_refl _) k1.x (fun _ _ _ => rfl) fun o k s _ _ e => ⟨rfl, w1 o k s e⟩
    by_cases hm : g.mode = .own
    ·simp only [gfin, hm] at e
     obtain ⟨us', h2, h3⟩ := Option.map_eq_some_iff.1 e
     cases h3
     have hh := hown hm
     subst hh
     have hα : α = [] := List.eq_nil_of_length_eq_zero hC.len
     subst hα
     have hX' : ∀ o, (X o ∧ o < st.next) → X1 o := fun o e => (fr.x o e.2).2 e.1
     have hn' : ∀ (k : Nat) (d : Ad), α1[k]? = some d → ¬ (X d.a ∧ d.a < st.next) := fun k a e hx => by
      rcases fr.alnew k a e with h | h
      ·simp at h
      ·omega
     obtain ⟨p1, p2, p3⟩ := outs_sim (X' := fun o => X o ∧ o < st.next) cf hX' hn' q2 h2
     have hlen' : us'.length = rs.length := by rw [p1.length, q2.length]
     obtain ⟨r1, r2⟩ := ofRes_sim (ω := ω2) p1 p3 fun j q es v e1 e2 => by
      rw [hlen']
      rcases own j q es v (p2 j q es e1) e2 with p | ⟨o, g', row, live, s1, s0, s2, s3, s4⟩
      ·exact .inl p
      ·exact .inr ⟨o, g', row, live, s1, fun e => s0 (hX' o e), s2, s3, s4⟩
     exact ⟨fun o => X o ∧ o < st.next, [], ω2, ⟨cf.low, rfl, (fun i j a b e => by simp at e), (fun i a e => by simp at e), (fun i a e => by simp at e), (fun k a b e => by simp at e)⟩, r1, r2,
      ⟨fr.next, fun _ _ e => e, fun _ _ e => .inl e, fun o ho => ⟨fun e => e.1, fun e => ⟨e, ho⟩⟩, fr.same, fr.kp, fr.om, fr.omlo⟩⟩
    ·have hfin : gfin g.mode rs h1 = some (gofRes rs, h1) := by
      cases hmm : g.mode <;> first | rfl | exact absurd hmm hm
     rw [hfin] at e
     cases e
     obtain ⟨r1, r2⟩ := ofRes_sim q2 q3 own
     exact ⟨X1, α1, ω2, cf, r1, r2, fr⟩
   ·cases e
  split at e
  ·rename_i genv1 h1 hc; exact body (.inl rfl) hc e
  ·rename_i genv1 h1 hc; exact body (.inr rfl) hc e
  ·cases e
theorem grunT_own (T : GTab) : ∀ n, CallOwn T (grunT T n)
 | 0, f, us, h, lo, w, h', g, e, _, _ => by simp [grunT] at e
 | n + 1, f, us, h, lo, w, h', g, e, hg, hm => by
  simp only [grunT, hg] at e
  unfold gevFn at e
  have fin : ∀ {us : List U} {h1 : GH}, gfin g.mode us h1 = some (w, h') → h' = [] := by
   intro us h1 e
   simp only [gfin, hm] at e
   obtain ⟨_, _, h3⟩ := Option.map_eq_some_iff.1 e
   cases h3; rfl
  split at e
  ·cases e
  ·split at e
   ·split at e
    ·exact fin e
    ·cases e
   ·split at e
    ·exact fin e
    ·cases e
   ·cases e
theorem grunT_sim {T : GTab} {Tb : Tab} (hTb : TabSim T Tb) (hCl : CloneOk T Tb) : ∀ n, CallSim T Tb (grunT T n)
 | 0 => fun f us h lo w h' e => by simp [grunT] at e
 | n + 1 => fun f us h lo w h' e hown st X α ω vs hC hcell hus hno => by
  simp only [grunT] at e
  split at e
  ·rename_i g hg
   exact fn_sim (grunT_sim hTb hCl n) (grunT_own T n) hCl (hTb f g hg) e (hown g hg) hC hcell hus hno
  ·cases e
end Go.Ab
