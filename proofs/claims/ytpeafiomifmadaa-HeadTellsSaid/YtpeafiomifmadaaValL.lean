/- The machine of values in no number of steps; how a walk goes. -/
import Derived.Test.YtpeafiomifmadaaValK
namespace Go.Ab
open Go
set_option linter.unusedVariables false
set_option linter.unusedSimpArgs false
def GLe (c d : GCallF) : Prop := ∀ f us h lo r, c f us h lo = some r → d f us h lo = some r
theorem gcall_mono {T : GTab} {c d : GCallF} (k : GLe c d) {lo f : Nat} {us : List U} {h : GH} {r : U × GH} (e : gcall T c lo f us h = some r) : gcall T d lo f us h = some r := by
 have e0 := e
 unfold gcall at e
 split at e
 ·rename_i g hg
  split at e
  ·rename_i hm
   split at e
   ·rename_i ws b hs
    split at e
    ·rename_i w hx hw
     simp only [gcall, hg, hm, hs, k _ _ _ _ _ hw]
     exact e
    ·cases e
   ·cases e
  ·rename_i hm; simp only [gcall, hg, hm]; exact k _ _ _ _ _ e
  ·rename_i hm; simp only [gcall, hg, hm]; exact k _ _ _ _ _ e
 ·rename_i e' b hg
  simp only [gcall, hg]
  exact e
 ·cases e
theorem grun_mono {T : GTab} {c d : GCallF} (k : GLe c d) {fl : Fl} {lo : Nat} {dst : Option Nat} {o : IOp} {env : GEnv} {h : GH} {r : U × GEnv × GH} (e : o.grun T c fl lo dst env h = some r) : o.grun T d fl lo dst env h = some r := by
 cases o
 case call f args =>
  simp only [IOp.grun] at e ⊢
  obtain ⟨x, h1, h2⟩ := Option.map_eq_some_iff.1 e
  rw [gcall_mono k h1]; exact congrArg some h2
 case callv f args =>
  simp only [IOp.grun] at e ⊢
  split at e
  ·obtain ⟨x, h1, h2⟩ := Option.map_eq_some_iff.1 e
   rw [gcall_mono k h1]; exact congrArg some h2
  ·cases e
 all_goals exact e
theorem gevReg_mono {T : GTab} {c d : GCallF} (k : GLe c d) {fl : Fl} {lo : Nat} : ∀ {is : List IOper} {env : GEnv} {h : GH} {r}, gevReg T c fl lo is env h = some r → gevReg T d fl lo is env h = some r
 | [], env, h, r, e => e
 | o :: os, env, h, r, e => by
  simp only [gevReg] at e ⊢
  split at e
  ·split at e
   ·rename_i h1
    rw [grun_mono k h1]; exact gevReg_mono k e
   ·cases e
  ·exact gevReg_mono k e
  ·cases e
theorem gevRegD_mono {T : GTab} {c d : GCallF} (k : GLe c d) {fl : Fl} {lo : Nat} : ∀ {is : List IOper} {env : GEnv} {h : GH} {acts ds ps r}, gevRegD T c fl lo is env h acts ds ps = some r → gevRegD T d fl lo is env h acts ds ps = some r
 | [], env, h, acts, ds, ps, r, e => e
 | o :: os, env, h, acts, ds, ps, r, e => by
  simp only [gevRegD] at e ⊢
  split at e
  ·split at e
   ·rename_i h1
    rw [grun_mono k h1]
    simp only
    split at e
    ·split at e
     ·exact gevRegD_mono k e
     ·exact gevRegD_mono k e
    ·split at e
     ·rename_i hc; rw [if_pos hc]; exact gevRegD_mono k e
     ·cases e
   ·cases e
  ·exact gevRegD_mono k e
  ·cases e
theorem giter_mono {f g : GEnv → GH → GRes} (k : ∀ env h r, f env h = some r → g env h = some r) : ∀ {n m : Nat} {env : GEnv} {h : GH} {r}, n ≤ m → giter f n env h = some r → giter g m env h = some r
 | 0, m, env, h, r, hn, e => by simp [giter] at e
 | n + 1, 0, env, h, r, hn, e => by omega
 | n + 1, m + 1, env, h, r, hn, e => by
  simp only [giter] at e ⊢
  split at e
  ·rename_i h1
   rw [k _ _ _ h1]; exact giter_mono k (by omega) e
  ·rename_i hx
   rw [k _ _ _ e]
   obtain ⟨e1, e2, e3⟩ := r
   cases e1 with
   | norm => exact absurd e (hx _ _)
   | exit _ => rfl
   | ret => rfl
theorem gevC_mono {T : GTab} {c d : GCallF} (k : GLe c d) {fl : Fl} {lo n m : Nat} (hn : n ≤ m) : ∀ {ic : IC} {env : GEnv} {h : GH} {r}, gevC T fl lo n c ic env h = some r → gevC T fl lo m d ic env h = some r := by
 intro ic
 induction ic with
 | skip => intro env st r e; exact e
 | exit id => intro env st r e; exact e
 | ret => intro env st r e; exact e
 | reg ops =>
  intro env st r e
  simp only [gevC] at e ⊢
  split at e
  ·rename_i h1; rw [gevReg_mono k h1]; exact e
  ·cases e
 | regD ord ops =>
  intro env st r e
  simp only [gevC] at e ⊢
  split at e
  ·rename_i h1; rw [gevRegD_mono k h1]; exact e
  ·cases e
 | seq a b iha ihb =>
  intro env st r e
  simp only [gevC] at e ⊢
  split at e
  ·rename_i h1; rw [iha h1]; exact ihb e
  ·rename_i hx
   rw [iha e]
   obtain ⟨e1, e2, e3⟩ := r
   cases e1 with
   | norm => exact absurd e (hx _ _)
   | exit _ => rfl
   | ret => rfl
 | cond x a b iha ihb =>
  intro env st r e
  simp only [gevC] at e ⊢
  split at e
  ·exact iha e
  ·exact ihb e
  ·cases e
 | block id b ih =>
  intro env st r e
  simp only [gevC] at e ⊢
  split at e
  ·rename_i h1; rw [ih h1]; exact e
  ·rename_i hx
   rw [ih e]
   obtain ⟨e1, e2, e3⟩ := r
   cases e1 with
   | norm => rfl
   | exit _ => exact absurd e (hx _ _ _)
   | ret => rfl
 | loop keep b ih =>
  intro env st r e
  simp only [gevC] at e ⊢
  exact giter_mono (fun env st r e => ih e) hn e
theorem gevFn_mono {T : GTab} {c d : GCallF} (k : GLe c d) {n m : Nat} (hn : n ≤ m) {g : GFn} {us : List U} {h : GH} {lo : Nat} {r} (e : gevFn T n c g us h lo = some r) : gevFn T m d g us h lo = some r := by
 unfold gevFn at e ⊢
 split at e
 ·cases e
 ·rename_i hl
  rw [if_neg hl]
  split at e
  ·rename_i h1; rw [gevC_mono k hn h1]; exact e
  ·rename_i h1; rw [gevC_mono k hn h1]; exact e
  ·cases e
theorem grunT_succ (T : GTab) : ∀ n, GLe (grunT T n) (grunT T (n + 1))
 | 0 => fun f us h lo r e => by simp [grunT] at e
 | n + 1 => fun f us h lo r e => by
  simp only [grunT] at e ⊢
  split at e
  ·exact gevFn_mono (grunT_succ T n) (Nat.le_succ n) e
  ·cases e
theorem grunT_mono (T : GTab) {n m : Nat} (h : n ≤ m) : GLe (grunT T n) (grunT T m) := by
 induction m with
 | zero => obtain rfl : n = 0 := (by omega); exact fun _ _ _ _ _ e => e
 | succ m ih =>
  by_cases e : n = m + 1
  ·subst e; exact fun _ _ _ _ _ e => e
  ·exact fun f us h lo r e => grunT_succ T m f us h lo r (ih (by omega) f us h lo r e)
open Classical in
noncomputable def GF (T : GTab) : GCallF := fun f us h lo => if h : ∃ r n, grunT T n f us h lo = some r then some h.choose else none
theorem GF_iff {T : GTab} {f : Nat} {us : List U} {h : GH} {lo : Nat} {r : U × GH} : GF T f us h lo = some r ↔ ∃ n, grunT T n f us h lo = some r := by
 unfold GF
 constructor
 ·intro e
  split at e
  ·rename_i h; cases e; exact h.choose_spec
  ·cases e
 ·rintro ⟨n, hn⟩
  have h : ∃ r n, grunT T n f us h lo = some r := ⟨r, n, hn⟩
  rw [dif_pos h]
  obtain ⟨m, hm⟩ := h.choose_spec
  have h1 := grunT_mono T (Nat.le_max_left n m) _ _ _ _ _ hn
  have h2 := grunT_mono T (Nat.le_max_right n m) _ _ _ _ _ hm
  rw [h1] at h2
  exact h2.symm
theorem GF_run {T : GTab} {f : Nat} {us : List U} {h : GH} {lo : Nat} {r : U × GH} (n : Nat) (e : grunT T n f us h lo = some r) : GF T f us h lo = some r := GF_iff.2 ⟨n, e⟩
theorem gcall_F {T : GTab} {lo f : Nat} {us : List U} {h : GH} {r : U × GH} (e : gcall T (GF T) lo f us h = some r) : ∃ n, gcall T (grunT T n) lo f us h = some r := by
 unfold gcall at e
 split at e
 ·rename_i g hg
  split at e
  ·rename_i hm
   split at e
   ·rename_i ws b hs
    split at e
    ·rename_i w hx hw
     obtain ⟨n, hn⟩ := GF_iff.1 hw
     exact ⟨n, by simp only [gcall, hg, hm, hs, hn]; exact e⟩
    ·cases e
   ·cases e
  ·rename_i hm
   obtain ⟨n, hn⟩ := GF_iff.1 e
   exact ⟨n, by simp only [gcall, hg, hm, hn]⟩
  ·rename_i hm
   obtain ⟨n, hn⟩ := GF_iff.1 e
   exact ⟨n, by simp only [gcall, hg, hm, hn]⟩
 ·rename_i e' b hg
  exact ⟨0, by simp only [gcall, hg]; exact e⟩
 ·cases e
theorem grun_F {T : GTab} {fl : Fl} {lo : Nat} {dst : Option Nat} {o : IOp} {env : GEnv} {h : GH} {r : U × GEnv × GH} (e : o.grun T (GF T) fl lo dst env h = some r) : ∃ n, o.grun T (grunT T n) fl lo dst env h = some r := by
 cases o
 case call f args =>
  simp only [IOp.grun] at e ⊢
  obtain ⟨x, h1, h2⟩ := Option.map_eq_some_iff.1 e
  obtain ⟨n, hn⟩ := gcall_F h1
  exact ⟨n, by rw [hn]; exact congrArg some h2⟩
 case callv f args =>
  simp only [IOp.grun] at e ⊢
  split at e
  ·obtain ⟨x, h1, h2⟩ := Option.map_eq_some_iff.1 e
   obtain ⟨n, hn⟩ := gcall_F h1
   exact ⟨n, by rw [hn]; exact congrArg some h2⟩
  ·cases e
 all_goals exact ⟨0, e⟩
theorem gevReg_F {T : GTab} {fl : Fl} {lo : Nat} : ∀ {is : List IOper} {env : GEnv} {h : GH} {r}, gevReg T (GF T) fl lo is env h = some r → ∃ n, gevReg T (grunT T n) fl lo is env h = some r
 | [], env, h, r, e => ⟨0, e⟩
 | o :: os, env, h, r, e => by
  simp only [gevReg] at e
  split at e
  ·rename_i hg hw
   split at e
   ·rename_i v e1 s1 h1
    obtain ⟨n, h1⟩ := grun_F h1
    obtain ⟨m, h2⟩ := gevReg_F e
    refine ⟨max n m, ?_⟩
    simp only [gevReg, hg, hw]
    rw [grun_mono (grunT_mono T (Nat.le_max_left n m)) h1]
    exact gevReg_mono (grunT_mono T (Nat.le_max_right n m)) h2
   ·cases e
  ·rename_i hg hw
   obtain ⟨m, h2⟩ := gevReg_F e
   exact ⟨m, by simp only [gevReg, hg, hw]; exact h2⟩
  ·cases e
theorem gevRegD_F {T : GTab} {fl : Fl} {lo : Nat} : ∀ {is : List IOper} {env : GEnv} {h : GH} {acts ds ps r}, gevRegD T (GF T) fl lo is env h acts ds ps = some r → ∃ n, gevRegD T (grunT T n) fl lo is env h acts ds ps = some r
 | [], env, h, acts, ds, ps, r, e => ⟨0, e⟩
 | o :: os, env, h, acts, ds, ps, r, e => by
  simp only [gevRegD] at e
  split at e
  ·rename_i hg hw
   split at e
   ·rename_i v e1 s1 h1
    obtain ⟨n, h1⟩ := grun_F h1
    split at e
    ·rename_i hchk
     split at e
     all_goals
      rename_i hst
      obtain ⟨m, h2⟩ := gevRegD_F e
      refine ⟨max n m, ?_⟩
      simp only [gevRegD, hg, hw]
      rw [grun_mono (grunT_mono T (Nat.le_max_left n m)) h1]
      simp only [hchk, hst]
      exact gevRegD_mono (grunT_mono T (Nat.le_max_right n m)) h2
    ·rename_i a b hchk
     split at e
     ·rename_i hc
      obtain ⟨m, h2⟩ := gevRegD_F e
      refine ⟨max n m, ?_⟩
      simp only [gevRegD, hg, hw]
      rw [grun_mono (grunT_mono T (Nat.le_max_left n m)) h1]
      simp only [hchk]
      rw [if_pos hc]
      exact gevRegD_mono (grunT_mono T (Nat.le_max_right n m)) h2
     ·cases e
   ·cases e
  ·rename_i hg hw
   obtain ⟨m, h2⟩ := gevRegD_F e
   exact ⟨m, by simp only [gevRegD, hg, hw]; exact h2⟩
  ·cases e
def Y (T : GTab) (fl : Fl) (lo : Nat) (ic : IC) (env : GEnv) (h : GH) (Q : Ex → GEnv → GH → Prop) : Prop := ∃ e env' h', (∃ n, gevC T fl lo n (grunT T n) ic env h = some (e, env', h')) ∧ Q e env' h'
theorem Y_up {T : GTab} {fl : Fl} {lo : Nat} {ic : IC} {env : GEnv} {h : GH} {r} {n m : Nat} (e : gevC T fl lo n (grunT T n) ic env h = some r) (k : n ≤ m) : gevC T fl lo m (grunT T m) ic env h = some r := gevC_mono (grunT_mono T k) k e
section
variable {T : GTab} {fl : Fl} {lo : Nat} {env : GEnv} {h : GH} {Q : Ex → GEnv → GH → Prop}
theorem Y.mono {ic : IC} {R : Ex → GEnv → GH → Prop} (k : Y T fl lo ic env h R) (m : ∀ e env' h', R e env' h' → Q e env' h') : Y T fl lo ic env h Q := by
 obtain ⟨e, env', h', k1, k2⟩ := k
 exact ⟨e, env', h', k1, m _ _ _ k2⟩
theorem Y_skip (k : Q .norm env h) : Y T fl lo .skip env h Q := ⟨_, _, _, ⟨0, rfl⟩, k⟩
theorem Y_exit {id : Nat} (k : Q (.exit id) env h) : Y T fl lo (.exit id) env h Q := ⟨_, _, _, ⟨0, rfl⟩, k⟩
theorem Y_ret (k : Q .ret env h) : Y T fl lo .ret env h Q := ⟨_, _, _, ⟨0, rfl⟩, k⟩
theorem Y_reg {ops : List IOper} {env' : GEnv} {h' : GH} (e : gevReg T (GF T) fl lo ops env h = some (env', h')) (k : Q .norm env' h') : Y T fl lo (.reg ops) env h Q := by
 obtain ⟨n, e⟩ := gevReg_F e
 exact ⟨_, _, _, ⟨n, by simp only [gevC, e]⟩, k⟩
theorem Y_regD {ord : List Nat} {ops : List IOper} {env' : GEnv} {h' : GH} (e : gevRegD T (GF T) fl lo ops env h [] [] [] = some (env', h')) (k : Q .norm env' h') : Y T fl lo (.regD ord ops) env h Q := by
 obtain ⟨n, e⟩ := gevRegD_F e
 exact ⟨_, _, _, ⟨n, by simp only [gevC, e]⟩, k⟩
theorem Y_seq {a b : IC} (k : Y T fl lo a env h fun e env' h' => match e with | .norm => Y T fl lo b env' h' Q | e => Q e env' h') : Y T fl lo (.seq a b) env h Q := by
 obtain ⟨e, env1, h1, ⟨n, k1⟩, k2⟩ := k
 cases e with
 | norm =>
  obtain ⟨e, env2, h2, ⟨m, k3⟩, k4⟩ := k2
  refine ⟨e, env2, h2, ⟨max n m, ?_⟩, k4⟩
  simp only [gevC, Y_up k1 (Nat.le_max_left n m), Y_up k3 (Nat.le_max_right n m)]
 | exit id => exact ⟨_, _, _, ⟨n, by simp only [gevC, k1]⟩, k2⟩
 | ret => exact ⟨_, _, _, ⟨n, by simp only [gevC, k1]⟩, k2⟩
theorem Y_cond {c : Opd} {a b : IC} {x : Bool} (hc : c.gev env = .bool x) (k : Y T fl lo (if x then a else b) env h Q) : Y T fl lo (.cond c a b) env h Q := by
 obtain ⟨e, env1, h1, ⟨n, k1⟩, k2⟩ := k
 refine ⟨e, env1, h1, ⟨n, ?_⟩, k2⟩
 cases x
 ·simp only [gevC, hc]; exact k1
 ·simp only [gevC, hc]; exact k1
theorem Y_block {id : Nat} {b : IC} (k : Y T fl lo b env h fun e env' h' => match e with | .exit j => if j = id then Q .norm env' h' else Q (.exit j) env' h' | e => Q e env' h') : Y T fl lo (.block id b) env h Q := by
 obtain ⟨e, env1, h1, ⟨n, k1⟩, k2⟩ := k
 cases e with
 | norm => exact ⟨_, _, _, ⟨n, by simp only [gevC, k1]⟩, k2⟩
 | ret => exact ⟨_, _, _, ⟨n, by simp only [gevC, k1]⟩, k2⟩
 | exit j =>
  simp only at k2
  by_cases hj : j = id
  ·rw [if_pos hj] at k2; exact ⟨_, _, _, ⟨n, by simp only [gevC, k1, hj, if_true]⟩, k2⟩
  ·rw [if_neg hj] at k2; exact ⟨_, _, _, ⟨n, by simp only [gevC, k1, hj, if_false]⟩, k2⟩
theorem Y_loop {keep : List Nat} {b : IC} (k : Y T fl lo b (GEnv.keep env keep) h fun e env' h' => match e with | .norm => Y T fl lo (.loop keep b) env' h' Q | e => Q e env' h') : Y T fl lo (.loop keep b) env h Q := by
 obtain ⟨e, env1, h1, ⟨n, k1⟩, k2⟩ := k
 cases e with
 | norm =>
  obtain ⟨e, env2, h2, ⟨m, k3⟩, k4⟩ := k2
  refine ⟨e, env2, h2, ⟨max n m + 1, ?_⟩, k4⟩
  have h5 := Y_up k1 (show n ≤ max n m + 1 by omega)
  have h6 := Y_up k3 (show m ≤ max n m by omega)
  simp only [gevC] at h6 ⊢
  simp only [giter, h5]
  exact giter_mono (fun env st r e => gevC_mono (grunT_mono T (Nat.le_succ _)) (Nat.le_succ _) e) (Nat.le_refl _) h6
 | exit id =>
  have h5 := Y_up k1 (Nat.le_succ n)
  exact ⟨_, _, _, ⟨n + 1, by simp only [gevC, giter, h5]⟩, k2⟩
 | ret =>
  have h5 := Y_up k1 (Nat.le_succ n)
  exact ⟨_, _, _, ⟨n + 1, by simp only [gevC, giter, h5]⟩, k2⟩
end
inductive K where
 | c (a : IC)
 | blk (id : Nat)
 | again (A : GEnv → GH → Prop)
def post (T : GTab) (fl : Fl) (lo : Nat) (Q : GEnv → GH → Prop) : List K → Ex → GEnv → GH → Prop
 | [], e, env, h => (e = .norm ∨ e = .ret) ∧ Q env h
 | .c b :: ks, e, env, h => match e with
  | .norm => Y T fl lo b env h (post T fl lo Q ks)
  | e => post T fl lo Q ks e env h
 | .blk id :: ks, e, env, h => match e with
  | .exit j => if j = id then post T fl lo Q ks .norm env h else post T fl lo Q ks (.exit j) env h
  | e => post T fl lo Q ks e env h
 | .again A :: ks, e, env, h => match e with
  | .norm => A env h
  | e => post T fl lo Q ks e env h
def Z (T : GTab) (fl : Fl) (lo : Nat) (ks : List K) (env : GEnv) (h : GH) (Q : GEnv → GH → Prop) : Prop := post T fl lo Q ks .norm env h
def unw (id : Nat) : List K → List K
 | [] => [.c (.exit id)]
 | .blk j :: ks => if j = id then ks else unw id ks
 | _ :: ks => unw id ks
def nrm : Nat → List K → List K
 | 0, ks => ks
 | n + 1, .c (.seq a b) :: ks => nrm n (.c a :: .c b :: ks)
 | n + 1, .c .skip :: ks => nrm n ks
 | n + 1, .c (.block id b) :: ks => nrm n (.c b :: .blk id :: ks)
 | n + 1, .c (.exit id) :: ks => nrm n (unw id ks)
 | n + 1, .c .ret :: ks => []
 | n + 1, .blk id :: ks => nrm n ks
 | n + 1, ks => ks
section
variable {T : GTab} {fl : Fl} {lo : Nat} {env : GEnv} {h : GH} {Q : GEnv → GH → Prop}
theorem post_unw {id : Nat} : ∀ {ks : List K}, post T fl lo Q (unw id ks) .norm env h → post T fl lo Q ks (.exit id) env h
 | [], k => by
  simp only [unw, post] at k
  obtain ⟨e, env', h', ⟨n, k1⟩, k2⟩ := k
  simp only [gevC] at k1
  cases k1
  rcases k2.1 with h | h <;> cases h
 | .c _ :: ks, k => by simp only [unw] at k; simp only [post]; exact post_unw k
 | .again _ :: ks, k => by simp only [unw] at k; simp only [post]; exact post_unw k
 | .blk j :: ks, k => by
  simp only [unw] at k
  simp only [post]
  by_cases hj : j = id
  ·rw [if_pos hj] at k; rw [if_pos hj.symm]; exact k
  ·rw [if_neg hj] at k; rw [if_neg (fun e => hj e.symm)]; exact post_unw k
theorem post_ret : ∀ {ks : List K}, post T fl lo Q [] .norm env h → post T fl lo Q ks .ret env h
 | [], k => ⟨.inr rfl, k.2⟩
 | .c _ :: ks, k => by simp only [post]; exact post_ret k
 | .again _ :: ks, k => by simp only [post]; exact post_ret k
 | .blk j :: ks, k => by simp only [post]; exact post_ret k
theorem Z_nrm : ∀ (n : Nat) {ks : List K}, Z T fl lo (nrm n ks) env h Q → Z T fl lo ks env h Q
 | 0, ks, k => k
 | n + 1, [], k => k
 | n + 1, .blk id :: ks, k => by
  simp only [nrm] at k
  have k := Z_nrm n (ks := ks) k
  unfold Z at k ⊢
  simp only [post]
  exact k
 | n + 1, .again A :: ks, k => k
 | n + 1, .c (.seq a b) :: ks, k => by
  simp only [nrm] at k
  have k := Z_nrm n k
  unfold Z at k ⊢
  simp only [post] at k ⊢
  refine Y_seq (k.mono fun e env' h' m => ?_)
  cases e <;> simp only [post] at m ⊢ <;> exact m
 | n + 1, .c .skip :: ks, k => by simp only [nrm] at k; exact Y_skip (Z_nrm n k)
 | n + 1, .c (.block id b) :: ks, k => by
  simp only [nrm] at k
  have k := Z_nrm n k
  unfold Z at k ⊢
  simp only [post] at k ⊢
  refine Y_block (k.mono fun e env' h' m => ?_)
  cases e <;> simp only [post] at m ⊢ <;> exact m
 | n + 1, .c (.exit id) :: ks, k => by
  simp only [nrm] at k
  exact Y_exit (post_unw (Z_nrm n k))
 | n + 1, .c .ret :: ks, k => by
  simp only [nrm] at k
  exact Y_ret (post_ret k)
 | n + 1, .c (.reg _) :: ks, k => k
 | n + 1, .c (.regD _ _) :: ks, k => k
 | n + 1, .c (.cond _ _ _) :: ks, k => k
 | n + 1, .c (.loop _ _) :: ks, k => k
variable {ks ks' : List K}
theorem Zr {ops : List IOper} (hn : nrm 99 ks = .c (.reg ops) :: ks') {env' : GEnv} {h' : GH} (e : gevReg T (GF T) fl lo ops env h = some (env', h')) (k : Z T fl lo ks' env' h' Q) : Z T fl lo ks env h Q :=
 Z_nrm 99 (by rw [hn]; exact Y_reg e k)
theorem Zd {ord : List Nat} {ops : List IOper} (hn : nrm 99 ks = .c (.regD ord ops) :: ks') {env' : GEnv} {h' : GH} (e : gevRegD T (GF T) fl lo ops env h [] [] [] = some (env', h')) (k : Z T fl lo ks' env' h' Q) : Z T fl lo ks env h Q :=
 Z_nrm 99 (by rw [hn]; exact Y_regD e k)
theorem Zc {c : Opd} {a b : IC} (hn : nrm 99 ks = .c (.cond c a b) :: ks') {x : Bool} (hc : c.gev env = .bool x) (ht : x = true → Z T fl lo (.c a :: ks') env h Q) (he : x = false → Z T fl lo (.c b :: ks') env h Q) : Z T fl lo ks env h Q :=
 Z_nrm 99 (by rw [hn]; exact Y_cond hc (by cases x; exact he rfl; exact ht rfl))
theorem Zp {c : Opd} {a b : IC} (hn : nrm 99 ks = .c (.cond c a b) :: ks') {p : Prop} [Decidable p] (hc : c.gev env = .bool (decide p)) (ht : p → Z T fl lo (.c a :: ks') env h Q) (he : ¬ p → Z T fl lo (.c b :: ks') env h Q) : Z T fl lo ks env h Q :=
 Zc hn hc (fun e => ht (of_decide_eq_true e)) (fun e => he (of_decide_eq_false e))
theorem Zw {keep : List Nat} {b : IC} (hn : nrm 99 ks = .c (.loop keep b) :: ks') (I : Nat → GEnv → GH → Prop) (n : Nat) (h0 : I n env h)
  (hs : ∀ n env h, I n env h → Z T fl lo (.c b :: .again (fun env h => ∃ k, k < n ∧ I k env h) :: ks') (GEnv.keep env keep) h Q) : Z T fl lo ks env h Q := by
 refine Z_nrm 99 ?_
 rw [hn]
 have key : ∀ n env h, I n env h → Y T fl lo (.loop keep b) env h (post T fl lo Q ks') := by
  intro n
  induction n using Nat.strongRecOn with
  | ind n ih =>
   intro env h hI
   have := hs n env h hI
   unfold Z at this
   simp only [post] at this
   refine Y_loop (this.mono fun e env' h' m => ?_)
   cases e with
   | norm =>
    simp only [post] at m
    obtain ⟨k, hk, m⟩ := m
    exact ih k hk env' h' m
   | exit j => simp only [post] at m ⊢; exact m
   | ret => simp only [post] at m ⊢; exact m
 exact key n env h h0
theorem Zj {ic : IC} (hn : nrm 99 ks = .c ic :: ks') (P : GEnv → GH → Prop) (k1 : Z T fl lo (.c ic :: .again P :: ks') env h Q) (k2 : ∀ env h, P env h → Z T fl lo ks' env h Q) : Z T fl lo ks env h Q := by
 refine Z_nrm 99 ?_
 rw [hn]
 unfold Z at k1 k2 ⊢
 simp only [post] at k1 ⊢
 refine k1.mono fun e env' h' m => ?_
 cases e with
 | norm => exact k2 _ _ m
 | exit j => exact m
 | ret => exact m
theorem Za {A : GEnv → GH → Prop} (hn : nrm 99 ks = .again A :: ks') (k : A env h) : Z T fl lo ks env h Q := Z_nrm 99 (by rw [hn]; exact k)
theorem Zq (hn : nrm 99 ks = []) (k : Q env h) : Z T fl lo ks env h Q := Z_nrm 99 (by rw [hn]; exact ⟨.inl rfl, k⟩)
end
theorem GF_fn {T : GTab} {f : Nat} {g : GFn} (hg : T f = some (.code g)) {us : List U} {h h' : GH} {lo : Nat} {w : U} (hl : us.length = g.fn.params)
  (k : Z T g.fl lo [.c g.fn.body] (genvOf 0 us) h fun env h1 => ∃ vs, gres env h1 g.fn.results = some vs ∧ gfin g.mode vs h1 = some (w, h')) : GF T f us h lo = some (w, h') := by
 unfold Z at k
 simp only [post] at k
 obtain ⟨e, env1, h1, ⟨n, k1⟩, k2⟩ := k
 obtain ⟨he, vs, k3, k4⟩ := k2
 refine GF_iff.2 ⟨n + 1, ?_⟩
 simp only [grunT, hg]
 unfold gevFn
 rw [if_neg (by simp [hl]), k1]
 rcases he with rfl | rfl
 ·simp only [k3, k4]
 ·simp only [k3, k4]
theorem GF_fnR {T : GTab} {f : Nat} {g : GFn} (hg : T f = some (.code g)) {us : List U} {h : GH} {lo : Nat} {R : U → GH → Prop} (hl : us.length = g.fn.params)
  (k : Z T g.fl lo [.c g.fn.body] (genvOf 0 us) h fun env h1 => ∃ vs, gres env h1 g.fn.results = some vs ∧ ∃ w h', gfin g.mode vs h1 = some (w, h') ∧ R w h') : ∃ w h', GF T f us h lo = some (w, h') ∧ R w h' := by
 unfold Z at k
 simp only [post] at k
 obtain ⟨e, env1, h1, ⟨n, k1⟩, k2⟩ := k
 obtain ⟨he, vs, k3, w, h', k4, k5⟩ := k2
 refine ⟨w, h', GF_iff.2 ⟨n + 1, ?_⟩, k5⟩
 simp only [grunT, hg]
 unfold gevFn
 rw [if_neg (by simp [hl]), k1]
 rcases he with rfl | rfl
 ·simp only [k3, k4]
 ·simp only [k3, k4]
theorem law_F {T : GTab} {Tb : Tab} (hTb : TabSim T Tb) (hCl : CloneOk T Tb) {f : Nat} {us : List U} (e : GF T f us [] 0 = some (.bool true, [])) {st : St} {vs : List V} (low : st.Low) (hus : L2 (RV st (fun _ => False) []) us vs) (hno : ∀ u ∈ us, u.noOwn) :
  ∃ st', F Tb f vs st = some (.bool true, st') := by
 obtain ⟨n, hn⟩ := GF_iff.1 e
 obtain ⟨v, st', h1, X', α', ω', h2, h3, _⟩ := grunT_sim hTb hCl n f us [] 0 _ _ hn (fun _ _ _ => rfl) st (fun _ => False) [] (fun _ => none) vs
  ⟨low, rfl, (fun i j a b e => by simp at e), (fun i a e => by simp at e), (fun i a e => by simp at e), (fun k a b e => by simp at e)⟩ (fun o p _ e => by cases e) hus hno
 simp only [RV] at h3
 subst h3
 exact ⟨st', h1⟩
end Go.Ab
