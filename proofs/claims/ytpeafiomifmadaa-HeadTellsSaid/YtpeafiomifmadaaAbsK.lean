/- The program's functions as one function of numbers and values: what some number of steps comes to. -/
import Derived.Test.YtpeafiomifmadaaAbsJ
namespace Go.Ab
open Go
set_option linter.unusedVariables false
set_option linter.unusedSimpArgs false
abbrev Tab := Nat → Option IFn
def runT (T : Tab) : Nat → CallF
 | 0 => fun _ _ _ => none
 | n + 1 => fun f args st => match T f with
  | some i => evFn n (runT T n) i args st
  | none => none
def CLe (c d : CallF) : Prop := ∀ f args st r, c f args st = some r → d f args st = some r
theorem run_mono {c d : CallF} (h : CLe c d) {o : IOp} {env : Env} {st : St} {r : V × St} (e : o.run c env st = some r) : o.run d env st = some r := by
 cases hi : o.isCall with
 | false => rw [run_ex hi] at e ⊢; exact e
 | true =>
  cases o <;> simp only [IOp.isCall, Bool.false_eq_true] at hi
  case call f args => exact h _ _ _ _ e
  case callv f args =>
   simp only [IOp.run] at e ⊢
   split at e
   ·exact h _ _ _ _ e
   ·cases e
theorem evReg_mono {c d : CallF} (h : CLe c d) : ∀ {is : List IOper} {env : Env} {st : St} {r}, evReg c is env st = some r → evReg d is env st = some r
 | [], env, st, r, e => e
 | o :: os, env, st, r, e => by
  simp only [evReg] at e ⊢
  split at e
  ·split at e
   ·rename_i h1
    rw [run_mono h h1]; exact evReg_mono h e
   ·cases e
  ·exact evReg_mono h e
  ·cases e
theorem evRegD_mono {c d : CallF} (h : CLe c d) : ∀ {is : List IOper} {env : Env} {st : St} {sts cs r}, evRegD c is env st sts cs = some r → evRegD d is env st sts cs = some r
 | [], env, st, sts, cs, r, e => e
 | o :: os, env, st, sts, cs, r, e => by
  simp only [evRegD] at e ⊢
  split at e
  ·split at e
   ·rename_i h1
    rw [run_mono h h1]; exact evRegD_mono h e
   ·cases e
  ·exact evRegD_mono h e
  ·cases e
theorem iter_mono {f g : Env → St → Res} (h : ∀ env st r, f env st = some r → g env st = some r) : ∀ {n m : Nat} {env : Env} {st : St} {r}, n ≤ m → iter f n env st = some r → iter g m env st = some r
 | 0, m, env, st, r, hn, e => by simp [iter] at e
 | n + 1, 0, env, st, r, hn, e => by omega
 | n + 1, m + 1, env, st, r, hn, e => by
  simp only [iter] at e ⊢
  split at e
  ·rename_i h1
   rw [h _ _ _ h1]; exact iter_mono h (by omega) e
  ·rename_i hx
   rw [h _ _ _ e]
   obtain ⟨e1, e2, e3⟩ := r
   cases e1 with
   | norm => exact absurd e (hx _ _)
   | exit _ => rfl
   | ret => rfl
theorem evC_mono {c d : CallF} (h : CLe c d) {n m : Nat} (hn : n ≤ m) : ∀ {ic : IC} {env : Env} {st : St} {r}, evC n c ic env st = some r → evC m d ic env st = some r := by
 intro ic
 induction ic with
 | skip => intro env st r e; exact e
 | exit id => intro env st r e; exact e
 | ret => intro env st r e; exact e
 | reg ops =>
  intro env st r e
  simp only [evC] at e ⊢
  split at e
  ·rename_i h1; rw [evReg_mono h h1]; exact e
  ·cases e
 | regD ord ops =>
  intro env st r e
  simp only [evC] at e ⊢
  split at e
  ·rename_i h1; rw [evRegD_mono h h1]; exact e
  ·cases e
 | seq a b iha ihb =>
  intro env st r e
  simp only [evC] at e ⊢
  split at e
  ·rename_i h1; rw [iha h1]; exact ihb e
  ·rename_i hx
   rw [iha e]
   obtain ⟨e1, e2, e3⟩ := r
   cases e1 with
   | norm => exact absurd e (hx _ _)
   | exit _ => rfl
   | ret => rfl
 | cond x a b iha ihb =>
  intro env st r e
  simp only [evC] at e ⊢
  split at e
  ·exact iha e
  ·exact ihb e
  ·cases e
 | block id b ih =>
  intro env st r e
  simp only [evC] at e ⊢
  split at e
  ·rename_i h1; rw [ih h1]; exact e
  ·rename_i hx
   rw [ih e]
   obtain ⟨e1, e2, e3⟩ := r
   cases e1 with
   | norm => rfl
   | exit _ => exact absurd e (hx _ _ _)
   | ret => rfl
 | loop keep b ih =>
  intro env st r e
  simp only [evC] at e ⊢
  exact iter_mono (fun env st r e => ih e) hn e
theorem evFn_mono {c d : CallF} (h : CLe c d) {n m : Nat} (hn : n ≤ m) {i : IFn} {args : List V} {st : St} {r} (e : evFn n c i args st = some r) : evFn m d i args st = some r := by
 unfold evFn at e ⊢
 split at e
 ·cases e
 ·rename_i hl
  rw [if_neg hl]
  split at e
  ·rename_i h1; rw [evC_mono h hn h1]; exact e
  ·rename_i h1; rw [evC_mono h hn h1]; exact e
  ·cases e
theorem runT_succ (T : Tab) : ∀ n, CLe (runT T n) (runT T (n + 1))
 | 0 => fun f args st r e => by cases e
 | n + 1 => fun f args st r e => by
  simp only [runT] at e ⊢
  split at e
  ·rename_i hi; exact evFn_mono (runT_succ T n) (Nat.le_succ n) e
  ·cases e
theorem runT_mono (T : Tab) {n m : Nat} (h : n ≤ m) : CLe (runT T n) (runT T m) := by
 induction m with
 | zero => obtain rfl : n = 0 := (by omega); exact fun _ _ _ _ e => e
 | succ m ih =>
  by_cases e : n = m + 1
  ·subst e; exact fun _ _ _ _ e => e
  ·exact fun f args st r e => runT_succ T m f args st r (ih (by omega) f args st r e)
open Classical in
noncomputable def F (T : Tab) : CallF := fun f args st => if h : ∃ r n, runT T n f args st = some r then some h.choose else none
theorem F_iff {T : Tab} {f : Nat} {args : List V} {st : St} {r : V × St} : F T f args st = some r ↔ ∃ n, runT T n f args st = some r := by
 unfold F
 constructor
 ·intro e
  split at e
  ·rename_i h; cases e; exact h.choose_spec
  ·cases e
 ·rintro ⟨n, hn⟩
  have h : ∃ r n, runT T n f args st = some r := ⟨r, n, hn⟩
  rw [dif_pos h]
  obtain ⟨m, hm⟩ := h.choose_spec
  have h1 := runT_mono T (Nat.le_max_left n m) _ _ _ _ hn
  have h2 := runT_mono T (Nat.le_max_right n m) _ _ _ _ hm
  rw [h1] at h2
  exact h2.symm
theorem F_le {T : Tab} (n : Nat) : CLe (runT T n) (F T) := fun f args st r e => F_iff.2 ⟨n, e⟩
theorem run_F {T : Tab} {o : IOp} {env : Env} {st : St} {r : V × St} (e : o.run (F T) env st = some r) : ∃ n, o.run (runT T n) env st = some r := by
 cases hi : o.isCall with
 | false => rw [run_ex hi] at e; exact ⟨0, by rw [run_ex hi]; exact e⟩
 | true =>
  cases o <;> simp only [IOp.isCall, Bool.false_eq_true] at hi
  case call f args => exact F_iff.1 e
  case callv f args =>
   simp only [IOp.run] at e ⊢
   split at e
   ·exact F_iff.1 e
   ·cases e
theorem evReg_F {T : Tab} : ∀ {is : List IOper} {env : Env} {st : St} {r}, evReg (F T) is env st = some r → ∃ n, evReg (runT T n) is env st = some r
 | [], env, st, r, e => ⟨0, e⟩
 | o :: os, env, st, r, e => by
  simp only [evReg] at e
  split at e
  ·rename_i hg hw
   split at e
   ·rename_i v s1 h1
    obtain ⟨n, h1⟩ := run_F h1
    obtain ⟨m, h2⟩ := evReg_F e
    refine ⟨max n m, ?_⟩
    simp only [evReg, hg, hw]
    rw [run_mono (runT_mono T (Nat.le_max_left n m)) h1]
    exact evReg_mono (runT_mono T (Nat.le_max_right n m)) h2
   ·cases e
  ·rename_i hg hw
   obtain ⟨m, h2⟩ := evReg_F e
   exact ⟨m, by simp only [evReg, hg, hw]; exact h2⟩
  ·cases e
theorem evRegD_F {T : Tab} : ∀ {is : List IOper} {env : Env} {st : St} {sts cs r}, evRegD (F T) is env st sts cs = some r → ∃ n, evRegD (runT T n) is env st sts cs = some r
 | [], env, st, sts, cs, r, e => ⟨0, e⟩
 | o :: os, env, st, sts, cs, r, e => by
  simp only [evRegD] at e
  split at e
  ·rename_i hg hw
   split at e
   ·rename_i v s1 h1
    obtain ⟨n, h1⟩ := run_F h1
    obtain ⟨m, h2⟩ := evRegD_F e
    refine ⟨max n m, ?_⟩
    simp only [evRegD, hg, hw]
    rw [run_mono (runT_mono T (Nat.le_max_left n m)) h1]
    exact evRegD_mono (runT_mono T (Nat.le_max_right n m)) h2
   ·cases e
  ·rename_i hg hw
   obtain ⟨m, h2⟩ := evRegD_F e
   exact ⟨m, by simp only [evRegD, hg, hw]; exact h2⟩
  ·cases e
def W (T : Tab) (ic : IC) (env : Env) (st : St) (r : Ex × Env × St) : Prop := ∃ n, evC n (runT T n) ic env st = some r
def X (T : Tab) (ic : IC) (env : Env) (st : St) (Q : Ex → Env → St → Prop) : Prop := ∃ e env' st', W T ic env st (e, env', st') ∧ Q e env' st'
theorem W_up {T : Tab} {ic : IC} {env : Env} {st : St} {r} {n m : Nat} (e : evC n (runT T n) ic env st = some r) (h : n ≤ m) : evC m (runT T m) ic env st = some r := evC_mono (runT_mono T h) h e
section
variable {T : Tab} {env : Env} {st : St} {Q : Ex → Env → St → Prop}
theorem X.mono {ic : IC} {R : Ex → Env → St → Prop} (h : X T ic env st R) (k : ∀ e env' st', R e env' st' → Q e env' st') : X T ic env st Q :=
 let ⟨e, env', st', h1, h2⟩ := h
 ⟨e, env', st', h1, k _ _ _ h2⟩
theorem X_skip (h : Q .norm env st) : X T .skip env st Q := ⟨_, _, _, ⟨0, rfl⟩, h⟩
theorem X_exit {id : Nat} (h : Q (.exit id) env st) : X T (.exit id) env st Q := ⟨_, _, _, ⟨0, rfl⟩, h⟩
theorem X_ret (h : Q .ret env st) : X T .ret env st Q := ⟨_, _, _, ⟨0, rfl⟩, h⟩
theorem X_reg {ops : List IOper} {env' : Env} {st' : St} (h : evReg (F T) ops env st = some (env', st')) (k : Q .norm env' st') : X T (.reg ops) env st Q := by
 obtain ⟨n, hn⟩ := evReg_F h
 exact ⟨_, _, _, ⟨n, by simp only [evC, hn]⟩, k⟩
theorem X_regD {ord : List Nat} {ops : List IOper} {env' : Env} {st' : St} (h : evRegD (F T) ops env st [] [] = some (env', st')) (k : Q .norm env' st') : X T (.regD ord ops) env st Q := by
 obtain ⟨n, hn⟩ := evRegD_F h
 exact ⟨_, _, _, ⟨n, by simp only [evC, hn]⟩, k⟩
def thn (T : Tab) (b : IC) (Q : Ex → Env → St → Prop) : Ex → Env → St → Prop
 | .norm, env, st => X T b env st Q
 | e, env, st => Q e env st
def inb (id : Nat) (Q : Ex → Env → St → Prop) : Ex → Env → St → Prop
 | .exit j, env, st => if j = id then Q .norm env st else Q (.exit j) env st
 | e, env, st => Q e env st
theorem thn_norm {b : IC} (h : X T b env st Q) : thn T b Q .norm env st := h
theorem thn_exit {b : IC} {j : Nat} (h : Q (.exit j) env st) : thn T b Q (.exit j) env st := h
theorem thn_ret {b : IC} (h : Q .ret env st) : thn T b Q .ret env st := h
theorem inb_norm {id : Nat} (h : Q .norm env st) : inb id Q .norm env st := h
theorem inb_ret {id : Nat} (h : Q .ret env st) : inb id Q .ret env st := h
theorem inb_hit {id : Nat} (h : Q .norm env st) : inb id Q (.exit id) env st := by simp only [inb, if_true]; exact h
theorem inb_miss {id j : Nat} (hj : j ≠ id) (h : Q (.exit j) env st) : inb id Q (.exit j) env st := by simp only [inb, hj, if_false]; exact h
theorem X_seq {a b : IC} (h : X T a env st (thn T b Q)) : X T (.seq a b) env st Q := by
 obtain ⟨e, env1, st1, ⟨n, h1⟩, h2⟩ := h
 cases e with
 | norm =>
  obtain ⟨e, env2, st2, ⟨m, h3⟩, h4⟩ := h2
  refine ⟨e, env2, st2, ⟨max n m, ?_⟩, h4⟩
  simp only [evC]
  rw [W_up h1 (Nat.le_max_left n m)]
  exact W_up h3 (Nat.le_max_right n m)
 | exit id => exact ⟨_, _, _, ⟨n, by simp only [evC, h1]⟩, h2⟩
 | ret => exact ⟨_, _, _, ⟨n, by simp only [evC, h1]⟩, h2⟩
theorem X_true {c : Opd} {a b : IC} (hc : c.ev env = .bool true) (h : X T a env st Q) : X T (.cond c a b) env st Q := by
 obtain ⟨e, env1, st1, ⟨n, h1⟩, h2⟩ := h
 exact ⟨e, env1, st1, ⟨n, by simp only [evC, hc]; exact h1⟩, h2⟩
theorem X_false {c : Opd} {a b : IC} (hc : c.ev env = .bool false) (h : X T b env st Q) : X T (.cond c a b) env st Q := by
 obtain ⟨e, env1, st1, ⟨n, h1⟩, h2⟩ := h
 exact ⟨e, env1, st1, ⟨n, by simp only [evC, hc]; exact h1⟩, h2⟩
theorem X_cond {c : Opd} {a b : IC} {x : Bool} (hc : c.ev env = .bool x) (h : X T (if x then a else b) env st Q) : X T (.cond c a b) env st Q := by
 cases x
 ·exact X_false hc h
 ·exact X_true hc h
theorem X_block {id : Nat} {b : IC} (h : X T b env st (inb id Q)) : X T (.block id b) env st Q := by
 obtain ⟨e, env1, st1, ⟨n, h1⟩, h2⟩ := h
 cases e with
 | norm => exact ⟨_, _, _, ⟨n, by simp only [evC, h1]⟩, h2⟩
 | ret => exact ⟨_, _, _, ⟨n, by simp only [evC, h1]⟩, h2⟩
 | exit j =>
  simp only [inb] at h2
  by_cases hj : j = id
  ·rw [if_pos hj] at h2; exact ⟨_, _, _, ⟨n, by simp only [evC, h1, hj, if_true]⟩, h2⟩
  ·rw [if_neg hj] at h2; exact ⟨_, _, _, ⟨n, by simp only [evC, h1, hj, if_false]⟩, h2⟩
theorem X_loop {keep : List Nat} {b : IC} (h : X T b (Env.keep env keep) st (thn T (.loop keep b) Q)) : X T (.loop keep b) env st Q := by
 obtain ⟨e, env1, st1, ⟨n, h1⟩, h2⟩ := h
 cases e with
 | norm =>
  obtain ⟨e, env2, st2, ⟨m, h3⟩, h4⟩ := h2
  refine ⟨e, env2, st2, ⟨max n m + 1, ?_⟩, h4⟩
  have h5 := W_up h1 (show n ≤ max n m + 1 by omega)
  have h6 := W_up h3 (show m ≤ max n m by omega)
  simp only [evC] at h6 ⊢
  simp only [iter, h5]
  exact iter_mono (fun env st r e => evC_mono (runT_mono T (Nat.le_succ _)) (Nat.le_succ _) e) (Nat.le_refl _) h6
 | exit id =>
  have h5 := W_up h1 (Nat.le_succ n)
  exact ⟨_, _, _, ⟨n + 1, by simp only [evC, iter, h5]⟩, h2⟩
 | ret =>
  have h5 := W_up h1 (Nat.le_succ n)
  exact ⟨_, _, _, ⟨n + 1, by simp only [evC, iter, h5]⟩, h2⟩
theorem X_while {keep : List Nat} {b : IC} (I : Nat → Env → St → Prop) (n : Nat) (h0 : I n env st)
  (hs : ∀ n env st (K : Ex → Env → St → Prop), (∀ k env' st', k < n → I k env' st' → K .norm env' st') → (∀ e env' st', e ≠ .norm → Q e env' st' → K e env' st') → I n env st → X T b (Env.keep env keep) st K) : X T (.loop keep b) env st Q := by
 have key : ∀ n env st, I n env st → X T (.loop keep b) env st Q := by
  intro n
  induction n using Nat.strongRecOn with
  | ind n ih =>
   intro env st h
   refine X_loop (hs n env st _ (fun k env' st' hk h => ih k hk env' st' h) (fun e env' st' he hq => ?_) h)
   cases e with
   | norm => exact absurd rfl he
   | exit j => exact hq
   | ret => exact hq
 exact key n env st h0
end
theorem F_fn {T : Tab} {f : Nat} {i : IFn} (hi : T f = some i) {args : List V} {st st' : St} {v : V} (hl : args.length = i.params)
  (h : X T i.body (envOf 0 args) st fun e env st2 => (e = .norm ∨ e = .ret) ∧ st2 = st' ∧ ∃ vs, evRes env st2 i.results = some vs ∧ ofRes vs = v) : F T f args st = some (v, st') := by
 obtain ⟨e, env1, st1, ⟨n, h1⟩, he, rfl, vs, h2, rfl⟩ := h
 refine F_iff.2 ⟨n + 1, ?_⟩
 simp only [runT, hi]
 unfold evFn
 rw [if_neg (by simp [hl]), h1]
 rcases he with rfl | rfl
 ·simp only [h2, Option.map_some]
 ·simp only [h2, Option.map_some]
theorem F_fnR {T : Tab} {f : Nat} {i : IFn} (hi : T f = some i) {args : List V} {st : St} {R : V → St → Prop} (hl : args.length = i.params)
  (h : X T i.body (envOf 0 args) st fun e env st2 => (e = .norm ∨ e = .ret) ∧ ∃ vs, evRes env st2 i.results = some vs ∧ R (ofRes vs) st2) : ∃ v st', F T f args st = some (v, st') ∧ R v st' := by
 obtain ⟨e, env1, st1, hw, he, vs, h2, h3⟩ := h
 exact ⟨_, st1, F_fn hi hl ⟨e, env1, st1, hw, he, rfl, vs, h2, rfl⟩, h3⟩
def TabOk (P : Program) (T : Tab) : Prop := ∀ f i, T f = some i → ∃ fn t, P.funcs[f]? = some fn ∧ fnOf P fn t = some i
theorem runT_ok {P : Program} {B : Nat} {T : Tab} (hT : TabOk P T) (hm : P.follows .mixedOrders = true) : ∀ n, CallOk P B (runT T n)
 | 0 => ⟨fun f args st v st' e => (by cases e), fun f args st v st' e => (by cases e), fun f args st v st' e => (by cases e)⟩
 | n + 1 => by
  have hC := runT_ok (B := B) hT hm n
  have key : ∀ f args st v st', runT T (n + 1) f args st = some (v, st') → ∃ fn t i, P.funcs[f]? = some fn ∧ fnOf P fn t = some i ∧ evFn n (runT T n) i args st = some (v, st') := by
   intro f args st v st' e
   simp only [runT] at e
   split at e
   ·rename_i i hi
    obtain ⟨fn, t, h1, h2⟩ := hT f i hi
    exact ⟨fn, t, i, h1, h2, e⟩
   ·cases e
  refine ⟨fun f args st v st' e l => ?_, fun f args st v st' e => ?_, fun f args st v st' e φ w cargs hR hL hF hA => ?_⟩
  ·obtain ⟨fn, t, i, h1, h2, h3⟩ := key _ _ _ _ _ e
   exact (fn_good hC hm h1 h2 h3).1 l
  ·obtain ⟨fn, t, i, h1, h2, h3⟩ := key _ _ _ _ _ e
   exact (fn_good hC hm h1 h2 h3).2.1
  ·obtain ⟨fn, t, i, h1, h2, h3⟩ := key _ _ _ _ _ e
   exact (fn_good hC hm h1 h2 h3).2.2 hR hL hF hA
theorem F_calls {P : Program} {B : Nat} {T : Tab} (hT : TabOk P T) (hm : P.follows .mixedOrders = true) {f : Nat} {args : List V} {st st' : St} {v : V} (h : F T f args st = some (v, st')) {φ : Phi} {w : World} {cargs : Array Value} (hR : Rep B φ st w) (hL : st.Low) (hF : Free φ st st') (hA : VRs φ args cargs.toList) :
  Calls P f cargs w (fun e w' => ∃ u ψ, e = .returned u ∧ Ext B φ st w ψ st' w' ∧ VR ψ v u) := by
 obtain ⟨n, hn⟩ := F_iff.1 h
 exact (runT_ok hT hm n).runs _ _ _ _ _ hn φ w cargs hR hL hF hA
end Go.Ab
