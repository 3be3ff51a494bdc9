/- Calls, and regions in the order of the text. -/
import Derived.Test.YtpeafiomifmadaaAbsC
import Derived.Orders
namespace Go.Ab
open Go
set_option linter.unusedVariables false
set_option linter.unusedSimpArgs false
def Callable (P : Program) (f : FuncId) : Prop := ∃ fn, P.funcs[f]? = some fn ∧ fn.body.isNone = false ∧ (fn.name == "runtime.NumGoroutine") = false
structure CallOk (P : Program) (B : Nat) (call : CallF) : Prop where
  step : ∀ f args st v st', call f args st = some (v, st') → st.Low → St.Step st st'
  able : ∀ f args st v st', call f args st = some (v, st') → Callable P f
  runs : ∀ f args st v st', call f args st = some (v, st') → ∀ φ w (cargs : Array Value), Rep B φ st w → st.Low → Free φ st st' → VRs φ args cargs.toList →
    Calls P f cargs w (fun e w' => ∃ u ψ, e = .returned u ∧ Ext B φ st w ψ st' w' ∧ VR ψ v u)
theorem run_step {P : Program} {B : Nat} {call : CallF} (hC : CallOk P B call) {i : IOp} {env : Env} {st st' : St} (l : st.Low) {v : V} (he : i.run call env st = some (v, st')) : St.Step st st' := by
  cases hi : i.isCall with
  | false => rw [run_ex hi] at he; exact ex_step l he
  | true =>
    cases i <;> simp only [IOp.isCall, Bool.false_eq_true] at hi
    case call f args => exact hC.step _ _ _ _ _ he l
    case callv f args =>
      simp only [IOp.run] at he
      split at he
      · exact hC.step _ _ _ _ _ he l
      · cases he
theorem run_callFunc {P : Program} {w : World} {f : FuncId} {args : Array Value} (h : Callable P f) : (callFunc f args).run P w = .ok (.enter f args) w := by
  obtain ⟨fn, h1, h2, h3⟩ := h
  unfold callFunc
  simp only [Sem.run_bind, run_program, Result.andThen_ok, h1, h3, Bool.false_eq_true, if_false, h2, Sem.run_pure]
theorem op_wp {P : Program} {B : Nat} {call : CallF} (hC : CallOk P B call) {φ : Phi} {st st' : St} {w : World} (hR : Rep B φ st w) (hLow : st.Low) (hF : Free φ st st') {env : Env} {a : Act} (hE : ER φ env a.tmps) {o : Oper} {i : IOp} (hc : opOf P o = some i) {v : V} (he : i.run call env st = some (v, st'))
    {K : Act → World → Prop} {Q : Exit → Act → World → Prop} (hK : ∀ u w' ψ, Ext B φ st w ψ st' w' → VR ψ v u → True → K (a.put o.dst u) w') : o.wp P a w K Q := by
  cases hi : i.isCall with
  | false =>
    rw [run_ex hi] at he
    obtain ⟨nx, w', ψ, h1, h2, h3, h4⟩ := (ex_sound hR (fun x e => Room.of (x := x) hLow (e ▸ hF)) hE hc hi he).out
    unfold Oper.wp
    rw [h1]
    cases nx <;> simp only [Came] at h3
    · exact hK _ _ _ h2 h3 trivial
    · exact hK _ _ _ h2 h3 trivial
  | true =>
    have fin : ∀ {f : FuncId} {args : List V} {cargs : Array Value}, call f args st = some (v, st') → VRs φ args cargs.toList → (execOp a.eval o).run P w = .ok (.enter f cargs) w → o.wp P a w K Q := by
      intro f args cargs h1 h2 h3
      unfold Oper.wp
      rw [h3]
      refine (hC.runs _ _ _ _ _ h1 φ w cargs hR hLow hF h2).mono fun e w' he => ?_
      obtain ⟨u, ψ, rfl, q1, q2⟩ := he
      exact hK u w' ψ q1 q2 trivial
    obtain ⟨c, hop⟩ : ∃ c, o.op = .call c := by
      unfold opOf at hc
      split at hc
      all_goals first
        | (rename_i c hop; exact ⟨c, hop⟩)
        | (exfalso
           repeat' split at hc
           all_goals first
             | (cases hc; done)
             | (cases hc; simp [IOp.isCall] at hi; done)
             | (rw [Option.map_eq_some_iff] at hc; obtain ⟨_, _, rfl⟩ := hc; simp [IOp.isCall] at hi; done))
    unfold opOf at hc
    rw [hop] at hc
    simp only at hc
    unfold callOf at hc
    split at hc
    · rename_i f hcal
      rw [Option.map_eq_some_iff] at hc; obtain ⟨l, hl, rfl⟩ := hc
      simp only [IOp.run] at he
      refine fin (cargs := c.args.map a.eval) he (by rw [opds_list]; exact opdsOf_VR hE hl) ?_
      simp only [execOp, hop, resolve, hcal, Act.eval, Deferred.ofValue, Sem.run_bind, Sem.run_pure, Result.andThen_ok, invoke, Array.append_empty, Array.empty_append]
      exact run_callFunc (hC.able _ _ _ _ _ he)
    · rename_i x hcal
      split at hc
      · rename_i y l hy hl
        cases hc
        simp only [IOp.run] at he
        have hv := opdOf_VR hE hy
        split at he
        · rename_i g first captured hyv
          rw [hyv] at hv
          simp only [VR] at hv
          obtain ⟨a', c', hp, h1, h2⟩ := hv
          refine fin (cargs := a' ++ c.args.map a.eval ++ c') he (by
            rw [Array.toList_append, Array.toList_append, opds_list]
            exact VRs_append (VRs_append h1 (opdsOf_VR hE hl)) h2) ?_
          simp only [execOp, hop, resolve, hcal, hp, Deferred.ofValue, Sem.run_bind, Sem.run_pure, Result.andThen_ok, invoke]
          exact run_callFunc (hC.able _ _ _ _ _ he)
        · cases he
      · cases hc
    · cases hc
    all_goals
      repeat' split at hc
      all_goals first
        | (cases hc; done)
        | (cases hc; simp [IOp.isCall] at hi; done)
        | (rw [Option.map_eq_some_iff] at hc; obtain ⟨_, _, rfl⟩ := hc; simp [IOp.isCall] at hi; done)
theorem guard_wanted {φ : Phi} {ops : Array Oper} {g : Option (Nat × Bool)} {h : Option (Nat × Bool)} (hg : guardOf ops g = some h) {env : Env} {tmps : Array Value} (hE : ∀ t b, h = some (t, b) → VR φ (Env.get env t) (tmps.getD t undef)) (hok : guardOk env h = true) {o : Oper} (ho : o.guard = g) :
    Region.wanted o (yielded ops tmps) = wantedI env h := by
  unfold Region.wanted
  rw [ho]
  cases g with
  | none => simp only [guardOf, Option.some.injEq] at hg; subst hg; rfl
  | some p =>
    obtain ⟨j, b⟩ := p
    simp only [guardOf] at hg
    split at hg
    · rename_i d hd
      cases hg
      simp only [wantedI, guardOk] at hok ⊢
      have hv := hE d b rfl
      unfold yielded
      simp only [hd, Option.bind_some]
      have hgd : tmps.getD d undef = (tmps[d]?).getD undef := by simp
      rw [hgd] at hv
      cases hx : tmps[d]? with
      | none =>
        rw [hx] at hv
        simp only [Option.getD_none, undef] at hv
        cases he : Env.get env d <;> rw [he] at hv hok <;> simp only [VR, reduceCtorEq, Bool.false_eq_true] at hv hok ⊢
        all_goals first
          | rfl
          | (exfalso; obtain ⟨_, h, _⟩ := hv; cases h; done)
          | (exfalso; obtain ⟨_, _, h⟩ := hv; cases h; done)
          | (exfalso; simp at hv; done)
          | (simp; done)
      | some u =>
        rw [hx] at hv
        simp only [Option.getD_some] at hv
        cases he : Env.get env d <;> rw [he] at hv hok <;> simp only [VR, reduceCtorEq, Bool.false_eq_true] at hv hok ⊢
        all_goals first
          | (subst hv; rfl)
          | (obtain ⟨rfl, _⟩ := hv; rfl)
          | (obtain ⟨_, rfl, _⟩ := hv; rfl)
          | (obtain ⟨_, _, rfl, _⟩ := hv; rfl)
          | (obtain ⟨_, _, rfl⟩ := hv; rfl)
          | (obtain ⟨_, _, _, _, _, rfl, _⟩ := hv; rfl)
    · cases hg
theorem ER_put {φ : Phi} {env : Env} {a : Act} {d : Option Nat} {v : V} {u : Value} {n : Nat} (hE : ER φ env a.tmps) (hn : a.tmps.size = n) (hd : d.all (· < n) = true) (hv : VR φ v u) : ER φ (Env.put env d v) (a.put d u).tmps ∧ (a.put d u).tmps.size = n ∧ (a.put d u).defers = a.defers := by
  cases d with
  | none => exact ⟨hE, hn, rfl⟩
  | some d =>
    simp only [Option.all_some, decide_eq_true_eq] at hd
    refine ⟨fun k => ?_, by simpa [Act.put] using hn, rfl⟩
    simp only [Env.put, Env.get, Act.put]
    by_cases h : d = k
    · subst h
      rw [if_pos rfl]
      have : (a.tmps.setIfInBounds d u).getD d undef = u := by simp [hn, hd]
      rw [this]; exact hv
    · rw [if_neg h]
      have : (a.tmps.setIfInBounds d u).getD k undef = a.tmps.getD k undef := by simp [Array.getElem?_setIfInBounds_ne h]
      rw [this]; exact hE k
theorem VR_undef {φ : Phi} : VR φ (.tup []) undef := by simp only [VR, undef]; exact ⟨#[], rfl, by rw [VRs_nil]⟩
theorem evReg_step {P : Program} {B : Nat} {call : CallF} (hC : CallOk P B call) : ∀ {is : List IOper} {env env' : Env} {st st' : St}, st.Low → evReg call is env st = some (env', st') → St.Step st st'
  | [], env, env', st, st', l, h => by simp only [evReg, Option.some.injEq, Prod.mk.injEq] at h; rw [h.2]; exact .refl _
  | o :: os, env, env', st, st', l, h => by
    simp only [evReg] at h
    split at h
    · split at h
      · rename_i v s1 h1
        have s := run_step hC l h1
        exact s.trans (evReg_step hC (s.low l) h)
      · cases h
    · exact evReg_step hC l h
    · cases h
theorem Free.less {φ : Phi} {a b c : St} (h : Free φ a c) (s : St.Step b c) : Free φ a b := fun o g h1 h2 => h o g h1 (Nat.lt_of_lt_of_le h2 s.next)
theorem reg_wp {P : Program} {B : Nat} {call : CallF} (hC : CallOk P B call) {n : Nat} {ops : Array Oper} {Q : Exit → Act → World → Prop} : ∀ {l : List Oper} {is : List IOper}, opersOf P n ops l = some is → ∀ {env env' : Env} {st st' : St}, evReg call is env st = some (env', st') → ∀ {φ : Phi} {a : Act} {w : World}, Rep B φ st w → st.Low → Free φ st st' → ER φ env a.tmps → a.tmps.size = n →
    (∀ a' w' ψ, Ext B φ st w ψ st' w' → ER ψ env' a'.tmps → a'.tmps.size = n → a'.defers = a.defers → Q .normal a' w') → wpList P ops Q l a w
  | [], is, h, env, env', st, st', he, φ, a, w, hR, hL, hF, hE, hn, hQ => by
    simp only [opersOf, Option.some.injEq] at h; subst h
    simp only [evReg, Option.some.injEq, Prod.mk.injEq] at he
    obtain ⟨rfl, rfl⟩ := he
    exact hQ a w φ (Ext.refl hR) hE hn rfl
  | o :: l, is, h, env, env', st, st', he, φ, a, w, hR, hL, hF, hE, hn, hQ => by
    simp only [opersOf] at h
    split at h
    · rename_i i is' hi his
      cases h
      unfold operOf at hi
      split at hi
      · rename_i iop g hop hg
        split at hi
        · rename_i hd
          cases hi
          simp only [evReg] at he
          unfold wpList
          split at he
          · rename_i hok hw
            have hwt := guard_wanted (φ := φ) (tmps := a.tmps) hg (fun t b _ => hE t) hok rfl
            rw [hw] at hwt
            rw [if_pos hwt]
            split at he
            · rename_i v s1 h1
              have s := run_step hC hL h1
              have s2 := evReg_step hC (s.low hL) he
              refine .inl (op_wp hC hR hL (hF.less s2) hE hop h1 fun u w1 ψ hx hv _ => ?_)
              obtain ⟨p1, p2, p3⟩ := ER_put (ER_mono hx.le hE) hn hd hv
              refine reg_wp hC his he hx.rep (s.low hL) (hx.free hL s hF) p1 p2 fun a' w' χ k1 k2 k3 k4 => ?_
              exact hQ a' w' χ (hx.trans k1 s s2 (hF.less s2)) k2 k3 (k4.trans p3)
            · cases he
          · rename_i hok hw
            have hwt := guard_wanted (φ := φ) (tmps := a.tmps) hg (fun t b _ => hE t) hok rfl
            rw [hw] at hwt
            rw [if_neg (by rw [hwt]; decide)]
            obtain ⟨p1, p2, p3⟩ := ER_put hE hn hd VR_undef
            exact reg_wp hC his he hR hL hF p1 p2 fun a' w' χ k1 k2 k3 k4 => hQ a' w' χ k1 k2 k3 (k4.trans p3)
          · cases he
        · cases hi
      · cases hi
    · cases h
end Go.Ab
