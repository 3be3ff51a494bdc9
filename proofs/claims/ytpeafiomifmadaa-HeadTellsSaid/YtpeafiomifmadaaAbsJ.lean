/- Code, functions. -/
import Derived.Test.YtpeafiomifmadaaAbsI
import Derived.LoopN
namespace Go.Ab
open Go
set_option linter.unusedVariables false
set_option linter.unusedSimpArgs false
def Ex.exit' : Ex → Exit
 | .norm => .normal
 | .exit id => .exit id
 | .ret => .ret
theorem evRegD_step {P : Program} {B : Nat} {call : CallF} (hC : CallOk P B call) {is : List IOper} {env env' : Env} {st st' : St} (l : st.Low) (h : evRegD call is env st [] [] = some (env', st')) : St.Step st st' := by
 obtain ⟨E, S, U, e1, e2, e3, e4, e5, _, _⟩ := evRegD_trace h
 subst e2; subst e4
 exact trace_steps e5 hC l (Nat.zero_le _) (Nat.le_refl _)
theorem iter_step {g : Env → St → Res} (hg : ∀ env st e env' st', st.Low → g env st = some (e, env', st') → St.Step st st') : ∀ n env st e env' st', st.Low → iter g n env st = some (e, env', st') → St.Step st st'
 | 0, env, st, e, env', st', l, h => by simp [iter] at h
 | n + 1, env, st, e, env', st', l, h => by
  simp only [iter] at h
  split at h
  ·rename_i env1 st1 h1
   have s := hg _ _ _ _ _ l h1
   exact s.trans (iter_step hg n _ _ _ _ _ (s.low l) h)
  ·exact hg _ _ _ _ _ l h
theorem evC_step {P : Program} {B : Nat} {call : CallF} (hC : CallOk P B call) (n : Nat) : ∀ (ic : IC) {env : Env} {st : St} {e : Ex} {env' : Env} {st' : St}, st.Low → evC n call ic env st = some (e, env', st') → St.Step st st' := by
 intro ic
 induction ic with
 | skip => intro env st e env' st' l h; simp only [evC, Option.some.injEq, Prod.mk.injEq] at h; rw [← h.2.2]; exact .refl _
 | exit id => intro env st e env' st' l h; simp only [evC, Option.some.injEq, Prod.mk.injEq] at h; rw [← h.2.2]; exact .refl _
 | ret => intro env st e env' st' l h; simp only [evC, Option.some.injEq, Prod.mk.injEq] at h; rw [← h.2.2]; exact .refl _
 | reg ops =>
  intro env st e env' st' l h
  simp only [evC] at h
  split at h
  ·rename_i h1; cases h; exact evReg_step hC l h1
  ·cases h
 | regD ord ops =>
  intro env st e env' st' l h
  simp only [evC] at h
  split at h
  ·rename_i h1; cases h; exact evRegD_step hC l h1
  ·cases h
 | seq a b iha ihb =>
  intro env st e env' st' l h
  simp only [evC] at h
  split at h
  ·rename_i h1
   have s := iha l h1
   exact s.trans (ihb (s.low l) h)
  ·exact iha l h
 | cond c t f iht ihf =>
  intro env st e env' st' l h
  simp only [evC] at h
  split at h
  ·exact iht l h
  ·exact ihf l h
  ·cases h
 | block id b ih =>
  intro env st e env' st' l h
  simp only [evC] at h
  split at h
  ·rename_i h1
   have s := ih l h1
   split at h
   ·cases h; exact s
   ·cases h; exact s
  ·exact ih l h
 | loop keep b ih =>
  intro env st e env' st' l h
  simp only [evC] at h
  exact iter_step (fun env st e env' st' l h => ih l h) n _ _ _ _ _ l h
theorem Env.get_keep (env : Env) : ∀ (ks : List Nat) (t : Nat), Env.get (Env.keep env ks) t = Env.get env t ∨ Env.get (Env.keep env ks) t = .undef
 | [], t => .inr rfl
 | k :: ks, t => by
  simp only [Env.keep, Env.get]
  split
  ·rename_i h; subst h; exact .inl rfl
  ·exact Env.get_keep env ks t
theorem ER_keep {φ : Phi} {env : Env} {tmps : Array Value} (h : ER φ env tmps) (ks : List Nat) : ER φ (Env.keep env ks) tmps := fun t => by
 rcases Env.get_keep env ks t with e | e
 ·rw [e]; exact h t
 ·rw [e]; simp only [VR]
def Good (P : Program) (B n : Nat) (c : Code) (g : Env → St → Res) : Prop :=
 ∀ {env : Env} {st : St} {e : Ex} {env' : Env} {st' : St}, g env st = some (e, env', st') → ∀ {φ : Phi} {a : Act} {w : World} {Q : Exit → Act → World → Prop}, Rep B φ st w → st.Low → Free φ st st' → ER φ env a.tmps → a.tmps.size = n →
  (∀ a' w' ψ, Ext B φ st w ψ st' w' → ER ψ env' a'.tmps → a'.tmps.size = n → a'.defers = a.defers → Q e.exit' a' w') → c.wp P Q a w
theorem iter_good {P : Program} {B n : Nat} {c : Code} {g : Env → St → Res} (hs : ∀ env st e env' st', st.Low → g env st = some (e, env', st') → St.Step st st') (hg : Good P B n c g) : ∀ m {env : Env} {st : St} {e : Ex} {env' : Env} {st' : St}, iter g m env st = some (e, env', st') → ∀ {φ : Phi} {a : Act} {w : World} {Q : Exit → Act → World → Prop}, Rep B φ st w → st.Low → Free φ st st' → ER φ env a.tmps → a.tmps.size = n →
  (∀ a' w' ψ, Ext B φ st w ψ st' w' → ER ψ env' a'.tmps → a'.tmps.size = n → a'.defers = a.defers → Q e.exit' a' w') → Code.rounds P c Q m a w
 | 0, env, st, e, env', st', h, φ, a, w, Q, hR, hL, hF, hE, hn, hQ => by simp [iter] at h
 | m + 1, env, st, e, env', st', h, φ, a, w, Q, hR, hL, hF, hE, hn, hQ => by
  rw [rounds_succ]
  simp only [iter] at h
  split at h
  ·rename_i env1 st1 h1
   have s := hs _ _ _ _ _ hL h1
   have s2 := iter_step hs m _ _ _ _ _ (s.low hL) h
   refine hg h1 hR hL (hF.less s2) hE hn fun a1 w1 ψ k1 k2 k3 k4 => ?_
   show Code.rounds P c Q m a1 w1
   exact iter_good hs hg m h k1.rep (s.low hL) (k1.free hL s hF) k2 k3 fun a' w' χ q1 q2 q3 q4 => hQ a' w' χ (k1.trans q1 s s2 (hF.less s2)) q2 q3 (q4.trans k4)
  ·rename_i hx
   refine hg h hR hL hF hE hn fun a1 w1 ψ k1 k2 k3 k4 => ?_
   have := hQ a1 w1 ψ k1 k2 k3 k4
   cases e with
   | norm => exact absurd h (hx _ _)
   | exit id => exact this
   | ret => exact this
theorem code_good {P : Program} {B : Nat} {call : CallF} (hC : CallOk P B call) (hm : P.follows .mixedOrders = true) {nt : Nat} (n : Nat) : ∀ (t : IC) (c : Code) (ic : IC), codeOf P nt c t = some ic → Good P B nt c (evC n call ic) := by
 intro t
 induction t with
 | skip =>
  intro c ic h env st e env' st' he φ a w Q hR hL hF hE hn hQ
  unfold codeOf at h
  split at h <;> try (first | (cases h; done) | (rename_i hh; cases hh; done))
  cases h
  simp only [evC, Option.some.injEq, Prod.mk.injEq] at he
  obtain ⟨rfl, rfl, rfl⟩ := he
  exact wp_skip (hQ _ _ φ (Ext.refl hR) hE hn rfl)
 | exit id =>
  intro c ic h env st e env' st' he φ a w Q hR hL hF hE hn hQ
  unfold codeOf at h
  split at h <;> try (first | (cases h; done) | (rename_i hh; cases hh; done))
  cases h
  simp only [evC, Option.some.injEq, Prod.mk.injEq] at he
  obtain ⟨rfl, rfl, rfl⟩ := he
  exact wp_exit (hQ _ _ φ (Ext.refl hR) hE hn rfl)
 | ret =>
  intro c ic h env st e env' st' he φ a w Q hR hL hF hE hn hQ
  unfold codeOf at h
  split at h <;> try (first | (cases h; done) | (rename_i hh; cases hh; done))
  cases h
  simp only [evC, Option.some.injEq, Prod.mk.injEq] at he
  obtain ⟨rfl, rfl, rfl⟩ := he
  exact wp_ret (hQ _ _ φ (Ext.refl hR) hE hn rfl)
 | reg x =>
  intro c ic h env st e env' st' he φ a w Q hR hL hF hE hn hQ
  unfold codeOf at h
  split at h <;> try (first | (cases h; done) | (rename_i hh; cases hh; done))
  rw [Option.map_eq_some_iff] at h
  obtain ⟨is, his, rfl⟩ := h
  simp only [evC] at he
  split at he
  ·rename_i h1
   cases he
   exact wp_region_list (reg_wp hC his h1 hR hL hF hE hn hQ)
  ·cases he
 | regD ord x =>
  intro c ic h env st e env' st' he φ a w Q hR hL hF hE hn hQ
  unfold codeOf at h
  split at h <;> try (first | (cases h; done) | (rename_i hh; cases hh; done))
  rename_i hh
  cases hh
  split at h
  ·rename_i is his
   split at h
   ·rename_i hok
    cases h
    simp only [evC] at he
    split at he
    ·rename_i h1
     cases he
     exact regD_wp hC hm his hok h1 hR hL hF hE hn hQ
    ·cases he
   ·cases h
  ·cases h
 | seq x y ihx ihy =>
  intro c ic h env st e env' st' he φ a w Q hR hL hF hE hn hQ
  unfold codeOf at h
  split at h <;> try (first | (cases h; done) | (rename_i hh; cases hh; done))
  rename_i hh
  cases hh
  split at h
  ·rename_i i j hi hj
   cases h
   simp only [evC] at he
   refine wp_seq ?_
   split at he
   ·rename_i env1 st1 h1
    have s := evC_step hC n i hL h1
    have s2 := evC_step hC n j (s.low hL) he
    refine ihx _ _ hi h1 hR hL (hF.less s2) hE hn fun a1 w1 ψ k1 k2 k3 k4 => ?_
    exact ihy _ _ hj he k1.rep (s.low hL) (k1.free hL s hF) k2 k3 fun a' w' χ q1 q2 q3 q4 => hQ a' w' χ (k1.trans q1 s s2 (hF.less s2)) q2 q3 (q4.trans k4)
   ·rename_i hx
    refine ihx _ _ hi he hR hL hF hE hn fun a1 w1 ψ k1 k2 k3 k4 => ?_
    have := hQ a1 w1 ψ k1 k2 k3 k4
    cases e with
    | norm => exact absurd he (hx _ _)
    | exit id => exact this
    | ret => exact this
  ·cases h
 | cond x y z ihy ihz =>
  intro c ic h env st e env' st' he φ a w Q hR hL hF hE hn hQ
  unfold codeOf at h
  split at h <;> try (first | (cases h; done) | (rename_i hh; cases hh; done))
  rename_i hh
  cases hh
  split at h
  ·rename_i i j k hi hj hk
   cases h
   simp only [evC] at he
   have hv := opdOf_VR hE hi
   split at he
   ·rename_i hc
    rw [hc] at hv
    simp only [VR] at hv
    exact wp_cond_true hv (ihy _ _ hj he hR hL hF hE hn hQ)
   ·rename_i hc
    rw [hc] at hv
    simp only [VR] at hv
    exact wp_cond_false hv (ihz _ _ hk he hR hL hF hE hn hQ)
   ·cases he
  ·cases h
 | block id x ih =>
  intro c ic h env st e env' st' he φ a w Q hR hL hF hE hn hQ
  unfold codeOf at h
  split at h <;> try (first | (cases h; done) | (rename_i hh; cases hh; done))
  rename_i hh
  cases hh
  rw [Option.map_eq_some_iff] at h
  obtain ⟨i, hi, rfl⟩ := h
  simp only [evC] at he
  refine wp_block ?_
  split at he
  ·rename_i j env1 st1 h1
   split at he
   ·rename_i hj
    cases he
    refine ih _ _ hi h1 hR hL hF hE hn fun a1 w1 ψ k1 k2 k3 k4 => ?_
    simp only [Ex.exit', Exit.inBlock, hj, if_true]
    exact hQ a1 w1 ψ k1 k2 k3 k4
   ·rename_i hj
    cases he
    refine ih _ _ hi h1 hR hL hF hE hn fun a1 w1 ψ k1 k2 k3 k4 => ?_
    simp only [Ex.exit', Exit.inBlock, hj, if_false]
    exact hQ a1 w1 ψ k1 k2 k3 k4
  ·rename_i hx
   refine ih _ _ hi he hR hL hF hE hn fun a1 w1 ψ k1 k2 k3 k4 => ?_
   have := hQ a1 w1 ψ k1 k2 k3 k4
   cases e with
   | norm => exact this
   | exit id => exact absurd he (hx _ _ _)
   | ret => exact this
 | loop keep x ih =>
  intro c ic h env st e env' st' he φ a w Q hR hL hF hE hn hQ
  unfold codeOf at h
  split at h <;> try (first | (cases h; done) | (rename_i hh; cases hh; done))
  rename_i hh
  cases hh
  rw [Option.map_eq_some_iff] at h
  obtain ⟨i, hi, rfl⟩ := h
  simp only [evC] at he
  refine wp_loop_rounds n (iter_good (fun env st e env' st' l h => evC_step hC n i l h) ?_ n he hR hL hF hE hn hQ)
  intro env st e env' st' he φ a w Q hR hL hF hE hn hQ
  exact ih _ _ hi he hR hL hF (ER_keep hE _) hn hQ
theorem run_cell {P : Program} {B : Nat} {φ : Phi} {st : St} {w : World} (hR : Rep B φ st w) {av : V} {cv : Value} (ha : VR φ av cv) {t : TypeId} {n : Nat} {g : Bool} (hs : shapeOf P t = some (n, g)) {v : V} (hl : st.load av n g = some v) :
  ∃ u, (do loadVar t (← asAddr cv) : Sem Value).run P w = .ok u w ∧ VR φ v u := by
 obtain ⟨u, h1, h2⟩ := load_sound hR ha hs hl
 refine ⟨u, ?_, h2⟩
 unfold St.load at hl
 split at hl
 ·simp only [VR] at ha
  obtain ⟨L, _, rfl, _⟩ := ha
  exact h1
 ·cases hl
theorem run_results {P : Program} {B : Nat} {φ : Phi} {st : St} {w : World} (hR : Rep B φ st w) {env : Env} {tmps : Array Value} (hE : ER φ env tmps) : ∀ {rs : List ResultVar} {irs : List IRes}, resOf P rs = some irs → ∀ {vs : List V}, evRes env st irs = some vs →
  ∃ us, (rs.mapM (fun (r : ResultVar) => match r with
  | .tmp t => (pure (tmps.getD t undef) : Sem Value)
  | .cell a t => do loadVar t (← asAddr (tmps.getD a undef)))).run P w = .ok us w ∧ VRs φ vs us
 | [], irs, h, vs, he => by
  simp only [resOf, Option.some.injEq] at h; subst h
  simp only [evRes, Option.some.injEq] at he; subst he
  exact ⟨[], by simp, by simp only [VRs]⟩
 | .tmp t :: r, irs, h, vs, he => by
  simp only [resOf, Option.map_eq_some_iff] at h
  obtain ⟨is, his, rfl⟩ := h
  simp only [evRes, Option.map_eq_some_iff] at he
  obtain ⟨vs', hvs, rfl⟩ := he
  obtain ⟨us, h1, h2⟩ := run_results hR hE his hvs
  refine ⟨tmps.getD t undef :: us, ?_, by simp only [VRs]; exact ⟨_, _, rfl, hE t, h2⟩⟩
  rw [List.mapM_cons]
  simp only [Sem.run_bind, Sem.run_pure, Result.andThen_ok, h1]
 | .cell c t :: r, irs, h, vs, he => by
  simp only [resOf] at h
  split at h
  ·rename_i n g l hs hl
   cases h
   simp only [evRes] at he
   split at he
   ·rename_i v vs' hv hvs
    cases he
    obtain ⟨us, h1, h2⟩ := run_results hR hE hl hvs
    obtain ⟨u, h3, h4⟩ := run_cell hR (hE c) hs hv
    refine ⟨u :: us, ?_, by simp only [VRs]; exact ⟨_, _, rfl, h4, h2⟩⟩
    rw [List.mapM_cons]
    simp only [Sem.run_bind, Sem.run_pure] at h3 h1 ⊢
    simp only [h3, Result.andThen_ok, h1]
   ·cases he
  ·cases h
theorem get_envOf : ∀ (args : List V) (k t : Nat), Env.get (envOf k args) (k + t) = args.getD t .undef
 | [], k, t => by simp [envOf, Env.get]
 | v :: vs, k, 0 => by simp [envOf, Env.get]
 | v :: vs, k, t + 1 => by
  have := get_envOf vs (k + 1) t
  simp only [envOf, Env.get]
  rw [if_neg (by omega), show k + (t + 1) = k + 1 + t by omega, this]
  simp
theorem VRs_getD {φ : Phi} : ∀ {vs : List V} {us : List Value}, VRs φ vs us → vs.length = us.length ∧ ∀ t, VR φ (vs.getD t .undef) (us.getD t undef)
 | [], us, h => by simp only [VRs] at h; subst h; exact ⟨rfl, fun t => by simp [VR]⟩
 | v :: vs, us, h => by
  simp only [VRs] at h
  obtain ⟨y, ys, rfl, h1, h2⟩ := h
  obtain ⟨k1, k2⟩ := VRs_getD h2
  refine ⟨by simp [k1], fun t => ?_⟩
  cases t with
  | zero => simpa using h1
  | succ t => simpa using k2 t
theorem fn_good {P : Program} {B : Nat} {call : CallF} (hC : CallOk P B call) (hm : P.follows .mixedOrders = true) {f : FuncId} {fn : Func} {t i : IFn} (hf : P.funcs[f]? = some fn) (hi : fnOf P fn t = some i) {n : Nat} {args : List V} {st st' : St} {v : V} (he : evFn n call i args st = some (v, st')) :
  (st.Low → St.Step st st') ∧ Callable P f ∧ ∀ {φ : Phi} {w : World} {cargs : Array Value}, Rep B φ st w → st.Low → Free φ st st' → VRs φ args cargs.toList →
  Calls P f cargs w (fun e w' => ∃ u ψ, e = .returned u ∧ Ext B φ st w ψ st' w' ∧ VR ψ v u) := by
 unfold fnOf at hi
 split at hi
 ·rename_i c hb
  split at hi
  ·rename_i b r hcode hres
   split at hi
   ·rename_i hsz
    cases hi
    unfold evFn at he
    split at he
    ·cases he
    ·rename_i hlen
     have key : ∀ (e : Ex) (env' : Env), e = .norm ∨ e = .ret → evC n call b (envOf 0 args) st = some (e, env', st') → ∀ vs, evRes env' st' r = some vs → ofRes vs = v →
      (st.Low → St.Step st st') ∧ Callable P f ∧ ∀ {φ : Phi} {w : World} {cargs : Array Value}, Rep B φ st w → st.Low → Free φ st st' → VRs φ args cargs.toList →
      Calls P f cargs w (fun e w' => ∃ u ψ, e = .returned u ∧ Ext B φ st w ψ st' w' ∧ VR ψ v u) := by
      intro e env' hee h1 vs hvs hv
      subst hv
      refine ⟨fun l => evC_step hC n b l h1, ⟨fn, hf, by rw [hb]; rfl, by simpa using hsz.2⟩, fun {φ w cargs} hR hL hF hA => ?_⟩
      obtain ⟨g1, g2⟩ := VRs_getD hA
      have hcl : cargs.size = args.length := by rw [g1]; simp
      refine calls_of_wp hf hb (code_good hC hm n _ _ _ hcode h1 hR hL hF (fun t => ?_) (by simp only [Decidable.not_not] at hlen; simp; omega) fun a' w' ψ k1 k2 k3 k4 => ?_)
      ·have h0 := get_envOf args 0 t
       rw [Nat.zero_add] at h0
       rw [h0]
       by_cases ht : t < args.length
       ·have := g2 t
        have h3 : (cargs ++ Array.replicate (fn.ntmps - cargs.size) undef).getD t undef = cargs.toList.getD t undef := by
         simp [Array.getElem?_append, show t < cargs.size by omega]
        rw [h3]; exact this
       ·have : args.getD t .undef = .undef := by simp [show args.length ≤ t by omega]
        rw [this]; simp only [VR]
      ·obtain ⟨us, p1, p2⟩ := run_results k1.rep k2 hres hvs
       have hfin : ∃ u, (results fn a'.tmps).run P w' = .ok u w' ∧ VR ψ (ofRes vs) u := by
        have hall : (fn.results.mapM (fun (r : ResultVar) => match r with
          | .tmp t => (pure (a'.tmps.getD t undef) : Sem Value)
          | .cell a t => do loadVar t (← asAddr (a'.tmps.getD a undef)))).run P w' = .ok us.toArray w' := by
         rw [Array.mapM_eq_mapM_toList]
         simp only [Sem.run_map, p1, Result.andThen_ok]
        refine ⟨if h : us.toArray.size = 1 then us.toArray[0] else .tuple us.toArray, ?_, ?_⟩
        ·unfold results
         simp only [Sem.run_bind]
         erw [hall]
         simp only [Result.andThen_ok, Sem.run_pure]
        ·match vs, us, p2 with
         | [], us, p2 => simp only [VRs] at p2; subst p2; simp only [ofRes, VR]; exact ⟨#[], rfl, by simp only [VRs]⟩
         | [v], us, p2 =>
          simp only [VRs] at p2
          obtain ⟨y, ys, rfl, h1, rfl⟩ := p2
          simpa [ofRes] using h1
         | v :: v2 :: vs, us, p2 =>
          have hl := (VRs_getD p2).1
          have : ¬ us.toArray.size = 1 := by simp at hl ⊢; omega
          rw [dif_neg this]
          simp only [ofRes]
          rw [VR]
          exact ⟨us.toArray, rfl, by simpa using p2⟩
       obtain ⟨u, f1, f2⟩ := hfin
       rcases hee with rfl | rfl
       ·exact ⟨k4, u, f1, u, ψ, rfl, k1, f2⟩
       ·exact ⟨k4, u, f1, u, ψ, rfl, k1, f2⟩
     split at he
     ·rename_i env' st1 h1
      rw [Option.map_eq_some_iff] at he
      obtain ⟨vs, hvs, h2⟩ := he
      cases h2
      exact key _ _ (.inl rfl) h1 vs hvs rfl
     ·rename_i env' st1 h1
      rw [Option.map_eq_some_iff] at he
      obtain ⟨vs, hvs, h2⟩ := he
      cases h2
      exact key _ _ (.inr rfl) h1 vs hvs rfl
     ·cases he
   ·cases hi
  ·cases hi
 ·cases hi
end Go.Ab
