/- Each operation that is no call, all of them. -/
import Derived.Test.YtpeafiomifmadaaValF
namespace Go.Ab
open Go
set_option linter.unusedVariables false
set_option linter.unusedSimpArgs false
variable {st st' : St} {X X' : Nat → Prop} {α α' : List Ad} {ω ω' : Om} {h h' : GH} {genv : GEnv} {env : Env} {lo : Nat}
theorem Post.extract (hC : Cf st X α ω h) (hE : EnvR st X α ω genv env) {dst : Option Nat} {x : Opd} {us : List U} {vs : List V} {i : Nat} {u : U} {v : V} (hx : x.gev genv = .tup us) (hxv : x.ev env = .tup vs) (hu : us[i]? = some u) (hv : vs[i]? = some v) (hr : RV st X α u v) :
  Post lo st X α ω dst u.handed (tupDemote genv x i) h env v st := by
 by_cases hown : ∃ e es, u = .own e es
 ·obtain ⟨e, es, rfl⟩ := hown
  cases x with
  | c w => cases w <;> simp [Opd.gev, U.ofV] at hx
  | t n =>
   simp only [Opd.gev] at hx
   simp only [Opd.ev] at hxv
   simp only [tupDemote, hx, hu, U.handed]
   have hn := hE n
   rw [hx, hxv] at hn
   have hoc := hn.2.2 us vs i e es v rfl rfl hu hv
   have keep : ∀ (d : Option Nat) o p, p ≠ .tmp n (i + 1) → ω o = some p → (match d with | some d => re ω (.tmp n (i + 1)) (.tmp d 0) | none => ω) o = some p := fun d o p hp e => by
    cases d with
    | none => exact e
    | some d => exact re_ne e hp
   have G : Grow st X α st X α := Grow.id hC.low
   refine ⟨X, α, (match dst with | some d => re ω (.tmp n (i + 1)) (.tmp d 0) | none => ω), ?_, ?_, ?_⟩
   ·exact hC.step G hC.low (Nat.le_refl _) hC.x (fun _ _ _ => rfl) fun o k s _ _ e => ⟨rfl, keep dst o _ (by simp) e⟩
   ·refine EnvR.put ?_ hr fun d hd => ⟨fun e' es' he => ?_, fun us vs j e es w he => by cases he⟩
    ·intro m
     simp only [GEnv.get]
     split
     ·rename_i hm
      subst hm
      rw [hxv]
      refine ⟨?_, (fun e' es' he => by cases he), fun us' vs' j e' es' w h1 h2 h3 h4 => ?_⟩
      ·have h1 := hn.1
       simp only [RV] at h1 ⊢
       obtain ⟨vs', h2, h3⟩ := h1
       cases h2
       refine ⟨vs, rfl, RL_iff.2 ?_⟩
       have := (RL_iff.1 h3).set i (RV_share hr)
       have hvs : vs.set i v = vs := by
        obtain ⟨q1, q2⟩ := List.getElem?_eq_some_iff.1 hv
        rw [← q2]; exact List.set_getElem_self q1
       rw [hvs] at this
       exact this
      ·cases h1
       cases h2
       rw [List.getElem?_set] at h3
       split at h3
       ·split at h3 <;> cases h3
       ·rename_i hne
        exact (hn.2.2 us vs j e' es' w rfl rfl h3 h4).step G fun o _ _ e => ⟨rfl, keep dst o _ (by simp; omega) e⟩
     ·rename_i hm
      exact ⟨(hE m).1, (hE m).2.step G fun o j _ _ e => ⟨rfl, keep dst o _ (by simp; intro h; exact absurd h.symm hm) e⟩⟩
    ·cases he
     subst hd
     rcases hoc with q | ⟨o', g, row, live, q1, q0, q2, q3, q4⟩
     ·exact .inl q
     ·exact .inr ⟨o', g, row, live, q1, q0, q2, q3, re_eq q4⟩
   ·refine ⟨Nat.le_refl _, fun _ _ e => e, fun _ _ e => .inl e, fun _ _ => Iff.rfl, fun _ _ _ _ => rfl, fun _ _ _ => .same rfl, fun o _ e => ?_, fun o k s _ e _ => keep dst o _ (by simp) e⟩
    cases dst with
    | none => exact e
    | some d => exact re_none e
 ·have hd : tupDemote genv x i = genv := by
   cases x with
   | c w => rfl
   | t n =>
    simp only [Opd.gev] at hx
    simp only [tupDemote, hx, hu]
    split
    ·rename_i e es he
     exact absurd ⟨e, es, Option.some.inj he⟩ hown
    ·rfl
  have hm : u.handed = u.share := by cases u <;> first | rfl | exact absurd ⟨_, _, rfl⟩ hown
  rw [hd, hm]
  exact Post.pure hC hE (RV_share hr) (noOwn_share u)
theorem Post.same {dst : Option Nat} {u : U} {v : V} {genv' : GEnv} (hg : ∀ o, st'.get o = st.get o) (hn : st'.next = st.next) {st0 : St} (h : Post lo st0 X α ω dst u genv' h' env v st) : Post lo st0 X α ω dst u genv' h' env v st' := by
 obtain ⟨X1, α1, ω1, k1, k2, k3⟩ := h
 have G : Grow st X1 α1 st' X1 α1 := ⟨k1.low, fun _ _ e => e, fun o _ _ => .same (hg o), fun _ _ e => e⟩
 refine ⟨X1, α1, ω1, k1.step G (fun o x e => by rw [hn]; rw [hg] at e; exact k1.low o x e) (Nat.le_of_eq hn.symm) k1.x (fun _ d _ => hg d.a) (fun o k s _ _ e => ⟨hg o, e⟩), k2.step G fun o n j _ _ e => ⟨hg o, e⟩, ?_⟩
 exact ⟨by rw [hn]; exact k3.next, k3.al, k3.alnew, k3.x, fun o a b c => by rw [hg]; exact k3.same o a b c, fun o a b => (k3.kp o a b).trans (.same (hg o)), k3.om, k3.omlo⟩
theorem set_same {o : Nat} {x : Obj} (h : st.get o = some x) (p : Nat) : (st.set o x).get p = st.get p := by
 rw [St.get_set]; split
 ·rename_i e; rw [e, h]
 ·rfl
theorem ofVs_length (vs : List V) : (U.ofVs vs).length = vs.length := by
 induction vs with
 | nil => rfl
 | cons v vs ih => simp [U.ofVs, ih]
theorem gex_sim (hC : Cf st X α ω h) (hE : EnvR st X α ω genv env) {fl : Fl} {dst : Option Nat} : ∀ {o : IOp} {u : U} {genv' : GEnv} {h' : GH}, o.gex fl lo dst genv h = some (u, genv', h') → Step lo st X α ω env dst (o.ex env st) u genv' h' := by
 intro o u genv' h' e
 cases o with
 | mov x =>
  simp only [IOp.gex] at e
  split at e
  ·cases e
   exact Step.pure hC hE rfl (RV_share (hE.opd x)) (noOwn_share _)
  cases e
  by_cases hown : ∃ q es, x.gev genv = .own q es
  ·obtain ⟨q, es, hq⟩ := hown
   obtain ⟨n, rfl, hn, hd⟩ := demote_own hq
   rw [hd]
   simp only [Opd.gev, hn, U.moved]
   exact ⟨_, _, rfl, Post.move hC hE hn⟩
  ·by_cases htup : ∃ us, x.gev genv = .tup us
   ·obtain ⟨us, hq⟩ := htup
    cases x with
    | c w => cases w <;> simp [Opd.gev, U.ofV] at hq
    | t n =>
     simp only [Opd.gev] at hq
     have hd : demote genv (.t n) = (n, .undef) :: genv := by simp only [demote, hq]
     rw [hd]
     simp only [Opd.gev, hq, U.moved]
     exact ⟨_, _, rfl, Post.moveT hC hE hq (by simp only [RV]) ⟨fun _ _ h => (by cases h), fun _ _ _ _ h => (by cases h)⟩⟩
   ·rw [demote_no (fun q es hq => hown ⟨q, es, hq⟩) fun us hq => htup ⟨us, hq⟩]
    have hm : (x.gev genv).moved = (x.gev genv).share := by
     cases hg : x.gev genv with
     | own e es => exact absurd ⟨e, es, hg⟩ hown
     | tup us => exact absurd ⟨us, hg⟩ htup
     | _ => rfl
    rw [hm]
    exact Step.pure hC hE rfl (RV_share (hE.opd x)) (noOwn_share _)
 | pick c a b =>
  simp only [IOp.gex] at e
  simp only [IOp.ex]
  have hc := hE.opd c
  split at e
  ·rename_i hg
   rw [hg] at hc; simp only [RV] at hc; rw [hc]
   cases e
   exact Step.pure hC hE rfl (RV_share (hE.opd a)) (noOwn_share _)
  ·rename_i hg
   rw [hg] at hc; simp only [RV] at hc; rw [hc]
   cases e
   exact Step.pure hC hE rfl (RV_share (hE.opd b)) (noOwn_share _)
  ·cases e
 | box x =>
  simp only [IOp.gex] at e
  simp only [IOp.ex]
  split at e
  ·rename_i cs hcs
   split at e
   ·rename_i hone
    cases e
    obtain ⟨vs, h1, h2, h3⟩ := Post.box (lo := lo) (dst := dst) hC hE hcs hone
    exact ⟨_, _, by rw [h1]; simp only [h2, if_true], h3⟩
   ·cases e
  ·cases e
 | build zero parts =>
  simp only [IOp.gex] at e
  simp only [IOp.ex]
  obtain ⟨cs, h1, h2⟩ := Option.map_eq_some_iff.1 e
  cases h2
  obtain ⟨ws, h3, h4⟩ := fill_sim hE parts (RL_iff.1 (RL_ofVs zero)) h1
  exact Step.pure hC hE (v := .agg ws) (by rw [h3]; rfl) (by simp only [RV]; exact ⟨ws, rfl, RL_iff.2 h4⟩) noOwn_agg
 | mkrow esz ln zero parts =>
  simp only [IOp.gex] at e
  simp only [IOp.ex]
  split at e
  ·rename_i hz
   rw [if_pos hz]
   split at e
   ·rename_i es hes
    obtain ⟨ws, h3, h4⟩ := fillRow_sim hE parts (L2.replicate ln (RL_iff.1 (RL_ofVs zero))) hes
    have hlen : ∀ (ps : List (Nat × Opd)) (row ws : List (List V)), fillRow row esz env ps = some ws → ws.length = row.length := by
     intro ps
     induction ps with
     | nil => intro row ws e; cases e; rfl
     | cons p ps ih =>
      intro row ws e
      obtain ⟨i, y⟩ := p
      unfold fillRow at e
      split at e
      ·split at e
       ·have := ih _ _ e; rw [this, List.length_set]
       ·cases e
      ·cases e
    have hl := hlen _ _ _ h3
    rw [List.length_replicate] at hl
    refine ⟨_, _, by rw [h3]; rfl, ?_⟩
    rw [← hl]
    exact Post.fresh hC hE h4 e
   ·cases e
  ·cases e
 | load n agg a =>
  simp only [IOp.gex] at e
  simp only [IOp.ex]
  split at e
  ·rename_i q es hl
   obtain ⟨v, h1, h2⟩ := load_sim hC (hE.opd a) hl
   split at e
   ·rename_i htk
    obtain ⟨h'', h3, h4⟩ := Option.map_eq_some_iff.1 e
    cases h4
    cases dst with
    | none => simp [isIn] at htk
    | some d => exact ⟨v, st, by rw [h1]; rfl, Post.take hC hE (hE.opd a) hl h1 h2 h3⟩
   ·cases e
    exact Step.pure hC hE (by rw [h1]; rfl) (RV_share h2) noOwn_list
  ·rename_i u' hno hl
   cases e
   obtain ⟨v, h1, h2⟩ := load_sim hC (hE.opd a) hl
   exact Step.pure hC hE (by rw [h1]; rfl) (RV_share h2) (noOwn_share _)
  ·cases e
 | store n a x =>
  simp only [IOp.gex] at e
  simp only [IOp.ex]
  obtain ⟨r, h1, h2⟩ := Option.map_eq_some_iff.1 e
  cases h2
  obtain ⟨st', h3, h4⟩ := Post.store (lo := lo) (dst := dst) hC hE (hE.opd a) h1
  exact ⟨_, _, by rw [h3]; rfl, h4⟩
 | nilck x =>
  simp only [IOp.gex] at e
  simp only [IOp.ex]
  have hx := hE.opd x
  split at e
  ·rename_i o g i s hg
   cases e
   rw [hg] at hx
   have hx' := hx
   simp only [RV] at hx'
   obtain ⟨a, _, h2⟩ := hx'
   rw [h2] at hx
   rw [h2]
   exact Step.pure hC hE rfl hx noOwn_ptr
  ·rename_i cs s hg
   cases e
   rw [hg] at hx
   have hx' := hx
   simp only [RV] at hx'
   obtain ⟨_, _, _, _, _, _, _, _, h2, _⟩ := hx'
   rw [h2] at hx
   rw [h2]
   exact Step.pure hC hE rfl hx noOwn_eptr
  ·rename_i f a c hg
   split at e
   ·rename_i f' 
    cases e
    rw [hg] at hx
    have hx' := hx
    simp only [RV] at hx'
    obtain ⟨_, _, h2, _⟩ := hx'
    rw [h2] at hx
    rw [h2]
    exact Step.pure hC hE rfl hx noOwn_fn
   ·cases e
  ·cases e
 | bin op x y =>
  simp only [IOp.gex] at e
  simp only [IOp.ex]
  obtain ⟨r, h1, h2⟩ := Option.map_eq_some_iff.1 e
  cases h2
  obtain ⟨v, h3, h4, h5⟩ := bin_sim (hE.opd x) (hE.opd y) h1
  exact Step.pure hC hE (by rw [h3]; rfl) h4 (by rw [h5]; exact noOwn_ofV v)
 | eq kd neg x y =>
  simp only [IOp.gex] at e
  simp only [IOp.ex]
  obtain ⟨r, h1, h2⟩ := Option.map_eq_some_iff.1 e
  cases h2
  have h3 := eqk_sim (hE.opd x) (hE.opd y) h1
  exact Step.pure hC hE (by rw [h3]; rfl) (by simp only [RV]) noOwn_bool
 | un op x =>
  simp only [IOp.gex] at e
  simp only [IOp.ex]
  obtain ⟨r, h1, h2⟩ := Option.map_eq_some_iff.1 e
  cases h2
  obtain ⟨v, h3, h4, h5⟩ := un_sim (hE.opd x) h1
  exact Step.pure hC hE (by rw [h3]; rfl) h4 (by rw [h5]; exact noOwn_ofV v)
 | conv k x =>
  simp only [IOp.gex] at e
  simp only [IOp.ex]
  have hx := hE.opd x
  split at e
  ·rename_i hg
   cases e
   rw [hg] at hx; simp only [RV] at hx; rw [hx]
   exact Step.pure hC hE rfl (by simp only [RV]) noOwn_int
  ·cases e
 | toBytes x =>
  simp only [IOp.gex] at e
  simp only [IOp.ex]
  have hx := hE.opd x
  split at e
  ·rename_i s hg
   rw [hg] at hx; simp only [RV] at hx; rw [hx]
   split at e
   ·rename_i hr
    refine ⟨_, _, by simp only; rw [if_pos hr], ?_⟩
    have := Post.fresh (lo := lo) (dst := dst) (st := st) (ω := ω) (rows := s.map fun n => [V.int .u8 n]) hC hE (L2.map (f := fun n => [U.int .u8 n]) (g := fun n => [V.int .u8 n]) (fun n => ⟨by simp only [RV], trivial⟩) s) e
    rw [List.length_map] at this
    exact this
   ·cases e
  ·cases e
 | toStr x =>
  simp only [IOp.gex] at e
  simp only [IOp.ex]
  have hx := hE.opd x
  split at e
  ·cases e
  ·rename_i w hw
   split at e
   ·rename_i es hes
    obtain ⟨l, h1, h2⟩ := Option.map_eq_some_iff.1 e
    cases h2
    obtain ⟨vs, h3, h4⟩ := els_sim hC hx hes
    have h5 := bytes_sim h4 h1
    have hns : ∀ s, x.ev env ≠ .str s := by
     intro s hs
     rw [hs] at hx
     cases hg : x.gev genv with
     | str t => exact hw t hg
     | undef => rw [hg] at hes; simp [els] at hes
     | _ => rw [hg] at hx; simp [RV] at hx
    refine Step.pure hC hE (v := .str l) ?_ (by simp only [RV]) noOwn_str
    split
    ·rename_i s hs; exact absurd hs (hns s)
    ·simp only [h3, h5, Option.map_some]
   ·cases e
 | cvs x =>
  simp only [IOp.gex] at e
  simp only [IOp.ex]
  have hx := hE.opd x
  split at e
  ·rename_i q es hq
   split at e
   ·cases e
   ·rename_i hne
    cases e
    obtain ⟨n, rfl, hn, hd⟩ := demote_own hq
    rw [hd]
    have hoc := (hE n).2
    rw [hn] at hoc
    simp only [Opd.ev] at hx ⊢
    rcases hoc.1 q es rfl with k | ⟨o, g, row, live, k1, k2, k3, k4, k5⟩
    ·rw [hq, k] at hx
     simp only [RV] at hx
     rcases hx with ⟨_, h2⟩ | ⟨_, _, _, _, _, _, _, _, _, h2, _⟩
     ·exact absurd (RLL_iff.1 h2).nil' (by simpa using hne)
     ·cases h2
    ·have hpos : 0 < row.length := by
      rw [hq, k1] at hx
      simp only [RV] at hx
      rcases hx with ⟨h2, _⟩ | ⟨_, _, _, _, _, _, _, _, _, h2, _, h3, _, _, h4⟩
      ·cases h2
      ·cases h2
       have := (RLL_iff.1 h4).length
       rw [k3] at h3
       cases h3
       rw [part_all] at this
       rw [← this]
       exact List.length_pos_iff.2 (by simpa using hne)
     refine ⟨Env.get env n, st, by rw [k1]; simp only [k3]; rw [if_pos ⟨trivial, hpos, k4⟩], ?_⟩
     exact Post.move hC hE hn
  ·rename_i cap o g off ln q hq
   rw [hq] at hx
   have hx0 := hx
   simp only [RV] at hx
   obtain ⟨d, h1, h2⟩ := hx
   split at e
   ·rename_i es gen live hb
    split at e
    ·rename_i hc
     cases e
     obtain ⟨rows, lv, h3, h4, h5⟩ := hC.get h1 hb
     refine ⟨x.ev env, st, by rw [h2]; simp only [h3]; rw [if_pos ⟨trivial, hc.1, by omega⟩], ?_⟩
     exact Post.pure hC hE hx0 noOwn_asl
    ·cases e
   ·cases e
  ·cases e
 | mkfn f a c =>
  simp only [IOp.gex] at e
  simp only [IOp.ex]
  split at e
  ·cases e
   exact Step.pure hC hE rfl (by simp only [RV]; exact ⟨_, _, rfl, RL_iff.2 (L2_shares (hE.opds a)), RL_iff.2 (L2_shares (hE.opds c))⟩) noOwn_fn
  ·cases e
 | mkmap =>
  simp only [IOp.gex] at e
  simp only [IOp.ex]
  cases e
  refine ⟨_, _, rfl, Post.newobj hC hE (fun X' α' G => ⟨[], by rw [St.get_push, if_pos rfl], trivial⟩) (fun X' => ?_) noOwn_map⟩
  simp only [RV]
  exact ⟨⟨st.next, 0⟩, al_last hC, rfl⟩
 | mkslice esz bytes zero ln cp =>
  simp only [IOp.gex] at e
  simp only [IOp.ex]
  have h1 := hE.opd ln
  have h2 := hE.opd cp
  split at e
  ·rename_i l c hl hc
   rw [hl] at h1; rw [hc] at h2
   simp only [RV] at h1 h2
   rw [h1, h2]
   split at e
   ·rename_i hcond
    refine ⟨_, _, by simp only; rw [if_pos hcond], ?_⟩
    have := Post.fresh (lo := lo) (dst := dst) hC hE (L2.replicate l.toNat (RL_iff.1 (RL_ofVs zero))) e
    rw [List.length_replicate] at this
    exact this
   ·cases e
  ·cases e
 | slice str esz x a b c =>
  simp only [IOp.gex] at e
  simp only [IOp.ex]
  obtain ⟨r, h1, h2⟩ := Option.map_eq_some_iff.1 e
  cases h2
  obtain ⟨v, h3, h4, h5⟩ := slice_sim (hE.opd x) (hE.opd? a) (hE.opd? b) (hE.opd? c) h1
  exact Step.pure hC hE (by rw [h3]; rfl) h4 h5
 | faddr off x =>
  simp only [IOp.gex] at e
  simp only [IOp.ex]
  have hx := hE.opd x
  split at e
  ·rename_i o g i s hg
   cases e
   rw [hg] at hx; simp only [RV] at hx
   obtain ⟨a, h1, h2⟩ := hx
   rw [h2]
   exact Step.pure hC hE rfl (by simp only [RV]; exact ⟨a, h1, rfl⟩) noOwn_ptr
  ·rename_i cs s hg
   cases e
   rw [hg] at hx; simp only [RV] at hx
   obtain ⟨o, g, i, row, gen, live, ro, y, h2, h3⟩ := hx
   rw [h2]
   exact Step.pure hC hE rfl (by simp only [RV]; exact ⟨o, g, i, row, gen, live, ro, y, rfl, h3⟩) noOwn_eptr
  ·cases e
 | field off n agg x =>
  simp only [IOp.gex] at e
  simp only [IOp.ex]
  have hx := hE.opd x
  split at e
  ·rename_i cs hg
   rw [hg] at hx; simp only [RV] at hx
   obtain ⟨vs, h1, h2⟩ := hx
   rw [h1]
   have h2 := RL_iff.1 h2
   split at e
   ·rename_i hc
    obtain ⟨r, h3, h4⟩ := Option.map_eq_some_iff.1 e
    cases h4
    obtain ⟨v, h5, h6⟩ := RV_gof (h2.cut off n) h3
    exact Step.pure hC hE (v := v) (by simp only; rw [if_pos (by rw [← h2.length]; exact hc), h5]; rfl) (RV_share h6) (noOwn_share _)
   ·cases e
  ·cases e
 | iaddr esz x i =>
  simp only [IOp.gex] at e
  simp only [IOp.ex]
  have hx := hE.opd x
  have hi := hE.opd i
  have row : ∀ {cp : Bool} {e' : Nat} {es : List (List U)} {n : Int} {k : IntKind} {cs : List U}, RV st X α (.list false e' es) (x.ev env) → i.ev env = .int k n → e' = esz ∧ 0 ≤ n → es[n.toNat]? = some cs → Step lo st X α ω env dst (match x.ev env, i.ev env with
    | .sl o g off ln e _, .int _ n => if e = esz ∧ 0 ≤ n ∧ n < ln then some (.ptr o g (off + n.toNat) 0, st) else none
    | _, _ => none) (.eptr cs 0) genv h := by
   intro cp e' es n k cs hr hn hc hcs
   simp only [RV] at hr
   rcases hr with ⟨_, h2⟩ | ⟨o, g, off, ln, cap, row, gen, live, ro, h1, h2, h3, h4, h5, h6, _⟩
   ·have := (RLL_iff.1 h2).nil'
    subst this; simp at hcs
   ·have h6 := RLL_iff.1 h6
    obtain ⟨y, h7, h8⟩ := h6.get hcs
    have hlt : n.toNat < ln := by
     have := (List.getElem?_eq_some_iff.1 h7).1
     rwa [part_length h5] at this
    rw [part_get hlt] at h7
    refine Step.pure hC hE (v := .ptr o g (off + n.toNat) 0) ?_ ?_ noOwn_eptr
    ·rw [h1, hn]; simp only; rw [if_pos ⟨hc.1, hc.2, by omega⟩]
    ·simp only [RV]
     exact ⟨o, g, _, row, gen, live, ro, y, rfl, h2, h3, h4, h7, RL_iff.2 h8⟩
  split at e
  ·rename_i cp e' es k n hg hn
   rw [hg] at hx; rw [hn] at hi
   simp only [RV] at hi
   split at e
   ·rename_i hc
    obtain ⟨cs, h1, h2⟩ := Option.map_eq_some_iff.1 e
    cases h2
    exact row (cp := cp) (RV_share hx) hi hc h1
   ·cases e
  ·rename_i e' es k n hg hn
   rw [hg] at hx; rw [hn] at hi
   simp only [RV] at hi
   split at e
   ·rename_i hc
    obtain ⟨cs, h1, h2⟩ := Option.map_eq_some_iff.1 e
    cases h2
    exact row (cp := true) (RV_share hx) hi hc h1
   ·cases e
  ·rename_i cap o g off ln e' k n hg hn
   rw [hg] at hx; rw [hn] at hi
   simp only [RV] at hx hi
   obtain ⟨a, h1, h2⟩ := hx
   split at e
   ·rename_i hc
    cases e
    rw [h2, hi]
    exact Step.pure hC hE (by simp only; rw [if_pos hc]) (by simp only [RV]; exact ⟨a, h1, rfl⟩) noOwn_ptr
   ·cases e
  ·cases e
 | iaddrA ln esz x i =>
  simp only [IOp.gex] at e
  simp only [IOp.ex]
  have hx := hE.opd x
  have hi := hE.opd i
  split at e
  ·rename_i o g j s k n hg hn
   rw [hg] at hx; rw [hn] at hi
   simp only [RV] at hx hi
   obtain ⟨a, h1, h2⟩ := hx
   split at e
   ·rename_i hc
    cases e
    rw [h2, hi]
    exact Step.pure hC hE (by simp only; rw [if_pos hc]) (by simp only [RV]; exact ⟨a, h1, rfl⟩) noOwn_ptr
   ·cases e
  ·rename_i cs s k n hg hn
   rw [hg] at hx; rw [hn] at hi
   simp only [RV] at hx hi
   obtain ⟨o, g, j, row, gen, live, ro, y, h2, h3⟩ := hx
   split at e
   ·rename_i hc
    cases e
    rw [h2, hi]
    exact Step.pure hC hE (by simp only; rw [if_pos hc]) (by simp only [RV]; exact ⟨o, g, j, row, gen, live, ro, y, rfl, h3⟩) noOwn_eptr
   ·cases e
  ·cases e
 | index x i =>
  simp only [IOp.gex] at e
  simp only [IOp.ex]
  have hx := hE.opd x
  have hi := hE.opd i
  split at e
  ·rename_i s k n hg hn
   rw [hg] at hx; rw [hn] at hi
   simp only [RV] at hx hi
   rw [hx, hi]
   split at e
   ·rename_i hc
    obtain ⟨b, h1, h2⟩ := Option.map_eq_some_iff.1 e
    cases h2
    exact Step.pure hC hE (by simp only; rw [if_pos hc, h1]; rfl) (by simp only [RV]) noOwn_int
   ·cases e
  ·cases e
 | indexA ln esz n agg x i =>
  simp only [IOp.gex] at e
  simp only [IOp.ex]
  have hx := hE.opd x
  have hi := hE.opd i
  split at e
  ·rename_i cs k j hg hn
   rw [hg] at hx; rw [hn] at hi
   simp only [RV] at hx hi
   obtain ⟨vs, h1, h2⟩ := hx
   rw [h1, hi]
   have h2 := RL_iff.1 h2
   split at e
   ·rename_i hc
    obtain ⟨r, h3, h4⟩ := Option.map_eq_some_iff.1 e
    cases h4
    obtain ⟨v, h5, h6⟩ := RV_gof (h2.cut _ n) h3
    exact Step.pure hC hE (v := v) (by simp only; rw [if_pos (by rw [← h2.length]; exact hc), h5]; rfl) (RV_share h6) (noOwn_share _)
   ·cases e
  ·cases e
 | lookup kd zero m k ok =>
  simp only [IOp.gex] at e
  simp only [IOp.ex]
  have hm := hE.opd m
  have hk := hE.opd k
  have fin : ∀ {w : U} {wv : V} {b : Bool}, RV st X α w wv → Step lo st X α ω env dst (some (if ok then V.tup [wv, .bool b] else wv, st)) (if ok then .tup [w.share, .bool b] else w.share) genv h := by
   intro w wv b hw
   cases ok with
   | true =>
    refine Step.pure hC hE rfl ?_ noOwn_tup2
    simp only [if_true, RV]
    exact ⟨_, rfl, RL_iff.2 ⟨RV_share hw, by simp only [RV], trivial⟩⟩
   | false => exact Step.pure hC hE rfl (RV_share hw) (noOwn_share _)
  split at e
  ·rename_i hg
   rw [hg] at hm; simp only [RV] at hm; rw [hm]
   split at e
   ·rename_i hc
    cases e
    rw [if_pos (keyEq_sim hk hk hc)]
    exact fin (RV_ofV zero)
   ·cases e
  ·rename_i o hg
   rw [hg] at hm; simp only [RV] at hm
   obtain ⟨a, h1, h2⟩ := hm
   rw [h2]
   split at e
   ·rename_i es hes
    obtain ⟨qs, h3, h4⟩ := hC.get h1 hes
    obtain ⟨r, h5, h6⟩ := Option.map_eq_some_iff.1 e
    cases h6
    obtain ⟨s, h7, h8⟩ := mapFind_sim hk h4 h5
    simp only [h3, h7, Option.map_some]
    rcases h8 with ⟨rfl, rfl⟩ | ⟨u, v, rfl, rfl, h9⟩
    ·exact fin (RV_ofV zero)
    ·exact fin h9
   ·cases e
  ·cases e
 | mapset kd m k v =>
  simp only [IOp.gex] at e
  simp only [IOp.ex]
  have hm := hE.opd m
  have hk := hE.opd k
  have hv := hE.opd v
  split at e
  ·rename_i o hg
   rw [hg] at hm; simp only [RV] at hm
   obtain ⟨a, h1, h2⟩ := hm
   rw [h2]
   split at e
   ·rename_i hlo
    split at e
    ·rename_i es hes
     obtain ⟨qs, h3, h4⟩ := hC.get h1 hes
     obtain ⟨r, h5, h6⟩ := Option.map_eq_some_iff.1 e
     cases h6
     obtain ⟨s, h7, h8⟩ := mapPut_sim hk (RV_share hv) h4 h5
     simp only [h3, h7, Option.map_some]
     have G := grow_set (x := .map s) hC h1
     refine ⟨_, _, rfl, X, α, ω, ?_, ?_, ?_⟩
     ·exact hC.setobj h1 (fun _ _ _ _ e => e) ⟨s, by rw [St.get_set, if_pos rfl], h8.mono fun u v e => ⟨e.1.grow G, e.2.grow G⟩⟩
     ·exact EnvR.putNo (hE.step G fun p k j _ hX e => ⟨set_keep (obj_ne hC h1 hX), e⟩) (by simp only [RV]; exact ⟨[], rfl, by simp only [RL]⟩) ⟨fun _ _ h => (by cases h), fun us j e es h => by cases h; simp⟩
     ·exact Fr.setobj hC h1 hlo (fun _ e => e) fun _ _ _ _ e => e
    ·cases e
   ·cases e
  ·cases e
 | extract x i =>
  simp only [IOp.gex] at e
  simp only [IOp.ex]
  have hx := hE.opd x
  split at e
  ·rename_i us hg
   obtain ⟨w, h1, h2⟩ := Option.map_eq_some_iff.1 e
   cases h2
   rw [hg] at hx; simp only [RV] at hx
   obtain ⟨vs, h3, h4⟩ := hx
   obtain ⟨v, h5, h6⟩ := (RL_iff.1 h4).get h1
   exact ⟨v, st, by rw [h3]; simp only [h5, Option.map_some], Post.extract hC hE hg h3 h1 h5 h6⟩
  ·cases e
 | len kd x =>
  simp only [IOp.gex] at e
  simp only [IOp.ex]
  have hx := hE.opd x
  split at e
  ·rename_i hg
   rw [hg] at hx; simp only [RV] at hx; rw [hx]
   cases e
   exact Step.pure hC hE rfl (by simp only [RV]) noOwn_int
  ·rename_i hg
   rw [hg] at hx; simp only [RV] at hx; rw [hx]
   cases e
   exact Step.pure hC hE rfl (by simp only [RV]) noOwn_int
  ·rename_i cp e' es hg
   cases e
   rw [hg] at hx; simp only [RV] at hx
   rcases hx with ⟨h1, h2⟩ | ⟨o, g, off, ln, cap, row, gen, live, ro, h1, h2, h3, h4, h5, h6, _⟩
   ·have := (RLL_iff.1 h2).nil'
    subst this
    rw [h1]
    exact Step.pure hC hE rfl (by simp only [RV]; rfl) noOwn_int
   ·rw [h1]
    refine Step.pure hC hE rfl ?_ noOwn_int
    simp only [RV]
    rw [(RLL_iff.1 h6).length, part_length h5]
  ·rename_i e' es hg
   cases e
   rw [hg] at hx; simp only [RV] at hx
   rcases hx with ⟨h1, h2⟩ | ⟨o, g, off, ln, cap, row, gen, live, ro, h1, h2, h3, h4, h5, h6⟩
   ·have := (RLL_iff.1 h2).nil'
    subst this
    rw [h1]
    exact Step.pure hC hE rfl (by simp only [RV]; rfl) noOwn_int
   ·rw [h1]
    refine Step.pure hC hE rfl ?_ noOwn_int
    simp only [RV]
    rw [(RLL_iff.1 h6).length, part_length h5]
  ·rename_i hg
   rw [hg] at hx; simp only [RV] at hx
   obtain ⟨a, _, h2⟩ := hx
   cases e
   rw [h2]
   exact Step.pure hC hE rfl (by simp only [RV]) noOwn_int
  ·rename_i hg
   rw [hg] at hx; simp only [RV] at hx; rw [hx]
   cases e
   exact Step.pure hC hE rfl (by simp only [RV]) noOwn_int
  ·rename_i o hg
   rw [hg] at hx; simp only [RV] at hx
   obtain ⟨a, h1, h2⟩ := hx
   rw [h2]
   split at e
   ·rename_i es hes
    obtain ⟨qs, h3, h4⟩ := hC.get h1 hes
    split at e
    ·rename_i hc
     cases e
     refine Step.pure hC hE (v := .int .i64 qs.length) ?_ (by simp only [RV]; rw [h4.length]) noOwn_int
     simp only [h3]
     rw [if_pos (by rw [← h4.length]; exact hc)]
    ·cases e
   ·cases e
  ·cases e
 | append esz bytes s x => exact append_sim hC hE e
 | appendz esz bytes zero s n => exact appendz_sim hC hE e
 | copy esz d s => exact copy_sim hC hE e
 | minmax mn xs =>
  simp only [IOp.gex] at e
  simp only [IOp.ex]
  have hxs := hE.opds xs
  split at e
  ·rename_i x r hg
   rw [hg] at hxs
   obtain ⟨v, vs, h1, h2, h3⟩ := hxs.cons
   obtain ⟨w, h4, h5⟩ := Option.map_eq_some_iff.1 e
   cases h5
   obtain ⟨k, n, rfl, h6⟩ := minmax_sim h2 h3 h4
   rw [h1]
   exact Step.pure hC hE (v := .int k n) (by simp only [h6, Option.map_some]) (by simp only [RV]) noOwn_int
  ·cases e
 | call f args => simp [IOp.gex] at e
 | callv f args => simp [IOp.gex] at e
end Go.Ab
