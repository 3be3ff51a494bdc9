/- Each operation of the machine of values is one of the abstract machine. -/
import Derived.Test.YtpeafiomifmadaaValD
namespace Go.Ab
open Go
set_option linter.unusedVariables false
set_option linter.unusedSimpArgs false
variable {st st' : St} {X X' : Nat → Prop} {α α' : List Ad} {ω ω' : Om} {h h' : GH} {genv : GEnv} {env : Env} {lo : Nat}
theorem layGet {β : Type} {l x : List β} {a : Nat} (ha : a + x.length ≤ l.length) (j : Nat) : (lay l a x)[j]? = if j < a then l[j]? else if j < a + x.length then x[j - a]? else l[j]? := by
 unfold lay
 have h1 : (l.take a).length = a := by simp; omega
 split
 ·rw [List.append_assoc, List.getElem?_append_left (by omega), List.getElem?_take, if_pos (by omega)]
 ·rw [List.append_assoc, List.getElem?_append_right (by omega), h1]
  split
  ·rw [List.getElem?_append_left (by omega)]
  ·rw [List.getElem?_append_right (by omega), List.getElem?_drop]
   congr 1; omega
theorem obj_ne (hC : Cf st X α ω h) {k : Nat} {a : Ad} (ha : α[k]? = some a) {o : Nat} (ho : ¬ X o) : o ≠ a.a := fun e => ho (by rw [e]; exact hC.x _ _ ha)
theorem set_keep {a o : Nat} {x : Obj} (h : o ≠ a) : (st.set a x).get o = st.get o := by rw [St.get_set, if_neg h]
theorem grow_set (hC : Cf st X α ω h) {k : Nat} {a : Ad} (ha : α[k]? = some a) (x : Obj) : Grow st X α (st.set a.a x) X α :=
 ⟨hC.low, fun _ _ e => e, fun o _ ho => .same (set_keep (obj_ne hC ha ho)), fun _ _ e => e⟩
theorem Cf.setobj (hC : Cf st X α ω h) {k : Nat} {a : Ad} (ha : α[k]? = some a) {x : Obj} {b : GObj} (hω : ∀ o k' s, k' ≠ k → ω o = some (.cell k' s) → ω' o = some (.cell k' s)) (hb : ObjR (st.set a.a x) X α ω' k a b) : Cf (st.set a.a x) X α ω' (h.set k b) := by
 have G := grow_set hC ha x
 refine ⟨(Up.set (n := 0) _ (Nat.zero_le _) (Nat.zero_le _) (hC.lt _ _ ha)).low hC.low, by simp [hC.len], hC.inj, hC.x, hC.lt, fun i c d e1 e2 => ?_⟩
 rw [List.getElem?_set] at e2
 split at e2
 ·rename_i e
  subst e
  split at e2
  ·cases e2
   rw [ha] at e1
   cases e1
   exact hb
  ·cases e2
 ·rename_i e
  have hne : c.a ≠ a.a := fun e' => e (hC.inj _ _ _ _ ha e1 e'.symm)
  exact (hC.obj i c d e1 e2).step G (set_keep hne) fun o s _ ho hc => ⟨set_keep (obj_ne hC ha ho), hω o i s (fun e' => e e'.symm) hc⟩
theorem Fr.setobj (hC : Cf st X α ω h) {k : Nat} {a : Ad} (ha : α[k]? = some a) (hk : lo ≤ k) {x : Obj} (h1 : ∀ o, ω o = none → ω' o = none) (h2 : ∀ o k' s, k' < lo → ω o = some (.cell k' s) → ω' o = some (.cell k' s)) : Fr lo st X α ω (st.set a.a x) X α ω' := by
 refine ⟨Nat.le_refl _, fun _ _ e => e, fun _ _ e => .inl e, fun _ _ => Iff.rfl, fun o _ ho _ => set_keep fun e => ?_, fun o _ ho => .same (set_keep (obj_ne hC ha ho)), fun o _ e => h1 o e, fun o i s _ e hi => h2 o i s hi e⟩
 have := ho k a ha e.symm
 omega
theorem Post.take (hC : Cf st X α ω h) (hE : EnvR st X α ω genv env) {d : Nat} {a : U} {av v : V} {n e : Nat} {agg : Bool} {es : List (List U)} (ha : RV st X α a av) (hl : gload h a n agg = some (.own e es)) (hv : st.load av n agg = some v) (hu : RV st X α (.own e es) v) (ht : gtake lo h a = some h') :
  Post lo st X α ω (some d) (.own e es) genv h' env v st := by
 unfold gtake at ht
 split at ht
 ·rename_i o g0 i s
  split at ht
  ·rename_i hlo
   split at ht
   ·rename_i cs hb
    split at ht
    ·rename_i e' es' hcs
     cases ht
     simp only [RV] at ha
     obtain ⟨b, hb', rfl⟩ := ha
     obtain ⟨h0, vs, h1, h2, h3⟩ := hC.get hb' hb
     obtain ⟨w, hw, hwr⟩ := h2.get hcs
     have hread : agg = false ∧ n = 1 ∧ i = 0 ∧ e' = e ∧ es' = es ∧ w = v := by
      simp only [gload, hb] at hl
      split at hl
      ·rename_i hi
       obtain ⟨hg0, rfl, hs⟩ := hi
       unfold gof at hl
       split at hl
       ·cases hl
       ·rename_i hagg
        have hc1 : ∃ c, cut cs s n = [c] := by
         split at hl
         ·rename_i c hc; exact ⟨c, hc⟩
         ·cases hl
        obtain ⟨c, hc⟩ := hc1
        have hn : n = 1 := by
         have := congrArg List.length hc
         rw [part_length hs] at this
         exact this
        subst hn
        rw [hc] at hl
        simp only [Option.some.injEq] at hl
        have hc0 : cs[s]? = some c := by
         have := part_get (l := cs) (a := s) (n := 1) (i := 0) (by omega)
         rw [hc] at this
         simpa using this.symm
        rw [hcs] at hc0
        cases hc0
        cases hl
        refine ⟨by simpa using hagg, rfl, rfl, rfl, rfl, ?_⟩
        have hv' : cut vs s 1 = [w] := by
         have hlen : (cut vs s 1).length = 1 := part_length (by rw [← h2.length]; exact hs)
         match hcut : cut vs s 1, hlen with
         | [z], _ =>
          have := part_get (l := vs) (a := s) (n := 1) (i := 0) (by omega)
          rw [hcut, Nat.add_zero, hw] at this
          simpa using this
        simp only [St.load, h1, Nat.zero_le, if_true, List.getElem?_cons_zero] at hv
        rw [if_pos (by rw [← h2.length]; exact hs), hv'] at hv
        have : agg = false := by simpa using hagg
        subst this
        simpa [ofCells] using hv
      ·cases hl
     obtain ⟨rfl, rfl, rfl, rfl, rfl, rfl⟩ := hread
     have hcl := h3 s _ _ w hcs hw
     have G : Grow st X α st X α := Grow.id hC.low
     refine ⟨X, α, re ω (.cell o s) (.tmp d 0), ?_, ?_, ?_⟩
     ·refine ⟨hC.low, by simp [hC.len], hC.inj, hC.x, hC.lt, fun j c g e1 e2 => ?_⟩
      rw [List.getElem?_set] at e2
      split at e2
      ·rename_i e0
       subst e0
       split at e2
       ·cases e2
        rw [hb'] at e1
        cases e1
        refine ⟨h0, vs, h1, ?_, fun t x es v k1 k2 => ?_⟩
        ·have := h2.set s (RV_share hwr)
         have hvs : vs.set s w = vs := by
          obtain ⟨q1, q2⟩ := List.getElem?_eq_some_iff.1 hw
          rw [← q2]; exact List.set_getElem_self q1
         rw [hvs] at this
         exact this
        ·rw [List.getElem?_set] at k1
         split at k1
         ·split at k1 <;> cases k1
         ·rename_i hne
          exact (h3 t x es v k1 k2).step G fun p _ _ hp => ⟨rfl, re_ne hp (by simp; omega)⟩
       ·cases e2
      ·rename_i e0
       exact (hC.obj j c g e1 e2).step G rfl fun p t _ _ hp => ⟨rfl, re_ne hp (by simp; omega)⟩
     ·refine EnvR.put (hE.step G fun p m j _ _ hp => ⟨rfl, re_ne hp (by simp)⟩) hu fun m hm => ⟨fun x y hxy => ?_, fun us vs j e es w he => by cases he⟩
      cases hxy
      cases hm
      rcases hcl with q | ⟨o', g, row, live, q1, q0, q2, q3, q4⟩
      ·exact .inl q
      ·exact .inr ⟨o', g, row, live, q1, q0, q2, q3, re_eq q4⟩
     ·refine ⟨Nat.le_refl _, fun _ _ e => e, fun _ _ e => .inl e, fun _ _ => Iff.rfl, fun _ _ _ _ => rfl, fun _ _ _ => .same rfl, fun p _ e => re_none e, fun p k t _ e hk => re_ne e (by simp; intro h; omega)⟩
    ·cases ht
   ·cases ht
  ·cases ht
 ·cases ht
theorem demote_own {x : Opd} {e : Nat} {es : List (List U)} (hx : x.gev genv = .own e es) : ∃ n, x = .t n ∧ GEnv.get genv n = .own e es ∧ demote genv x = (n, .list false e es) :: genv := by
 obtain ⟨n, rfl, hn⟩ := gev_own hx
 exact ⟨n, rfl, hn, by simp only [demote, hn]⟩
theorem demote_no {x : Opd} (hx : ∀ e es, x.gev genv ≠ .own e es) (ht : ∀ us, x.gev genv ≠ .tup us) : demote genv x = genv := by
 cases x with
 | c v => rfl
 | t n =>
  simp only [Opd.gev] at hx ht
  simp only [demote]
theorem Post.store (hC : Cf st X α ω h) (hE : EnvR st X α ω genv env) {dst : Option Nat} {a : U} {av : V} {n : Nat} {x : Opd} {genv' : GEnv} (ha : RV st X α a av) (e : gstore lo h a n (x.gev genv) genv x = some (genv', h')) :
  ∃ st', st.store av n (x.ev env) = some st' ∧ Post lo st X α ω dst (.tup []) genv' h' env (.tup []) st' := by
 have hx := hE.opd x
 have notup : (U.tup []).noOwn := ⟨fun _ _ h => (by cases h), fun us j e es h => by cases h; simp⟩
 unfold gstore at e
 split at e
 ·rename_i o g i s
  simp only [RV] at ha
  obtain ⟨b, hb', rfl⟩ := ha
  split at e
  ·rename_i hlo
   split at e
   ·rename_i cs hb
    obtain ⟨h0, vs, h1, h2, h3⟩ := hC.get hb' hb
    split at e
    ·rename_i xs hxs
     split at e
     ·rename_i hc
      obtain ⟨rfl, rfl, hs, hn, hone⟩ := hc
      cases e
      obtain ⟨ys, hys, hxy⟩ := RV_mcells hx hxs
      have hst : st.store (.ptr b.a (b.g + 0) 0 s) n (x.ev env) = some (st.set b.a (.row [lay vs s ys] 0 0 false)) := by
       simp only [St.store, h1, h0, Nat.add_zero, and_self, if_true, List.getElem?_cons_zero, hys]
       rw [if_pos ⟨by rw [← h2.length]; exact hs, by rw [← hxy.length]; exact hn, L2_one hxy hone⟩]
       rfl
      refine ⟨_, hst, ?_⟩
      have G := grow_set (x := .row [lay vs s ys] 0 0 false) hC hb'
      have hs' : s + xs.length ≤ cs.length := by rw [hn]; exact hs
      have box : ∀ ω', (∀ p t, p < st.next → ¬ X p → t < s ∨ s + n ≤ t → ω p = some (.cell o t) → ω' p = some (.cell o t)) → (∀ q es v, xs[0]? = some (.own q es) → ys[0]? = some v → OwnC (st.set b.a (.row [lay vs s ys] 0 0 false)) X ω' (.cell o s) q v) → ObjR (st.set b.a (.row [lay vs s ys] 0 0 false)) X α ω' o b (.box (lay cs s xs)) := by
       intro ω' k1 k2
       refine ⟨h0, lay vs s ys, by rw [St.get_set, if_pos rfl], (h2.lay hxy s).mono fun u v e => e.grow G, fun t q es v k3 k4 => ?_⟩
       rw [layGet hs'] at k3
       rw [layGet (by rw [← hxy.length, ← h2.length]; exact hs'), ← hxy.length] at k4
       split at k3
       ·rename_i ht
        rw [if_pos ht] at k4
        exact (h3 t q es v k3 k4).step G fun p hp hX hω => ⟨set_keep (obj_ne hC hb' hX), k1 p t hp hX (.inl ht) hω⟩
       ·rename_i ht
        rw [if_neg ht] at k4
        split at k3
        ·rename_i ht2
         rw [if_pos ht2] at k4
         obtain ⟨m1, m2, m3⟩ := mcells_own hxs k3
         rw [m1] at k3 k4
         have : t = s := by omega
         rw [this]
         exact k2 q es v k3 k4
        ·rename_i ht2
         rw [if_neg ht2] at k4
         exact (h3 t q es v k3 k4).step G fun p hp hX hω => ⟨set_keep (obj_ne hC hb' hX), k1 p t hp hX (.inr (by omega)) hω⟩
      by_cases hown : ∃ q es, x.gev genv = .own q es
      ·obtain ⟨q, es, hq⟩ := hown
       obtain ⟨m, rfl, hm, hd⟩ := demote_own hq
       rw [hd]
       have hx1 : xs = [.own q es] := by rw [hq] at hxs; simp only [U.mcells, Option.some.injEq] at hxs; exact hxs.symm
       have hv := (hE m).1
       have hoc := (hE m).2
       rw [hm] at hv hoc
       have hy1 : ys = [Env.get env m] := by
        subst hx1
        obtain ⟨y, r, rfl, _, h5⟩ := hxy.cons
        have := h5.nil
        subst this
        have h6 : cellsOf (Env.get env m) = some [Env.get env m] := by
         simp only [RV] at hv
         rcases hv with ⟨h6, _⟩ | ⟨_, _, _, _, _, _, _, _, _, h6, _⟩ <;> rw [h6] <;> rfl
        simp only [Opd.ev] at hys
        rw [h6] at hys
        cases hys; rfl
       refine ⟨X, α, re ω (.tmp m 0) (.cell o s), ?_, ?_, ?_⟩
       ·refine hC.setobj hb' (fun p k t _ e => re_ne e (by simp)) (box _ (fun p t _ _ _ e => re_ne e (by simp)) fun q' es' v e1 e2 => ?_)
        subst hx1 hy1
        simp only [List.getElem?_cons_zero, Option.some.injEq] at e1 e2
        cases e1
        subst e2
        rcases hoc.1 _ _ rfl with q | ⟨o', g, row, live, q1, q0, q2, q3, q4⟩
        ·exact .inl q
        ·exact .inr ⟨o', g, row, live, q1, q0, by rw [set_keep (obj_ne hC hb' q0)]; exact q2, q3, re_eq q4⟩
       ·refine EnvR.putNo (hE.stepx G (fun p k j hk _ hX e => ⟨set_keep (obj_ne hC hb' hX), re_ne e (by simp; intro h; exact absurd h hk)⟩) ?_ noOwn_list) (by simp only [RV]; exact ⟨[], rfl, by simp only [RL]⟩) notup
        exact (RV_share hv).grow G
       ·exact Fr.setobj hC hb' hlo (fun p e => re_none e) fun p k t hk e => re_ne e (by simp)
      ·have hd : demote genv x = genv := demote_no (fun q es hq => hown ⟨q, es, hq⟩) fun us ht => by first | (rw [ht] at hxs; cases hxs) | (rw [ht] at hcs; cases hcs)
       rw [hd]
       refine ⟨X, α, ω, ?_, ?_, ?_⟩
       ·refine hC.setobj hb' (fun _ _ _ _ e => e) (box _ (fun _ _ _ _ _ e => e) fun q' es' v e1 e2 => ?_)
        exact absurd ⟨_, _, (mcells_own hxs e1).2.1⟩ hown
       ·exact EnvR.putNo (hE.step G fun p k j _ hX e => ⟨set_keep (obj_ne hC hb' hX), e⟩) (by simp only [RV]; exact ⟨[], rfl, by simp only [RL]⟩) notup
       ·exact Fr.setobj hC hb' hlo (fun _ e => e) fun _ _ _ _ e => e
     ·cases e
    ·cases e
   ·rename_i es gen live hb
    obtain ⟨rows, lv, h1, hlv, h2⟩ := hC.get hb' hb
    split at e
    ·rename_i cs xs hcs hxs
     split at e
     ·rename_i hc
      obtain ⟨rfl, hs, hn, hone⟩ := hc
      cases e
      obtain ⟨ys, hys, hxy⟩ := RV_cells (RV_share hx) hxs
      obtain ⟨vs, hvs, h3⟩ := h2.get hcs
      have hst : st.store (.ptr b.a (b.g + g) i s) n (x.ev env) = some (st.set b.a (.row (rows.set i (lay vs s ys)) (b.g + g) (b.g + g) false)) := by
       simp only [St.store, h1, and_self, if_true, hvs, hys]
       rw [if_pos ⟨by rw [← h3.length]; exact hs, by rw [← hxy.length]; exact hn, L2_one hxy hone⟩]
      refine ⟨_, hst, ?_⟩
      have G := grow_set (x := .row (rows.set i (lay vs s ys)) (b.g + g) (b.g + g) false) hC hb'
      refine ⟨X, α, ω, ?_, ?_, ?_⟩
      ·refine hC.setobj hb' (fun _ _ _ _ e => e) ⟨_, _, by rw [St.get_set, if_pos rfl], Nat.le_refl _, ?_⟩
       exact (h2.set i (h3.lay hxy s)).mono fun u v e => e.mono fun u v e => e.grow G
      ·exact EnvR.putNo (hE.step G fun p k j _ hX e => ⟨set_keep (obj_ne hC hb' hX), e⟩) (by simp only [RV]; exact ⟨[], rfl, by simp only [RL]⟩) notup
      ·exact Fr.setobj hC hb' hlo (fun _ e => e) fun _ _ _ _ e => e
     ·cases e
    ·cases e
   ·cases e
  ·cases e
 ·cases e
theorem Post.box (hC : Cf st X α ω h) (hE : EnvR st X α ω genv env) {dst : Option Nat} {x : Opd} {cs : List U} (hcs : (x.gev genv).mcells = some cs) (hone : cs.all U.one = true) :
  ∃ vs, cellsOf (x.ev env) = some vs ∧ vs.all V.one = true ∧ Post lo st X α ω dst (.ptr h.length 0 0 0) (demote genv x) (h ++ [.box cs]) env (.ptr st.next 0 0 0) (st.push (.row [vs] 0 0 false)) := by
 have hx := hE.opd x
 obtain ⟨vs, h1, h2⟩ := RV_mcells hx hcs
 refine ⟨vs, h1, L2_one h2 hone, ?_⟩
 have hget : (st.push (.row [vs] 0 0 false)).get st.next = some (.row [vs] 0 0 false) := by rw [St.get_push, if_pos rfl]
 have hkeep : ∀ (o : Nat), o < st.next → (st.push (.row [vs] 0 0 false)).get o = st.get o := fun o ho => by rw [St.get_push, if_neg (by omega)]
 have noptr : (U.ptr h.length 0 0 0).noOwn := ⟨fun _ _ h => (by cases h), fun _ _ _ _ h => (by cases h)⟩
 have G := grow_obj hC (.row [vs] 0 0 false)
 by_cases hown : ∃ q es, x.gev genv = .own q es
 ·obtain ⟨q, es, hq⟩ := hown
  obtain ⟨m, rfl, hm, hd⟩ := demote_own hq
  rw [hd]
  have hx1 : cs = [.own q es] := by rw [hq] at hcs; simp only [U.mcells, Option.some.injEq] at hcs; exact hcs.symm
  have hv := (hE m).1
  have hoc := (hE m).2
  rw [hm] at hv hoc
  have hy1 : vs = [Env.get env m] := by
   have h6 : cellsOf (Env.get env m) = some [Env.get env m] := by
    simp only [RV] at hv
    rcases hv with ⟨h6, _⟩ | ⟨_, _, _, _, _, _, _, _, _, h6, _⟩ <;> rw [h6] <;> rfl
   simp only [Opd.ev] at h1
   rw [h6] at h1
   cases h1; rfl
  refine ⟨_, _, re ω (.tmp m 0) (.cell h.length 0), hC.newobj (fun o k s _ e => re_ne e (by simp)) ?_, ?_, Fr.newobj hC (fun o _ e => re_none e) (fun o k s _ e => re_ne e (by simp))⟩
  ·refine ⟨rfl, vs, hget, h2.mono fun u v e => e.grow G, fun t q' es' v e1 e2 => ?_⟩
   subst hx1 hy1
   cases t with
   | succ t => simp at e1
   | zero =>
    simp only [List.getElem?_cons_zero, Option.some.injEq] at e1 e2
    cases e1
    subst e2
    rcases hoc.1 _ _ rfl with q | ⟨o', g, row, live, q1, q0, q2, q3, q4⟩
    ·exact .inl q
    ·have hlt := hC.low _ _ q2
     exact .inr ⟨o', g, row, live, q1, fun e => by rcases e with e | e; exact q0 e.1; omega, by rw [hkeep _ hlt]; exact q2, q3, re_eq q4⟩
  ·refine EnvR.putNo (hE.stepx G (fun p k j hk hp _ e => ⟨hkeep p hp, re_ne e (by simp; intro h; exact absurd h hk)⟩) ((RV_share hv).grow G) noOwn_list) ?_ noptr
   simp only [RV]
   exact ⟨⟨st.next, 0⟩, al_last hC, rfl⟩
 ·have hd : demote genv x = genv := demote_no (fun q es hq => hown ⟨q, es, hq⟩) fun us ht => by first | (rw [ht] at hxs; cases hxs) | (rw [ht] at hcs; cases hcs)
  rw [hd]
  refine Post.newobj hC hE (fun X' α' G => ⟨rfl, vs, hget, h2.mono fun u v e => e.grow G, fun t q es v e1 e2 => ?_⟩) (fun X' => ?_) noptr
  ·exact absurd ⟨_, _, (mcells_own hcs e1).2.1⟩ hown
  ·simp only [RV]
   exact ⟨⟨st.next, 0⟩, al_last hC, rfl⟩
end Go.Ab
