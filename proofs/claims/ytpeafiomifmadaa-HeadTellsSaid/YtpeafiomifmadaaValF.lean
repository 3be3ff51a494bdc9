/- Each operation that is no call: the machine of values and the abstract machine go side by side. -/
import Derived.Test.YtpeafiomifmadaaValE
namespace Go.Ab
open Go
set_option linter.unusedVariables false
set_option linter.unusedSimpArgs false
variable {st st' : St} {X X' : Nat → Prop} {α α' : List Ad} {ω ω' : Om} {h h' : GH} {genv : GEnv} {env : Env} {lo : Nat}
theorem noOwn_bool {b : Bool} : (U.bool b).noOwn := ⟨fun _ _ h => (by cases h), fun _ _ _ _ h => (by cases h)⟩
theorem noOwn_int {k : IntKind} {n : Int} : (U.int k n).noOwn := ⟨fun _ _ h => (by cases h), fun _ _ _ _ h => (by cases h)⟩
theorem noOwn_str {s : List Int} : (U.str s).noOwn := ⟨fun _ _ h => (by cases h), fun _ _ _ _ h => (by cases h)⟩
theorem noOwn_ptr {o g i s : Nat} : (U.ptr o g i s).noOwn := ⟨fun _ _ h => (by cases h), fun _ _ _ _ h => (by cases h)⟩
theorem noOwn_eptr {cs : List U} {s : Nat} : (U.eptr cs s).noOwn := ⟨fun _ _ h => (by cases h), fun _ _ _ _ h => (by cases h)⟩
theorem noOwn_agg {cs : List U} : (U.agg cs).noOwn := ⟨fun _ _ h => (by cases h), fun _ _ _ _ h => (by cases h)⟩
theorem noOwn_fn {f : Fn} {a c : List U} : (U.fn f a c).noOwn := ⟨fun _ _ h => (by cases h), fun _ _ _ _ h => (by cases h)⟩
theorem noOwn_map {o : Nat} : (U.map o).noOwn := ⟨fun _ _ h => (by cases h), fun _ _ _ _ h => (by cases h)⟩
theorem noOwn_nils : U.nils.noOwn := ⟨fun _ _ h => (by cases h), fun _ _ _ _ h => (by cases h)⟩
theorem noOwn_ofV (v : V) : (U.ofV v).noOwn := by cases v <;> exact ⟨fun _ _ h => (by cases h), fun _ _ _ _ h => (by cases h)⟩
theorem noOwn_tup2 {u : U} {b : Bool} : (U.tup [u.share, .bool b]).noOwn := ⟨fun _ _ h => (by cases h), fun us j e es h k => by
 cases h
 match j with
 | 0 => simp only [List.getElem?_cons_zero, Option.some.injEq] at k; exact (noOwn_share u).1 _ _ k
 | 1 => simp at k
 | j + 2 => simp at k⟩
def Step (lo : Nat) (st : St) (X : Nat → Prop) (α : List Ad) (ω : Om) (env : Env) (dst : Option Nat) (r : Option (V × St)) (u : U) (genv' : GEnv) (h' : GH) : Prop :=
 ∃ v st', r = some (v, st') ∧ Post lo st X α ω dst u genv' h' env v st'
theorem Step.pure (hC : Cf st X α ω h) (hE : EnvR st X α ω genv env) {dst : Option Nat} {r : Option (V × St)} {u : U} {v : V} (hr : r = some (v, st)) (hu : RV st X α u v) (hn : u.noOwn) : Step lo st X α ω env dst r u genv h :=
 ⟨v, st, hr, Post.pure hC hE hu hn⟩
theorem gappend_sim (hC : Cf st X α ω h) (hE : EnvR st X α ω genv env) {fl : Fl} {dst : Option Nat} {esz bytes : Nat} {s : Opd} {ys : List (List U)} {vs : List (List V)} (h2 : L2 (L2 (RV st X α)) ys vs) {u : U} {genv' : GEnv} (e : gappend fl lo dst esz bytes s ys genv h = some (u, genv', h')) :
  Step lo st X α ω env dst (st.append esz bytes (s.ev env) vs) u genv' h' := by
 unfold gappend at e
 have hs := hE.opd s
 split at e
 ·rename_i hg
  rw [hg] at hs
  simp only [RV] at hs
  split at e
  ·rename_i hr
   split at e
   ·rename_i hy
    obtain ⟨_, hy⟩ := hy
    subst hy
    cases e
    have := h2.nil
    subst this
    exact Step.pure hC hE (v := .nils) (by rw [hs]; simp [St.append]) (by simp only [RV]) noOwn_nils
   ·rename_i hy
    by_cases hv : vs = []
    ·subst hv
     have := h2.nil'
     subst this
     unfold gfresh at e
     split at e
     ·rename_i harr; exact absurd ⟨harr, rfl⟩ hy
     ·cases e
      refine ⟨.nils, st, by rw [hs]; simp [St.append], X, α, ω, hC, ?_, .refl⟩
      exact hE.put (by simp only [RV]; exact .inl ⟨by trivial, by simp only [RLL]⟩) fun n _ => ⟨fun _ _ _ => .inl rfl, fun us vs j e es w h => by cases h⟩
    exact ⟨_, _, by rw [hs]; simp only [St.append, if_neg hv]; rw [← h2.length, if_pos hr, h2.length], Post.fresh hC hE h2 e⟩
  ·cases e
 ·rename_i e' es hg
  obtain ⟨n, rfl, hn, hd⟩ := demote_own hg
  split at e
  ·rename_i hr
   cases e
   obtain ⟨rfl, hr⟩ := hr
   rw [hd]
   obtain ⟨v, st', h3, h4⟩ := Post.append (lo := lo) (dst := dst) hC hE hn h2 hr
   exact ⟨v, st', h3, h4⟩
  ·cases e
 ·rename_i e' es hg
  rw [hg] at hs
  simp only [RV] at hs
  split at e
  ·rename_i hr
   cases e
   obtain ⟨rfl, hr⟩ := hr
   have sh : ∀ {v : V} {st' : St}, Post lo st X α ω dst (.own e' (es ++ ys)) genv h env v st' → Post lo st X α ω dst (.list false e' (es ++ ys)) genv h env v st' := by
    rintro v st' ⟨X', α', ω', k1, k2, k3⟩
    refine ⟨X', α', ω', k1, fun n => ?_, k3⟩
    cases dst with
    | none => exact k2 n
    | some d =>
     have := k2 n
     simp only [GEnv.put, GEnv.get, Env.put, Env.get] at this ⊢
     by_cases hd : d = n
     ·rw [if_pos hd] at this ⊢; rw [if_pos hd] at this ⊢
      exact ⟨RV_share this.1, OwnT_noOwn noOwn_list⟩
     ·rw [if_neg hd] at this ⊢; rw [if_neg hd] at this ⊢; exact this
   rcases hs with ⟨h3, h4⟩ | ⟨o, g, off, ln, cap, row, gen, live, ro, h3, h4, h5, h6, h7, h8, h9⟩
   ·have := (RLL_iff.1 h4).nil'
    subst this
    rw [List.nil_append]
    simp only [List.length_nil, Nat.zero_add] at hr
    by_cases hy : vs = []
    ·subst hy
     have := h2.nil'
     subst this
     exact Step.pure hC hE (v := .nils) (by rw [h3]; simp [St.append]) (by simp only [RV]; exact .inl ⟨by trivial, by simp only [RLL]⟩) noOwn_list
    ·refine ⟨_, _, by rw [h3]; simp only [St.append, if_neg hy]; rw [← h2.length, if_pos hr, h2.length], ?_⟩
     have := sh (Post.own (lo := lo) (dst := dst) (e := e') hC hE (es := [] ++ ys) (by rw [List.nil_append]; exact h2))
     rw [List.nil_append] at this
     exact this
   ·have hcap := h9 (by trivial)
    by_cases hy : vs = []
    ·subst hy
     have := h2.nil'
     subst this
     rw [List.append_nil]
     refine Step.pure hC hE (v := s.ev env) (by rw [h3]; simp [St.append]) ?_ noOwn_list
     rw [h3]
     simp only [RV]
     exact .inr ⟨o, g, off, ln, cap, row, gen, live, ro, rfl, h4, h5, h6, h7, h8, fun e => by cases e⟩
    ·have hpos : 0 < vs.length := List.length_pos_iff.2 hy
     have h8 := RLL_iff.1 h8
     have hlen : es.length = ln := by rw [h8.length, part_length h7]
     refine ⟨.sl st.next 0 0 (ln + vs.length) e' none, st.push (.row (cut row off ln ++ vs) 0 0 false), ?_, ?_⟩
     ·rw [h3, hcap]
      simp only [St.append, ne_eq, not_true_eq_false, if_false, if_neg hy, St.elems, h5, h6, h7, and_self, if_true]
      rw [if_pos ⟨by omega, by rw [← hlen, ← h2.length]; exact hr⟩]
     ·have := sh (Post.own (lo := lo) (dst := dst) (e := e') hC hE (h8.append h2))
      have hl : (cut row off ln ++ vs).length = ln + vs.length := by rw [List.length_append, part_length h7]
      rw [hl] at this
      exact this
  ·cases e
 ·rename_i cap o g off ln e' hg
  rw [hg] at hs
  simp only [RV] at hs
  obtain ⟨d, h3, h4⟩ := hs
  split at e
  ·cases e
  ·rename_i he
   have he : e' = esz := by simpa using he
   subst he
   split at e
   ·rename_i hy
    subst hy
    cases e
    have := h2.nil
    subst this
    refine Step.pure hC hE (v := s.ev env) (by rw [h4]; simp [St.append]) ?_ noOwn_asl
    rw [h4]
    simp only [RV]
    exact ⟨d, h3, rfl⟩
   ·rename_i hy
    have hv : vs ≠ [] := fun e => by subst e; exact hy h2.nil'
    split at e
    ·rename_i c
     split at e
     ·rename_i es hes
      obtain ⟨ws, h5, h6⟩ := els_sim (xv := .sl d.a (d.g + g) off ln e' (some c)) hC (by simp only [RV]; exact ⟨d, h3, rfl⟩) hes
      split at e
      ·rename_i hr
       cases e
       have sh : ∀ {v : V} {st' : St}, Post lo st X α ω dst (.own e' (es ++ ys)) genv h env v st' → Post lo st X α ω dst (.list false e' (es ++ ys)) genv h env v st' := by
        rintro v st' ⟨X', α', ω', k1, k2, k3⟩
        refine ⟨X', α', ω', k1, fun n => ?_, k3⟩
        cases dst with
        | none => exact k2 n
        | some d =>
         have := k2 n
         simp only [GEnv.put, GEnv.get, Env.put, Env.get] at this ⊢
         by_cases hd : d = n
         ·rw [if_pos hd] at this ⊢; rw [if_pos hd] at this ⊢
          exact ⟨RV_share this.1, OwnT_noOwn noOwn_list⟩
         ·rw [if_neg hd] at this ⊢; rw [if_neg hd] at this ⊢; exact this
       have hlen : ws.length = ln := by
        simp only [St.elems] at h5
        split at h5
        ·split at h5
         ·rename_i hc; cases h5; exact part_length hc.2.2
         ·cases h5
        ·cases h5
       refine ⟨.sl st.next 0 0 (ln + vs.length) e' none, st.push (.row (ws ++ vs) 0 0 false), ?_, ?_⟩
       ·rw [h4]
        simp only [St.append, ne_eq, not_true_eq_false, if_false, if_neg hv, h5]
        rw [if_pos (by rw [← h2.length]; exact hr)]
       ·have := sh (Post.own (lo := lo) (dst := dst) (e := e') hC hE (h6.append h2))
        have hl : (ws ++ vs).length = ln + vs.length := by rw [List.length_append, hlen]
        rw [hl] at this
        exact this
      ·cases e
     ·cases e
    ·split at e
     ·rename_i hlo
      split at e
      ·rename_i es gen live hb
       obtain ⟨rows, lv, h5, hlv, h6⟩ := hC.get h3 hb
       split at e
       ·rename_i hc
        obtain ⟨rfl, rfl, hln, hroom⟩ := hc
        cases e
        have hlr := h6.length
        refine ⟨.sl d.a (d.g + (g + 1)) 0 (ln + vs.length) e' none, st.set d.a (.row (rows.take ln ++ vs) (d.g + (g + 1)) (if ln = rows.length then lv else d.g + (g + 1)) false), ?_, ?_⟩
        ·rw [h4]
         simp only [St.append, ne_eq, not_true_eq_false, if_false, if_neg hv, h5]
         rw [if_pos ⟨trivial, trivial, trivial, by rw [← hlr]; exact hln, by rw [← h2.length]; exact hroom⟩]
         rfl
        ·have G := grow_set (x := .row (rows.take ln ++ vs) (d.g + (g + 1)) (if ln = rows.length then lv else d.g + (g + 1)) false) hC h3
         refine ⟨X, α, ω, ?_, ?_, ?_⟩
         ·refine hC.setobj h3 (fun _ _ _ _ e => e) ⟨_, _, by rw [St.get_set, if_pos rfl], ?_, ?_⟩
          ·rw [hlr]
           split
           ·exact hlv
           ·exact Nat.le_refl _
          ·exact ((h6.take ln).append h2).mono fun u v e => e.mono fun u v e => e.grow G
         ·refine EnvR.putNo (hE.step G fun p k j _ hX e => ⟨set_keep (obj_ne hC h3 hX), e⟩) ?_ noOwn_asl
          simp only [RV]
          exact ⟨d, h3, by rw [h2.length]⟩
         ·exact Fr.setobj hC h3 hlo (fun _ e => e) fun _ _ _ _ e => e
       ·cases e
      ·cases e
     ·cases e
 ·cases e
theorem append_sim (hC : Cf st X α ω h) (hE : EnvR st X α ω genv env) {fl : Fl} {dst : Option Nat} {esz bytes : Nat} {s x : Opd} {u : U} {genv' : GEnv} (e : IOp.gex fl lo dst (.append esz bytes s x) genv h = some (u, genv', h')) :
  Step lo st X α ω env dst ((IOp.append esz bytes s x).ex env st) u genv' h' := by
 simp only [IOp.gex] at e
 simp only [IOp.ex]
 split at e
 ·rename_i ys hys
  obtain ⟨vs, h1, h2⟩ := els_sim hC (hE.opd x) hys
  rw [h1]
  exact gappend_sim hC hE h2 e
 ·cases e
theorem appendz_sim (hC : Cf st X α ω h) (hE : EnvR st X α ω genv env) {fl : Fl} {dst : Option Nat} {esz bytes : Nat} {zero : List V} {s n : Opd} {u : U} {genv' : GEnv} (e : IOp.gex fl lo dst (.appendz esz bytes zero s n) genv h = some (u, genv', h')) :
  Step lo st X α ω env dst ((IOp.appendz esz bytes zero s n).ex env st) u genv' h' := by
 simp only [IOp.gex] at e
 simp only [IOp.ex]
 have hn := hE.opd n
 split at e
 ·rename_i m hg
  rw [hg] at hn
  simp only [RV] at hn
  rw [hn]
  split at e
  ·rename_i hc
   simp only
   rw [if_pos hc]
   exact gappend_sim hC hE (L2.replicate _ (RL_iff.1 (RL_ofVs zero))) e
  ·cases e
 ·cases e
theorem copy_sim (hC : Cf st X α ω h) (hE : EnvR st X α ω genv env) {fl : Fl} {dst : Option Nat} {esz : Nat} {d s : Opd} {u : U} {genv' : GEnv} (e : IOp.gex fl lo dst (.copy esz d s) genv h = some (u, genv', h')) :
  Step lo st X α ω env dst ((IOp.copy esz d s).ex env st) u genv' h' := by
 simp only [IOp.gex] at e
 simp only [IOp.ex]
 have hs := hE.opd s
 split at e
 ·cases e
 ·rename_i hns
  split at e
  ·rename_i ys hys
   obtain ⟨vs, h1, h2⟩ := els_sim hC hs hys
   have hlen := h2.length
   have hne : ∀ l, s.ev env ≠ .str l := fun l hl => by
    cases hg : s.gev genv <;> rw [hg] at hs
    case str l => exact hns _ hg
    all_goals
     rw [hg] at hys
     simp only [els, reduceCtorEq] at hys
    all_goals simp only [RV] at hs
    all_goals rw [hl] at hs
    all_goals first | (cases hs; done) | (obtain ⟨_, _, hh⟩ := hs; cases hh; done) | (rcases hs with ⟨hh, _⟩ | ⟨_, _, _, _, _, _, _, _, _, hh, _⟩ <;> cases hh; done)
   split
   ·rename_i l hl; exact absurd hl (hne l)
   rw [h1]
   show Step lo st X α ω env dst (st.copy esz (d.ev env) vs) u genv' h'
   have hd := hE.opd d
   split at e
   ·rename_i hg
    cases e
    rw [hg] at hd
    simp only [RV] at hd
    exact Step.pure hC hE (v := .int .i64 0) (by rw [hd]; rfl) (by simp only [RV]) noOwn_int
   ·rename_i cap o g off ln e' hg
    rw [hg] at hd
    simp only [RV] at hd
    obtain ⟨ad, h3, h4⟩ := hd
    split at e
    ·cases e
    ·rename_i he
     have he : e' = esz := by simpa using he
     subst he
     split at e
     ·rename_i h0
      cases e
      exact Step.pure hC hE (v := .int .i64 0) (by rw [h4]; simp only [St.copy, ne_eq, not_true_eq_false, if_false]; rw [← hlen, if_pos h0]) (by simp only [RV]) noOwn_int
     ·rename_i h0
      split at e
      ·rename_i hlo
       split at e
       ·rename_i es gen live hb
        obtain ⟨rows, lv, h5, hlv, h6⟩ := hC.get h3 hb
        split at e
        ·rename_i hc
         obtain ⟨rfl, hfit⟩ := hc
         cases e
         have hlr := h6.length
         refine ⟨.int .i64 ((min vs.length ln : Nat) : Int), st.set ad.a (.row (lay rows off (vs.take ln)) (ad.g + g) (ad.g + g) false), ?_, ?_⟩
         ·rw [h4]
          simp only [St.copy, ne_eq, not_true_eq_false, if_false, h5]
          rw [if_neg (by rw [← hlen]; exact h0), if_pos ⟨trivial, trivial, by rw [← hlr]; exact hfit⟩]
         ·have G := grow_set (x := .row (lay rows off (vs.take ln)) (ad.g + g) (ad.g + g) false) hC h3
          refine ⟨X, α, ω, ?_, ?_, ?_⟩
          ·refine hC.setobj h3 (fun _ _ _ _ e => e) ⟨_, _, by rw [St.get_set, if_pos rfl], Nat.le_refl _, ?_⟩
           exact (h6.lay (h2.take ln) off).mono fun u v e => e.mono fun u v e => e.grow G
          ·refine EnvR.putNo (hE.step G fun p k j _ hX e => ⟨set_keep (obj_ne hC h3 hX), e⟩) ?_ noOwn_int
           simp only [RV]
           rw [hlen]
          ·exact Fr.setobj hC h3 hlo (fun _ e => e) fun _ _ _ _ e => e
        ·cases e
       ·cases e
      ·cases e
   ·cases e
  ·cases e
end Go.Ab
