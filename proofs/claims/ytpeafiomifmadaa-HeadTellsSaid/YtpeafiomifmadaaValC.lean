/- What operations read: values side by side. -/
import Derived.Test.YtpeafiomifmadaaValB
namespace Go.Ab
open Go
set_option linter.unusedVariables false
set_option linter.unusedSimpArgs false
variable {st : St} {X : Nat → Prop} {α : List Ad} {ω : Om} {h : GH} {genv : GEnv} {env : Env}
mutual
theorem RV_ofV : ∀ (v : V), RV st X α (U.ofV v) v
 | .undef => by simp only [U.ofV, RV]
 | .bool _ => by simp only [U.ofV, RV]
 | .int _ _ => by simp only [U.ofV, RV]
 | .str _ => by simp only [U.ofV, RV]
 | .nilp => by simp only [U.ofV, RV]
 | .ptr .. => by simp only [U.ofV, RV]
 | .nils => by simp only [U.ofV, RV]
 | .sl .. => by simp only [U.ofV, RV]
 | .nilm => by simp only [U.ofV, RV]
 | .map _ => by simp only [U.ofV, RV]
 | .nilf => by simp only [U.ofV, RV]
 | .fn f a c => by simp only [U.ofV, RV]; exact ⟨a, c, rfl, RL_ofVs a, RL_ofVs c⟩
 | .agg cs => by simp only [U.ofV, RV]; exact ⟨cs, rfl, RL_ofVs cs⟩
 | .tup _ => by simp only [U.ofV, RV]
theorem RL_ofVs : ∀ (vs : List V), RL st X α (U.ofVs vs) vs
 | [] => by simp only [U.ofVs, RL]
 | v :: vs => by simp only [U.ofVs, RL]; exact ⟨v, vs, rfl, RV_ofV v, RL_ofVs vs⟩
end
theorem EnvR.opd (hE : EnvR st X α ω genv env) (x : Opd) : RV st X α (x.gev genv) (x.ev env) := by
 cases x with
 | t n => exact (hE n).1
 | c v => exact RV_ofV v
theorem EnvR.opds (hE : EnvR st X α ω genv env) : ∀ (xs : List Opd), L2 (RV st X α) (gevs genv xs) (evs env xs)
 | [] => trivial
 | x :: xs => ⟨hE.opd x, EnvR.opds hE xs⟩
theorem gev_own {x : Opd} {e : Nat} {es : List (List U)} (h : x.gev genv = .own e es) : ∃ n, x = .t n ∧ GEnv.get genv n = .own e es := by
 cases x with
 | t n => exact ⟨n, rfl, h⟩
 | c v => cases v <;> simp [Opd.gev, U.ofV] at h
theorem RV_share {u : U} {v : V} (h : RV st X α u v) : RV st X α u.share v := by
 cases u <;> simp only [U.share] <;> try exact h
 case list cp e es =>
  simp only [RV] at h ⊢
  rcases h with h | ⟨o, g, off, ln, cap, row, gen, live, ro, h1, h2, h3, h4, h5, h6, h7⟩
  ·exact .inl h
  ·exact .inr ⟨o, g, off, ln, cap, row, gen, live, ro, h1, h2, h3, h4, h5, h6, fun e => by cases e⟩
 case own e es =>
  simp only [RV] at h ⊢
  rcases h with h | ⟨o, g, off, ln, cap, row, gen, live, ro, h1, h2, h3, h4, h5, h6⟩
  ·exact .inl h
  ·exact .inr ⟨o, g, off, ln, cap, row, gen, live, ro, h1, h2, h3, h4, h5, h6, fun e => by cases e⟩
 case tup us => simp only [RV]
theorem RV_moved {u : U} {v : V} (h : RV st X α u v) : RV st X α u.moved v := by
 cases u <;> first | exact h | exact RV_share h
theorem RV_handed {u : U} {v : V} (h : RV st X α u v) : RV st X α u.handed v := by
 cases u <;> first | exact h | exact RV_share h
theorem L2_shares : ∀ {us : List U} {vs : List V}, L2 (RV st X α) us vs → L2 (RV st X α) (shares us) vs
 | [], [], _ => trivial
 | _ :: _, _ :: _, h => ⟨RV_share h.1, L2_shares h.2⟩
def U.noOwn (u : U) : Prop := (∀ e es, u ≠ .own e es) ∧ ∀ (us : List U) (j e : Nat) (es : List (List U)), u = .tup us → us[j]? ≠ some (U.own e es)
theorem noOwn_share (u : U) : u.share.noOwn := by
 cases u <;> exact ⟨fun e es h => (by cases h), fun us j e es h => (by cases h)⟩
theorem noOwn_list {cp : Bool} {e : Nat} {es : List (List U)} : (U.list cp e es).noOwn := ⟨fun _ _ h => (by cases h), fun _ _ _ _ h => (by cases h)⟩
theorem noOwn_asl {cap : Option Nat} {o g off ln e : Nat} : (U.asl cap o g off ln e).noOwn := ⟨fun _ _ h => (by cases h), fun _ _ _ _ h => (by cases h)⟩
theorem OwnT_noOwn {n : Nat} {u : U} {v : V} (hu : u.noOwn) : OwnT st X ω n u v := ⟨fun e es h => absurd h (hu.1 e es), fun us vs j e es w h _ k => absurd k (hu.2 us j e es h)⟩
theorem RV_cells {u : U} {v : V} {us : List U} (h : RV st X α u v) (e : u.cells = some us) : ∃ vs, cellsOf v = some vs ∧ L2 (RV st X α) us vs := by
 have one : ∀ (w : U) (hw : RV st X α w v) (hc : cellsOf v = some [v]), ∃ vs, cellsOf v = some vs ∧ L2 (RV st X α) [w] vs := fun w hw hc => ⟨[v], hc, hw, trivial⟩
 cases u <;> simp only [U.cells] at e <;> try (cases e; done)
 case agg cs =>
  cases e
  simp only [RV] at h
  obtain ⟨vs, rfl, h⟩ := h
  exact ⟨vs, rfl, RL_iff.1 h⟩
 all_goals
  cases e
  refine one _ h ?_
  simp only [RV] at h
 case bool => rw [h]; rfl
 case int => rw [h]; rfl
 case str => rw [h]; rfl
 case nilp => rw [h]; rfl
 case ptr => obtain ⟨a, _, rfl⟩ := h; rfl
 case eptr => obtain ⟨_, _, _, _, _, _, _, _, rfl, _⟩ := h; rfl
 case nils => rw [h]; rfl
 case list => rcases h with ⟨rfl, _⟩ | ⟨_, _, _, _, _, _, _, _, _, rfl, _⟩ <;> rfl
 case own => rcases h with ⟨rfl, _⟩ | ⟨_, _, _, _, _, _, _, _, _, rfl, _⟩ <;> rfl
 case asl => obtain ⟨_, _, rfl⟩ := h; rfl
 case nilm => rw [h]; rfl
 case map => obtain ⟨_, _, rfl⟩ := h; rfl
 case nilf => rw [h]; rfl
 case fn => obtain ⟨_, _, rfl, _⟩ := h; rfl
theorem RV_one {u : U} {v : V} (h : RV st X α u v) (e : u.one = true) : V.one v = true := by
 cases u <;> simp only [U.one] at e <;> try (cases e; done)
 all_goals simp only [RV] at h
 case bool => rw [h]; rfl
 case int => rw [h]; rfl
 case str => rw [h]; rfl
 case nilp => rw [h]; rfl
 case ptr => obtain ⟨a, _, rfl⟩ := h; rfl
 case eptr => obtain ⟨_, _, _, _, _, _, _, _, rfl, _⟩ := h; rfl
 case nils => rw [h]; rfl
 case list => rcases h with ⟨rfl, _⟩ | ⟨_, _, _, _, _, _, _, _, _, rfl, _⟩ <;> rfl
 case own => rcases h with ⟨rfl, _⟩ | ⟨_, _, _, _, _, _, _, _, _, rfl, _⟩ <;> rfl
 case asl => obtain ⟨_, _, rfl⟩ := h; rfl
 case nilm => rw [h]; rfl
 case map => obtain ⟨_, _, rfl⟩ := h; rfl
 case nilf => rw [h]; rfl
 case fn => obtain ⟨_, _, rfl, _⟩ := h; rfl
theorem L2_one : ∀ {us : List U} {vs : List V}, L2 (RV st X α) us vs → us.all U.one = true → vs.all V.one = true
 | [], [], _, _ => rfl
 | u :: us, v :: vs, h, e => by
  simp only [List.all_cons, Bool.and_eq_true] at e ⊢
  exact ⟨RV_one h.1 e.1, L2_one h.2 e.2⟩
theorem shares_one : ∀ {us : List U}, us.all U.one = true → (shares us).all U.one = true
 | [], _ => rfl
 | u :: us, e => by
  simp only [List.all_cons, Bool.and_eq_true, shares] at e ⊢
  refine ⟨?_, shares_one e.2⟩
  cases u <;> first | rfl | exact e.1
theorem RV_mcells {u : U} {v : V} {us : List U} (h : RV st X α u v) (e : u.mcells = some us) : ∃ vs, cellsOf v = some vs ∧ L2 (RV st X α) us vs := by
 cases u <;> simp only [U.mcells] at e <;> try (cases e; done)
 case agg cs =>
  cases e
  obtain ⟨vs, h1, h2⟩ := RV_cells h (us := cs) rfl
  exact ⟨vs, h1, L2_shares h2⟩
 all_goals
  cases e
  obtain ⟨vs, h1, h2⟩ := RV_cells h rfl
  obtain ⟨v', m, rfl, h3, h4⟩ := h2.cons
  first | exact ⟨_, h1, h3, h4⟩ | exact ⟨_, h1, RV_share h3, h4⟩
theorem mcells_own {u : U} {us : List U} (e : u.mcells = some us) {s : Nat} {x : Nat} {es : List (List U)} (hs : us[s]? = some (.own x es)) : s = 0 ∧ u = .own x es ∧ us = [.own x es] := by
 have sh : ∀ w : U, w.share ≠ .own x es := fun w hw => (noOwn_share w).1 _ _ hw
 cases u <;> simp only [U.mcells] at e <;> try (cases e; done)
 case agg cs =>
  cases e
  exfalso
  have : ∀ (l : List U) (s : Nat), (shares l)[s]? ≠ some (.own x es) := by
   intro l
   induction l with
   | nil => intro s; simp [shares]
   | cons a l ih =>
    intro s
    cases s with
    | zero => simp only [shares, List.getElem?_cons_zero, ne_eq, Option.some.injEq]; exact sh a
    | succ s => simp only [shares, List.getElem?_cons_succ]; exact ih s
  exact this _ _ hs
 all_goals
  cases e
  cases s with
  | succ s => simp at hs
  | zero =>
   simp only [List.getElem?_cons_zero, Option.some.injEq] at hs
   first
    | (cases hs; exact ⟨rfl, rfl, rfl⟩)
    | exact absurd hs (sh _)
theorem RV_gof {cs : List U} {vs : List V} {agg : Bool} {u : U} (h : L2 (RV st X α) cs vs) (e : gof agg cs = some u) : ∃ v, ofCells agg vs = some v ∧ RV st X α u v := by
 unfold gof at e
 unfold ofCells
 cases agg with
 | true =>
  simp only [if_true, Option.some.injEq] at e ⊢
  subst e
  exact ⟨_, rfl, by simp only [RV]; exact ⟨vs, rfl, RL_iff.2 (L2_shares h)⟩⟩
 | false =>
  simp only [Bool.false_eq_true, if_false] at e ⊢
  match cs, vs, h, e with
  | [c], [v], h, e => cases e; exact ⟨v, rfl, h.1⟩
theorem fill_sim (hE : EnvR st X α ω genv env) : ∀ (ps : List (Nat × Nat × Opd)) {zs : List U} {vs : List V} {cs : List U}, L2 (RV st X α) zs vs → gfill zs genv ps = some cs → ∃ ws, fillCells vs env ps = some ws ∧ L2 (RV st X α) cs ws
 | [], zs, vs, cs, h, e => by cases e; exact ⟨vs, rfl, h⟩
 | (off, n, x) :: r, zs, vs, cs, h, e => by
  unfold gfill at e
  unfold fillCells
  split at e
  ·rename_i c hc
   obtain ⟨ds, h1, h2⟩ := RV_cells (RV_share (hE.opd x)) hc
   rw [h1]
   split at e
   ·rename_i hcond
    simp only
    rw [if_pos (by rw [← h2.length, ← h.length]; exact hcond)]
    exact fill_sim hE r (h.lay h2 off) e
   ·cases e
  ·cases e
theorem fillRow_sim (hE : EnvR st X α ω genv env) {esz : Nat} : ∀ (ps : List (Nat × Opd)) {zs : List (List U)} {vs : List (List V)} {cs : List (List U)}, L2 (L2 (RV st X α)) zs vs → gfillRow zs esz genv ps = some cs → ∃ ws, fillRow vs esz env ps = some ws ∧ L2 (L2 (RV st X α)) cs ws
 | [], zs, vs, cs, h, e => by cases e; exact ⟨vs, rfl, h⟩
 | (i, x) :: r, zs, vs, cs, h, e => by
  unfold gfillRow at e
  unfold fillRow
  split at e
  ·rename_i c hc
   obtain ⟨ds, h1, h2⟩ := RV_cells (RV_share (hE.opd x)) hc
   rw [h1]
   split at e
   ·rename_i hcond
    simp only
    rw [if_pos ⟨by rw [← h2.length]; exact hcond.1, by rw [← h.length]; exact hcond.2.1, L2_one h2 hcond.2.2⟩]
    exact fillRow_sim hE r (h.set i h2) e
   ·cases e
  ·cases e
theorem Cf.get (hC : Cf st X α ω h) {k : Nat} {d : Ad} (ha : α[k]? = some d) {b : GObj} (hb : h[k]? = some b) : ObjR st X α ω k d b := hC.obj k d b ha hb
theorem load_sim (hC : Cf st X α ω h) {a : U} {av : V} {n : Nat} {agg : Bool} {u : U} (ha : RV st X α a av) (e : gload h a n agg = some u) : ∃ v, st.load av n agg = some v ∧ RV st X α u v := by
 cases a <;> simp only [gload] at e <;> try (cases e; done)
 case ptr o g i s =>
  simp only [RV] at ha
  obtain ⟨a, ha, rfl⟩ := ha
  split at e
  ·rename_i cs hb
   obtain ⟨hg0, vs, h1, h2, _⟩ := hC.get ha hb
   split at e
   ·rename_i hcond
    obtain ⟨rfl, rfl, hs⟩ := hcond
    obtain ⟨v, h3, h4⟩ := RV_gof (h2.cut s n) e
    refine ⟨v, ?_, h4⟩
    simp only [St.load, h1, Nat.zero_le, if_true, List.getElem?_cons_zero]
    rw [if_pos (by rw [← h2.length]; exact hs)]; exact h3
   ·cases e
  ·rename_i es gen live hb
   obtain ⟨rows, lv, h1, hlv, h2⟩ := hC.get ha hb
   split at e
   ·rename_i hlive
    split at e
    ·rename_i cs hi
     obtain ⟨vs, h3, h4⟩ := h2.get hi
     split at e
     ·rename_i hs
      obtain ⟨v, h5, h6⟩ := RV_gof (h4.cut s n) e
      refine ⟨v, ?_, h6⟩
      simp only [St.load, h1]
      rw [if_pos (by omega)]
      simp only [h3]
      rw [if_pos (by rw [← h4.length]; exact hs)]; exact h5
     ·cases e
    ·cases e
   ·cases e
  ·cases e
 case eptr cs s =>
  simp only [RV] at ha
  obtain ⟨o, g, i, row, gen, live, ro, x, rfl, _, h1, h2, h3, h4⟩ := ha
  split at e
  ·rename_i hs
   have h4 := RL_iff.1 h4
   obtain ⟨v, h5, h6⟩ := RV_gof (h4.cut s n) e
   refine ⟨v, ?_, h6⟩
   simp only [St.load, h1, h2, if_true, h3]
   rw [if_pos (by rw [← h4.length]; exact hs)]; exact h5
  ·cases e
theorem els_sim (hC : Cf st X α ω h) {esz : Nat} {x : U} {xv : V} {es : List (List U)} (hx : RV st X α x xv) (e : els h esz x = some es) : ∃ vs, st.elems esz xv = some vs ∧ L2 (L2 (RV st X α)) es vs := by
 cases x <;> simp only [els] at e <;> try (cases e; done)
 case nils =>
  cases e
  simp only [RV] at hx
  subst hx
  exact ⟨[], rfl, trivial⟩
 case list cp e' es' =>
  split at e
  ·rename_i he
   cases e; subst he
   simp only [RV] at hx
   rcases hx with ⟨rfl, h2⟩ | ⟨o, g, off, ln, cap, row, gen, live, ro, rfl, h2, h3, h4, h5, h6, h7⟩
   ·exact ⟨[], rfl, RLL_iff.1 h2⟩
   ·exact ⟨_, by simp only [St.elems, h3, h4, h5, and_self, if_true], RLL_iff.1 h6⟩
  ·cases e
 case own e' es' =>
  split at e
  ·rename_i he
   cases e; subst he
   simp only [RV] at hx
   rcases hx with ⟨rfl, h2⟩ | ⟨o, g, off, ln, cap, row, gen, live, ro, rfl, h2, h3, h4, h5, h6⟩
   ·exact ⟨[], rfl, RLL_iff.1 h2⟩
   ·exact ⟨_, by simp only [St.elems, h3, h4, h5, and_self, if_true], RLL_iff.1 h6⟩
  ·cases e
 case asl cap o g off ln e' =>
  split at e
  ·rename_i es' gen live hb
   split at e
   ·rename_i hc
    cases e
    simp only [RV] at hx
    obtain ⟨a, ha, rfl⟩ := hx
    obtain ⟨rows, lv, h1, hlv, h2⟩ := hC.get ha hb
    refine ⟨cut rows off ln, ?_, h2.cut off ln⟩
    simp only [St.elems, h1]
    rw [if_pos ⟨hc.1, by omega, by rw [← h2.length]; exact hc.2.2⟩]
   ·cases e
  ·cases e
 case str s =>
  split at e
  ·rename_i he
   cases e; subst he
   simp only [RV] at hx
   subst hx
   refine ⟨s.map fun n => [.int .u8 n], by simp only [St.elems, if_true], L2.map (f := fun n => [U.int .u8 n]) (g := fun n => [V.int .u8 n]) (fun n => ⟨by simp only [RV], trivial⟩) s⟩
  ·cases e
theorem bytes_sim : ∀ {es : List (List U)} {vs : List (List V)} {l : List Int}, L2 (L2 (RV st X α)) es vs → gbytesOf es = some l → bytesOfRow vs = some l
 | [], [], l, _, e => e
 | x :: es, y :: vs, l, h, e => by
  unfold gbytesOf at e
  split at e
  ·rename_i n l' h1 h2
   cases e
   unfold gbyte at h1
   split at h1
   ·cases h1
    obtain ⟨v, m, rfl, h3, h4⟩ := h.1.cons
    obtain rfl := h4.nil
    simp only [RV] at h3
    subst h3
    simp only [bytesOfRow, byteOfCells, bytes_sim h.2 h2]
   ·cases h1
  ·cases e
theorem RV_toV {u : U} {v : V} (h : RV st X α u v) (e : u.toV ≠ .undef) : v = u.toV := by
 cases u <;> simp only [U.toV, ne_eq, not_true_eq_false] at e ⊢
 all_goals simp only [RV] at h; exact h
theorem plainEq_def : ∀ {ks : List SK} {p q : List V} {r : Bool}, plainEq ks p q = some r → (∀ v ∈ p, v ≠ .undef) ∧ ∀ v ∈ q, v ≠ .undef := by
 intro ks
 induction ks with
 | nil =>
  intro p q r e
  cases p <;> cases q <;> simp_all [plainEq]
 | cons k ks ih =>
  intro p q r e
  cases p with
  | nil => cases k <;> simp [plainEq] at e
  | cons a p =>
   cases q with
   | nil => cases k <;> cases a <;> simp [plainEq] at e
   | cons b q =>
    have key : (∃ r', plainEq ks p q = some r') ∧ a ≠ .undef ∧ b ≠ .undef := by
     cases hq : plainEq ks p q with
     | none => cases k <;> cases a <;> cases b <;> simp [plainEq, hq] at e
     | some r' => exact ⟨⟨r', rfl⟩, by cases k <;> cases a <;> simp [plainEq] at e ⊢, by cases k <;> cases a <;> cases b <;> simp [plainEq] at e ⊢⟩
    obtain ⟨⟨r', k1⟩, k2, k3⟩ := key
    obtain ⟨i1, i2⟩ := ih k1
    exact ⟨fun v hv => by rcases List.mem_cons.1 hv with rfl | hv; exact k2; exact i1 v hv, fun v hv => by rcases List.mem_cons.1 hv with rfl | hv; exact k3; exact i2 v hv⟩
theorem toVs_eq : ∀ {us : List U} {vs : List V}, L2 (RV st X α) us vs → (∀ v ∈ toVs us, v ≠ .undef) → toVs us = vs
 | [], [], _, _ => rfl
 | u :: us, v :: vs, h, e => by
  simp only [toVs] at e ⊢
  rw [← RV_toV h.1 (e _ List.mem_cons_self), toVs_eq h.2 fun w hw => e w (List.mem_cons_of_mem _ hw)]
theorem plainEq_sim {ks : List SK} {a b : List U} {x y : List V} {r : Bool} (h1 : L2 (RV st X α) a x) (h2 : L2 (RV st X α) b y) (e : plainEq ks (toVs a) (toVs b) = some r) : plainEq ks x y = some r := by
 obtain ⟨d1, d2⟩ := plainEq_def e
 rw [← toVs_eq h1 d1, ← toVs_eq h2 d2]; exact e
theorem eqk_sim {kd : EqK} {a b : U} {x y : V} {r : Bool} (h1 : RV st X α a x) (h2 : RV st X α b y) (e : U.eqk kd a b = some r) : V.eqk kd x y = some r := by
 unfold U.eqk at e
 split at e <;> (try simp only [RV] at h1 h2)
 case h_1 => subst h1 h2; exact e
 case h_2 => subst h1 h2; exact e
 case h_3 => obtain ⟨_, _, rfl⟩ := h2; subst h1; exact e
 case h_4 => obtain ⟨_, _, rfl⟩ := h1; subst h2; exact e
 case h_5 => subst h1 h2; exact e
 case h_6 => subst h1 h2; exact e
 case h_7 => obtain ⟨_, _, rfl⟩ := h2; subst h1; exact e
 case h_8 => obtain ⟨_, _, rfl⟩ := h1; subst h2; exact e
 case h_9 => subst h1 h2; exact e
 case h_10 => obtain ⟨_, _, rfl, _⟩ := h2; subst h1; exact e
 case h_11 => obtain ⟨_, _, rfl, _⟩ := h1; subst h2; exact e
 case h_12 =>
  obtain ⟨_, rfl, k1⟩ := h1
  obtain ⟨_, rfl, k2⟩ := h2
  exact plainEq_sim (RL_iff.1 k1) (RL_iff.1 k2) e
 case h_13 => cases e
theorem keyEq_sim {kd : KeyK} {a b : U} {x y : V} {r : Bool} (h1 : RV st X α a x) (h2 : RV st X α b y) (e : ukeyEq kd a b = some r) : keyEq kd x y = some r := by
 unfold ukeyEq at e
 split at e
 ·exact plainEq_sim (a := [_]) (b := [_]) ⟨h1, trivial⟩ ⟨h2, trivial⟩ e
 ·simp only [RV] at h1 h2
  obtain ⟨_, rfl, k1⟩ := h1
  obtain ⟨_, rfl, k2⟩ := h2
  exact plainEq_sim (RL_iff.1 k1) (RL_iff.1 k2) e
 ·cases e
abbrev PR (st : St) (X : Nat → Prop) (α : List Ad) (p : U × U) (q : V × V) : Prop := RV st X α p.1 q.1 ∧ RV st X α p.2 q.2
theorem mapFind_sim {kd : KeyK} {k : U} {kv : V} (hk : RV st X α k kv) : ∀ {ps : List (U × U)} {qs : List (V × V)} {r : Option U}, L2 (PR st X α) ps qs → umapFind kd k ps = some r → ∃ s, mapFind kd kv qs = some s ∧ ((r = none ∧ s = none) ∨ ∃ u v, r = some u ∧ s = some v ∧ RV st X α u v)
 | [], [], r, _, e => by
  unfold umapFind at e
  split at e
  ·rename_i hc
   cases e
   exact ⟨none, by unfold mapFind; rw [if_pos (keyEq_sim hk hk hc)], .inl ⟨rfl, rfl⟩⟩
  ·cases e
 | (j, u) :: ps, (x, v) :: qs, r, h, e => by
  unfold umapFind at e
  unfold mapFind
  split at e
  ·rename_i hc
   cases e
   rw [keyEq_sim hk h.1.1 hc]
   exact ⟨some v, rfl, .inr ⟨u, v, rfl, rfl, h.1.2⟩⟩
  ·rename_i hc
   rw [keyEq_sim hk h.1.1 hc]
   exact mapFind_sim hk h.2 e
  ·cases e
theorem mapPut_sim {kd : KeyK} {k u : U} {kv v : V} (hk : RV st X α k kv) (hu : RV st X α u v) : ∀ {ps : List (U × U)} {qs : List (V × V)} {r : List (U × U)}, L2 (PR st X α) ps qs → umapPut kd k u ps = some r → ∃ s, mapPut kd kv v qs = some s ∧ L2 (PR st X α) r s
 | [], [], r, _, e => by
  unfold umapPut at e
  split at e
  ·rename_i hc
   cases e
   exact ⟨[(kv, v)], by unfold mapPut; rw [if_pos (keyEq_sim hk hk hc)], ⟨hk, hu⟩, trivial⟩
  ·cases e
 | (j, w) :: ps, (x, y) :: qs, r, h, e => by
  unfold umapPut at e
  unfold mapPut
  split at e
  ·rename_i hc
   cases e
   rw [keyEq_sim hk h.1.1 hc]
   exact ⟨(kv, v) :: qs, rfl, ⟨hk, hu⟩, h.2⟩
  ·rename_i hc
   rw [keyEq_sim hk h.1.1 hc]
   cases hr : umapPut kd k u ps with
   | none => rw [hr] at e; cases e
   | some r' =>
    rw [hr] at e
    cases e
    obtain ⟨s, h1, h2⟩ := mapPut_sim hk hu h.2 hr
    exact ⟨(x, y) :: s, by simp only [h1, Option.map_some], h.1, h2⟩
  ·cases e
theorem RV_scal {x : V} {u : U} (h : u = U.ofV x) : RV st X α u x := by subst h; exact RV_ofV x
theorem bin_sim {op : BinOp} {a b u : U} {x y : V} (h1 : RV st X α a x) (h2 : RV st X α b y) (e : ubin op a b = some u) : ∃ v, V.bin op x y = some v ∧ RV st X α u v ∧ u = U.ofV v := by
 unfold ubin at e
 split at e
 ·simp only [RV] at h1 h2
  subst h1 h2
  obtain ⟨v, k1, k2⟩ := Option.map_eq_some_iff.1 e
  exact ⟨v, k1, RV_scal k2.symm, k2.symm⟩
 ·simp only [RV] at h1 h2
  subst h1 h2
  obtain ⟨v, k1, k2⟩ := Option.map_eq_some_iff.1 e
  exact ⟨v, k1, RV_scal k2.symm, k2.symm⟩
 ·cases e
theorem un_sim {op : UnOp} {a u : U} {x : V} (h1 : RV st X α a x) (e : uun op a = some u) : ∃ v, V.un op x = some v ∧ RV st X α u v ∧ u = U.ofV v := by
 unfold uun at e
 split at e
 ·simp only [RV] at h1
  subst h1
  obtain ⟨v, k1, k2⟩ := Option.map_eq_some_iff.1 e
  exact ⟨v, k1, RV_scal k2.symm, k2.symm⟩
 ·simp only [RV] at h1
  subst h1
  obtain ⟨v, k1, k2⟩ := Option.map_eq_some_iff.1 e
  exact ⟨v, k1, RV_scal k2.symm, k2.symm⟩
 ·cases e
theorem minmax_sim {mn : Bool} : ∀ {us : List U} {vs : List V} {a : U} {x : V} {u : U}, RV st X α a x → L2 (RV st X α) us vs → uminmax mn a us = some u → ∃ k n, u = .int k n ∧ minmaxV mn x vs = some (.int k n)
 | [], [], a, x, u, h, _, e => by
  unfold uminmax at e
  split at e
  ·cases e; simp only [RV] at h; subst h; exact ⟨_, _, rfl, rfl⟩
  ·rename_i hh; cases hh
  ·cases e
 | b :: us, y :: vs, a, x, u, h, k, e => by
  unfold uminmax at e
  split at e
  ·rename_i hh; cases hh
  ·rename_i hh
   cases hh
   have k1 := k.1
   simp only [RV] at h k1
   subst h k1
   split at e
   ·rename_i hk
    subst hk
    obtain ⟨k', n, h1, h2⟩ := minmax_sim (x := .int _ (if mn = true then if _ < _ then _ else _ else if _ > _ then _ else _)) (by simp only [RV]; rfl) k.2 e
    exact ⟨k', n, h1, by unfold minmaxV; rw [if_pos rfl]; exact h2⟩
   ·cases e
  ·cases e
theorem optInt_sim {a : Option U} {x : Option V} {r : Option Int} (h : (a = none ∧ x = none) ∨ ∃ u v, a = some u ∧ x = some v ∧ RV st X α u v) (e : goptInt a = some r) : optInt x = some r := by
 rcases h with ⟨rfl, rfl⟩ | ⟨u, v, rfl, rfl, h⟩
 ·exact e
 ·cases u <;> simp only [goptInt] at e <;> try (cases e; done)
  simp only [RV] at h
  subst h; exact e
theorem EnvR.opd? (hE : EnvR st X α ω genv env) (x : Option Opd) : ((x.map (·.gev genv)) = none ∧ (x.map (·.ev env)) = none) ∨ ∃ u v, (x.map (·.gev genv)) = some u ∧ (x.map (·.ev env)) = some v ∧ RV st X α u v := by
 cases x with
 | none => exact .inl ⟨rfl, rfl⟩
 | some x => exact .inr ⟨_, _, rfl, rfl, hE.opd x⟩
theorem slice_sim {str : Bool} {esz : Nat} {x u : U} {xv : V} {lo hi mx : Option U} {l k m : Option V} (hx : RV st X α x xv)
  (h1 : (lo = none ∧ l = none) ∨ ∃ u v, lo = some u ∧ l = some v ∧ RV st X α u v) (h2 : (hi = none ∧ k = none) ∨ ∃ u v, hi = some u ∧ k = some v ∧ RV st X α u v) (h3 : (mx = none ∧ m = none) ∨ ∃ u v, mx = some u ∧ m = some v ∧ RV st X α u v)
  (e : U.slice str esz x lo hi mx = some u) : ∃ v, V.slice str esz xv l k m = some v ∧ RV st X α u v ∧ u.noOwn := by
 unfold U.slice at e
 split at e
 ·rename_i a b c e1 e2 e3
  unfold V.slice
  rw [optInt_sim h1 e1, optInt_sim h2 e2, optInt_sim h3 e3]
  simp only
  have part : ∀ {cp : Bool} {e' : Nat} {es : List (List U)} {o g off ln : Nat} {cap : Option Nat} {row : List (List V)} {gen live : Nat} {ro : Bool} {p : Nat × Nat × Bool}, e' = esz → gpart es.length a b c = some p → ¬ X o → st.get o = some (.row row gen live ro) → live ≤ g → off + ln ≤ row.length → RLL st X α es (cut row off ln) →
    ∃ v, (if e' = esz ∧ 0 ≤ a.getD 0 ∧ a.getD 0 ≤ b.getD ln ∧ b.getD ln ≤ ln then
     match c, b with
     | none, _ => some (V.sl o g (off + (a.getD 0).toNat) (b.getD ln - a.getD 0).toNat e' (cap.map fun c => c - (a.getD 0).toNat))
     | some m, some h => if h ≤ m ∧ m ≤ ln then some (V.sl o g (off + (a.getD 0).toNat) (h - a.getD 0).toNat e' (some (m - a.getD 0).toNat)) else none
     | _, _ => none
    else none) = some v ∧ RV st X α (.list p.2.2 e' (cut es p.1 p.2.1)) v := by
   intro cp e' es o g off ln cap row gen live ro p he hp hX hg hl hb hr
   have hr' := RLL_iff.1 hr
   have hlen : es.length = ln := by rw [hr'.length, part_length hb]
   unfold gpart at hp
   rw [hlen] at hp
   split at hp
   ·rename_i hc
    rw [if_pos ⟨he, hc⟩]
    have rel : ∀ (n : Int) , 0 ≤ n → a.getD 0 + n ≤ ln → RLL st X α (cut es (a.getD 0).toNat n.toNat) (cut row (off + (a.getD 0).toNat) n.toNat) := fun n hn hle => by
     have := hr'.cut (a.getD 0).toNat n.toNat
     rw [part_cut (by omega)] at this
     exact RLL_iff.2 this
    split at hp
    ·cases hp
     refine ⟨_, rfl, ?_⟩
     simp only [RV]
     exact .inr ⟨o, g, _, _, _, row, gen, live, ro, rfl, hX, hg, hl, by omega, rel _ (by omega) (by omega), fun e => by cases e⟩
    ·rename_i m hh
     split at hp
     ·rename_i hm
      simp only [Option.getD_some] at hc
      cases hp
      simp only
      rw [if_pos ⟨hm.1, hm.2.1⟩]
      refine ⟨_, rfl, ?_⟩
      simp only [RV]
      refine .inr ⟨o, g, _, _, _, row, gen, live, ro, rfl, hX, hg, hl, by omega, rel _ (by omega) (by omega), fun e => ?_⟩
      simp only [decide_eq_true_eq] at e
      rw [e]
     ·cases hp
    ·cases hp
   ·cases hp
  have nilcase : ∀ {es : List (List U)} {p : Nat × Nat × Bool} {e' : Nat}, es = [] → gpart es.length a b c = some p → ∃ v, (if c = none ∧ b.getD 0 = 0 ∧ a.getD 0 = 0 then some V.nils else none) = some v ∧ RV st X α (.list p.2.2 e' (cut es p.1 p.2.1)) v := by
   intro es p e' he hp
   subst he
   unfold gpart at hp
   simp only [List.length_nil, Int.natCast_zero] at hp
   have hd : ∀ (z : Int), b.getD ((0 : Nat) : Int) = b.getD 0 := fun _ => rfl
   split at hp
   ·rename_i hc
    split at hp
    ·cases hp
     rw [if_pos ⟨rfl, by omega, by omega⟩]
     refine ⟨_, rfl, ?_⟩
     simp only [RV]
     exact .inl ⟨by trivial, RLL_iff.2 (by simp [cut, L2])⟩
    ·split at hp
     ·omega
     ·cases hp
    ·cases hp
   ·cases hp
  split at e
  ·-- a text
   simp only [RV] at hx
   subst hx
   split at e
   ·rename_i hc
    cases e
    simp only
    rw [if_pos hc]
    exact ⟨_, rfl, by simp only [RV], fun _ _ h => (by cases h), fun _ _ _ _ h => (by cases h)⟩
   ·cases e
  ·simp only [RV] at hx
   subst hx
   split at e
   ·rename_i hc
    cases e
    simp only
    rw [if_pos hc]
    exact ⟨_, rfl, by simp only [RV], fun _ _ h => (by cases h), fun _ _ _ _ h => (by cases h)⟩
   ·cases e
  ·split at e
   ·rename_i he
    obtain ⟨p, hp, rfl⟩ := Option.map_eq_some_iff.1 e
    simp only [RV] at hx
    rcases hx with ⟨rfl, h4⟩ | ⟨o, g, off, ln, cap, row, gen, live, ro, rfl, h4, h5, h6, h7, h8, h9⟩
    ·obtain ⟨v, k1, k2⟩ := nilcase (L2.nil' (RLL_iff.1 h4)) hp
     exact ⟨v, k1, k2, noOwn_list⟩
    ·obtain ⟨v, k1, k2⟩ := part (cp := true) (cap := cap) he hp h4 h5 h6 h7 h8
     exact ⟨v, k1, k2, noOwn_list⟩
   ·cases e
  ·split at e
   ·rename_i he
    obtain ⟨p, hp, rfl⟩ := Option.map_eq_some_iff.1 e
    simp only [RV] at hx
    rcases hx with ⟨rfl, h4⟩ | ⟨o, g, off, ln, cap, row, gen, live, ro, rfl, h4, h5, h6, h7, h8⟩
    ·obtain ⟨v, k1, k2⟩ := nilcase (L2.nil' (RLL_iff.1 h4)) hp
     exact ⟨v, k1, k2, noOwn_list⟩
    ·obtain ⟨v, k1, k2⟩ := part (cp := true) (cap := cap) he hp h4 h5 h6 h7 h8
     exact ⟨v, k1, k2, noOwn_list⟩
   ·cases e
  ·split at e
   ·rename_i hc
    simp only [RV] at hx
    obtain ⟨x, h4, rfl⟩ := hx
    simp only
    rw [if_pos hc]
    split at e
    ·cases e
     exact ⟨_, rfl, by simp only [RV]; exact ⟨x, h4, rfl⟩, noOwn_asl⟩
    ·rename_i m hh
     split at e
     ·rename_i hm
      cases e
      simp only
      rw [if_pos hm]
      exact ⟨_, rfl, by simp only [RV]; exact ⟨x, h4, rfl⟩, noOwn_asl⟩
     ·cases e
    ·cases e
   ·cases e
  ·cases e
 ·cases e
end Go.Ab
