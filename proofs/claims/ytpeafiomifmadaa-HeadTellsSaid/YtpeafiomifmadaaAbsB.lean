/- Each single operation of the abstract machine stands for the program's. -/
import Derived.Test.YtpeafiomifmadaaAbsA
namespace Go.Ab
open Go
set_option linter.unusedVariables false
set_option linter.unusedSimpArgs false
def Came (ψ : Phi) (v : V) : Next → Prop
 | .value u => VR ψ v u
 | .skip => VR ψ v undef
 | _ => False
def IOp.isCall : IOp → Bool
 | .call .. | .callv .. => true
 | _ => false
def Still (i : IOp) : Prop := i.kind = .pure ∨ i.kind = .read
structure Done (P : Program) (B : Nat) (φ : Phi) (st : St) (w : World) (i : IOp) (s : Sem Next) (v : V) (st' : St) : Prop where
 out : ∃ nx w' ψ, s.run P w = .ok nx w' ∧ Ext B φ st w ψ st' w' ∧ Came ψ v nx ∧ (Still i → i.isCvs = false → st' = st ∧ w' = w ∧ ψ = φ) ∧ (Still i → st' = st ∧ ψ = φ)
theorem Done.still {P : Program} {B : Nat} {φ : Phi} {st : St} {w : World} {i : IOp} {s : Sem Next} {v : V} {u : Value} (hR : Rep B φ st w) (hr : s.run P w = .ok (.value u) w) (hv : VR φ v u) : Done P B φ st w i s v st :=
 ⟨⟨_, w, φ, hr, Ext.refl hR, hv, fun _ _ => ⟨rfl, rfl, rfl⟩, fun _ => ⟨rfl, rfl⟩⟩⟩
theorem Done.ofRuns {P : Program} {B : Nat} {φ : Phi} {st : St} {w : World} {i : IOp} {s : Sem Value} {v : V} (hR : Rep B φ st w) (h : Runs P w φ s v) : Done P B φ st w i (do pure (.value (← s))) v st := by
 obtain ⟨u, hr, hv⟩ := h
 exact Done.still hR (by simp only [Sem.run_bind, hr, Result.andThen_ok, Sem.run_pure]) hv
theorem Done.made {P : Program} {B : Nat} {φ ψ : Phi} {st st' : St} {w w' : World} {i : IOp} {s : Sem Value} {v : V} {u : Value} (hn : ¬ Still i) (hr : s.run P w = .ok u w') (hx : Ext B φ st w ψ st' w') (hv : VR ψ v u) : Done P B φ st w i (do pure (.value (← s))) v st' :=
 ⟨⟨.value u, w', ψ, by simp only [Sem.run_bind, hr, Result.andThen_ok, Sem.run_pure], hx, hv, fun h => (hn h).elim, fun h => (hn h).elim⟩⟩
theorem Done.did {P : Program} {B : Nat} {φ : Phi} {st st' : St} {w w' : World} {i : IOp} {s : Sem Unit} (hn : ¬ Still i) (hr : s.run P w = .ok () w') (hx : Ext B φ st w φ st' w') : Done P B φ st w i (do s; pure .skip) (.tup []) st' :=
 ⟨⟨.skip, w', φ, by simp only [Sem.run_bind, hr, Result.andThen_ok, Sem.run_pure], hx, by simp only [Came, VR, undef]; exact ⟨#[], rfl, by rw [VRs_nil]⟩, fun h => (hn h).elim, fun h => (hn h).elim⟩⟩
theorem run_places {P : Program} {w : World} : ∀ {l : List Field} {ps : List (Nat × Nat)}, placesOf P l = some ps → (l.mapM fun f => (do pure (f.offset, ← sizeOf f.type) : Sem (Nat × Nat))).run P w = .ok ps w
 | [], ps, h => by simp only [placesOf, Option.some.injEq] at h; subst h; rfl
 | f :: l, ps, h => by
  simp only [placesOf] at h
  split at h
  ·rename_i n r hn hr
   cases h
   obtain ⟨i, hi, hin⟩ := sizeOf?_cases hn
   simp only [List.mapM_cons, Sem.run_bind, run_sizeOf_of w hi, hin, Result.andThen_ok, Sem.run_pure, run_places hr]
  ·cases h
theorem build_sound {P : Program} {φ : Phi} {w : World} {env : Env} {a : Act} (hE : ER φ env a.tmps) {t : TypeId} {parts : Array (Nat × Operand)} {ps : List (Nat × Nat × Opd)} {zs cs : List V} {place : Nat → Option (Nat × Nat)} (hz : zeroOf P t = some zs)
  (hp : partsOf P place parts.toList = some ps) (hf : fillCells zs env ps = some cs)
  (ht : (∃ fs l, P.underlying t = some (.struct fs) ∧ placesOf P fs.toList = some l ∧ place = fun i => l[i]?) ∨ (∃ n e k, P.underlying t = some (.array n e) ∧ sizeOf? P e = some k ∧ place = fun i => some (i * k, k))) :
  Runs P w φ (Instr.build t (parts.map fun (i, x) => (i, a.eval x))) (.agg cs) := by
 obtain ⟨i, z, hi, hzv, hzr⟩ := zeroOf_cases hz
 obtain ⟨out, h1, h2⟩ := fillCells_sound (P := P) (a := a) hE hp (cells := z.cells) (hzr φ) hf
 have hmap : (parts.map fun (x : Nat × Operand) => (x.1, a.eval x.2)).toList = parts.toList.map fun (x : Nat × Operand) => (x.1, a.eval x.2) := by simp
 refine ⟨.agg out, ?_, by simp only [VR]; exact ⟨out, rfl, h2⟩⟩
 unfold Instr.build
 simp only [Sem.run_bind, run_zeroValue_of w hi hzv, Result.andThen_ok]
 rcases ht with ⟨fs, l, hu, hl, rfl⟩ | ⟨n, e, k, hu, hk, rfl⟩
 ·simp only [run_underlying hu, Result.andThen_ok, Sem.run_bind]
  have hm : (fs.mapM fun f => (do pure (f.offset, ← sizeOf f.type) : Sem (Nat × Nat))).run P w = .ok l.toArray w := by
   rw [Array.mapM_eq_mapM_toList]
   simp only [Sem.run_map, run_places hl, Result.andThen_ok]
  simp only [hm, Result.andThen_ok]
  rw [hmap]
  have e2 : (fun (x : Nat) => l.toArray[x]?) = fun i => l[i]? := by funext x; simp
  rw [e2, h1]
  rfl
 ·obtain ⟨i', hi', hk'⟩ := sizeOf?_cases hk
  simp only [run_underlying hu, Result.andThen_ok, Sem.run_bind, run_sizeOf_of w hi', hk']
  rw [hmap, h1]
  rfl
theorem opds_list {xs : Array Operand} (f : Operand → Value) : (xs.map f).toList = xs.toList.map f := by simp
theorem minmax_sound {P : Program} {w : World} {φ : Phi} (mn : Bool) : ∀ {xs : List V} {x : V} {v : V} {cx : Value} {cs : List Value}, VR φ x cx → VRs φ xs cs → minmaxV mn x xs = some v →
  Runs P w φ (cs.foldlM (if mn then Builtin.min2 else Builtin.max2) cx) v
 | [], x, v, cx, cs, hx, hxs, h => by
  rw [VRs_nil] at hxs; subst hxs
  cases x <;> simp only [minmaxV, reduceCtorEq, Option.some.injEq] at h
  subst h
  exact ⟨cx, rfl, hx⟩
 | y :: xs, x, v, cx, cs, hx, hxs, h => by
  rw [VRs_cons] at hxs; obtain ⟨cy, cs, rfl, hy, hxs⟩ := hxs
  cases x <;> cases y <;> simp only [minmaxV, reduceCtorEq] at h
  split at h
  ·rename_i k a k' b hk
   subst hk
   have hx' := hx
   have hy' := hy
   simp only [VR] at hx hy
   obtain ⟨rfl, hx1⟩ := hx; obtain ⟨rfl, hy1⟩ := hy
   obtain ⟨u, h1, h2⟩ := minmax_sound (P := P) (w := w) mn (cx := .int k (if mn then (if b < a then b else a) else (if b > a then b else a))) (by
    cases mn <;> simp only [if_true, Bool.false_eq_true, if_false] <;> split <;> first | exact hx' | exact hy') hxs h
   refine ⟨u, ?_, h2⟩
   simp only [List.foldlM_cons, Sem.run_bind]
   cases mn
   ·simp only [Bool.false_eq_true, if_false] at h1 ⊢
    simp only [Builtin.max2, Sem.run_pure, Result.andThen_ok]; exact h1
   ·simp only [if_true] at h1 ⊢
    simp only [Builtin.min2, Sem.run_pure, Result.andThen_ok]; exact h1
  ·cases h
theorem run_builtin {P : Program} {w : World} (o : Oper) (c : Call) (b : Builtin) (a : Act) (hop : o.op = .call c) (hb : c.callee = .builtin b) :
  (execOp a.eval o).run P w = (builtin b c.argTypes o.type (c.args.map fun | .const _ => true | _ => false) (c.args.map a.eval)).run P w := by
 simp only [execOp, hop, resolve, hb, Sem.run_bind, Sem.run_pure, Result.andThen_ok, invoke]
 rfl
theorem opdsOf_length : ∀ {xs : List Operand} {ys : List Opd}, opdsOf xs = some ys → ys.length = xs.length
 | [], ys, h => by simp only [opdsOf, Option.some.injEq] at h; subst h; rfl
 | x :: xs, ys, h => by
  simp only [opdsOf] at h
  split at h
  ·rename_i y l hy hl; cases h; simp [opdsOf_length hl]
  ·cases h
theorem builtin_sound {P : Program} {B : Nat} {φ : Phi} {st st' : St} {w : World} (hR : Rep B φ st w) (hN : ∀ x, st' = st.push x → Room φ st) {env : Env} {a : Act} (hE : ER φ env a.tmps) {o : Oper} {c : Call} (hop : o.op = .call c) {b : Builtin} (hb : c.callee = .builtin b) {i : IOp} (hc : callOf P o c = some i) {v : V} (he : i.ex env st = some (v, st')) :
  Done P B φ st w i (execOp a.eval o) v st' := by
 have hrun := run_builtin (P := P) (w := w) o c b a hop hb
 have fin : ∀ {s : Sem Value}, builtin b c.argTypes o.type (c.args.map fun | .const _ => true | _ => false) (c.args.map a.eval) = (do pure (.value (← s))) → Done P B φ st w i (do pure (.value (← s))) v st' → Done P B φ st w i (execOp a.eval o) v st' := by
  intro s h1 h2
  obtain ⟨nx, w', ψ, q1, q2, q3, q4⟩ := h2.out
  exact ⟨⟨nx, w', ψ, by rw [hrun, h1]; exact q1, q2, q3, q4⟩⟩
 unfold callOf at hc
 rw [hb] at hc
 split at hc
 ·rename_i e; cases e
 ·rename_i e; cases e
 ·rename_i e; cases e
 ·-- len
  rename_i e; cases e
  split at hc
  ·rename_i t x ht hx
   have hat : c.argTypes = #[t] := by apply Array.ext'; simpa using ht
   have hax : c.args = #[x] := by apply Array.ext'; simpa using hx
   refine fin (s := Builtin.len_ c.argTypes o.type (c.args.map a.eval)) rfl ?_
   rw [hat, hax]
   split at hc
   ·rename_i y hu hy
    cases hc
    have hv := opdOf_VR hE hy
    simp only [IOp.ex] at he
    generalize y.ev env = yv at he hv
    cases yv <;> simp only [reduceCtorEq, Option.some.injEq, Prod.mk.injEq] at he
    obtain ⟨rfl, rfl⟩ := he
    simp only [VR] at hv
    obtain ⟨s, hs, rfl, hl⟩ := hv
    refine Done.ofRuns hR ⟨goInt s.size, ?_, ?_⟩
    ·simp [Builtin.len_, run_underlying hu, hs]
    ·have e : ((s.data.toList.map fun b => (b.toNat : Int)).length : Nat) = s.size := by simp
     rw [e] at hl ⊢
     exact VR_goInt hl
   ·rename_i et y hu hy
    cases hc
    have hv := opdOf_VR hE hy
    simp only [IOp.ex] at he
    generalize y.ev env = yv at he hv
    cases yv <;> simp only [reduceCtorEq, Option.some.injEq, Prod.mk.injEq] at he
    ·obtain ⟨rfl, rfl⟩ := he
     simp only [VR] at hv
     exact Done.ofRuns hR ⟨goInt 0, by simp [Builtin.len_, run_underlying hu, hv], VR_goInt (n := 0) (by unfold maxI; omega)⟩
    ·obtain ⟨rfl, rfl⟩ := he
     simp only [VR] at hv
     obtain ⟨L, ad, cp, hL, _, hs, hlc, _, _, _, hm⟩ := hv
     exact Done.ofRuns hR ⟨goInt _, by simp [Builtin.len_, run_underlying hu, hs], VR_goInt (by omega)⟩
   ·rename_i kt et y hu hy
    cases hc
    have hv := opdOf_VR hE hy
    simp only [IOp.ex] at he
    generalize y.ev env = yv at he hv
    cases yv <;> simp only [reduceCtorEq, Option.some.injEq, Prod.mk.injEq] at he
    ·obtain ⟨rfl, rfl⟩ := he
     simp only [VR] at hv
     exact Done.ofRuns hR ⟨goInt 0, by simp [Builtin.len_, run_underlying hu, hv], VR_goInt (n := 0) (by unfold maxI; omega)⟩
    ·split at he
     ·rename_i es hg
      split at he
      ·rename_i hle
       cases he
       simp only [VR] at hv
       obtain ⟨L, hL, hs⟩ := hv
       obtain ⟨L', ents, clock, hL', hbk, hvr⟩ := hR.here _ _ hg
       rw [hL] at hL'; cases hL'
       refine Done.ofRuns hR ⟨goInt ents.size, ?_, ?_⟩
       ·simp only [Builtin.len_, Array.getElem?_map, List.getElem?_toArray, List.getElem?_cons_zero, Option.map_some, Sem.run_bind, run_underlying hu, hs, Result.andThen_ok, MapKept.run_getObj_map hbk, Sem.run_pure]
       ·have := VRm_length hvr
        simp only [Array.length_toList] at this
        rw [this]; exact VR_goInt (by unfold maxI; omega)
      ·cases he
     ·cases he
   ·cases hc
  ·cases hc
 ·-- append
  rename_i e; cases e
  split at hc
  ·rename_i t u s x ht hx
   have hat : c.argTypes = #[t, u] := by apply Array.ext'; simpa using ht
   have hax : c.args = #[s, x] := by apply Array.ext'; simpa using hx
   refine fin (s := Builtin.append_ c.argTypes o.type (c.args.map a.eval)) rfl ?_
   rw [hat, hax]
   split at hc
   ·rename_i et s' x' hu hs hx'
    have main : ∀ {inf : TypeInfo} {du : TypeDesc} {z : List V}, P.info? et = some inf → P.underlying u = some du → (du = .string ∨ ∃ e', du = .slice e') → zeroOf P et = some z → 0 < inf.size ∧ 0 < inf.bytes ∧ z.length = inf.size → i = .append inf.size inf.bytes s' x' → Done P B φ st w i (do pure (.value (← Builtin.append_ #[t, u] o.type (#[s, x].map a.eval)))) v st' := by
     intro inf du z hi hdu hd hz hzz hii
     subst hii
     simp only [IOp.ex] at he
     split at he
     ·rename_i es hes
      obtain ⟨inf', z', hi', hzv, hzr⟩ := zeroOf_cases hz
      rw [hi] at hi'; cases hi'
      have hzc : z'.cells.size = inf.size := by have := VRs_length (hzr φ); simp at this; omega
      obtain ⟨r, w', ψ, q1, q2, q3⟩ := append_sound (ty := o.type) hR hN hu hdu hd hi hzv hzc hzz.2.1 (opdOf_VR hE hs) (opdOf_VR hE hx') hes he
      exact Done.made (by simp [Still, IOp.kind]) (by simpa using q1) q2 q3
     ·cases he
    split at hc
    ·rename_i inf eu hi hdu
     split at hc
     ·rename_i z hz
      split at hc
      ·rename_i hzz; exact main hi hdu (.inr ⟨_, rfl⟩) hz hzz (by cases hc; rfl)
      ·cases hc
     ·cases hc
    ·rename_i inf hi hdu
     split at hc
     ·rename_i z hz
      split at hc
      ·rename_i hzz; exact main hi hdu (.inl rfl) hz hzz (by cases hc; rfl)
      ·cases hc
     ·cases hc
    ·rename_i inf ku hi hdu
     split at hc
     ·rename_i z hz
      split at hc
      ·rename_i hzz
       cases hc
       simp only [IOp.ex] at he
       split at he
       ·rename_i m hn
        split at he
        ·rename_i hm
         obtain ⟨inf', z', hi', hzv, hzr⟩ := zeroOf_cases hz
         rw [hi] at hi'; cases hi'
         have hzc : z'.cells.size = inf.size := by have := VRs_length (hzr φ); simp at this; omega
         have hxv := opdOf_VR hE hx'
         rw [hn] at hxv
         simp only [VR] at hxv
         obtain ⟨hxe, hx1, hx2⟩ := hxv
         have e1 : IntKind.i64.min = -9223372036854775808 := by decide
         have e2 : IntKind.i64.max = 9223372036854775807 := by decide
         have hwr : IntKind.i64.wrap m = m := wrap_i64 (by omega) (by omega)
         obtain ⟨r, w', ψ, q1, q2, q3⟩ := appendz_sound (ty := o.type) hR hN hu hdu hi hzv hzc hzz.2.1 (opdOf_VR hE hs) (hzr φ) hzz.2.2 hm.2.2.2 hm.1 hwr (by have := hm.2.1; unfold room at this; exact this) he
         rw [← hxe] at q1
         exact Done.made (by simp [Still, IOp.kind]) (by simpa using q1) q2 q3
        ·cases he
       ·cases he
      ·cases hc
     ·cases hc
    ·cases hc
   ·cases hc
  ·cases hc
 ·-- copy
  rename_i e; cases e
  split at hc
  ·rename_i t u d s ht hx
   have hat : c.argTypes = #[t, u] := by apply Array.ext'; simpa using ht
   have hax : c.args = #[d, s] := by apply Array.ext'; simpa using hx
   refine fin (s := Builtin.copy_ c.argTypes o.type (c.args.map a.eval)) rfl ?_
   rw [hat, hax]
   split at hc
   ·rename_i et d' s' hu hd hs
    split at hc
    ·rename_i inf eu hi hdu
     cases hc
     simp only [IOp.ex] at he
     split at he
     ·cases he
     ·rename_i hns
      split at he
      ·rename_i es hes
       obtain ⟨r, w', q1, q2, q3⟩ := copy_sound (ty := o.type) (u := u) hR hu hi (opdOf_VR hE hd) (opdOf_VR hE hs) hns hes he
       exact Done.made (by simp [Still, IOp.kind]) (by simpa using q1) q2 q3
      ·cases he
    ·cases hc
   ·cases hc
  ·cases hc
 ·-- min
  rename_i e; cases e
  rw [Option.map_eq_some_iff] at hc
  obtain ⟨ys, hys, rfl⟩ := hc
  have hvs := opdsOf_VR (a := a) hE hys
  refine fin (s := Builtin.min_ c.argTypes o.type (c.args.map a.eval)) rfl ?_
  simp only [IOp.ex] at he
  split at he
  ·rename_i x r hxr
   rw [Option.map_eq_some_iff] at he
   obtain ⟨u, hu, huv⟩ := he
   cases huv
   rw [hxr, VRs_cons] at hvs
   obtain ⟨cx, cr, hcx, h1, h2⟩ := hvs
   refine Done.ofRuns hR ?_
   obtain ⟨q, q1, q2⟩ := minmax_sound (P := P) (w := w) true h1 h2 hu
   refine ⟨q, ?_, q2⟩
   unfold Builtin.min_
   rw [opds_list, hcx]; exact q1
  ·cases he
 ·-- max
  rename_i e; cases e
  rw [Option.map_eq_some_iff] at hc
  obtain ⟨ys, hys, rfl⟩ := hc
  have hvs := opdsOf_VR (a := a) hE hys
  refine fin (s := Builtin.max_ c.argTypes o.type (c.args.map a.eval)) rfl ?_
  simp only [IOp.ex] at he
  split at he
  ·rename_i x r hxr
   rw [Option.map_eq_some_iff] at he
   obtain ⟨u, hu, huv⟩ := he
   cases huv
   rw [hxr, VRs_cons] at hvs
   obtain ⟨cx, cr, hcx, h1, h2⟩ := hvs
   refine Done.ofRuns hR ?_
   obtain ⟨q, q1, q2⟩ := minmax_sound (P := P) (w := w) false h1 h2 hu
   refine ⟨q, ?_, q2⟩
   unfold Builtin.max_
   rw [opds_list, hcx]; exact q1
  ·cases he
 ·cases hc
theorem int_of_VR {φ : Phi} {k : IntKind} {n : Int} {u : Value} (h : VR φ (.int k n) u) : u = .int k n := by simp only [VR] at h; exact h.1
theorem opOf_call {P : Program} {o : Oper} {i : IOp} (h : opOf P o = some i) (hn : i.isCall = false) : ∀ c, o.op = .call c → ∃ b, c.callee = .builtin b := by
 intro c hop
 unfold opOf at h
 rw [hop] at h
 simp only at h
 unfold callOf at h
 cases hcc : c.callee with
 | builtin b => exact ⟨b, rfl⟩
 | invoke r m => rw [hcc] at h; cases h
 | value f =>
  rw [hcc] at h
  exfalso
  cases f <;> simp only at h
  case func g =>
   rw [Option.map_eq_some_iff] at h; obtain ⟨l, _, rfl⟩ := h; cases hn
  all_goals
   split at h
   ·cases h; cases hn
   ·cases h
theorem ex_sound {P : Program} {B : Nat} {φ : Phi} {st st' : St} {w : World} (hR : Rep B φ st w) (hN : ∀ x, st' = st.push x → Room φ st) {env : Env} {a : Act} (hE : ER φ env a.tmps) {o : Oper} {i : IOp} (hc : opOf P o = some i) (hnc : i.isCall = false) {v : V} (he : i.ex env st = some (v, st')) :
  Done P B φ st w i (execOp a.eval o) v st' := by
 have hcall := opOf_call hc hnc
 have hc0 := hc
 unfold opOf at hc
 split at hc
 ·-- move
  rename_i x hop
  rw [Option.map_eq_some_iff] at hc; obtain ⟨y, hy, rfl⟩ := hc
  simp only [IOp.ex, Option.some.injEq, Prod.mk.injEq] at he; obtain ⟨rfl, rfl⟩ := he
  exact Done.still hR (by simp only [execOp, hop, Sem.run_pure]) (opdOf_VR hE hy)
 ·rename_i x hop
  rw [Option.map_eq_some_iff] at hc; obtain ⟨y, hy, rfl⟩ := hc
  simp only [IOp.ex, Option.some.injEq, Prod.mk.injEq] at he; obtain ⟨rfl, rfl⟩ := he
  exact Done.still hR (by simp only [execOp, hop, Sem.run_pure]) (opdOf_VR hE hy)
 ·-- pick
  rename_i c x y hop
  split at hc
  ·rename_i c' x' y' h1 h2 h3
   cases hc
   have hv := opdOf_VR hE h1
   simp only [IOp.ex] at he
   split at he
   ·rename_i hb; cases he
    rw [hb] at hv; simp only [VR] at hv
    exact Done.still hR (by simp only [execOp, hop, hv, asBool, Sem.run_bind, Sem.run_pure, Result.andThen_ok, if_true]) (opdOf_VR hE h2)
   ·rename_i hb; cases he
    rw [hb] at hv; simp only [VR] at hv
    exact Done.still hR (by simp only [execOp, hop, hv, asBool, Sem.run_bind, Sem.run_pure, Result.andThen_ok, Bool.false_eq_true, if_false]) (opdOf_VR hE h3)
   ·cases he
  ·cases hc
 ·-- alloc
  rename_i t hop
  rw [Option.map_eq_some_iff] at hc; obtain ⟨zs, hz, rfl⟩ := hc
  obtain ⟨inf, z, hi, hzv, hzr⟩ := zeroOf_cases hz
  simp only [IOp.ex, Opd.ev, cellsOf] at he
  split at he
  ·rename_i ho
   cases he
   obtain ⟨ψ, q1, q2⟩ := box_sound (P := P) hR (hN _ rfl) (hzr φ) ho t
   have := Done.made (P := P) (i := .box (.c (.agg zs))) (s := Instr.alloc t true (.tuple #[])) (u := .pointer (some ⟨w.heap.size, 0, none⟩)) (w' := w.alloc (.cells z.cells t)) (by simp [Still, IOp.kind]) (by simp [Instr.alloc, run_zeroValue_of w hi hzv, newVar, newRow]) q1 q2
   simpa only [execOp, hop] using this
  ·cases he
 ·-- box
  rename_i t x hop
  rw [Option.map_eq_some_iff] at hc; obtain ⟨y, hy, rfl⟩ := hc
  simp only [IOp.ex] at he
  split at he
  ·rename_i cs hcs
   split at he
   ·rename_i ho
    cases he
    obtain ⟨ψ, q1, q2⟩ := box_sound (P := P) hR (hN _ rfl) (cells_of_VR (opdOf_VR hE hy) hcs) ho t
    have := Done.made (P := P) (i := .box y) (s := Instr.box t (a.eval x)) (u := .pointer (some ⟨w.heap.size, 0, none⟩)) (w' := w.alloc (.cells (a.eval x).cells t)) (by simp [Still, IOp.kind]) (by simp [Instr.box, newVar, newRow]) q1 q2
    simpa only [execOp, hop] using this
   ·cases he
  ·cases he
 ·-- build
  rename_i t parts hop
  split at hc
  ·rename_i fs z hu hz
   split at hc
   ·rename_i ps hps
    rw [Option.map_eq_some_iff] at hc; obtain ⟨l, hl, rfl⟩ := hc
    simp only [IOp.ex, Option.map_eq_some_iff] at he
    obtain ⟨cs, hf, he⟩ := he; cases he
    have := Done.ofRuns (P := P) (w := w) (i := .build z l) hR (build_sound (w := w) hE hz hl hf (.inl ⟨fs, ps, hu, hps, rfl⟩))
    simpa only [execOp, hop] using this
   ·cases hc
  ·rename_i n e z hu hz
   split at hc
   ·rename_i k hk
    rw [Option.map_eq_some_iff] at hc; obtain ⟨l, hl, rfl⟩ := hc
    simp only [IOp.ex, Option.map_eq_some_iff] at he
    obtain ⟨cs, hf, he⟩ := he; cases he
    have := Done.ofRuns (P := P) (w := w) (i := .build z l) hR (build_sound (w := w) hE hz hl hf (.inr ⟨n, e, k, hu, hk, rfl⟩))
    simpa only [execOp, hop] using this
   ·cases hc
  ·cases hc
 ·-- buildSlice
  rename_i t ln parts hop
  split at hc
  ·rename_i e hu
   split at hc
   ·rename_i n z ps hs hz hp
    split at hc
    ·rename_i hcond
     cases hc
     simp only [IOp.ex] at he
     split at he
     ·rename_i hz2
      simp only [Option.map_eq_some_iff] at he
      obtain ⟨es, hf, he⟩ := he; cases he
      obtain ⟨u, w', ψ, q1, q2, q3⟩ := buildSlice_sound hR (hN _ rfl) hE hu hs hz hp hcond.1 hcond.2.1 hcond.2.2 hz2.2 hf
      have := Done.made (i := .mkrow n ln z ps) (by simp [Still, IOp.kind]) q1 q2 q3
      simpa only [execOp, hop] using this
     ·cases he
    ·cases hc
   ·cases hc
  ·cases hc
 ·-- load
  rename_i t x hop
  split at hc
  ·rename_i n g y hs hy
   cases hc
   simp only [IOp.ex, Option.map_eq_some_iff] at he
   obtain ⟨v', hl, he⟩ := he; cases he
   have := Done.ofRuns (P := P) (w := w) (i := .load n g y) hR (load_sound hR (opdOf_VR hE hy) hs hl)
   simpa only [execOp, hop] using this
  ·cases hc
 ·-- store
  rename_i t x y hop
  split at hc
  ·rename_i n x' y' hs hx hy
   cases hc
   simp only [IOp.ex, Option.map_eq_some_iff] at he
   obtain ⟨st2, hl, he⟩ := he; cases he
   obtain ⟨w', q1, q2⟩ := store_sound hR (opdOf_VR hE hx) (opdOf_VR hE hy) hs hl
   have := Done.did (i := .store n x' y') (by simp [Still, IOp.kind]) q1 q2
   simpa only [execOp, hop] using this
  ·cases hc
 ·-- nilCheck
  rename_i x hop
  rw [Option.map_eq_some_iff] at hc; obtain ⟨y, hy, rfl⟩ := hc
  have hv := opdOf_VR hE hy
  simp only [IOp.ex] at he
  generalize hyv : y.ev env = yv at he hv
  cases yv <;> simp only [reduceCtorEq, Option.some.injEq, Prod.mk.injEq] at he
  ·obtain ⟨rfl, rfl⟩ := he
   have hv' := hv
   simp only [VR] at hv
   obtain ⟨L, _, hp, _⟩ := hv
   exact Done.still hR (u := a.eval x) (by simp only [execOp, hop, hp, Sem.run_pure]) hv'
  ·split at he
   ·cases he
    have hv' := hv
    simp only [VR] at hv
    obtain ⟨a', c', hp, _⟩ := hv
    exact Done.still hR (u := a.eval x) (by simp only [execOp, hop, hp, Sem.run_pure]) hv'
   ·cases he
 ·-- binOp
  rename_i op t x y yt hop
  split at hc
  ·rename_i x' y' hx hy
   have hvx := opdOf_VR hE hx
   have hvy := opdOf_VR hE hy
   have bin : ∀ {i : IOp}, i = .bin op x' y' → i.ex env st = some (v, st') → Done P B φ st w i (execOp a.eval o) v st' := by
    intro i hi he
    subst hi
    simp only [IOp.ex, Option.map_eq_some_iff] at he
    obtain ⟨v', hb, he⟩ := he; cases he
    have := Done.ofRuns (P := P) (w := w) (i := .bin op x' y') hR (bin_sound (P := P) (w := w) hvx hvy t x y hb)
    simpa only [execOp, hop] using this
   have eqs : ∀ {i : IOp} {k : EqK} (neg : Bool), (op = .eql ∨ op = .neq) → neg = decide (op = .neq) → eqkOf P t = some k → i = .eq k neg x' y' → i.ex env st = some (v, st') → Done P B φ st w i (execOp a.eval o) v st' := by
    intro i k neg hop2 hneg hk hi he
    subst hi
    simp only [IOp.ex, Option.map_eq_some_iff] at he
    obtain ⟨b, hb, he⟩ := he; cases he
    have hr := eqk_sound (w := w) hop2 hk hvx hvy x y hb
    have := Done.ofRuns (P := P) (w := w) (i := .eq k neg x' y') hR (v := .bool (if neg = true then !b else b)) ⟨_, hr, by
     rw [hneg]; simp only [decide_eq_true_eq]; exact VR_bool _⟩
    simpa only [execOp, hop] using this
   split at hc
   ·split at hc
    ·exact bin (by cases hc; rfl) he
    ·exact bin (by cases hc; rfl) he
    ·rw [Option.map_eq_some_iff] at hc; obtain ⟨k, hk, rfl⟩ := hc
     exact eqs false (.inl rfl) (by decide) hk rfl he
   ·split at hc
    ·exact bin (by cases hc; rfl) he
    ·exact bin (by cases hc; rfl) he
    ·rw [Option.map_eq_some_iff] at hc; obtain ⟨k, hk, rfl⟩ := hc
     exact eqs true (.inr rfl) (by decide) hk rfl he
   ·exact bin (by cases hc; rfl) he
  ·cases hc
 ·-- unOp
  rename_i op t x hop
  rw [Option.map_eq_some_iff] at hc; obtain ⟨y, hy, rfl⟩ := hc
  simp only [IOp.ex, Option.map_eq_some_iff] at he
  obtain ⟨v', hb, he⟩ := he; cases he
  have := Done.ofRuns (P := P) (w := w) (i := .un op y) hR (un_sound (P := P) (w := w) (opdOf_VR hE hy) hb)
  simpa only [execOp, hop] using this
 ·-- convert
  rename_i src dst x hop
  split at hc
  ·rename_i q k y h1 h2 hy
   cases hc
   have hv := opdOf_VR hE hy
   simp only [IOp.ex] at he
   split at he
   ·rename_i k' n hyv
    cases he
    rw [hyv] at hv
    have hv := int_of_VR hv
    have := Done.ofRuns (P := P) (w := w) (i := .conv k y) hR (v := .int k (k.wrap n)) (s := convert src dst (a.eval x)) ⟨.int k (k.wrap n), by unfold convert; simp only [Sem.run_bind, run_underlying h1, run_underlying h2, Result.andThen_ok, hv, Conv.intToInt, Sem.run_pure], VR_wrap k n⟩
    simpa only [execOp, hop] using this
   ·cases he
  ·rename_i e y h1 h2 hy
   split at hc
   ·rename_i h3
    cases hc
    have hv := opdOf_VR hE hy
    simp only [IOp.ex] at he
    split at he
    ·rename_i s hyv
     split at he
     ·rename_i hl
      cases he
      rw [hyv] at hv
      obtain ⟨u, w', ψ, q1, q2, q3⟩ := toBytes_sound hR (hN _ rfl) h1 h2 h3 hv hl
      have := Done.made (i := .toBytes y) (by simp [Still, IOp.kind]) q1 q2 q3
      simpa only [execOp, hop] using this
     ·cases he
    ·cases he
   ·cases hc
  ·rename_i e y h1 h2 hy
   split at hc
   ·rename_i h3
    cases hc
    have hv := opdOf_VR hE hy
    simp only [IOp.ex] at he
    split at he
    ·cases he
    ·rename_i hns
     split at he
     ·rename_i es hes
      rw [Option.map_eq_some_iff] at he; obtain ⟨s, hs, he⟩ := he; cases he
      have := Done.ofRuns (P := P) (w := w) (i := .toStr y) hR (toStr_sound hR h1 h2 h3 hv (fun l e => hns l e) hes hs)
      simpa only [execOp, hop] using this
     ·cases he
   ·cases hc
  ·rename_i e e' y h1 h2 hy
   split at hc
   ·rename_i hsd
    subst hsd
    split at hc
    ·rename_i h3
     cases hc
     have hv := opdOf_VR hE hy
     simp only [IOp.ex] at he
     split at he
     ·rename_i o g off ln esz cap hyv
      split at he
      ·rename_i es gen live ro hg
       split at he
       ·rename_i hcond
        obtain ⟨rfl, hln, hlg⟩ := hcond
        cases he
        rw [hyv] at hv
        obtain ⟨w', q1, q2, q3⟩ := cvs_sound (P := P) hR h1 h3 hv hg hln hlg
        have : Done P B φ st w (.cvs y) (do pure (.value (← convert src src (a.eval x)))) (.sl o g off ln esz cap) st := ⟨⟨.value (a.eval x), w', φ, by simp only [Sem.run_bind, q1, Result.andThen_ok, Sem.run_pure], q2, q3, fun _ h => (by cases h), fun _ => ⟨rfl, rfl⟩⟩⟩
        simpa only [execOp, hop] using this
       ·cases he
      ·cases he
     ·cases he
    ·cases hc
   ·cases hc
  ·cases hc
 ·-- makeFunc
  rename_i f x c hop
  split at hc
  ·rename_i x' c' hx hcc
   cases hc
   simp only [IOp.ex] at he
   split at he
   ·cases he
    refine Done.still (u := ?u) hR ?h1 ?h2
    case h1 => simp only [execOp, hop, Instr.makeFunc, Sem.run_bind, Sem.run_pure, Result.andThen_ok]; rfl
    simp only [VR]
    exact ⟨_, _, rfl, by rw [opds_list]; exact opdsOf_VR hE hx, by rw [opds_list]; exact opdsOf_VR hE hcc⟩
   ·cases he
  ·cases hc
 ·-- makeMap
  rename_i t hop
  cases hc
  simp only [IOp.ex, Option.some.injEq, Prod.mk.injEq] at he; obtain ⟨rfl, rfl⟩ := he
  obtain ⟨u, w', ψ, q1, q2, q3⟩ := mkmap_sound (P := P) hR (hN _ rfl) t
  have := Done.made (i := .mkmap) (by simp [Still, IOp.kind]) q1 q2 q3
  simpa only [execOp, hop, Option.map_none] using this
 ·cases hc
 ·-- makeSlice
  rename_i t l c hop
  split at hc
  ·rename_i e l' c' hu hl hcp
   split at hc
   ·rename_i inf z hi hz
    split at hc
    ·rename_i hcond
     cases hc
     have hvl := opdOf_VR hE hl
     have hvc := opdOf_VR hE hcp
     simp only [IOp.ex] at he
     split at he
     ·rename_i lv cv e1 e2
      split at he
      ·rename_i hh
       cases he
       rw [e1] at hvl; rw [e2] at hvc
       have hcm : cv ≤ 9223372036854775807 := by
        simp only [VR] at hvc
        have : IntKind.i64.max = 9223372036854775807 := by decide
        rw [this] at hvc; exact hvc.2.2
       obtain ⟨u, w', ψ, q1, q2, q3⟩ := mkslice_sound hR (hN _ rfl) hu hi hz hcond.1 hcond.2 hh.2.2.2.2 hh.1 hh.2.1 hh.2.2.1 hcm
       have := Done.made (i := .mkslice inf.size inf.bytes z l' c') (by simp [Still, IOp.kind]) q1 q2 q3
       simpa only [execOp, hop, int_of_VR hvl, int_of_VR hvc] using this
      ·cases he
     ·cases he
    ·cases hc
   ·cases hc
  ·cases hc
 ·-- slice
  rename_i t x lo hi mx hop
  split at hc
  ·rename_i x' lo' hi' mx' hx hlo hhi hmx
   split at hc
   ·rename_i hu
    cases hc
    simp only [IOp.ex, Option.map_eq_some_iff] at he
    obtain ⟨v', hb, he⟩ := he; cases he
    have := Done.ofRuns (P := P) (w := w) (i := .slice true 1 x' lo' hi' mx') hR (slice_sound hE hu (.inl ⟨rfl, rfl⟩) (opdOf_VR hE hx) hlo hhi hmx hb)
    simpa only [execOp, hop] using this
   ·rename_i e hu
    rw [Option.map_eq_some_iff] at hc; obtain ⟨n, hn, rfl⟩ := hc
    obtain ⟨inf, hi1, hi2⟩ := sizeOf?_cases hn
    simp only [IOp.ex, Option.map_eq_some_iff] at he
    obtain ⟨v', hb, he⟩ := he; cases he
    have := Done.ofRuns (P := P) (w := w) (i := .slice false n x' lo' hi' mx') hR (slice_sound hE hu (.inr ⟨rfl, e, inf, rfl, hi1, hi2⟩) (opdOf_VR hE hx) hlo hhi hmx hb)
    simpa only [execOp, hop] using this
   ·cases hc
  ·cases hc
 ·-- fieldAddr
  rename_i s x f hop
  split at hc
  ·rename_i fs y hu hy
   split at hc
   ·rename_i fd hfd
    split at hc
    ·rename_i n hn
     split at hc
     ·rename_i hn0
      cases hc
      obtain ⟨inf, hi1, hi2⟩ := sizeOf?_cases hn
      have hv := opdOf_VR hE hy
      simp only [IOp.ex] at he
      split at he
      ·rename_i ob g i s2 hyv
       cases he
       rw [hyv] at hv
       simp only [VR] at hv
       obtain ⟨L, hL, hp, hiL⟩ := hv
       have := Done.ofRuns (P := P) (w := w) (i := .faddr fd.offset y) hR (v := .ptr ob g i (s2 + fd.offset)) (s := Instr.fieldAt s (a.eval x) f) ⟨.pointer (some ⟨L.block, L.base + i * L.esz + (s2 + fd.offset), none⟩), by
        have hz : ¬ inf.size = 0 := by omega
        simp only [Instr.fieldAt, Sem.run_bind, run_underlying hu, Result.andThen_ok, hfd, hp, Instr.sureAddr, Sem.run_pure, fieldPlace, run_sizeOf_of w hi1, hz, if_false, Addr.add_lit]
        rw [Nat.add_assoc], by simp only [VR]; exact ⟨L, hL, rfl, hiL⟩⟩
       simpa only [execOp, hop] using this
      ·cases he
     ·cases hc
    ·cases hc
   ·cases hc
  ·cases hc
 ·-- field
  rename_i t x f hop
  split at hc
  ·rename_i fs y hu hy
   split at hc
   ·rename_i fd hfd
    rw [Option.map_eq_some_iff] at hc; obtain ⟨⟨n, g⟩, hs, rfl⟩ := hc
    have hv := opdOf_VR hE hy
    simp only [IOp.ex] at he
    split at he
    ·rename_i cs hyv
     split at he
     ·rename_i hle
      rw [Option.map_eq_some_iff] at he; obtain ⟨v', ho, he⟩ := he; cases he
      rw [hyv] at hv
      simp only [VR] at hv
      obtain ⟨vs, hp, hvs⟩ := hv
      obtain ⟨u, q1, q2⟩ := part_sound (w := w) hs hvs hle ho
      have := Done.ofRuns (P := P) (w := w) (i := .field fd.offset n g y) hR (v := v) (s := Instr.field t (a.eval x) f) ⟨u, by
       simp only [Instr.field, Sem.run_bind, run_underlying hu, Result.andThen_ok, hfd, hp, asAgg, Sem.run_pure, q1], q2⟩
      simpa only [execOp, hop] using this
     ·cases he
    ·cases he
   ·cases hc
  ·cases hc
 ·-- indexAddr
  rename_i t x ix hop
  split at hc
  ·rename_i e x' i' hu hx hi
   rw [Option.map_eq_some_iff] at hc; obtain ⟨n, hn, rfl⟩ := hc
   obtain ⟨inf, hi1, hi2⟩ := sizeOf?_cases hn
   have hvx := opdOf_VR hE hx
   have hvi := opdOf_VR hE hi
   simp only [IOp.ex] at he
   split at he
   ·rename_i ob g off ln e' cap k m e1 e2
    split at he
    ·rename_i hh
     obtain ⟨rfl, h0, h1⟩ := hh
     cases he
     rw [e1] at hvx; rw [e2] at hvi
     have hvi := int_of_VR hvi
     simp only [VR] at hvx
     obtain ⟨L, ad, c, hL, hLe, hp, hlc, hoff, hac, _, _⟩ := hvx
     obtain ⟨rfl, hcap⟩ := hac (by omega)
     have := Done.ofRuns (P := P) (w := w) (i := .iaddr e' x' i') hR (v := .ptr ob g (off + m.toNat) 0) (s := Instr.indexAt t (a.eval x) (a.eval ix)) ⟨.pointer (some ⟨L.block, L.base + (off + m.toNat) * L.esz + 0, none⟩), by
      simp only [Instr.indexAt, hp, hvi, asIntOf, Sem.run_bind, Sem.run_pure, Result.andThen_ok, run_underlying hu]
      rw [if_pos ⟨h0, h1⟩]
      simp only [Sem.run_bind, run_sizeOf_of w hi1, hi2, Result.andThen_ok, Sem.run_pure, Addr.add_lit, hLe, Nat.add_mul, Nat.add_zero, Nat.add_assoc], by
       simp only [VR]; exact ⟨L, hL, rfl, by omega⟩⟩
     simpa only [execOp, hop] using this
    ·cases he
   ·cases he
  ·rename_i ln e x' i' hu hx hi
   rw [Option.map_eq_some_iff] at hc; obtain ⟨n, hn, rfl⟩ := hc
   obtain ⟨inf, hi1, hi2⟩ := sizeOf?_cases hn
   have hvx := opdOf_VR hE hx
   have hvi := opdOf_VR hE hi
   simp only [IOp.ex] at he
   split at he
   ·rename_i ob g j s2 k m e1 e2
    split at he
    ·rename_i hh
     obtain ⟨h0, h1⟩ := hh
     cases he
     rw [e1] at hvx; rw [e2] at hvi
     have hvi := int_of_VR hvi
     simp only [VR] at hvx
     obtain ⟨L, hL, hp, hjL⟩ := hvx
     have := Done.ofRuns (P := P) (w := w) (i := .iaddrA ln n x' i') hR (v := .ptr ob g j (s2 + m.toNat * n)) (s := Instr.indexAt t (a.eval x) (a.eval ix)) ⟨.pointer (some ⟨L.block, L.base + j * L.esz + (s2 + m.toNat * n), none⟩), by
      simp only [Instr.indexAt, hp, hvi, asIntOf, Sem.run_bind, Sem.run_pure, Result.andThen_ok, run_underlying hu, Instr.sureAddr]
      rw [if_pos ⟨h0, h1⟩]
      simp only [Sem.run_bind, run_sizeOf_of w hi1, hi2, Result.andThen_ok, Sem.run_pure, Addr.add_lit, Nat.add_assoc], by
       simp only [VR]; exact ⟨L, hL, rfl, hjL⟩⟩
     simpa only [execOp, hop] using this
    ·cases he
   ·cases he
  ·cases hc
 ·-- index
  rename_i t x ix hop
  split at hc
  ·rename_i x' i' hu hx hi
   cases hc
   have hvx := opdOf_VR hE hx
   have hvi := opdOf_VR hE hi
   simp only [IOp.ex] at he
   split at he
   ·rename_i s k m e1 e2
    split at he
    ·rename_i h0
     rw [Option.map_eq_some_iff] at he; obtain ⟨b, hb, he⟩ := he; cases he
     rw [e1] at hvx; rw [e2] at hvi
     have hvi := int_of_VR hvi
     simp only [VR] at hvx
     obtain ⟨r, hp, rfl, _⟩ := hvx
     rw [List.getElem?_map, Option.map_eq_some_iff] at hb
     obtain ⟨by', hb', rfl⟩ := hb
     have hb2 : r[m.toNat]? = some by' := by
      have e3 : r[m.toNat]? = r.data[m.toNat]? := by
       simp only [getElem?_def]; rfl
      rw [e3]; simpa using hb'
     have := Done.ofRuns (P := P) (w := w) (i := .index x' i') hR (v := .int .u8 (by'.toNat : Int)) (s := Instr.index t (a.eval x) (a.eval ix)) ⟨.int .u8 (by'.toNat : Int), by
      simp only [Instr.index, hp, hvi, asIntOf, Sem.run_bind, Sem.run_pure, Result.andThen_ok, run_underlying hu, h0, if_true, hb2], VR_int (u8_range by').1 (u8_range by').2⟩
     simpa only [execOp, hop] using this
    ·cases he
   ·cases he
  ·rename_i ln e x' i' hu hx hi
   rw [Option.map_eq_some_iff] at hc; obtain ⟨⟨n, g⟩, hs, rfl⟩ := hc
   have hvx := opdOf_VR hE hx
   have hvi := opdOf_VR hE hi
   simp only [IOp.ex] at he
   split at he
   ·rename_i cs k m e1 e2
    split at he
    ·rename_i hh
     rw [Option.map_eq_some_iff] at he; obtain ⟨v', ho, he⟩ := he; cases he
     rw [e1] at hvx; rw [e2] at hvi
     have hvi := int_of_VR hvi
     simp only [VR] at hvx
     obtain ⟨vs, hp, hvs⟩ := hvx
     obtain ⟨d, inf, hu2, hi1, hi2, _, _⟩ := shapeOf_cases hs
     obtain ⟨u, q1, q2⟩ := part_sound (w := w) hs hvs hh.2.2 ho
     have := Done.ofRuns (P := P) (w := w) (i := .indexA ln n n g x' i') hR (v := v) (s := Instr.index t (a.eval x) (a.eval ix)) ⟨u, by
      simp only [Instr.index, hp, hvi, asIntOf, Sem.run_bind, Sem.run_pure, Result.andThen_ok, run_underlying hu]
      rw [if_pos ⟨hh.1, hh.2.1⟩]
      simp only [Sem.run_bind, run_sizeOf_of w hi1, hi2, Result.andThen_ok, q1], q2⟩
     simpa only [execOp, hop] using this
    ·cases he
   ·cases he
  ·cases hc
 ·-- lookup
  rename_i t m k ok hop
  split at hc
  ·rename_i kt e m' k' hu hm hk
   split at hc
   ·rename_i kd z hkd hz
    cases hc
    have hvm := opdOf_VR hE hm
    have hvk := opdOf_VR hE hk
    simp only [IOp.ex] at he
    have fin : ∀ {r : Option V}, ((m'.ev env = .nilm ∧ keyEq kd (k'.ev env) (k'.ev env) = some true ∧ r = none) ∨ ∃ ob es, m'.ev env = .map ob ∧ st.get ob = some (.map es) ∧ mapFind kd (k'.ev env) es = some r) → st' = st → v = (if ok then .tup [r.getD z, .bool r.isSome] else r.getD z) → Done P B φ st w (.lookup kd z m' k' ok) (execOp a.eval o) v st' := by
     intro r h1 h2 h3
     subst h2; subst h3
     have := Done.ofRuns (P := P) (w := w) (i := .lookup kd z m' k' ok) hR (lookup_sound (ok := ok) hR hu hkd hz hvm hvk h1)
     simpa only [execOp, hop] using this
    split at he
    ·rename_i hmv
     split at he
     ·rename_i hkk
      simp only [Option.some.injEq, Prod.mk.injEq] at he
      exact fin (r := none) (.inl ⟨hmv, hkk, rfl⟩) he.2.symm (by rw [← he.1]; rfl)
     ·cases he
    ·rename_i ob hmv
     split at he
     ·rename_i es hg
      rw [Option.map_eq_some_iff] at he; obtain ⟨r, hr, he⟩ := he
      simp only [Prod.mk.injEq] at he
      exact fin (r := r) (.inr ⟨ob, es, hmv, hg, hr⟩) he.2.symm he.1.symm
     ·cases he
    ·cases he
   ·cases hc
  ·cases hc
 ·-- mapUpdate
  rename_i t m k x hop
  split at hc
  ·rename_i kt e m' k' x' hu hm hk hx
   rw [Option.map_eq_some_iff] at hc; obtain ⟨kd, hkd, rfl⟩ := hc
   have hvm := opdOf_VR hE hm
   simp only [IOp.ex] at he
   split at he
   ·rename_i ob hmv
    split at he
    ·rename_i es hg
     rw [Option.map_eq_some_iff] at he; obtain ⟨es', hp, he⟩ := he; cases he
     rw [hmv] at hvm
     obtain ⟨w', q1, q2⟩ := mapset_sound hR hu hkd hvm (opdOf_VR hE hk) (opdOf_VR hE hx) hg hp
     have := Done.did (i := .mapset kd m' k' x') (by simp [Still, IOp.kind]) q1 q2
     simpa only [execOp, hop] using this
    ·cases he
   ·cases he
  ·cases hc
 ·-- extract
  rename_i x ix hop
  rw [Option.map_eq_some_iff] at hc; obtain ⟨y, hy, rfl⟩ := hc
  have hv := opdOf_VR hE hy
  simp only [IOp.ex] at he
  split at he
  ·rename_i vs hyv
   rw [Option.map_eq_some_iff] at he; obtain ⟨v', hb, he⟩ := he; cases he
   rw [hyv] at hv
   simp only [VR] at hv
   obtain ⟨cs, hp, hvs⟩ := hv
   obtain ⟨u, hu1, hu2⟩ := VRs_get hvs hb
   have hu1' : cs[ix]? = some u := by simpa using hu1
   have := Done.ofRuns (P := P) (w := w) (i := .extract y ix) hR (v := v) (s := Instr.extract (a.eval x) ix) ⟨u, by simp only [Instr.extract, hp, hu1', Sem.run_pure], hu2⟩
   simpa only [execOp, hop] using this
  ·cases he
 ·-- call
  rename_i c hop
  obtain ⟨b, hb⟩ := hcall c hop
  exact builtin_sound hR hN hE hop hb hc he
 ·cases hc
end Go.Ab
