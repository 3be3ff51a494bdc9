/- The abstract machine's single operations stand for the program's. Part 7: make, maps. -/
import Derived.Test.YtpeafiomifmadaaAbs9
namespace Go.Ab
open Go
set_option linter.unusedVariables false
set_option linter.unusedSimpArgs false
theorem wrap_i64 {n : Int} (h1 : -9223372036854775808 ≤ n) (h2 : n ≤ 9223372036854775807) : IntKind.i64.wrap n = n := by rw [IntKind.wrap_i64]; omega
theorem mkslice_sound {P : Program} {B : Nat} {φ : Phi} {st : St} {w : World} (hR : Rep B φ st w) (hN : Room φ st) {t e : TypeId} {i : TypeInfo} {zs : List V} (hu : P.underlying t = some (.slice e)) (hi : P.info? e = some i) (hz : zeroOf P e = some zs) (h0 : 0 < i.size) (hzl : zs.length = i.size) (hzo : zs.all V.one = true)
  {l c : Int} (h1 : 0 ≤ l) (h2 : l ≤ c) (h3 : c * i.bytes ≤ room) (h4 : c ≤ 9223372036854775807) :
  ∃ u w' ψ, (Instr.makeSlice t (.int .i64 l) (.int .i64 c)).run P w = .ok u w' ∧ Ext B φ st w ψ (st.push (.row (List.replicate l.toNat zs) 0 0 false)) w' ∧ VR ψ (.sl st.next 0 0 l.toNat i.size none) u := by
 obtain ⟨i', z, hi', hzv, hzr⟩ := zeroOf_cases hz
 rw [hi] at hi'; cases hi'
 have hzc : z.cells.size = i.size := by have := VRs_length (hzr φ); simp at this; omega
 have hrow := RowsAt_zeros (hzr φ) hzo c.toNat
 rw [hzl] at hrow
 have hrow2 : RowsAt φ (List.replicate l.toNat zs) i.size (((Array.range (c.toNat * i.size)).map fun j => z.cells[j % z.cells.size]!).toList) := fun j f hf => by
  refine hrow j f ?_
  rw [List.getElem?_replicate] at hf ⊢
  split at hf
  ·rename_i hj; rw [if_pos (by omega)]; exact hf
  ·cases hf
 refine ⟨.slice (some ⟨w.heap.size, 0, none⟩) l.toNat c.toNat, w.alloc (.cells ((Array.range (c.toNat * i.size)).map fun j => z.cells[j % z.cells.size]!) e), _, ?_, Ext.pushRow hR hN (esz := i.size) (cap := c.toNat) (t := e) (lo := 0) (hi := 0) rfl rfl rfl rfl (by simp; omega) (by simp) (.inl rfl) hrow2, ?_⟩
 ·unfold Instr.makeSlice
  have w1 := wrap_i64 (n := l) (by omega) (by omega)
  have w2 := wrap_i64 (n := c) (by omega) h4
  have hb : ¬ ((i.bytes : Int) * c > 2 ^ 48) := by
   have : (i.bytes : Int) * c = c * i.bytes := Int.mul_comm _ _
   have e : ((2 : Int) ^ 48) = 281474976710656 := by decide
   rw [this, e]; unfold room at h3; omega
  have hc0 : ¬ (c < 0) := by omega
  have hl0 : ¬ (l < 0) := by omega
  have hlc : ¬ (l > c) := by omega
  simp only [Sem.run_bind, run_underlying hu, Result.andThen_ok, asInt, asIntOf, Sem.run_pure, run_typeInfo_of w hi, w1, w2, hb, hc0, hl0, hlc, decide_false, Bool.or_self, Bool.false_or, Bool.or_false, Bool.false_eq_true, or_self, if_false, run_askRoom, run_sizeOf_of w hi]
  by_cases hn : c.toNat * i.size = 0
  ·have hcz : c.toNat = 0 := by rcases Nat.mul_eq_zero.1 hn with h | h <;> omega
   simp only [hn, if_true, Sem.run_pure, Result.andThen_ok]
   simp [newRow]
   congr 2
   simp
  ·simp only [hn, if_false, run_zeroValue_of w hi hzv, Sem.run_bind, Result.andThen_ok, Sem.run_pure]
   simp [newRow]
 ·have : (List.replicate l.toNat zs).length = l.toNat := by simp
  rw [this]
  exact VR_new_sl (by omega) (Nat.le_refl _) (by unfold maxI; omega)
theorem mkmap_sound {P : Program} {B : Nat} {φ : Phi} {st : St} {w : World} (hR : Rep B φ st w) (hN : Room φ st) (t : TypeId) :
  ∃ u w' ψ, (Instr.makeMap t none).run P w = .ok u w' ∧ Ext B φ st w ψ (st.push (.map [])) w' ∧ VR ψ (.map st.next) u := by
 refine ⟨.map (some w.heap.size), w.alloc (.map #[] 0), φ.put st.next 0 ⟨w.heap.size, 0, 0, 0, 0⟩, by simp [Instr.makeMap], ?_, ?_⟩
 ·refine Ext.push (w' := w.alloc (.map #[] 0)) hR hN rfl rfl rfl rfl (by simp) (fun b hb => heap_alloc_old w _ hb) (Nat.le_refl _) (by simp) ?_
  exact ⟨_, #[], 0, Phi.put_same _ _ _ _, heap_alloc_new w _, rfl⟩
 ·simp only [VR]; exact ⟨_, Phi.put_same _ _ _ _, rfl⟩
theorem keykOf_cases {P : Program} {t : TypeId} {kd : KeyK} (h : keykOf P t = some kd) :
  (∃ ks fs, kd = .struct ks ∧ P.underlying t = some (.struct fs) ∧ flatOf P 20 t = some ks) ∨
  (∃ k, kd = .one k ∧ ((k = .bool ∧ P.underlying t = some .bool) ∨ (k = .int ∧ ∃ q, P.underlying t = some (.int q)) ∨ (k = .str ∧ P.underlying t = some .string))) := by
 unfold keykOf at h
 split at h
 ·rename_i hu; cases h; exact .inr ⟨_, rfl, .inl ⟨rfl, hu⟩⟩
 ·rename_i q hu; cases h; exact .inr ⟨_, rfl, .inr (.inl ⟨rfl, q, hu⟩)⟩
 ·rename_i hu; cases h; exact .inr ⟨_, rfl, .inr (.inr ⟨rfl, hu⟩)⟩
 ·rename_i fs hu
  rw [Option.map_eq_some_iff] at h; obtain ⟨ks, hk, rfl⟩ := h
  exact .inl ⟨ks, fs, rfl, hu, hk⟩
 ·cases h
theorem plainEq_symm : ∀ {ks : List SK} {A B : List V} {r : Bool}, plainEq ks A B = some r → plainEq ks B A = some r
 | [], A, B, r, h => by
  have := plainEq_len h
  have hA0 : A = [] := List.eq_nil_of_length_eq_zero (by simpa using this.1)
  have hB0 : B = [] := List.eq_nil_of_length_eq_zero (by simpa using this.2)
  subst hA0; subst hB0; exact h
 | k :: ks, A, B, r, h => by
  rcases A with _ | ⟨a, A⟩
  ·cases k <;> simp [plainEq] at h
  rcases B with _ | ⟨b, B⟩
  ·cases k <;> cases a <;> simp [plainEq] at h
  cases k <;> cases a <;> cases b <;> simp only [plainEq, reduceCtorEq] at h ⊢
  ·split at h
   ·rename_i hq
    rw [Option.map_eq_some_iff] at h; obtain ⟨r', h, rfl⟩ := h
    rw [if_pos hq.symm, plainEq_symm h]
    simp [Bool.beq_comm, BEq.comm]
   ·cases h
  all_goals
   rw [Option.map_eq_some_iff] at h; obtain ⟨r', h, rfl⟩ := h
   rw [plainEq_symm h]
   simp [BEq.comm]
def NowIs (kd : KeyK) (d : TypeDesc) (x y : Value) (r : Bool) : Prop :=
 match kd with
 | .one _ => Instr.sameNow d x y = some r
 | .struct _ => Instr.sameNow d x y = none
def Finds (P : Program) (w : World) (kd : KeyK) (t : TypeId) (d : TypeDesc) (ck : Value) (ents : List MapEntry) (i : Nat) (a : Option (Nat × Value)) : Prop :=
 match kd with
 | .one _ => Instr.findNow d ck ents i = some a
 | .struct _ => (Instr.findAsking t ck ents i).run P w = .ok a w
theorem key_sound {P : Program} {w : World} {φ : Phi} {t : TypeId} {kd : KeyK} (ht : keykOf P t = some kd) {k j : V} {ck cj : Value} (hk : VR φ k ck) (hj : VR φ j cj) {r : Bool} (h : keyEq kd k j = some r) :
  (Op.equal t ck cj).run P w = .ok r w ∧ (∀ em, (Instr.checkKey em 10000 t ck).run P w = .ok () w) ∧ (r = true → Instr.sameBits 10000 cj ck = true) ∧
  (∀ d, P.underlying t = some d → NowIs kd d ck cj r) := by
 rcases keykOf_cases ht with ⟨ks, fs, rfl, hu, hf⟩ | ⟨q, rfl, hq⟩
 ·cases k <;> simp only [keyEq, reduceCtorEq] at h
  rename_i A
  cases j <;> simp only [keyEq, reduceCtorEq] at h
  rename_i B
  simp only [VR] at hk hj
  obtain ⟨xs, rfl, hA⟩ := hk
  obtain ⟨ys, rfl, hB⟩ := hj
  obtain ⟨p1, p2⟩ := plain_sound (w := w) 20 hf (D := 10000) (by omega) (g := true) hu rfl (x := .agg xs) (y := .agg ys) (by unfold AsCells; simp; exact hA) (by unfold AsCells; simp; exact hB) h
  refine ⟨p1, p2, fun hr => ?_, fun d hd => by rw [hu] at hd; cases hd; rfl⟩
  subst hr
  obtain ⟨q1, q2⟩ := plain_bits 9999 hB hA (plainEq_symm h)
  show (ys.size == xs.size && (ys.toList.zip xs.toList).all fun (p : Value × Value) => Instr.sameBits 9999 p.1 p.2) = true
  rw [q2]
  simpa using q1
 ·have h' : plainEq [q] [k] [j] = some r := by simpa only [keyEq] using h
  obtain ⟨p1, p2, _⟩ := scalar_eq (w := w) hq hk hj h' 9999
  refine ⟨p1, p2, fun hr => ?_, fun d hd => ?_⟩
  ·obtain ⟨_, _, p3⟩ := scalar_eq (P := P) (w := w) (t := t) hq hj hk (plainEq_symm h') 9999
   exact p3 hr _
  ·unfold NowIs; simp only
   rcases hq with ⟨rfl, hu⟩ | ⟨rfl, q, hu⟩ | ⟨rfl, hu⟩
   ·rw [hu] at hd; cases hd
    cases k <;> cases j <;> simp only [plainEq, reduceCtorEq, Option.map_some, Option.some.injEq, Bool.and_true] at h'
    simp only [VR] at hk hj; subst hk; subst hj; subst h'; rfl
   ·rw [hu] at hd; cases hd
    cases k <;> cases j <;> simp only [plainEq, reduceCtorEq] at h'
    split at h'
    ·rename_i hkk
     simp only [Option.map_some, Option.some.injEq, Bool.and_true] at h'
     simp only [VR] at hk hj; obtain ⟨rfl, _⟩ := hk; obtain ⟨rfl, _⟩ := hj; subst h'
     simp [Instr.sameNow, hkk]
    ·cases h'
   ·rw [hu] at hd; cases hd
    cases k <;> cases j <;> simp only [plainEq, reduceCtorEq, Option.map_some, Option.some.injEq, Bool.and_true] at h'
    simp only [VR] at hk hj; obtain ⟨s, rfl, rfl, _⟩ := hk; obtain ⟨s', rfl, rfl, _⟩ := hj; subst h'
    simp only [Instr.sameNow, Option.some.injEq]
    rw [beq_toListBytes, ByteArray.toList_eq, ByteArray.toList_eq]
    exact (ints_beq _ _).symm
inductive Found (φ : Phi) (kd : KeyK) (k v : V) (es : List (V × V)) (ents : List MapEntry) (i : Nat) : Option (Nat × Value) → Option V → List (V × V) → Prop
 | no : Found φ kd k v es ents i none none (es ++ [(k, v)])
 | yes (n : Nat) (j u : V) (e : MapEntry) (h1 : es[n]? = some (j, u)) (h2 : ents[n]? = some e) (h3 : VR φ j e.key) (h4 : VR φ u e.val) (h5 : keyEq kd k j = some true) : Found φ kd k v es ents i (some (i + n, e.val)) (some u) (es.set n (k, v))
theorem find_sound {P : Program} {w : World} {φ : Phi} {t : TypeId} {d : TypeDesc} {kd : KeyK} (ht : keykOf P t = some kd) (hd : P.underlying t = some d) {k v : V} {ck : Value} (hk : VR φ k ck) : ∀ (es : List (V × V)) (ents : List MapEntry) (i : Nat), VRm φ es ents → ∀ {r : Option V}, mapFind kd k es = some r →
  ∃ a es', Finds P w kd t d ck ents i a ∧ mapPut kd k v es = some es' ∧ Found φ kd k v es ents i a r es' ∧ (∀ em, (Instr.checkKey em 10000 t ck).run P w = .ok () w)
 | [], ents, i, hm, r, h => by
  simp only [mapFind] at h
  split at h
  ·rename_i hkk
   cases h
   simp only [VRm] at hm; subst hm
   refine ⟨none, [(k, v)], ?_, by simp only [mapPut, hkk, if_true], .no, (key_sound (w := w) ht hk hk hkk).2.1⟩
   cases kd <;> rfl
  ·cases h
 | (j, u) :: es, ents, i, hm, r, h => by
  obtain ⟨e, ents', rfl, hj, hu, hm⟩ := hm
  simp only [mapFind] at h
  split at h
  ·rename_i hkj
   cases h
   obtain ⟨p1, p2, p3, p4⟩ := key_sound (w := w) ht hk hj hkj
   refine ⟨some (i, e.val), (k, v) :: es, ?_, by simp only [mapPut, hkj], .yes 0 j u e rfl rfl hj hu hkj, p2⟩
   have p4 := p4 d hd
   cases kd with
   | one q => unfold NowIs at p4; unfold Finds; simp only at p4 ⊢; simp [Instr.findNow, p4]
   | struct ks => unfold Finds; simp only; simp [Instr.findAsking, p1]
  ·rename_i hkj
   obtain ⟨p1, p2, p3, p4⟩ := key_sound (w := w) ht hk hj hkj
   obtain ⟨a, es', q1, q2, q3, _⟩ := find_sound (w := w) ht hd (v := v) hk es ents' (i + 1) hm h
   refine ⟨a, (j, u) :: es', ?_, by simp only [mapPut, hkj, q2, Option.map_some], ?_, p2⟩
   ·have p4 := p4 d hd
    cases kd with
    | one q => unfold NowIs at p4; unfold Finds at q1 ⊢; simp only at p4 q1 ⊢; simp [Instr.findNow, p4, q1]
    | struct ks => unfold Finds at q1 ⊢; simp only at q1 ⊢; simp [Instr.findAsking, p1, q1]
   ·cases q3 with
    | no => exact .no
    | yes n j' u' e' h1 h2 h3 h4 h5 =>
     have := Found.yes (φ := φ) (kd := kd) (k := k) (v := v) (es := (j, u) :: es) (ents := e :: ents') (i := i) (n + 1) j' u' e' (by simpa using h1) (by simpa using h2) h3 h4 h5
     rw [show i + 1 + n = i + (n + 1) from by omega]
     simpa using this
  ·cases h
theorem run_findKey_of {P : Program} {w : World} {t : TypeId} {d : TypeDesc} {kd : KeyK} (ht : keykOf P t = some kd) (hd : P.underlying t = some d) {ck : Value} {ents : List MapEntry} {a : Option (Nat × Value)}
  (h : Finds P w kd t d ck ents 0 a) : (Instr.findKey t ck ents).run P w = .ok a w := by
 cases kd with
 | one q => exact MapKept.run_findKey hd h
 | struct ks =>
  rcases keykOf_cases ht with ⟨_, fs, _, hu, _⟩ | ⟨_, h0, _⟩
  ·rw [run_findKey_eq w (by rw [hu])]; exact h
  ·cases h0
theorem VRm_length {φ : Phi} : ∀ {es : List (V × V)} {ents : List MapEntry}, VRm φ es ents → es.length = ents.length
 | [], ents, h => by simp only [VRm] at h; simp [h]
 | (_, _) :: _, _, ⟨e, es', rfl, _, _, h⟩ => by simp [VRm_length h]
theorem VRm_snoc {φ : Phi} {k v : V} {ck cv : Value} {b : Nat} (hk : VR φ k ck) (hv : VR φ v cv) : ∀ {es : List (V × V)} {ents : List MapEntry}, VRm φ es ents → VRm φ (es ++ [(k, v)]) (ents ++ [{ key := ck, val := cv, born := b }])
 | [], ents, h => by
  simp only [VRm] at h; subst h
  exact ⟨_, [], rfl, hk, hv, rfl⟩
 | (_, _) :: _, _, ⟨e, es', rfl, h1, h2, h⟩ => ⟨e, _, rfl, h1, h2, VRm_snoc hk hv h⟩
theorem VRm_set {φ : Phi} {k v : V} {ck cv : Value} (hk : VR φ k ck) (hv : VR φ v cv) : ∀ {es : List (V × V)} {ents : List MapEntry} (n : Nat), VRm φ es ents → VRm φ (es.set n (k, v)) (ents.modify n fun (e : MapEntry) => ({ e with key := ck, val := cv } : MapEntry))
 | [], ents, n, h => by simp only [VRm] at h; subst h; cases n <;> simp [VRm]
 | (_, _) :: _, _, n, ⟨e, es', rfl, h1, h2, h⟩ => by
  cases n with
  | zero => exact ⟨{ e with key := ck, val := cv }, es', by simp, hk, hv, h⟩
  | succ n => exact ⟨e, es'.modify n fun (e : MapEntry) => ({ e with key := ck, val := cv } : MapEntry), by simp, h1, h2, VRm_set hk hv n h⟩
theorem lookup_sound {P : Program} {B : Nat} {φ : Phi} {st : St} {w : World} (hR : Rep B φ st w) {t kt e : TypeId} {kd : KeyK} {z : V} (hu : P.underlying t = some (.map kt e)) (hk : keykOf P kt = some kd) (hz : zeroVal P e = some z) {m k : V} {cm ck : Value} (hm : VR φ m cm) (hkv : VR φ k ck) {ok : Bool} {r : Option V}
  (h : (m = .nilm ∧ keyEq kd k k = some true ∧ r = none) ∨ ∃ o es, m = .map o ∧ st.get o = some (.map es) ∧ mapFind kd k es = some r) :
  Runs P w φ (Instr.lookup t cm ck ok) (if ok then .tup [r.getD z, .bool r.isSome] else r.getD z) := by
 obtain ⟨i, zv, hi, hzv, hzr⟩ : ∃ i zv, P.info? e = some i ∧ i.zero = some zv ∧ VR φ z zv := by
  unfold zeroVal at hz
  split at hz
  ·rename_i v hv
   rw [Option.bind_eq_some_iff] at hv
   obtain ⟨i, hi, hz'⟩ := hv
   exact ⟨i, v, hi, hz', constOf_VR hz⟩
  ·cases hz
 obtain ⟨d, hd⟩ : ∃ d, P.underlying kt = some d := by
  rcases keykOf_cases hk with ⟨_, fs, _, hu, _⟩ | ⟨_, _, ⟨_, hu⟩ | ⟨_, q, hu⟩ | ⟨_, hu⟩⟩ <;> exact ⟨_, hu⟩
 have main : ∀ (ents : Array MapEntry) (a : Option (Nat × Value)), (∀ em, (Instr.checkKey em 10000 kt ck).run P w = .ok () w) → (Instr.findKey kt ck ents.toList).run P w = .ok a w →
   (match a, r with | none, none => True | some (_, u), some v => VR φ v u | _, _ => False) → (cm = .map none ∧ ents = #[] ∨ ∃ b clock, cm = .map (some b) ∧ w.heap[b]? = some (.map ents clock)) → Runs P w φ (Instr.lookup t cm ck ok) (if ok then .tup [r.getD z, .bool r.isSome] else r.getD z) := by
  intro ents a hc hf hav hcm
  have hrun : (Instr.lookup t cm ck ok).run P w = (do
    Instr.checkKey ents.isEmpty 10000 kt ck
    let (v, k) ← match ← Instr.findKey kt ck ents.toList with
     | some (_, v) => pure (v, true)
     | none => pure (← zeroValue e, false)
    pure (if ok then Value.tuple #[v, .bool k] else v)).run P w := by
   unfold Instr.lookup
   rw [Sem.run_bind, run_underlying hu]
   rcases hcm with ⟨rfl, rfl⟩ | ⟨b, clock, rfl, hb⟩
   ·rfl
   ·simp only [Result.andThen_ok]
    simp only [Sem.run_bind, MapKept.run_getObj_map hb, Result.andThen_ok, Sem.run_pure]
    rfl
  unfold Runs
  rw [hrun]
  simp only [Sem.run_bind, hc, hf, Result.andThen_ok]
  cases a with
  | none =>
   cases r with
   | none =>
    simp only [Sem.run_bind, run_zeroValue_of w hi hzv, Result.andThen_ok, Sem.run_pure]
    cases ok
    ·exact ⟨_, rfl, hzr⟩
    ·refine ⟨_, rfl, ?_⟩
     simp only [if_true, VR, Option.getD_none, Option.isSome_none]
     refine ⟨_, rfl, ?_⟩
     rw [VRs_cons2, VRs_cons2, VRs_nil]
     exact ⟨hzr, VR_bool _, rfl⟩
   | some v => exact hav.elim
  | some p =>
   obtain ⟨n, u⟩ := p
   cases r with
   | none => exact hav.elim
   | some v =>
    simp only [Sem.run_pure, Result.andThen_ok]
    cases ok
    ·exact ⟨_, rfl, hav⟩
    ·refine ⟨_, rfl, ?_⟩
     simp only [if_true, VR, Option.getD_some, Option.isSome_some]
     refine ⟨_, rfl, ?_⟩
     rw [VRs_cons2, VRs_cons2, VRs_nil]
     exact ⟨hav, VR_bool _, rfl⟩
 rcases h with ⟨rfl, hkk, rfl⟩ | ⟨o, es, rfl, hg, hf⟩
 ·simp only [VR] at hm; subst hm
  refine main #[] none (key_sound (w := w) hk hkv hkv hkk).2.1 (run_findKey_of hk hd ?_) trivial (.inl ⟨rfl, rfl⟩)
  cases kd <;> rfl
 ·simp only [VR] at hm
  obtain ⟨L, hL, rfl⟩ := hm
  obtain ⟨L', ents, clock, hL', hb, hvr⟩ := hR.here o _ hg
  rw [hL] at hL'; cases hL'
  obtain ⟨a, es', q1, _, q3, q4⟩ := find_sound (w := w) hk hd (v := .undef) hkv es ents.toList 0 hvr hf
  refine main ents a q4 (run_findKey_of hk hd q1) ?_ (.inr ⟨L.block, clock, rfl, hb⟩)
  cases q3 with
  | no => trivial
  | yes n j u e h1 h2 h3 h4 h5 => exact h4
theorem mapset_sound {P : Program} {B : Nat} {φ : Phi} {st : St} {w : World} (hR : Rep B φ st w) {t kt e : TypeId} {kd : KeyK} (hu : P.underlying t = some (.map kt e)) (hk : keykOf P kt = some kd) {o : Nat} {k v : V} {cm ck cv : Value} (hm : VR φ (.map o) cm) (hkv : VR φ k ck) (hv : VR φ v cv) {es es' : List (V × V)} (hg : st.get o = some (.map es)) (hp : mapPut kd k v es = some es') :
  ∃ w', (Instr.mapUpdate t cm ck cv).run P w = .ok () w' ∧ Ext B φ st w φ (st.set o (.map es')) w' := by
 obtain ⟨d, hd⟩ : ∃ d, P.underlying kt = some d := by
  rcases keykOf_cases hk with ⟨_, fs, _, hu, _⟩ | ⟨_, _, ⟨_, hu⟩ | ⟨_, q, hu⟩ | ⟨_, hu⟩⟩ <;> exact ⟨_, hu⟩
 simp only [VR] at hm
 obtain ⟨L, hL, rfl⟩ := hm
 obtain ⟨L', ents, clock, hL', hb, hvr⟩ := hR.here o _ hg
 rw [hL] at hL'; cases hL'
 have hbl := hR.inh _ _ _ hL
 have hfind : ∃ r, mapFind kd k es = some r := by
  clear hvr hb hg
  induction es generalizing es' with
  | nil => simp only [mapPut] at hp; split at hp; rename_i h; exact ⟨none, by simp only [mapFind, h, if_true]⟩; cases hp
  | cons p es ih =>
   obtain ⟨j, u⟩ := p
   simp only [mapPut] at hp
   split at hp
   ·rename_i h; exact ⟨some u, by simp only [mapFind, h]⟩
   ·rename_i h
    rw [Option.map_eq_some_iff] at hp; obtain ⟨l, hl, _⟩ := hp
    obtain ⟨r, hr⟩ := ih hl
    exact ⟨r, by simp only [mapFind, h]; exact hr⟩
   ·cases hp
 obtain ⟨r, hr⟩ := hfind
 obtain ⟨a, es2, q1, q2, q3, q4⟩ := find_sound (w := w) hk hd (v := v) hkv es ents.toList 0 hvr hr
 rw [hp] at q2; cases q2
 have hfk := run_findKey_of hk hd q1
 have turn : ∀ (ents' : Array MapEntry) (clock' : Nat), VRm φ es' ents'.toList → Ext B φ st w φ (st.set o (.map es')) { w with heap := w.heap.setIfInBounds L.block (.map ents' clock') } := by
  intro ents' clock' hm
  refine Ext.turn hR hg rfl rfl rfl rfl rfl (by simp) φ.le_refl (fun _ _ _ _ e => e) (fun b _ hbn => ?_) (fun g L e => .inl ⟨g, L, e, rfl⟩) (fun g L e => by simpa using hR.inh _ _ _ e) ⟨L, ents', clock', hL, by simp [hbl], hm⟩
  exact putBlock_other w _ (hbn _ _ hL)
 have hrun : ∀ {w'}, (match a with
   | some (i, _) => (do
    let key ← Instr.keyThatStays (((ents[i]?).map MapEntry.key).getD ck) ck
    setObj L.block (.map (ents.modify i fun e => { e with key, val := cv }) clock))
   | none => setObj L.block (.map (ents.push { key := ck, val := cv, born := clock }) (clock + 1))).run P w = .ok () w' → (Instr.mapUpdate t (.map (some L.block)) ck cv).run P w = .ok () w' := by
  intro w' h
  unfold Instr.mapUpdate
  simp only [Sem.run_bind, run_underlying hu, Result.andThen_ok, MapKept.run_getObj_map hb, q4, hfk]
  exact h
 generalize hr2 : r = r2 at q3
 cases q3 with
 | no =>
  exact ⟨_, hrun (MapKept.run_setObj_map _ hb), turn _ _ (by rw [Array.toList_push]; exact VRm_snoc hkv hv hvr)⟩
 | yes n j u e h1 h2 h3 h4 h5 =>
  have h2' : ents[0 + n]? = some e := by rw [Nat.zero_add]; simpa using h2
  refine ⟨_, hrun ?_, turn (ents.modify (0 + n) fun (e : MapEntry) => ({ e with key := ck, val := cv } : MapEntry)) clock ?_⟩
  ·simp only [Sem.run_bind, Instr.keyThatStays, h2', Option.map_some, Option.getD_some]
   rw [if_pos ((key_sound (P := P) (w := w) hk hkv h3 h5).2.2.1 rfl)]
   simp only [Sem.run_pure, Result.andThen_ok]
   exact MapKept.run_setObj_map _ hb
  ·rw [Nat.zero_add]
   have : (ents.modify n fun (e : MapEntry) => ({ e with key := ck, val := cv } : MapEntry)).toList = ents.toList.modify n fun (e : MapEntry) => ({ e with key := ck, val := cv } : MapEntry) := by simp
   rw [this]
   exact VRm_set hkv hv n hvr
theorem freeze_get {w : World} {b n : Nat} {arr : Array Value} {t : TypeId} {lo hi : Nat} (hg : w.heap[b]? = some (.cells arr t (lo, hi))) :
  (w.freeze ⟨b, n, none⟩ 1).heap[b]? = some (.cells arr t (if lo == hi then (n, n + 1) else (min lo n, max hi (n + 1)))) := by
 unfold World.freeze
 simp only [Nat.one_ne_zero, if_false]
 rw [Array.getElem?_modify, if_pos rfl, hg]
 rfl
theorem freeze_other {w : World} {b c n : Nat} (h : c ≠ b) : (w.freeze ⟨b, n, none⟩ 1).heap[c]? = w.heap[c]? := by
 unfold World.freeze
 simp only [Nat.one_ne_zero, if_false]
 rw [Array.getElem?_modify, if_neg (fun e => h e.symm)]
theorem freeze_size {w : World} {b n : Nat} : (w.freeze ⟨b, n, none⟩ 1).heap.size = w.heap.size := by
 unfold World.freeze
 simp only [Nat.one_ne_zero, if_false, Array.size_modify]
theorem Rep.same {B : Nat} {φ : Phi} {s t : St} {w : World} (h : Rep B φ s w) (k : ∀ o, t.get o = s.get o) : Rep B φ t w := by
 have hro : ∀ o, t.ro o = s.ro o := fun o => by simp only [St.ro, k o]
 exact ⟨h.bot, fun o x e => h.here o x (by rw [← k o]; exact e), fun o g L o' g' L' e e' n r => h.apart o g L o' g' L' e e' n (by rw [← hro]; exact r), fun o g L e r => h.above o g L e (by rw [← hro]; exact r), h.inh⟩
theorem cvs_sound {P : Program} {B : Nat} {φ : Phi} {st : St} {w : World} (hR : Rep B φ st w) {t e : TypeId} (h1 : P.underlying t = some (.slice e)) (h3 : P.underlying e = some (.int .u8)) {o g off ln esz : Nat} {cap : Option Nat} {cx : Value} (hx : VR φ (.sl o g off ln esz cap) cx) {es : List (List V)} {gen live : Nat}
  (hg : st.get o = some (.row es gen live false)) (hln : 0 < ln) (hlg : live ≤ g) :
  ∃ w', (convert t t cx).run P w = .ok cx w' ∧ Ext B φ st w φ st w' ∧ VR φ (.sl o g off ln esz cap) cx := by
 suffices h : ∃ w', (convert t t cx).run P w = .ok cx w' ∧ Ext B φ st w φ (st.set o (.row es gen live false)) w' ∧ VR φ (.sl o g off ln esz cap) cx by
  obtain ⟨w', q1, q2, q3⟩ := h
  refine ⟨w', q1, ⟨q2.le, q2.rep.same fun p => ?_, q2.size, q2.os, q2.tape, q2.output, q2.frame, q2.new, fun p g' L e => .inl e⟩, q3⟩
  rw [St.get_set]
  split
  ·rename_i e; rw [e]; exact hg
  ·rfl
 have hx0 := hx
 simp only [VR] at hx
 obtain ⟨L, a, c, hL, _, rfl, hlc, hoff, hac, _⟩ := hx
 obtain ⟨ha, _⟩ := hac (by omega)
 subst ha
 obtain ⟨hlv, hgen, hrow, hbase⟩ := hR.here o _ hg
 obtain ⟨L', e1, r, _⟩ := hrow g hlg (hgen g L hL)
 rw [hL] at e1; cases e1
 obtain ⟨_, arr, ty, lo, hi, hheap, _, hfr, _⟩ := r
 have hb : L.block < w.heap.size := hR.inh _ _ _ hL
 have hshape : w.shape? L.block = some (ty, arr.size) := by
  unfold World.shape?; rw [hheap]
 have hnew := freeze_get (n := arr.size) hheap
 have hbeyond : (if (lo == hi) = true then (arr.size, arr.size + 1) else (min lo arr.size, max hi (arr.size + 1))).1 = arr.size := by
  split
  ·rfl
  ·rename_i hne
   rcases hfr rfl with h | h
   ·exact absurd (by simpa using h) hne
   ·simp only; omega
 refine ⟨w.freeze ⟨L.block, arr.size, none⟩ 1, ?_, ?_, hx0⟩
 ·unfold convert
  simp only [Sem.run_bind, run_underlying h1, run_underlying h3, Result.andThen_ok, beq_self_eq_true]
  unfold markStringish
  simp only [Sem.run_bind, run_shape, hshape, Result.andThen_ok, run_freeze, Sem.run_pure]
 ·refine Ext.turn hR hg rfl rfl ?_ ?_ ?_ (Nat.le_of_eq freeze_size.symm) φ.le_refl (fun _ _ _ _ e => e) (fun b _ hbn => freeze_other (fun e => hbn _ _ hL e.symm)) (fun g L e => .inl ⟨g, L, e, rfl⟩) (fun g L e => by rw [freeze_size]; exact hR.inh _ _ _ e) ?_
  ·unfold World.freeze; split <;> rfl
  ·unfold World.freeze; split <;> rfl
  ·unfold World.freeze; split <;> rfl
  ·refine ⟨hlv, hgen, fun g' k1 k2 => ?_, hbase⟩
   obtain ⟨M, m1, ⟨m2, arr', ty', lo', hi', m3, m4, m5, m6⟩, m7⟩ := hrow g' k1 k2
   refine ⟨M, m1, ?_, m7⟩
   by_cases hbm : M.block = L.block
   ·rw [hbm, hheap] at m3
    cases m3
    obtain ⟨p, hp⟩ : ∃ p, (if (lo == hi) = true then (arr.size, arr.size + 1) else (min lo arr.size, max hi (arr.size + 1))) = p := ⟨_, rfl⟩
    rw [hp] at hnew hbeyond
    obtain ⟨p1, p2⟩ := p
    exact ⟨m2, arr, ty, p1, p2, by rw [hbm]; exact hnew, m4, fun _ => .inr (Nat.le_of_eq hbeyond.symm), m6⟩
   ·exact ⟨m2, arr', ty', lo', hi', by rw [freeze_other hbm]; exact m3, m4, m5, m6⟩
end Go.Ab
