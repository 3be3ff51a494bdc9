/- The abstract machine's single operations stand for the program's. Part 5: parts of structs, comparisons, maps, bytes. -/
import Derived.Test.YtpeafiomifmadaaAbs7
import Derived.MapKept
import Derived.WideKeyRuns
namespace Go.Ab
open Go
set_option linter.unusedVariables false
set_option linter.unusedSimpArgs false
theorem extract_cut (xs : Array Value) (o n : Nat) : (xs.extract o (o + n)).toList = cut xs.toList o n := by
 rw [Array.toList_extract]; unfold cut; rw [List.extract_eq_take_drop]; congr 1; omega
theorem part_sound {P : Program} {w : World} {φ : Phi} {t : TypeId} {n : Nat} {g : Bool} (hs : shapeOf P t = some (n, g)) {cs : List V} {vs : Array Value} (hv : VRs φ cs vs.toList) {off : Nat} {v : V} (hle : off + n ≤ cs.length) (ho : ofCells g (cut cs off n) = some v) :
  Runs P w φ (part t vs off) v := by
 obtain ⟨d, i, hu, hi, hsz, hd, h1⟩ := shapeOf_cases hs
 have hc := VRs_cut hv off n
 unfold Runs part
 simp only [Sem.run_bind, run_isAgg_of w hu, hd, Result.andThen_ok]
 rcases ofCells_VR hc ho with ⟨rfl, hr⟩ | ⟨rfl, u, hu1, hr⟩
 ·simp only [if_true, Sem.run_bind, run_sizeOf_of w hi, hsz, Result.andThen_ok, Sem.run_pure]
  refine ⟨_, rfl, ?_⟩
  have e : vs.extract off (off + n) = (cut vs.toList off n).toArray := by
   apply Array.ext'; rw [extract_cut]
  rw [e]; exact hr
 ·obtain rfl := h1 rfl
  have e : vs[off]? = some u := by
   have := list_get_of_cut (l := vs.toList) (o := off) (n := 1) (j := 0) (by omega)
   rw [hu1] at this; simpa using this
  simp only [Bool.false_eq_true, if_false, e]
  exact ⟨u, rfl, hr⟩
theorem plainEq_len : ∀ {ks : List SK} {A B : List V} {r : Bool}, plainEq ks A B = some r → A.length = ks.length ∧ B.length = ks.length
 | [], A, B, r, h => by
  unfold plainEq at h
  split at h <;> simp_all
 | k :: ks, A, B, r, h => by
  unfold plainEq at h
  split at h
  ·simp_all
  ·rw [Option.map_eq_some_iff] at h; obtain ⟨_, h, _⟩ := h
   have := plainEq_len h; simp_all
  ·split at h
   ·rw [Option.map_eq_some_iff] at h; obtain ⟨_, h, _⟩ := h
    have := plainEq_len h; simp_all
   ·cases h
  ·rw [Option.map_eq_some_iff] at h; obtain ⟨_, h, _⟩ := h
   have := plainEq_len h; simp_all
  ·cases h
theorem plainEq_split : ∀ {k1 k2 : List SK} {A B : List V} {r : Bool}, plainEq (k1 ++ k2) A B = some r →
  ∃ r1 r2, plainEq k1 (A.take k1.length) (B.take k1.length) = some r1 ∧ plainEq k2 (A.drop k1.length) (B.drop k1.length) = some r2 ∧ r = (r1 && r2)
 | [], k2, A, B, r, h => ⟨true, r, by simp [plainEq], by simpa using h, by simp⟩
 | k :: k1, k2, A, B, r, h => by
  rcases A with _ | ⟨a, A⟩
  ·cases k <;> simp [plainEq] at h
  rcases B with _ | ⟨b, B⟩
  ·cases k <;> cases a <;> simp [plainEq] at h
  rw [List.cons_append] at h
  cases k <;> cases a <;> cases b <;> simp only [plainEq, reduceCtorEq] at h
  ·split at h
   ·rename_i hq
    rw [Option.map_eq_some_iff] at h; obtain ⟨r', h, rfl⟩ := h
    obtain ⟨r1, r2, h1, h2, rfl⟩ := plainEq_split h
    refine ⟨_, r2, by simp only [List.length_cons, List.take_succ_cons, plainEq, h1, hq, if_true, Option.map_some], by simpa using h2, (Bool.and_assoc _ _ _).symm⟩
   ·cases h
  all_goals
   rw [Option.map_eq_some_iff] at h; obtain ⟨r', h, rfl⟩ := h
   obtain ⟨r1, r2, h1, h2, rfl⟩ := plainEq_split h
   exact ⟨_, r2, by simp only [List.length_cons, List.take_succ_cons, plainEq, h1, Option.map_some], by simpa using h2, (Bool.and_assoc _ _ _).symm⟩
def AsCells (φ : Phi) (g : Bool) (A : List V) (v : Value) : Prop :=
 if g then ∃ xs : Array Value, v = .agg xs ∧ VRs φ A xs.toList else ∃ a, A = [a] ∧ VR φ a v
theorem flatOf_one {P : Program} {d : Nat} {t : TypeId} {ks : List SK} (h : flatOf P d t = some ks) :
  (∃ d', d = d' + 1 ∧ ∃ fs, P.underlying t = some (.struct fs) ∧ P.stoodInHeld t = false ∧ flatFs P (flatOf P d') fs.toList 0 = some ks) ∨
  (0 < d ∧ ∃ k, ks = [k] ∧ ((k = .bool ∧ P.underlying t = some .bool) ∨ (k = .int ∧ ∃ q, P.underlying t = some (.int q)) ∨ (k = .str ∧ P.underlying t = some .string))) := by
 cases d with
 | zero => cases h
 | succ d =>
  unfold flatOf at h
  split at h
  ·rename_i hu; cases h; exact .inr ⟨by omega, _, rfl, .inl ⟨rfl, hu⟩⟩
  ·rename_i q hu; cases h; exact .inr ⟨by omega, _, rfl, .inr (.inl ⟨rfl, q, hu⟩)⟩
  ·rename_i hu; cases h; exact .inr ⟨by omega, _, rfl, .inr (.inr ⟨rfl, hu⟩)⟩
  ·rename_i fs hu
   split at h
   ·cases h
   ·rename_i hn; exact .inl ⟨d, rfl, fs, hu, by simpa using hn, h⟩
  ·cases h
theorem scalar_eq {P : Program} {w : World} {φ : Phi} {t : TypeId} {k : SK} (ht : (k = .bool ∧ P.underlying t = some .bool) ∨ (k = .int ∧ ∃ q, P.underlying t = some (.int q)) ∨ (k = .str ∧ P.underlying t = some .string)) {a b : V} {x y : Value} (ha : VR φ a x) (hb : VR φ b y) {r : Bool} (h : plainEq [k] [a] [b] = some r) (D : Nat) :
  (Op.equalIn (D + 1) t x y).run P w = .ok r w ∧ (∀ em, (Instr.checkKey em (D + 1) t x).run P w = .ok () w) ∧ (r = true → ∀ n, Instr.sameBits n x y = true) := by
 rcases ht with ⟨rfl, hu⟩ | ⟨rfl, q, hu⟩ | ⟨rfl, hu⟩
 ·cases a <;> cases b <;> simp only [plainEq, reduceCtorEq, Option.map_some, Option.some.injEq, Bool.and_true] at h
  subst h
  simp only [VR] at ha hb; subst ha; subst hb
  refine ⟨run_equalIn_bool' w D t _ _ hu, fun em => by simp [Instr.checkKey, run_underlying hu], fun hr n => by cases n <;> simpa [Instr.sameBits] using hr⟩
 ·cases a <;> cases b <;> simp only [plainEq, reduceCtorEq] at h
  split at h
  ·rename_i hk
   simp only [Option.map_some, Option.some.injEq, Bool.and_true] at h
   subst h; subst hk
   simp only [VR] at ha hb; obtain ⟨rfl, _⟩ := ha; obtain ⟨rfl, _⟩ := hb
   refine ⟨run_equalIn_int w D t _ q _ _ hu, fun em => by simp [Instr.checkKey, run_underlying hu], fun hr n => by cases n <;> simpa [Instr.sameBits] using hr⟩
  ·cases h
 ·cases a <;> cases b <;> simp only [plainEq, reduceCtorEq, Option.map_some, Option.some.injEq, Bool.and_true] at h
  subst h
  simp only [VR] at ha hb; obtain ⟨s, rfl, rfl, _⟩ := ha; obtain ⟨s', rfl, rfl, _⟩ := hb
  have e : ((s.data.toList.map fun b => (b.toNat : Int)) == (s'.data.toList.map fun b => (b.toNat : Int))) = (s.toList == s'.toList) := by
   rw [ByteArray.toList_eq, ByteArray.toList_eq]; exact ints_beq _ _
  rw [e]
  refine ⟨run_equalIn_string w D t _ _ hu, fun em => by simp [Instr.checkKey, run_underlying hu], fun hr n => ?_⟩
  rw [← beq_toListBytes] at hr
  cases n <;> simpa [Instr.sameBits] using hr
theorem fieldsOf_eq {P : Program} {t : TypeId} {fs : Array Field} (h : P.underlying t = some (.struct fs)) : P.fieldsOf t = fs := by simp [Program.fieldsOf, h]
theorem field_cells {P : Program} {w : World} {φ : Phi} {t : TypeId} {n : Nat} {g : Bool} {i : TypeInfo} {d : TypeDesc} (hu : P.underlying t = some d) (hd : aggD d = g) (hi : P.info? t = some i) (hn : i.size = n) (hg : g = false → n = 1) {xs : Array Value} {off : Nat} {A : List V} (hA : VRs φ A (xs.toList.drop off)) (hl : n ≤ A.length) :
  ∃ v, (part t xs off).run P w = .ok v w ∧ AsCells φ g (A.take n) v := by
 unfold part
 simp only [Sem.run_bind, run_isAgg_of w hu, hd, Result.andThen_ok]
 cases g with
 | true =>
  simp only [if_true, Sem.run_bind, run_sizeOf_of w hi, hn, Result.andThen_ok, Sem.run_pure]
  refine ⟨_, rfl, ?_⟩
  unfold AsCells
  rw [if_pos rfl]
  refine ⟨_, rfl, ?_⟩
  rw [extract_cut]
  exact VRs_take hA n
 | false =>
  obtain rfl := hg rfl
  obtain ⟨a, A', rfl⟩ : ∃ a A', A = a :: A' := by
   cases A with
   | nil => simp at hl
   | cons a A' => exact ⟨a, A', rfl⟩
  rw [VRs_cons] at hA
  obtain ⟨y, ys, e, hy, _⟩ := hA
  have e2 : xs[off]? = some y := by
   have : (xs.toList.drop off)[0]? = some y := by rw [e]; rfl
   simpa using this
  simp only [Bool.false_eq_true, if_false, e2]
  exact ⟨y, rfl, by unfold AsCells; simp; exact hy⟩
theorem plain_sound {P : Program} {w : World} {φ : Phi} : ∀ (d : Nat) {t : TypeId} {ks : List SK}, flatOf P d t = some ks → ∀ {D : Nat}, d ≤ D → ∀ {g : Bool} {ty : TypeDesc}, P.underlying t = some ty → aggD ty = g → ∀ {A B : List V} {x y : Value}, AsCells φ g A x → AsCells φ g B y →
  ∀ {r : Bool}, plainEq ks A B = some r → (Op.equalIn D t x y).run P w = .ok r w ∧ (∀ em, (Instr.checkKey em D t x).run P w = .ok () w) := by
 intro d
 induction d with
 | zero => intro t ks h; cases h
 | succ d ih =>
  intro t ks hf D hD g ty hty hg A B x y hA hB r hr
  obtain ⟨D', rfl⟩ : ∃ D', D = D' + 1 := ⟨D - 1, by omega⟩
  rcases flatOf_one hf with ⟨d', hd', fs, hu, hsi, hfs⟩ | ⟨_, k, rfl, hk⟩
  ·cases hd'
   rw [hu] at hty; cases hty
   simp only [aggD] at hg; subst hg
   unfold AsCells at hA hB
   rw [if_pos rfl] at hA hB
   obtain ⟨xs, rfl, hA⟩ := hA
   obtain ⟨ys, rfl, hB⟩ := hB
   have key : ∀ (l : List Field) (off : Nat) (ks : List SK) (A B : List V) (r : Bool), flatFs P (flatOf P d) l off = some ks → VRs φ A (xs.toList.drop off) → VRs φ B (ys.toList.drop off) → plainEq ks A B = some r →
     (Op.eqFields D' xs ys l).run P w = .ok r w ∧ ∀ em, (forIn l PUnit.unit fun (f : Field) (_ : PUnit) => do
      if f.name ≠ "_" then do let a ← part f.type xs f.offset; Instr.checkKey em D' f.type a; pure (ForInStep.yield PUnit.unit) else pure (ForInStep.yield PUnit.unit)).run P w = .ok PUnit.unit w := by
    intro l
    induction l with
    | nil =>
     intro off ks A B r h hA hB hp
     simp only [flatFs, Option.some.injEq] at h; subst h
     have := plainEq_len hp
     have hA0 : A = [] := List.eq_nil_of_length_eq_zero (by simpa using this.1)
     have hB0 : B = [] := List.eq_nil_of_length_eq_zero (by simpa using this.2)
     subst hA0; subst hB0
     simp only [plainEq, Option.some.injEq] at hp; subst hp
     exact ⟨rfl, fun em => rfl⟩
    | cons f l ihl =>
     intro off ks A B r h hA hB hp
     simp only [flatFs] at h
     split at h
     ·rename_i hc
      obtain ⟨hname, rfl⟩ := hc
      split at h
      ·rename_i k1 n gg hk1 hn hgg
       split at h
       ·rename_i hkn
        split at h
        ·rename_i k2 hk2
         cases h
         obtain ⟨i, hi, hin⟩ := sizeOf?_cases hn
         unfold aggOf at hgg
         rw [Option.map_eq_some_iff] at hgg
         obtain ⟨dd, hud, hdd⟩ := hgg
         have hg1 : gg = false → n = 1 := fun h0 => by
          rcases flatOf_one hk1 with ⟨d2, _, fs2, hu2, _⟩ | ⟨_, k, rfl, _⟩
          ·rw [hud] at hu2; cases hu2; rw [h0] at hdd; cases hdd
          ·rw [← hkn]; rfl
         obtain ⟨r1, r2, p1, p2, rfl⟩ := plainEq_split hp
         have hl := plainEq_len hp
         simp only [List.length_append, hkn] at hl
         rw [hkn] at p1 p2
         obtain ⟨a, ha1, ha2⟩ := field_cells (w := w) hud hdd hi hin hg1 hA (by omega)
         obtain ⟨b, hb1, hb2⟩ := field_cells (w := w) hud hdd hi hin hg1 hB (by omega)
         have hdr : ∀ (A : List V) (zs : Array Value), VRs φ A (zs.toList.drop f.offset) → VRs φ (A.drop n) (zs.toList.drop (f.offset + n)) := fun A zs h => by
          have := VRs_drop h n
          rwa [List.drop_drop] at this
         obtain ⟨q1, q2⟩ := ih hk1 (D := D') (by omega) hud hdd ha2 hb2 p1
         obtain ⟨q3, q4⟩ := ihl _ _ _ _ _ hk2 (hdr A xs hA) (hdr B ys hB) p2
         refine ⟨?_, fun em => ?_⟩
         ·simp only [Op.eqFields]
          rw [if_pos hname]
          simp only [Sem.run_bind, ha1, hb1, q1, Result.andThen_ok, Sem.run_ite, Sem.run_pure]
          cases r1
          ·simp
          ·simpa using q3
         ·simp only [List.forIn_cons, Sem.run_bind]
          rw [if_pos hname]
          simp only [Sem.run_bind, ha1, q2 em, Result.andThen_ok, Sem.run_pure]
          exact q4 em
        ·cases h
       ·cases h
      ·cases h
     ·cases h
   obtain ⟨k1, k2⟩ := key fs.toList 0 ks A B r hfs (by simpa using hA) (by simpa using hB) hr
   refine ⟨?_, fun em => ?_⟩
   ·rw [run_equalIn_struct w D' t xs ys (by rw [fieldsOf_eq hu]; exact hu) hsi, fieldsOf_eq hu]; exact k1
   ·unfold Instr.checkKey
    simp only [Sem.run_bind, run_underlying hu, Result.andThen_ok]
    rw [← Array.forIn_toList]
    rw [k2 em]; rfl
  ·have hgf : g = false := by
    rcases hk with ⟨_, h⟩ | ⟨_, q, h⟩ | ⟨_, h⟩ <;> rw [h] at hty <;> cases hty <;> exact hg.symm
   subst hgf
   unfold AsCells at hA hB
   simp only [Bool.false_eq_true, if_false] at hA hB
   obtain ⟨a, rfl, ha⟩ := hA
   obtain ⟨b, rfl, hb⟩ := hB
   obtain ⟨s1, s2, _⟩ := scalar_eq (w := w) hk ha hb hr D'
   exact ⟨s1, s2⟩
theorem plain_bits {φ : Phi} (n : Nat) : ∀ {ks : List SK} {A B : List V} {xs ys : List Value}, VRs φ A xs → VRs φ B ys → plainEq ks A B = some true → xs.length = ys.length ∧ (xs.zip ys).all (fun (p : Value × Value) => Instr.sameBits n p.1 p.2) = true := by
 intro ks
 induction ks with
 | nil =>
  intro A B xs ys hA hB h
  have := plainEq_len h
  have hA0 : A = [] := List.eq_nil_of_length_eq_zero (by simpa using this.1)
  have hB0 : B = [] := List.eq_nil_of_length_eq_zero (by simpa using this.2)
  subst hA0; subst hB0
  rw [VRs_nil] at hA hB; subst hA; subst hB
  exact ⟨rfl, rfl⟩
 | cons k ks ih =>
  intro A B xs ys hA hB h
  obtain ⟨r1, r2, h1, h2, hr⟩ := plainEq_split (k1 := [k]) (k2 := ks) h
  have hr' := hr.symm
  simp only [Bool.and_eq_true] at hr'
  obtain ⟨rfl, rfl⟩ := hr'
  have hl := plainEq_len h
  cases A with
  | nil => simp at hl
  | cons a A =>
   cases B with
   | nil => simp at hl
   | cons b B =>
    rw [VRs_cons] at hA hB
    obtain ⟨x, xs, rfl, hx, hA⟩ := hA
    obtain ⟨y, ys, rfl, hy, hB⟩ := hB
    simp only [List.length_cons, List.length_nil, Nat.zero_add, List.take_succ_cons, List.take_zero, List.drop_succ_cons, List.drop_zero] at h1 h2
    obtain ⟨q1, q2⟩ := ih hA hB h2
    have hb : Instr.sameBits n x y = true := by
     cases k
     ·cases a <;> cases b <;> simp only [plainEq, reduceCtorEq] at h1
      split at h1
      ·rename_i hk
       simp only [Option.map_some, Option.some.injEq, Bool.and_true] at h1
       simp only [VR] at hx hy; obtain ⟨rfl, _⟩ := hx; obtain ⟨rfl, _⟩ := hy
       cases n <;> simp [Instr.sameBits, hk] <;> simpa using h1
      ·cases h1
     ·cases a <;> cases b <;> simp only [plainEq, reduceCtorEq, Option.map_some, Option.some.injEq, Bool.and_true] at h1
      simp only [VR] at hx hy; subst hx; subst hy
      cases n <;> simpa [Instr.sameBits] using h1
     ·cases a <;> cases b <;> simp only [plainEq, reduceCtorEq, Option.map_some, Option.some.injEq, Bool.and_true] at h1
      simp only [VR] at hx hy; obtain ⟨s, rfl, rfl, _⟩ := hx; obtain ⟨s', rfl, rfl, _⟩ := hy
      have e : (s == s') = true := by rw [beq_toListBytes, ByteArray.toList_eq, ByteArray.toList_eq]; rw [← ints_beq]; exact h1
      cases n <;> simpa [Instr.sameBits] using e
    refine ⟨by simp [q1], ?_⟩
    simp only [List.zip_cons_cons, List.all_cons, hb, Bool.true_and]
    exact q2
end Go.Ab
