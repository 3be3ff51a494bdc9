/- The abstract machine's single operations stand for the program's. Part 6: comparisons by type, bytes and texts, make, maps. -/
import Derived.Test.YtpeafiomifmadaaAbs8
namespace Go.Ab
open Go
set_option linter.unusedVariables false
set_option linter.unusedSimpArgs false
theorem eqkOf_struct {P : Program} {t : TypeId} {ks : List SK} (h : eqkOf P t = some (.struct ks)) : ∃ fs, P.underlying t = some (.struct fs) ∧ P.eqGuardType P.depth t = false ∧ flatOf P 20 t = some ks := by
 unfold eqkOf at h
 split at h <;> try (simp at h; done)
 rename_i fs hu
 split at h
 ·cases h
 ·rename_i hg
  rw [Option.map_eq_some_iff] at h
  obtain ⟨l, hl, e⟩ := h
  cases e
  exact ⟨fs, hu, by simpa using hg, hl⟩
theorem eqIn_ptr {P : Program} {w : World} {t e : TypeId} (D : Nat) (hu : P.underlying t = some (.pointer e)) :
  (∀ b, (Op.equalIn (D + 1) t (.pointer none) (.pointer b)).run P w = .ok b.isNone w) ∧ (∀ a, (Op.equalIn (D + 1) t (.pointer (some a)) (.pointer none)).run P w = .ok false w) :=
 ⟨fun b => by simp [Op.equalIn, run_underlying hu], fun a => by simp [Op.equalIn, run_underlying hu]⟩
theorem eqIn_slice {P : Program} {w : World} {t e : TypeId} (D : Nat) (hu : P.underlying t = some (.slice e)) :
  (∀ b n m, (Op.equalIn (D + 1) t (.slice none 0 0) (.slice b n m)).run P w = .ok b.isNone w) ∧ (∀ a n m, (Op.equalIn (D + 1) t (.slice (some a) n m) (.slice none 0 0)).run P w = .ok false w) :=
 ⟨fun b n m => by simp [Op.equalIn, run_underlying hu], fun a n m => by simp [Op.equalIn, run_underlying hu]⟩
theorem eqIn_map {P : Program} {w : World} {t e e' : TypeId} (D : Nat) (hu : P.underlying t = some (.map e e')) :
  (∀ b, (Op.equalIn (D + 1) t (.map none) (.map b)).run P w = .ok b.isNone w) ∧ (∀ a, (Op.equalIn (D + 1) t (.map (some a)) (.map none)).run P w = .ok false w) :=
 ⟨fun b => by simp [Op.equalIn, run_underlying hu], fun a => by simp [Op.equalIn, run_underlying hu]⟩
theorem eqIn_func {P : Program} {w : World} {t : TypeId} {e e' : Array TypeId} {e'' : Bool} (D : Nat) (hu : P.underlying t = some (.func e e' e'')) :
  (Op.equalIn (D + 1) t .nilFunc .nilFunc).run P w = .ok true w ∧ (∀ f a c, (Op.equalIn (D + 1) t .nilFunc (.func f a c)).run P w = .ok false w) ∧ (∀ f a c, (Op.equalIn (D + 1) t (.func f a c) .nilFunc).run P w = .ok false w) :=
 ⟨by simp [Op.equalIn, run_underlying hu], fun f a c => by simp [Op.equalIn, run_underlying hu], fun f a c => by simp [Op.equalIn, run_underlying hu]⟩
theorem eqk_sound {P : Program} {w : World} {φ : Phi} {op : BinOp} (hop : op = .eql ∨ op = .neq) {t : TypeId} {kd : EqK} (ht : eqkOf P t = some kd) {x y : V} {cx cy : Value} (hx : VR φ x cx) (hy : VR φ y cy) (px py : Operand) {b : Bool} (h : V.eqk kd x y = some b) :
  (do eqGuard op t px py cx cy; binOp op t cx cy).run P w = .ok (.bool (if op = .neq then !b else b)) w := by
 have fin : ∀ (cx cy : Value), (eqGuard op t px py cx cy).run P w = .ok () w → (binOp .eql t cx cy = do pure (.bool (← Op.equal t cx cy))) → (binOp .neq t cx cy = do pure (.bool (!(← Op.equal t cx cy)))) → (Op.equalIn 10000 t cx cy).run P w = .ok b w →
   (do eqGuard op t px py cx cy; binOp op t cx cy).run P w = .ok (.bool (if op = .neq then !b else b)) w := by
  intro cx cy h1 h2 h3 h4
  simp only [Sem.run_bind, h1, Result.andThen_ok]
  rcases hop with rfl | rfl
  ·simp only [h2, Sem.run_bind, Op.equal, Op.maxDepth, h4, Result.andThen_ok, Sem.run_pure]; rfl
  ·simp only [h3, Sem.run_bind, Op.equal, Op.maxDepth, h4, Result.andThen_ok, Sem.run_pure]; rfl
 cases kd with
 | struct ks =>
  obtain ⟨fs, hu, hg, hf⟩ := eqkOf_struct ht
  cases x <;> cases y <;> simp only [V.eqk, reduceCtorEq] at h
  rename_i A B
  simp only [VR] at hx hy
  obtain ⟨xs, rfl, hA⟩ := hx
  obtain ⟨ys, rfl, hB⟩ := hy
  refine fin _ _ (run_eqGuard_agg w op t px py xs ys hg) rfl rfl ?_
  exact (plain_sound 20 hf (D := 10000) (by omega) (g := true) hu rfl (by unfold AsCells; simp; exact hA) (by unfold AsCells; simp; exact hB) h).1
 | bool =>
  have hu : P.underlying t = some .bool := by
   unfold eqkOf at ht; split at ht <;> first | assumption | (simp at ht; done) | (split at ht <;> simp at ht)
  cases x <;> cases y <;> simp only [V.eqk, reduceCtorEq, Option.some.injEq] at h
  subst h
  simp only [VR] at hx hy; subst hx; subst hy
  exact fin _ _ (by rw [eqGuard_at_bool]; rfl) rfl rfl (run_equalIn_bool' w 9999 t _ _ hu)
 | ptr =>
  obtain ⟨e, hu⟩ : ∃ e, P.underlying t = some (.pointer e) := by
   unfold eqkOf at ht; split at ht <;> first | exact ⟨_, by assumption⟩ | (simp at ht; done) | (split at ht <;> simp at ht)
  have q := eqIn_ptr (w := w) 9999 hu
  cases x <;> cases y <;> simp only [V.eqk, reduceCtorEq, Option.some.injEq] at h <;> subst h <;> simp only [VR] at hx hy
  ·subst hx; subst hy; exact fin _ _ (by rw [eqGuard_at_pointer]; rfl) rfl rfl (q.1 _)
  ·obtain ⟨L, _, rfl, _⟩ := hy; subst hx; exact fin _ _ (by rw [eqGuard_at_pointer]; rfl) rfl rfl (q.1 _)
  ·obtain ⟨L, _, rfl, _⟩ := hx; subst hy; exact fin _ _ (by rw [eqGuard_at_pointer]; rfl) rfl rfl (q.2 _)
 | slice =>
  obtain ⟨e, hu⟩ : ∃ e, P.underlying t = some (.slice e) := by
   unfold eqkOf at ht; split at ht <;> first | exact ⟨_, by assumption⟩ | (simp at ht; done) | (split at ht <;> simp at ht)
  have q := eqIn_slice (w := w) 9999 hu
  cases x <;> cases y <;> simp only [V.eqk, reduceCtorEq, Option.some.injEq] at h <;> subst h <;> simp only [VR] at hx hy
  ·subst hx; subst hy; exact fin _ _ (by rw [eqGuard_at_slice]; rfl) rfl rfl (q.1 _ _ _)
  ·obtain ⟨L, a, c, _, _, rfl, _⟩ := hy; subst hx; exact fin _ _ (by rw [eqGuard_at_slice]; rfl) rfl rfl (q.1 _ _ _)
  ·obtain ⟨L, a, c, _, _, rfl, _⟩ := hx; subst hy; exact fin _ _ (by rw [eqGuard_at_slice]; rfl) rfl rfl (q.2 _ _ _)
 | map =>
  obtain ⟨e, e', hu⟩ : ∃ e e', P.underlying t = some (.map e e') := by
   unfold eqkOf at ht; split at ht <;> first | exact ⟨_, _, by assumption⟩ | (simp at ht; done) | (split at ht <;> simp at ht)
  have q := eqIn_map (w := w) 9999 hu
  cases x <;> cases y <;> simp only [V.eqk, reduceCtorEq, Option.some.injEq] at h <;> subst h <;> simp only [VR] at hx hy
  ·subst hx; subst hy; exact fin _ _ (by rw [eqGuard_at_map]; rfl) rfl rfl (q.1 _)
  ·obtain ⟨L, _, rfl⟩ := hy; subst hx; exact fin _ _ (by rw [eqGuard_at_map]; rfl) rfl rfl (q.1 _)
  ·obtain ⟨L, _, rfl⟩ := hx; subst hy; exact fin _ _ (by rw [eqGuard_at_map]; rfl) rfl rfl (q.2 _)
 | func =>
  obtain ⟨e, e', e'', hu⟩ : ∃ e e' e'', P.underlying t = some (.func e e' e'') := by
   unfold eqkOf at ht; split at ht <;> first | exact ⟨_, _, _, by assumption⟩ | (simp at ht; done) | (split at ht <;> simp at ht)
  have q := eqIn_func (w := w) 9999 hu
  cases x <;> cases y <;> simp only [V.eqk, reduceCtorEq, Option.some.injEq] at h <;> subst h <;> simp only [VR] at hx hy
  ·subst hx; subst hy; exact fin _ _ (by rw [eqGuard_at_nilFunc]; rfl) rfl rfl q.1
  ·obtain ⟨a, c, rfl, _⟩ := hy; subst hx; exact fin _ _ (by rw [eqGuard_at_nilFunc]; rfl) rfl rfl (q.2.1 _ _ _)
  ·obtain ⟨a, c, rfl, _⟩ := hx; subst hy; exact fin _ _ (by rw [eqGuard_at_func]; rfl) rfl rfl (q.2.2 _ _ _)
theorem bytesOfRow_spec {φ : Phi} : ∀ {es : List (List V)} {s : List Int} {new : List Value}, bytesOfRow es = some s → RowsAt φ es 1 new → new.length = es.length → (∃ l : List UInt8, s = ints l ∧ new = (ints l).map (Value.int .u8))
 | [], s, new, h, _, hn => by
  simp only [bytesOfRow, Option.some.injEq] at h; subst h
  have : new = [] := List.eq_nil_of_length_eq_zero (by simpa using hn)
  exact ⟨[], rfl, by simp [this, ints]⟩
 | e :: es, s, new, h, hr, hn => by
  simp only [bytesOfRow] at h
  split at h
  ·rename_i n l hb hl
   cases h
   unfold byteOfCells at hb
   split at hb
   ·cases hb
    cases new with
    | nil => simp at hn
    | cons v new =>
     have h0 := (hr 0 [V.int .u8 n] (by simp)).2.2
     have hc : cut (v :: new) (0 * 1) 1 = [v] := by simp [cut]
     rw [hc, VRs_cons2] at h0
     have hv := h0.1
     simp only [VR] at hv
     obtain ⟨rfl, h1, h2⟩ := hv
     have m1 : IntKind.u8.min = 0 := by decide
     have m2 : IntKind.u8.max = 255 := by decide
     rw [m1] at h1; rw [m2] at h2
     obtain ⟨l', rfl, rfl⟩ := bytesOfRow_spec (new := new) hl (fun i e he => by
      have := hr (i + 1) e (by simpa using he)
      refine ⟨this.1, this.2.1, ?_⟩
      have e2 : cut (Value.int .u8 n :: new) ((i + 1) * 1) 1 = cut new (i * 1) 1 := by simp [cut]
      rw [e2] at this; exact this.2.2) (by simpa using hn)
     have hb : ((UInt8.ofNat n.toNat).toNat : Int) = n := by
      rw [UInt8.toNat_ofNat']; omega
     refine ⟨UInt8.ofNat n.toNat :: l', ?_, ?_⟩
     ·simp only [ints, List.map_cons, hb]
     ·simp only [ints, List.map_cons, hb]
   ·cases hb
  ·cases h
theorem pushed_ints (l : List UInt8) : ((ints l).foldl (fun (r : ByteArray) n => r.push (UInt8.ofNat n.toNat)) ByteArray.empty).data.toList = l := by
 rw [foldl_push_bytes]
 simp only [ints, List.map_map, Array.toList_append]
 have : (List.map ((fun n : Int => UInt8.ofNat n.toNat) ∘ fun b : UInt8 => (b.toNat : Int)) l) = l := by
  conv => rhs; rw [← List.map_id l]
  apply List.map_congr_left
  intro b _
  simp
 rw [this]
 rfl
theorem toStr_sound {P : Program} {B : Nat} {φ : Phi} {st : St} {w : World} (hR : Rep B φ st w) {src dst e : TypeId} (h1 : P.underlying src = some (.slice e)) (h2 : P.underlying dst = some .string) (h3 : P.underlying e = some (.int .u8)) {x : V} {cx : Value} (hx : VR φ x cx) (hn : ∀ l, x ≠ .str l) {es : List (List V)} (he : st.elems 1 x = some es) {s : List Int} (hs : bytesOfRow es = some s) :
  Runs P w φ (convert src dst cx) (.str s) := by
 cases x with
 | nils =>
  simp only [St.elems, Option.some.injEq] at he; subst he
  simp only [bytesOfRow, Option.some.injEq] at hs; subst hs
  simp only [VR] at hx; subst hx
  refine ⟨.string .empty, ?_, ?_⟩
  ·rw [run_convert_bytes_string w src dst e none 0 0 h1 h3 h2]; rfl
  ·simp only [VR]; exact ⟨_, rfl, rfl, by simp⟩
 | sl o g off ln e' cap =>
  obtain ⟨new, hseen, hl⟩ := seen_sl (P := P) hR hx he
  have hx' := hx
  simp only [VR] at hx
  obtain ⟨L, a, c, hL, hLe, rfl, hlc, hoff, hac, hcc, hcm⟩ := hx
  obtain ⟨l, rfl, hnew⟩ := bytesOfRow_spec hs hseen.rows (by simpa using hseen.size)
  have hread := hseen.read w rfl
  simp only [Builtin.firstCells, hl, Nat.mul_one, hnew] at hread
  refine ⟨_, (run_convert_bytes_string w src dst e (some a) ln c h1 h3 h2).trans (run_bytesToString w a ln c (ints l) hread), ?_⟩
  ·simp only [VR]
   refine ⟨_, rfl, ?_, ?_⟩
   ·rw [pushed_ints]; rfl
   ·have : new.length = ln := by rw [hseen.size, hl]; omega
    rw [hnew] at this
    simp only [List.length_map] at this
    simp only [ints, List.length_map] at this ⊢
    omega
 | str l => exact (hn l rfl).elim
 | _ => simp [St.elems] at he
theorem freeze_last {w : World} {arr : Array Value} {t : TypeId} (h : 0 < 1) : ((w.alloc (.cells arr t)).freeze ⟨w.heap.size, arr.size, none⟩ 1).heap = w.heap.push (.cells arr t (arr.size, arr.size + 1)) := by
 unfold World.freeze World.alloc
 simp only [Nat.one_ne_zero, if_false]
 apply Array.ext_getElem?
 intro i
 rw [Array.getElem?_modify]
 by_cases hi : w.heap.size = i
 ·subst hi; simp
 ·simp only [hi, if_false]
  rw [Array.getElem?_push, Array.getElem?_push]
  by_cases h2 : i = w.heap.size
  ·exact absurd h2.symm hi
  ·rw [if_neg h2, if_neg h2]
theorem toBytes_sound {P : Program} {B : Nat} {φ : Phi} {st : St} {w : World} (hR : Rep B φ st w) (hN : Room φ st) {src dst e : TypeId} (h1 : P.underlying src = some .string) (h2 : P.underlying dst = some (.slice e)) (h3 : P.underlying e = some (.int .u8)) {l : List Int} {cx : Value} (hx : VR φ (.str l) cx) (hl : l.length ≤ room) :
  ∃ u w' ψ, (convert src dst cx).run P w = .ok u w' ∧ Ext B φ st w ψ (st.push (.row (l.map fun n => [.int .u8 n]) 0 0 false)) w' ∧ VR ψ (.sl st.next 0 0 l.length 1 none) u := by
 simp only [VR] at hx
 obtain ⟨s, rfl, rfl, _⟩ := hx
 have hsz : s.data.size = s.size := rfl
 simp only [List.length_map, Array.length_toList, hsz] at hl ⊢
 have hcap : s.size ≤ grownCap w s.size 0 e ∧ grownCap w s.size 0 e ≤ maxI := ⟨grownCap_ge w s.size 0 e, grownCap_le_maxLen w s.size 0 e (by unfold room at hl; unfold maxLen; omega)⟩
 let arr : Array Value := (s.data.map fun b => .int .u8 (b.toNat : Int)) ++ Array.replicate (grownCap w s.size 0 e - s.size) (.int .u8 0)
 have harr : arr.size = grownCap w s.size 0 e := by simp only [arr, Array.size_append, Array.size_map, Array.size_replicate, hsz]; omega
 refine ⟨.slice (some ⟨w.heap.size, 0, none⟩) s.size (grownCap w s.size 0 e), (w.drew.alloc (.cells arr e)).freeze ⟨w.heap.size, arr.size, none⟩ 1, _, ?_, Ext.pushRow hR hN (esz := 1) (cap := grownCap w s.size 0 e) (arr := arr) (t := e) (lo := arr.size) (hi := arr.size + 1) (freeze_last (w := w.drew) (by omega)) ?_ ?_ ?_ (by simp [hsz]; exact hcap.1) (by omega) (.inr (Nat.le_refl _)) ?_, ?_⟩
 ·unfold convert
  simp only [Sem.run_bind, run_underlying h1, run_underlying h2, run_underlying h3, Result.andThen_ok]
  unfold Conv.stringToBytes markStringish
  simp only [Sem.run_bind, run_choose, Question.forced, Bool.false_eq_true, if_false, Result.andThen_ok, World.drew_eq, newRow, run_newObj, Sem.run_pure, World.alloc_eq, run_shape]
  have hshape : (w.drew.alloc (.cells arr e)).shape? w.heap.size = some (e, arr.size) := by
   unfold World.shape?
   rw [show (w.drew.alloc (.cells arr e)).heap[w.heap.size]? = some (.cells arr e) from heap_alloc_new w.drew _]
  have harr2 : ((s.data.map fun b => (Value.int .u8 (b.toNat : Int))) ++ Array.replicate ((Question.appendCap s.size 0 e).cut (w.tape w.drawn (Question.appendCap s.size 0 e)) - s.size) (Value.int .u8 0)) = arr := rfl
  have hsz2 : w.drew.heap.size = w.heap.size := rfl
  simp only [harr2, hsz2]
  rw [hshape]
  simp only [run_freeze, Result.andThen_ok, Sem.run_pure]
  rfl
 ·unfold World.freeze; split <;> rfl
 ·unfold World.freeze; split <;> rfl
 ·unfold World.freeze; split <;> rfl
 ·have := RowsAt.cat (φ := φ) (a := s.data.toList.map fun b => [V.int .u8 (b.toNat : Int)]) (b := []) (y := []) (z := (Array.replicate (grownCap w s.size 0 e - s.size) (Value.int .u8 0)).toList) (rows_bytes s.data.toList) (fun i e h => by simp at h) (by simp) (by simp)
  simp only [List.append_nil] at this
  rw [List.map_map]
  have e2 : arr.toList = (s.data.toList.map fun b => Value.int .u8 (b.toNat : Int)) ++ (Array.replicate (grownCap w s.size 0 e - s.size) (Value.int .u8 0)).toList := by simp [arr]
  rw [e2]
  exact this
 ·have hln : ((s.data.toList.map fun b => (b.toNat : Int)).map fun n => ([V.int .u8 n] : List V)).length = s.size := by simp [hsz]
  rw [hln]
  exact VR_new_sl hcap.1 (Nat.le_refl _) hcap.2
end Go.Ab
