/- The abstract machine's single operations stand for the program's. Part 3: append, make, texts and bytes. -/
import Derived.Test.YtpeafiomifmadaaAbs5
namespace Go.Ab
open Go
set_option linter.unusedVariables false
set_option linter.unusedSimpArgs false
theorem cut_zero {α : Type} (l : List α) (o : Nat) : cut l o 0 = [] := by simp [cut]
theorem rows_flat {φ : Phi} {es : List (List V)} {esz : Nat} {cells : List Value} (h : RowsAt φ es esz cells) (o n : Nat) (hn : o + n ≤ es.length) : RowsAt φ (cut es o n) esz (cut cells (o * esz) (n * esz)) := by
 intro i e he
 rw [cut_get] at he
 split at he
 ·rename_i hi
  obtain ⟨a, b, c⟩ := h _ _ he
  refine ⟨a, b, ?_⟩
  have := mul_lt esz hi
  rw [cut_cut _ _ _ _ _ this]
  rwa [show o * esz + i * esz = (o + i) * esz from (Nat.add_mul _ _ _).symm]
 ·cases he
structure Seen (P : Program) (φ : Phi) (w : World) (esz : Nat) (es : List (List V)) (cv : Value) (new : List Value) : Prop where
 len : (Builtin.lenOf cv).run P w = .ok es.length w
 read : ∀ w' : World, w'.heap = w.heap → (Builtin.firstCells esz es.length cv).run P w' = .ok new.toArray w'
 size : new.length = es.length * esz
 rows : RowsAt φ es esz new
theorem rowAt_rows {φ : Phi} {w : World} {L : Loc} {es : List (List V)} {ro : Bool} (h : RowAt φ w L es ro) : ∃ arr t fr, w.heap[L.block]? = some (.cells arr t fr) ∧ L.base + L.cap * L.esz ≤ arr.size ∧ RowsAt φ (es.take L.len) L.esz (arr.toList.drop L.base) := by
 obtain ⟨hl, arr, t, lo, hi, h1, h2, _, h4⟩ := h
 refine ⟨arr, t, (lo, hi), h1, h2, fun i e he => ?_⟩
 rw [List.getElem?_take] at he
 split at he
 ·rename_i hi
  obtain ⟨a, b, c⟩ := h4 i e hi he
  refine ⟨a, b, ?_⟩
  have e : cut (arr.toList.drop L.base) (i * L.esz) L.esz = cut arr.toList (L.base + i * L.esz) L.esz := by
   unfold cut; rw [List.drop_drop]
  rw [e]; exact c
 ·cases he
theorem cut_take {α : Type} (l : List α) (m o n : Nat) (h : o + n ≤ m) : cut (l.take m) o n = cut l o n := by
 apply List.ext_getElem?
 intro j
 rw [cut_get, cut_get]
 by_cases hj : j < n
 ·rw [if_pos hj, if_pos hj, List.getElem?_take, if_pos (by omega)]
 ·rw [if_neg hj, if_neg hj]
theorem cut_drop {α : Type} (l : List α) (m o n : Nat) : cut (l.drop m) o n = cut l (m + o) n := by
 unfold cut; rw [List.drop_drop]
theorem loadCells_zero {P : Program} {w : World} (a : Addr) : (loadCells a 0).run P w = .ok #[] w := by simp [loadCells, loadCellsFrom]
theorem seen_sl {P : Program} {B : Nat} {φ : Phi} {st : St} {w : World} (hR : Rep B φ st w) {o g off ln e : Nat} {cap : Option Nat} {esz : Nat} {cv : Value} (hv : VR φ (.sl o g off ln e cap) cv) {es : List (List V)} (he : st.elems esz (.sl o g off ln e cap) = some es) :
  ∃ new, Seen P φ w esz es cv new ∧ es.length = ln := by
 simp only [St.elems] at he
 split at he
 ·rename_i rs gen live ro hg
  split at he
  ·rename_i hc
   obtain ⟨rfl, hlive, hfit⟩ := hc
   cases he
   simp only [VR] at hv
   obtain ⟨L, a, c, hL, rfl, rfl, hlc, hoff, ha, _, hmax⟩ := hv
   obtain ⟨hrow, _, _⟩ := hR.rowOf hL hg hlive
   obtain ⟨arr, t, fr, h1, h2, h3⟩ := rowAt_rows hrow
   have hle : (cut rs off ln).length = ln := by rw [cut_length]; omega
   have hr := rows_flat h3 off ln (by simp; have := hrow.len; omega)
   rw [cut_take _ _ _ _ (by omega), cut_drop] at hr
   have hmul : (off + ln) * L.esz ≤ L.cap * L.esz := Nat.mul_le_mul_right _ (by have := hrow.len; omega)
   rw [Nat.add_mul] at hmul
   refine ⟨cut arr.toList (L.base + off * L.esz) (ln * L.esz), ⟨by rw [hle]; simp [Builtin.lenOf], fun w' hw => ?_, by rw [hle, cut_length]; simp; omega, hr⟩, hle⟩
   rw [hle]
   simp only [Builtin.firstCells]
   by_cases h0 : 0 < c
   ·obtain ⟨rfl, _⟩ := ha h0
    exact run_loadCells_cut (by rw [hw]; exact h1) (by omega)
   ·obtain rfl : ln = 0 := by omega
    rw [Nat.zero_mul, loadCells_zero, cut_zero]
  ·cases he
 ·cases he
theorem map_get_toNat (s : ByteArray) : (s.data.toList.map fun b => ([V.int .u8 (b.toNat : Int)] : List V)) = ((s.data.toList.map fun b => (b.toNat : Int)).map fun n => [V.int .u8 n]) := by simp
theorem u8_range (b : UInt8) : IntKind.u8.min ≤ (b.toNat : Int) ∧ (b.toNat : Int) ≤ IntKind.u8.max := by
 have := b.toNat_lt
 have h1 : IntKind.u8.min = 0 := rfl
 have h2 : IntKind.u8.max = 255 := by decide
 rw [h1, h2]; omega
theorem rows_bytes {φ : Phi} (l : List UInt8) : RowsAt φ (l.map fun b => [V.int .u8 (b.toNat : Int)]) 1 (l.map fun b => Value.int .u8 (b.toNat : Int)) := by
 intro i e he
 rw [List.getElem?_map, Option.map_eq_some_iff] at he
 obtain ⟨b, hb, rfl⟩ := he
 refine ⟨rfl, rfl, ?_⟩
 have : cut (l.map fun b => Value.int .u8 (b.toNat : Int)) (i * 1) 1 = [Value.int .u8 (b.toNat : Int)] := by
  apply List.ext_getElem?
  intro j
  rw [cut_get]
  by_cases hj : j < 1
  ·obtain rfl : j = 0 := by omega
   simp [hb]
  ·rw [if_neg hj, List.getElem?_eq_none (by simp; omega)]
 rw [this, VRs_cons2, VRs_nil]
 refine ⟨?_, rfl⟩
 simp only [VR, true_and]
 exact u8_range b
theorem elems_seen {P : Program} {B : Nat} {φ : Phi} {st : St} {w : World} (hR : Rep B φ st w) {x : V} {esz : Nat} {cv : Value} (hv : VR φ x cv) {es : List (List V)} (he : st.elems esz x = some es) :
  ∃ new, Seen P φ w esz es cv new := by
 cases x with
 | nils =>
  simp only [St.elems, Option.some.injEq] at he; subst he
  simp only [VR] at hv; subst hv
  exact ⟨[], ⟨rfl, fun w' _ => rfl, by simp, fun i e he => by simp at he⟩⟩
 | sl o g off ln e cap => obtain ⟨new, h, _⟩ := seen_sl (P := P) hR hv he; exact ⟨new, h⟩
 | str l =>
  simp only [St.elems] at he
  split at he
  ·rename_i h1
   subst h1; cases he
   simp only [VR] at hv
   obtain ⟨s, rfl, rfl, hl⟩ := hv
   refine ⟨s.data.toList.map fun b => Value.int .u8 (b.toNat : Int), ⟨?_, fun w' _ => ?_, by simp, ?_⟩⟩
   ·simp only [Builtin.lenOf, Sem.run_pure, List.length_map, Array.length_toList]; rfl
   ·simp only [Builtin.firstCells, Sem.run_pure, List.length_map, Array.length_toList]
    congr 1
    have : s.extract 0 s.data.size = s := by
     have : s.data.size = s.size := rfl
     rw [this]; simp
    rw [this]
    apply Array.ext_getElem?
    intro i; simp
   ·rw [List.map_map]; exact rows_bytes _
  ·cases he
 | _ => simp [St.elems] at he
theorem zeroCells_size (z : Array Value) (n : Nat) : (Builtin.zeroCells z n).size = n * z.size := by simp [Builtin.zeroCells]
theorem run_append_more {P : Program} {w : World} {t u ty e : TypeId} {i : TypeInfo} {z : Value} {du : TypeDesc} {base : Option Addr} {sLen sCap n : Nat} {x : Value} {old new : Array Value}
  (ht : P.underlying t = some (.slice e)) (hu : P.underlying u = some du) (hdu : du = .string ∨ ∃ e', du = .slice e') (hi : P.info? e = some i) (hz : i.zero = some z)
  (hlen : (Builtin.lenOf x).run P w = .ok n w) (hold : ∀ w' : World, w'.heap = w.heap → (Builtin.firstCells i.size sLen (.slice base sLen sCap)).run P w' = .ok old w')
  (hnew : ∀ w' : World, w'.heap = w.heap → (Builtin.firstCells i.size n x).run P w' = .ok new w') (hg : sCap < sLen + n) (hroom : (sLen + n) * i.bytes ≤ 140737488355328) (hb : 0 < i.bytes) :
  (Builtin.append_ #[t, u] ty #[.slice base sLen sCap, x]).run P w =
   .ok (.slice (some ⟨w.heap.size, 0, none⟩) (sLen + n) (grownCap w (sLen + n) sCap e))
    (w.drew.alloc (.cells (old ++ new ++ Builtin.zeroCells z.cells (grownCap w (sLen + n) sCap e - (sLen + n))) e)) := by
 have h48 : ¬ (Builtin.nextslicecap (sLen + n) sCap * i.bytes > 2 ^ 48) := by
  have := growslice_fits hg hroom; omega
 have hno : ¬ (sLen + n ≤ sCap) := by omega
 have hb0 : i.bytes ≠ 0 := by omega
 rcases hdu with rfl | ⟨e', rfl⟩
 all_goals
  unfold Builtin.append_
  simp only [List.getElem?_toArray, List.getElem?_cons_zero, List.getElem?_cons_succ, Sem.run_bind, run_underlying ht, run_underlying hu, Result.andThen_ok, run_sizeOf_of w hi, Sem.run_pure, Bool.false_eq_true, if_false, hlen, hno, run_typeInfo_of w hi, hb0, or_false, false_or, and_false, Sem.run_ite, h48, Bool.not_false, if_true, not_false_eq_true]
  simp only [run_choose, Question.forced, Bool.false_eq_true, if_false, Result.andThen_ok, run_askRoom, World.drew_eq]
  simp only [hold w.drew rfl, hnew w.drew rfl, Result.andThen_ok, run_zeroValue_of w.drew hi hz, run_typeInfo_of w.drew hi, run_askRoom, newRow, Sem.run_bind, run_newObj, Sem.run_pure, World.alloc_eq]
  rfl
theorem run_append_here {P : Program} {w w' : World} {t u ty e : TypeId} {i : TypeInfo} {du : TypeDesc} {base : Option Addr} {sLen sCap n : Nat} {x : Value} {new : Array Value}
  (ht : P.underlying t = some (.slice e)) (hu : P.underlying u = some du) (hdu : du = .string ∨ ∃ e', du = .slice e') (hi : P.info? e = some i)
  (hlen : (Builtin.lenOf x).run P w = .ok n w) (hnew : (Builtin.firstCells i.size n x).run P w = .ok new w) (hg : sLen + n ≤ sCap)
  (hst : (match base with | some a => storeCells (a.add (sLen * i.size)) new.toList | none => pure ()).run P w = .ok () w') :
  (Builtin.append_ #[t, u] ty #[.slice base sLen sCap, x]).run P w = .ok (.slice base (sLen + n) sCap) w' := by
 rcases hdu with rfl | ⟨e', rfl⟩
 all_goals
  unfold Builtin.append_
  simp only [List.getElem?_toArray, List.getElem?_cons_zero, List.getElem?_cons_succ, Sem.run_bind, run_underlying ht, run_underlying hu, Result.andThen_ok, run_sizeOf_of w hi, Sem.run_pure, Bool.false_eq_true, if_false, hlen, hg, if_true, Sem.run_ite, hnew, Bool.not_false, not_false_eq_true]
  cases base with
  | none => simp only [Sem.run_pure] at hst ⊢; cases hst; rfl
  | some a => simp only at hst ⊢; simp only [Sem.run_bind, hst, Result.andThen_ok, Sem.run_pure]
theorem RowsAt.cat {φ : Phi} {a b : List (List V)} {esz : Nat} {x y z : List Value} (h : RowsAt φ a esz x) (k : RowsAt φ b esz y) (hx : x.length = a.length * esz) (hy : y.length = b.length * esz) : RowsAt φ (a ++ b) esz (x ++ y ++ z) := by
 intro i e he
 rw [List.getElem?_append] at he
 split at he
 ·rename_i hi
  obtain ⟨p, q, r⟩ := h i e he
  refine ⟨p, q, ?_⟩
  have hm := mul_lt esz hi
  have : cut (x ++ y ++ z) (i * esz) esz = cut x (i * esz) esz := by
   apply List.ext_getElem?
   intro j
   rw [cut_get, cut_get]
   by_cases hj : j < esz
   ·rw [if_pos hj, if_pos hj, List.append_assoc, List.getElem?_append_left (by omega)]
   ·rw [if_neg hj, if_neg hj]
  rw [this]; exact r
 ·rename_i hi
  obtain ⟨p, q, r⟩ := k _ e he
  refine ⟨p, q, ?_⟩
  have hib : i - a.length < b.length := by
   rcases Nat.lt_or_ge (i - a.length) b.length with h | h
   ·exact h
   ·rw [List.getElem?_eq_none h] at he; cases he
  have hm := mul_lt esz hib
  have hmi : i * esz = a.length * esz + (i - a.length) * esz := by rw [← Nat.add_mul]; congr 1; omega
  have : cut (x ++ y ++ z) (i * esz) esz = cut y ((i - a.length) * esz) esz := by
   apply List.ext_getElem?
   intro j
   rw [cut_get, cut_get]
   by_cases hj : j < esz
   ·rw [if_pos hj, if_pos hj, List.append_assoc, List.getElem?_append_right (by omega), List.getElem?_append_left (by omega)]
    congr 1; omega
   ·rw [if_neg hj, if_neg hj]
  rw [this]; exact r
theorem grown_le {w : World} {need old : Nat} {e : TypeId} {bytes : Nat} (h : need * bytes ≤ room) (hb : 0 < bytes) : need ≤ grownCap w need old e ∧ grownCap w need old e ≤ maxI := by
 refine ⟨grownCap_ge w need old e, grownCap_le_maxLen w need old e ?_⟩
 have := Nat.le_mul_of_pos_right need hb
 unfold room at h
 unfold maxLen; omega
theorem append_new {P : Program} {B : Nat} {φ : Phi} {st : St} {w : World} (hR : Rep B φ st w) (hN : Room φ st) {e : TypeId} {i : TypeInfo} {z : Value} {es : List (List V)} {cells : List Value} {c : Nat} (hzs : z.cells.size = i.size)
  (hrows : ∀ zs : List Value, RowsAt φ es i.size (cells ++ zs)) (hl : cells.length = es.length * i.size) (hc : es.length ≤ c) (hm : c ≤ maxI) {arr : Array Value} (harr : arr.toList = cells ++ (Builtin.zeroCells z.cells (c - es.length)).toList) :
  ∃ ψ, Ext B φ st w ψ (st.push (.row es 0 0 false)) (w.drew.alloc (.cells arr e)) ∧ VR ψ (.sl st.next 0 0 es.length i.size none) (.slice (some ⟨w.heap.size, 0, none⟩) es.length c) := by
 have hsz : arr.size = c * i.size := by
  have h1 := congrArg List.length harr
  simp only [List.length_append, Array.length_toList, zeroCells_size, hzs, hl] at h1
  rw [h1, ← Nat.add_mul]; congr 1; omega
 refine ⟨_, Ext.pushRow hR hN (esz := i.size) (cap := c) (arr := arr) (t := e) (lo := 0) (hi := 0) rfl rfl rfl rfl hc (by omega) (.inl rfl) (by rw [harr]; exact hrows _), ?_⟩
 exact VR_new_sl hc (Nat.le_refl _) hm
theorem elems_nil_read {P : Program} {size : Nat} (w' : World) : (Builtin.firstCells size 0 (.slice none 0 0)).run P w' = .ok #[] w' := rfl
structure Apps (P : Program) (w : World) (tys : Array TypeId) (ty : TypeId) (cx : Value) (e : TypeId) (i : TypeInfo) (z : Value) (n : Nat) (new : List Value) : Prop where
 here : ∀ {base : Option Addr} {sLen sCap : Nat} {w' : World}, sLen + n ≤ sCap → (match base with | some a => storeCells (a.add (sLen * i.size)) new | none => pure ()).run P w = .ok () w' → (Builtin.append_ tys ty #[.slice base sLen sCap, cx]).run P w = .ok (.slice base (sLen + n) sCap) w'
 more : ∀ {base : Option Addr} {sLen sCap : Nat} {old : Array Value}, (∀ w' : World, w'.heap = w.heap → (Builtin.firstCells i.size sLen (.slice base sLen sCap)).run P w' = .ok old w') → sCap < sLen + n → (sLen + n) * i.bytes ≤ 140737488355328 →
  (Builtin.append_ tys ty #[.slice base sLen sCap, cx]).run P w = .ok (.slice (some ⟨w.heap.size, 0, none⟩) (sLen + n) (grownCap w (sLen + n) sCap e)) (w.drew.alloc (.cells (old ++ new.toArray ++ Builtin.zeroCells z.cells (grownCap w (sLen + n) sCap e - (sLen + n))) e))
theorem append_gen {P : Program} {B : Nat} {φ : Phi} {st st' : St} {w : World} (hR : Rep B φ st w) (hN : ∀ x, st' = st.push x → Room φ st) {tys : Array TypeId} {ty e : TypeId} {i : TypeInfo} {z : Value}
  (hzs : z.cells.size = i.size) (hb : 0 < i.bytes)
  {sv : V} {cs cx : Value} (hs : VR φ sv cs) {es : List (List V)} {new : List Value} (hnsz : new.length = es.length * i.size) (hrows : RowsAt φ es i.size new) (hA : Apps P w tys ty cx e i z es.length new) {v : V} (ha : st.append i.size i.bytes sv es = some (v, st')) :
  ∃ r w' ψ, (Builtin.append_ tys ty #[cs, cx]).run P w = .ok r w' ∧ Ext B φ st w ψ st' w' ∧ VR ψ v r := by
 cases sv with
 | nils =>
  simp only [VR] at hs; subst hs
  simp only [St.append] at ha
  by_cases h0 : es = []
  ·subst h0
   rw [if_pos rfl] at ha; cases ha
   have hn : new = [] := List.eq_nil_of_length_eq_zero (by have := hnsz; simpa using this)
   subst hn
   exact ⟨_, w, φ, hA.here (by simp) (by simp), Ext.refl hR, by simp only [VR, List.length_nil]⟩
  ·rw [if_neg h0] at ha
   split at ha
   ·rename_i hroom
    cases ha
    have hn : 0 < es.length := List.length_pos_iff.2 h0
    have hcap := grown_le (w := w) (old := 0) (e := e) hroom hb
    have hrun := hA.more (sLen := 0) (sCap := 0) (base := none) (fun w' _ => elems_nil_read w') (by omega) (by simpa [room] using hroom)
    simp only [Nat.zero_add] at hrun
    obtain ⟨ψ, h1, h2⟩ := append_new (P := P) hR (hN _ rfl) (e := e) (z := z) (es := es) (cells := new) (c := grownCap w es.length 0 e) hzs (fun zs => by
     have := RowsAt.cat (a := []) (x := []) (z := zs) (fun i e h => by simp at h) hrows (by simp) hnsz
     simpa using this) hnsz hcap.1 hcap.2 (arr := #[] ++ new.toArray ++ Builtin.zeroCells z.cells (grownCap w es.length 0 e - es.length)) (by simp)
    exact ⟨_, _, ψ, hrun, h1, h2⟩
   ·cases ha
 | sl o g off ln e' cap =>
  simp only [St.append] at ha
  by_cases hesz : e' = i.size
  ·subst hesz
   simp only [ne_eq, not_true_eq_false, if_false] at ha
   by_cases h0 : es = []
   ·subst h0
    rw [if_pos rfl] at ha; cases ha
    have hn : new = [] := List.eq_nil_of_length_eq_zero (by have := hnsz; simpa using this)
    subst hn
    have hs' := hs
    simp only [VR] at hs
    obtain ⟨L, a, c, hL, _, rfl, hlc, _⟩ := hs
    exact ⟨_, w, φ, hA.here (by simpa using hlc) (by simp [storeCells]), Ext.refl hR, by simpa using hs'⟩
   ·rw [if_neg h0] at ha
    have hn : 0 < es.length := List.length_pos_iff.2 h0
    cases cap with
    | some c0 =>
     simp only at ha
     split at ha
     ·rename_i hc
      split at ha
      ·rename_i old hold
       cases ha
       obtain ⟨oldc, hso, hol⟩ := seen_sl (P := P) hR hs hold
       simp only [VR] at hs
       obtain ⟨L, a, c, hL, _, rfl, hlc, _, _, hcc, _⟩ := hs
       obtain rfl := hcc c0 rfl
       have hcap := grown_le (w := w) (old := c) (e := e) hc.2 hb
       have hread := hso.read
       rw [hol] at hread
       have hrun := hA.more hread hc.1 (by simpa [room] using hc.2)
       have hlen : (old ++ es).length = ln + es.length := by simp [hol]
       obtain ⟨ψ, h1, h2⟩ := append_new (P := P) hR (hN _ rfl) (e := e) (z := z) (es := old ++ es) (cells := oldc ++ new) (c := grownCap w (ln + es.length) c e) hzs
        (fun zs => RowsAt.cat hso.rows hrows hso.size hnsz) (by rw [List.length_append, List.length_append, hso.size, hnsz, Nat.add_mul]) (by rw [hlen]; exact hcap.1) hcap.2
        (arr := oldc.toArray ++ new.toArray ++ Builtin.zeroCells z.cells (grownCap w (ln + es.length) c e - (ln + es.length))) (by simp [hlen])
       rw [hlen] at h2
       exact ⟨_, _, ψ, hrun, h1, h2⟩
      ·cases ha
     ·cases ha
    | none =>
     simp only at ha
     split at ha
     ·rename_i rs gen live ro hg
      split at ha
      ·rename_i hc
       obtain ⟨rfl, rfl, rfl, hlr, hroom, -⟩ : ro = false ∧ g = gen ∧ off = 0 ∧ ln ≤ rs.length ∧ (ln + es.length) * i.bytes ≤ room ∧ True := ⟨hc.1, hc.2.1, hc.2.2.1, hc.2.2.2.1, hc.2.2.2.2, trivial⟩
       cases ha
       obtain ⟨hlg, hle, hgens, hsb⟩ := hR.here o _ hg
       have hs' := hs
       simp only [VR] at hs
       obtain ⟨L, a, c, hL, hLe, rfl, hlc, hoff, hac, _, hcm⟩ := hs
       obtain ⟨hrow, _, hlast⟩ := hR.rowOf hL hg hlg
       have hll := hlast rfl
       have hnext : φ o (g + 1) = none := by
        cases e : φ o (g + 1) with
        | none => rfl
        | some L2 => have := hle _ _ e; omega
       have hbL := hR.inh _ _ _ hL
       by_cases hin : ln + es.length ≤ c
       ·-- in place
        obtain ⟨rfl, hcap⟩ := hac (by omega)
        obtain ⟨hlen, arr, et, lo, hi', hheap, hsize, hfr, hcells⟩ := hrow
        have hmul : (ln + es.length) * L.esz ≤ L.cap * L.esz := Nat.mul_le_mul_right _ (by omega)
        rw [Nat.add_mul] at hmul
        have hns : new.length = es.length * L.esz := by rw [hLe]; exact hnsz
        have hst := run_storeCells_put (P := P) (b := L.block) (o := L.base + 0 * i.size + ln * i.size) (t := et) (lo := lo) (hi := hi') new 0 arr w hheap (by rw [hns]; simp only [← hLe]; omega) (fun j hj => by rw [hns] at hj; simp only [← hLe]; rcases hfr rfl with hf | hf <;> omega) (fun v hv => by
         obtain ⟨k, hk, hvk⟩ := List.mem_iff_getElem.1 hv
         have hks : k < es.length * i.size := by rw [← hnsz]; exact hk
         have hp : 0 < i.size := by rcases Nat.eq_zero_or_pos i.size with h | h; rw [h] at hks; omega; exact h
         have hq : k / i.size < es.length := Nat.div_lt_of_lt_mul (by rw [Nat.mul_comm]; exact hks)
         obtain ⟨q1, q2, q3⟩ := hrows (k / i.size) es[k / i.size] (List.getElem?_eq_getElem hq)
         refine one_of_VRs q3 q2 v ?_
         have hm : k % i.size < i.size := Nat.mod_lt _ hp
         have hdm : k / i.size * i.size + k % i.size = k := by rw [Nat.mul_comm]; exact Nat.div_add_mod k i.size
         refine List.mem_iff_getElem?.2 ⟨k % i.size, ?_⟩
         rw [cut_get, if_pos hm, hdm, List.getElem?_eq_getElem hk, hvk])
        have hrun := hA.here (base := some ⟨L.block, L.base + 0 * i.size, none⟩) hin (by simp only [Addr.add_lit]; exact hst)
        refine ⟨_, _, φ.put o (g + 1) { L with len := ln + es.length }, hrun, ?_, ?_⟩
        ·have hlp := Phi.le_put (φ := φ) (o := o) (g := g + 1) { L with len := ln + es.length } hnext
         have hput : ∀ k M, (φ.put o (g + 1) { L with len := ln + es.length }) o k = some M → (k = g + 1 ∧ M = { L with len := ln + es.length }) ∨ φ o k = some M := fun k M e => by
          by_cases h : k = g + 1
          ·subst h; rw [Phi.put_same] at e; cases e; exact .inl ⟨rfl, rfl⟩
          ·rw [Phi.put_other _ _ (by omega)] at e; exact .inr e
         refine Ext.turn hR hg rfl rfl rfl rfl rfl (Nat.le_of_eq (putBlock_size _ _ _).symm) hlp (fun p k M hp e => by rwa [Phi.put_other _ _ (by omega)] at e) (fun b _ hbn => putBlock_other _ _ (hbn _ _ hL)) (fun k M e => ?_) (fun k M e => ?_) ?_
         ·rcases hput k M e with ⟨_, rfl⟩ | e
          ·exact .inl ⟨g, L, hL, rfl⟩
          ·exact .inl ⟨k, M, e, rfl⟩
         ·rw [putBlock_size]
          rcases hput k M e with ⟨_, rfl⟩ | e
          ·exact hbL
          ·exact hR.inh _ _ _ e
         ·have hlay := lay_length arr.toList (L.base + 0 * i.size + ln * i.size + 0) new (by rw [hns]; simp only [← hLe]; simp; omega)
          have hnl : (rs.take ln ++ es).length = ln + es.length := by simp; omega
          have hget : ∀ j, j < ln → (rs.take ln ++ es)[j]? = rs[j]? := fun j hj => by rw [List.getElem?_append_left (by simp; omega), List.getElem?_take, if_pos hj]
          have hold : ∀ j e, j < ln → rs[j]? = some e → e.length = L.esz ∧ e.all V.one = true ∧ VRs φ e (cut (lay arr.toList (L.base + 0 * i.size + ln * i.size + 0) new) (L.base + j * L.esz) L.esz) := fun j e hj he => by
           obtain ⟨p1, p2, p3⟩ := hcells j e (by omega) he
           refine ⟨p1, p2, ?_⟩
           have := mul_lt L.esz hj
           rw [cut_lay_out _ _ _ _ _ (by rw [hns]; simp only [← hLe]; simp; omega) (.inr (by simp only [← hLe]; omega))]
           exact p3
          refine ⟨?_, fun k M e => ?_, fun k h1 h2 => ?_, fun k M k' M' e e' hbb => ?_⟩
          ·split <;> omega
          ·rcases hput k M e with ⟨rfl, _⟩ | e
           ·exact Nat.le_refl _
           ·have := hle _ _ e; omega
          ·by_cases hk : k = g + 1
           ·subst hk
            refine ⟨_, Phi.put_same _ _ _ _, ⟨⟨by simp; omega, by rw [hnl]; exact Nat.le_refl _⟩, _, et, lo, hi', putBlock_same _ hbL, by simp only [List.size_toArray, hlay]; simpa using hsize, (fun hro => by rw [List.size_toArray, hlay]; exact hfr hro), fun j e hj he => ?_⟩, fun _ => by rw [hnl]⟩
            simp only at hj ⊢
            by_cases hjl : j < ln
            ·rw [hget j hjl] at he
             obtain ⟨p1, p2, p3⟩ := hold j e hjl he
             exact ⟨p1, p2, VRs_mono hlp _ _ p3⟩
            ·rw [List.getElem?_append_right (by simp; omega)] at he
             have htl : (rs.take ln).length = ln := by simp; omega
             rw [htl] at he
             obtain ⟨p1, p2, p3⟩ := hrows _ e he
             refine ⟨by rw [hLe]; exact p1, p2, VRs_mono hlp _ _ ?_⟩
             have hm := mul_lt i.size (show j - ln < es.length by omega)
             have hjm : j * i.size = ln * i.size + (j - ln) * i.size := by rw [← Nat.add_mul]; congr 1; omega
             have e2 : cut (lay arr.toList (L.base + 0 * i.size + ln * i.size + 0) new) (L.base + j * L.esz) L.esz = cut new ((j - ln) * i.size) i.size := by
              apply List.ext_getElem?
              intro q
              rw [cut_get, cut_get, hLe]
              by_cases hq : q < i.size
              ·rw [if_pos hq, if_pos hq, lay_get _ _ _ (by rw [hns]; simp only [← hLe]; simp; omega), if_pos (by rw [hnsz]; omega)]
               congr 1; omega
              ·rw [if_neg hq, if_neg hq]
             rw [e2]; exact p3
           ·by_cases hlr2 : ln = rs.length
            ·rw [if_pos hlr2] at h1
             obtain ⟨M, hM, hMr, _⟩ := hgens k h1 (by omega)
             refine ⟨M, by rw [Phi.put_other _ _ (by omega)]; exact hM, ?_, fun h => absurd h hk⟩
             obtain ⟨ml, arr2, t2, lo2, hi2, q1, q2, q3, q4⟩ := hMr
             by_cases hbb : M.block = L.block
             ·obtain ⟨hbase, hesz2⟩ := hsb k M g L hM hL hbb
              rw [hbb, hheap] at q1; cases q1
              refine ⟨⟨ml.1, by rw [hnl]; omega⟩, _, et, lo, hi', by rw [hbb]; exact putBlock_same _ hbL, by simp only [List.size_toArray, hlay]; simpa using q2, (fun hro => by rw [List.size_toArray, hlay]; exact q3 hro), fun j e hj he => ?_⟩
              rw [hget j (by omega)] at he
              obtain ⟨p1, p2, p3⟩ := hold j e (by omega) he
              rw [hbase, hesz2]
              exact ⟨p1, p2, VRs_mono hlp _ _ p3⟩
             ·refine ⟨⟨ml.1, by rw [hnl]; omega⟩, arr2, t2, lo2, hi2, by rw [putBlock_other _ _ (fun h => hbb h.symm)]; exact q1, q2, q3, fun j e hj he => ?_⟩
              rw [hget j (by omega)] at he
              obtain ⟨p1, p2, p3⟩ := q4 j e hj he
              exact ⟨p1, p2, VRs_mono hlp _ _ p3⟩
            ·rw [if_neg hlr2] at h1; omega
          ·rcases hput k M e with ⟨_, rfl⟩ | e
           ·rcases hput k' M' e' with ⟨_, rfl⟩ | e'
            ·exact ⟨rfl, rfl⟩
            ·exact hsb g L k' M' hL e' hbb
           ·rcases hput k' M' e' with ⟨_, rfl⟩ | e'
            ·exact hsb k M g L e hL hbb
            ·exact hsb k M k' M' e e' hbb
        ·simp only [VR]
         exact ⟨_, _, _, Phi.put_same _ _ _ _, hLe, rfl, hin, by simp, fun _ => ⟨rfl, by simpa using hcap⟩, (fun _ h => by cases h), hcm⟩
       ·-- elsewhere
        have hcap := grown_le (w := w) (old := c) (e := e) hroom hb
        obtain ⟨oldc, hso, hol⟩ := seen_sl (P := P) (esz := i.size) (es := rs.take ln) hR hs' (by simp only [St.elems, hg]; rw [if_pos ⟨trivial, hlg, by omega⟩]; simp [cut])
        have hread := hso.read
        rw [hol] at hread
        have hrun := hA.more hread (by omega) (by simpa [room] using hroom)
        have hnl : (rs.take ln ++ es).length = ln + es.length := by simp; omega
        have hnew : φ.le (φ.put o (g + 1) ⟨w.heap.size, 0, ln + es.length, grownCap w (ln + es.length) c e, i.size⟩) := Phi.le_put _ hnext
        have hput : ∀ k M, (φ.put o (g + 1) ⟨w.heap.size, 0, ln + es.length, grownCap w (ln + es.length) c e, i.size⟩) o k = some M → (k = g + 1 ∧ M = ⟨w.heap.size, 0, ln + es.length, grownCap w (ln + es.length) c e, i.size⟩) ∨ φ o k = some M := fun k M e => by
         by_cases h : k = g + 1
         ·subst h; rw [Phi.put_same] at e; cases e; exact .inl ⟨rfl, rfl⟩
         ·rw [Phi.put_other _ _ (by omega)] at e; exact .inr e
        refine ⟨_, _, φ.put o (g + 1) ⟨w.heap.size, 0, ln + es.length, grownCap w (ln + es.length) c e, i.size⟩, hrun, ?_, ?_⟩
        ·refine Ext.turn hR hg rfl rfl rfl rfl rfl (by simp) hnew (fun p k M hp e => by rwa [Phi.put_other _ _ (by omega)] at e) (fun b hb _ => ?_) (fun k M e => ?_) (fun k M e => ?_) ?_
         ·exact heap_alloc_old w.drew _ hb
         ·rcases hput k M e with ⟨_, rfl⟩ | e
          ·exact .inr (Nat.le_refl _)
          ·exact .inl ⟨k, M, e, rfl⟩
         ·simp only [World.size_alloc, World.size_drew]
          rcases hput k M e with ⟨_, rfl⟩ | e
          ·exact Nat.lt_succ_self _
          ·have := hR.inh _ _ _ e; omega
         ·refine ⟨?_, fun k M e => ?_, fun k h1 h2 => ?_, fun k M k' M' e e' hbb => ?_⟩
          ·split <;> omega
          ·rcases hput k M e with ⟨rfl, _⟩ | e
           ·exact Nat.le_refl _
           ·have := hle _ _ e; omega
          ·by_cases hk : k = g + 1
           ·subst hk
            refine ⟨_, Phi.put_same _ _ _ _, ⟨⟨hcap.1, by rw [hnl]; exact Nat.le_refl _⟩, _, e, 0, 0, heap_alloc_new w.drew _, ?_, fun _ => .inl rfl, fun j f hj hf => ?_⟩, fun _ => by rw [hnl]⟩
            ·simp only [Nat.zero_add, Array.size_append, List.size_toArray, zeroCells_size, hzs, hso.size, hol, hnsz, ← Nat.add_mul]
             refine Nat.le_of_eq ?_; congr 1; omega
            ·have := RowsAt.cat (z := (Builtin.zeroCells z.cells (grownCap w (ln + es.length) c e - (ln + es.length))).toList) hso.rows hrows hso.size hnsz j f hf
             simp only [Nat.zero_add, Array.toList_append]
             exact ⟨this.1, this.2.1, VRs_mono hnew _ _ this.2.2⟩
           ·by_cases hlr2 : ln = rs.length
            ·rw [if_pos hlr2] at h1
             obtain ⟨M, hM, hMr, _⟩ := hgens k h1 (by omega)
             refine ⟨M, by rw [Phi.put_other _ _ (by omega)]; exact hM, ?_, fun h => absurd h hk⟩
             obtain ⟨ml, arr2, t2, lo2, hi2, q1, q2, q3, q4⟩ := hMr
             have hMb := hR.inh _ _ _ hM
             refine ⟨⟨ml.1, by rw [hnl]; omega⟩, arr2, t2, lo2, hi2, (heap_alloc_old w.drew _ hMb).trans q1, q2, q3, fun j f hj hf => ?_⟩
             rw [List.getElem?_append_left (by simp; omega), List.getElem?_take, if_pos (by omega)] at hf
             obtain ⟨p1, p2, p3⟩ := q4 j f hj hf
             exact ⟨p1, p2, VRs_mono hnew _ _ p3⟩
            ·rw [if_neg hlr2] at h1; omega
          ·rcases hput k M e with ⟨_, rfl⟩ | e
           ·rcases hput k' M' e' with ⟨_, rfl⟩ | e'
            ·exact ⟨rfl, rfl⟩
            ·have := hR.inh _ _ _ e'; simp only at hbb; omega
           ·rcases hput k' M' e' with ⟨_, rfl⟩ | e'
            ·have := hR.inh _ _ _ e; simp only at hbb; omega
            ·exact hsb k M k' M' e e' hbb
        ·simp only [VR]
         exact ⟨_, _, _, Phi.put_same _ _ _ _, rfl, rfl, hcap.1, by simp, fun _ => ⟨by simp, by simp⟩, (fun _ h => by cases h), hcap.2⟩
      ·cases ha
     ·cases ha
  ·simp only [ne_eq, hesz, not_false_eq_true, if_true] at ha; cases ha
 | _ => simp [St.append] at ha
theorem append_sound {P : Program} {B : Nat} {φ : Phi} {st st' : St} {w : World} (hR : Rep B φ st w) (hN : ∀ x, st' = st.push x → Room φ st) {t u ty e : TypeId} {i : TypeInfo} {z : Value} {du : TypeDesc}
  (ht : P.underlying t = some (.slice e)) (hu : P.underlying u = some du) (hdu : du = .string ∨ ∃ e', du = .slice e') (hi : P.info? e = some i) (hz : i.zero = some z) (hzs : z.cells.size = i.size) (hb : 0 < i.bytes)
  {sv xv : V} {cs cx : Value} (hs : VR φ sv cs) (hx : VR φ xv cx) {es : List (List V)} (he : st.elems i.size xv = some es) {v : V} (ha : st.append i.size i.bytes sv es = some (v, st')) :
  ∃ r w' ψ, (Builtin.append_ #[t, u] ty #[cs, cx]).run P w = .ok r w' ∧ Ext B φ st w ψ st' w' ∧ VR ψ v r := by
 obtain ⟨new, hseen⟩ := elems_seen (P := P) hR hx he
 exact append_gen hR hN hzs hb hs hseen.size hseen.rows ⟨fun h1 h2 => run_append_here ht hu hdu hi hseen.len (hseen.read w rfl) h1 (by simpa using h2), fun h1 h2 h3 => run_append_more ht hu hdu hi hz hseen.len h1 hseen.read h2 h3 hb⟩ ha
theorem run_appendz_here {P : Program} {w w' : World} {t u ty e : TypeId} {i : TypeInfo} {z : Value} {ku k : IntKind} {m : Int} {base : Option Addr} {sLen sCap : Nat}
  (ht : P.underlying t = some (.slice e)) (hu : P.underlying u = some (.int ku)) (hi : P.info? e = some i) (hz : i.zero = some z) (h0 : 0 ≤ m) (hm : IntKind.i64.wrap m = m) (hzs : z.cells.size = i.size) (hroom : m * (i.bytes : Int) ≤ 140737488355328) (hg : sLen + m.toNat ≤ sCap)
  (hst : (match base with | some a => storeCells (a.add (sLen * i.size)) (Builtin.zeroCells z.cells m.toNat).toList | none => pure ()).run P w = .ok () w') :
  (Builtin.append_ #[t, u] ty #[.slice base sLen sCap, .int k m]).run P w = .ok (.slice base (sLen + m.toNat) sCap) w' := by
 have h1 : ¬ (m < 0) := by omega
 have h2 : ¬ (m * (i.bytes : Int) > 2 ^ 48) := by
  have : (2 : Int) ^ 48 = 281474976710656 := by decide
  omega
 have hzn : m.toNat * i.size = 0 → Builtin.zeroCells z.cells m.toNat = #[] := fun h => by
  apply Array.eq_empty_of_size_eq_zero
  rw [zeroCells_size, hzs, h]
 unfold Builtin.append_
 simp only [List.getElem?_toArray, List.getElem?_cons_zero, List.getElem?_cons_succ, Sem.run_bind, run_underlying ht, run_underlying hu, Result.andThen_ok, run_sizeOf_of w hi, Sem.run_pure, if_true, if_false, Sem.run_ite, asInt, asIntOf, hm, h1, h2, run_typeInfo_of w hi, hg, Bool.not_true, Bool.false_eq_true]
 by_cases hn : m.toNat * i.size = 0
 ·have e := hzn hn
  rw [e] at hst
  simp only [hn, if_true, Result.andThen_ok]
  cases base with
  | none => simp only [Sem.run_pure] at hst ⊢; cases hst; rfl
  | some a => simp only at hst ⊢; simp only [Sem.run_bind, hst, Result.andThen_ok, Sem.run_pure]
 ·simp only [hn, if_false, run_zeroValue_of w hi hz, Result.andThen_ok]
  cases base with
  | none => simp only [Sem.run_pure] at hst ⊢; cases hst; rfl
  | some a => simp only at hst ⊢; simp only [Sem.run_bind, hst, Result.andThen_ok, Sem.run_pure]
theorem run_appendz_more {P : Program} {w : World} {t u ty e : TypeId} {i : TypeInfo} {z : Value} {ku k : IntKind} {m : Int} {base : Option Addr} {sLen sCap : Nat} {old : Array Value}
  (ht : P.underlying t = some (.slice e)) (hu : P.underlying u = some (.int ku)) (hi : P.info? e = some i) (hz : i.zero = some z) (h0 : 0 ≤ m) (hm : IntKind.i64.wrap m = m) (hzs : z.cells.size = i.size) (hroom0 : m * (i.bytes : Int) ≤ 140737488355328)
  (hold : ∀ w' : World, w'.heap = w.heap → (Builtin.firstCells i.size sLen (.slice base sLen sCap)).run P w' = .ok old w') (hg : sCap < sLen + m.toNat) (hroom : (sLen + m.toNat) * i.bytes ≤ 140737488355328) (hb : 0 < i.bytes) :
  (Builtin.append_ #[t, u] ty #[.slice base sLen sCap, .int k m]).run P w =
   .ok (.slice (some ⟨w.heap.size, 0, none⟩) (sLen + m.toNat) (grownCap w (sLen + m.toNat) sCap e))
    (w.drew.alloc (.cells (old ++ Builtin.zeroCells z.cells m.toNat ++ Builtin.zeroCells z.cells (grownCap w (sLen + m.toNat) sCap e - (sLen + m.toNat))) e)) := by
 have h1 : ¬ (m < 0) := by omega
 have h2 : ¬ (m * (i.bytes : Int) > 2 ^ 48) := by
  have : (2 : Int) ^ 48 = 281474976710656 := by decide
  omega
 have h48 : ¬ (Builtin.nextslicecap (sLen + m.toNat) sCap * i.bytes > 2 ^ 48) := by
  have := growslice_fits hg hroom; omega
 have hno : ¬ (sLen + m.toNat ≤ sCap) := by omega
 have hmx : ¬ (((sLen + m.toNat : Nat) : Int) > IntKind.i64.max) := by
  have h3 : sLen + m.toNat ≤ (sLen + m.toNat) * i.bytes := Nat.le_mul_of_pos_right _ hb
  have : IntKind.i64.max = 9223372036854775807 := by decide
  omega
 have hzn : m.toNat * i.size = 0 → Builtin.zeroCells z.cells m.toNat = #[] := fun h => by
  apply Array.eq_empty_of_size_eq_zero
  rw [zeroCells_size, hzs, h]
 unfold Builtin.append_
 simp only [List.getElem?_toArray, List.getElem?_cons_zero, List.getElem?_cons_succ, Sem.run_bind, run_underlying ht, run_underlying hu, Result.andThen_ok, run_sizeOf_of w hi, Sem.run_pure, if_true, if_false, Sem.run_ite, asInt, asIntOf, hm, h1, h2, run_typeInfo_of w hi, hno, hmx, h48, Bool.not_true, Bool.false_eq_true, false_and]
 simp only [run_choose, Question.forced, Bool.false_eq_true, if_false, Result.andThen_ok, run_askRoom, World.drew_eq]
 by_cases hn : m.toNat * i.size = 0
 ·simp only [hn, if_true, hold w.drew rfl, hzn hn, Result.andThen_ok, run_zeroValue_of w.drew hi hz, run_typeInfo_of w.drew hi, run_askRoom, newRow, Sem.run_bind, run_newObj, Sem.run_pure, World.alloc_eq]
  rfl
 ·simp only [hn, if_false, hold w.drew rfl, Result.andThen_ok, run_zeroValue_of w.drew hi hz, run_typeInfo_of w.drew hi, run_askRoom, newRow, Sem.run_bind, run_newObj, Sem.run_pure, World.alloc_eq]
  rfl
theorem rows_zeros {φ : Phi} {z : List V} {zc : Array Value} {sz : Nat} (hzl : z.length = sz) (hone : z.all V.one = true) (hz : VRs φ z zc.toList) (n : Nat) : RowsAt φ (List.replicate n z) sz (Builtin.zeroCells zc n).toList := by
 have hzz : zc.size = sz := by have := VRs_length hz; simp at this; omega
 intro j e he
 rw [List.getElem?_replicate] at he
 split at he
 ·rename_i hj
  cases he
  refine ⟨hzl, hone, ?_⟩
  have : cut (Builtin.zeroCells zc n).toList (j * sz) sz = zc.toList := by
   apply List.ext_getElem?
   intro q
   rw [cut_get]
   by_cases hq : q < sz
   ·have hlt : j * sz + q < n * zc.size := by
     have := mul_lt sz hj
     rw [hzz]; omega
    rw [if_pos hq]
    simp only [Builtin.zeroCells, Array.toList_map, Array.toList_range, List.getElem?_map, List.getElem?_range hlt, Option.map_some]
    rw [hzz, Nat.add_comm, Nat.add_mul_mod_self_right, Nat.mod_eq_of_lt hq]
    rw [getElem!_pos zc q (by omega)]
    simp [hzz, hq]
   ·rw [if_neg hq, List.getElem?_eq_none (by simp; omega)]
  rw [this]; exact hz
 ·cases he
theorem appendz_sound {P : Program} {B : Nat} {φ : Phi} {st st' : St} {w : World} (hR : Rep B φ st w) (hN : ∀ x, st' = st.push x → Room φ st) {t u ty e : TypeId} {i : TypeInfo} {z : Value} {ku : IntKind}
  (ht : P.underlying t = some (.slice e)) (hu : P.underlying u = some (.int ku)) (hi : P.info? e = some i) (hz : i.zero = some z) (hzs : z.cells.size = i.size) (hb : 0 < i.bytes)
  {sv : V} {cs : Value} {zv : List V} {m : Int} (hs : VR φ sv cs) (hzv : VRs φ zv z.cells.toList) (hzl : zv.length = i.size) (hone : zv.all V.one = true) (h0 : 0 ≤ m) (hm : IntKind.i64.wrap m = m) (hroom : m * (i.bytes : Int) ≤ 140737488355328) {v : V} (ha : st.append i.size i.bytes sv (List.replicate m.toNat zv) = some (v, st')) :
  ∃ r w' ψ, (Builtin.append_ #[t, u] ty #[cs, .int .i64 m]).run P w = .ok r w' ∧ Ext B φ st w ψ st' w' ∧ VR ψ v r := by
 have hl : (List.replicate m.toNat zv).length = m.toNat := List.length_replicate
 refine append_gen hR hN (z := z) (e := e) (new := (Builtin.zeroCells z.cells m.toNat).toList) hzs hb hs (by rw [hl, Array.length_toList, zeroCells_size, hzs]) (rows_zeros hzl hone hzv _) ?_ ha
 rw [hl]
 exact ⟨fun h1 h2 => run_appendz_here ht hu hi hz h0 hm hzs hroom h1 h2, fun h1 h2 h3 => run_appendz_more ht hu hi hz h0 hm hzs hroom h1 h2 h3 hb⟩
theorem VR_goInt0 {φ : Phi} {n : Nat} (h : n ≤ maxI) : VR φ (.int .i64 n) (goInt n) := by
 have h1 : IntKind.i64.min = -9223372036854775808 := by decide
 have h2 : IntKind.i64.max = 9223372036854775807 := by decide
 unfold maxI at h
 simp only [VR, goInt, h1, h2, true_and]
 omega
theorem seen_first {P : Program} {B : Nat} {φ : Phi} {st : St} {w : World} (hR : Rep B φ st w) {x : V} {esz : Nat} {cv : Value} (hv : VR φ x cv) (hns : ∀ l, x ≠ .str l) {es : List (List V)} (he : st.elems esz x = some es) {n : Nat} (hn : n ≤ es.length) :
  ∃ new, (Builtin.lenOf cv).run P w = .ok es.length w ∧ (Builtin.firstCells esz n cv).run P w = .ok new.toArray w ∧ new.length = n * esz ∧ RowsAt φ (es.take n) esz new := by
 obtain ⟨_, hs⟩ := elems_seen (P := P) hR hv he
 have hl := hs.len
 cases x with
 | nils =>
  simp only [St.elems, Option.some.injEq] at he; subst he
  simp only [VR] at hv; subst hv
  have : n = 0 := by simpa using hn
  subst this
  exact ⟨[], hl, rfl, by simp, fun i e he => by simp at he⟩
 | sl o g off ln e cap =>
  have he0 := he
  simp only [St.elems] at he
  split at he
  ·rename_i rs gen live ro hg
   split at he
   ·rename_i hc
    cases he
    have hcl : (cut rs off ln).length = ln := by rw [cut_length]; omega
    rw [hcl] at hn
    have htk : (cut rs off ln).take n = cut rs off n := by unfold cut; rw [List.take_take, Nat.min_eq_left hn]
    simp only [VR] at hv
    obtain ⟨L, a, c, hL, h1, rfl, hlc, hoff, ha, h5, h6⟩ := hv
    have hv2 : VR φ (.sl o g off n e cap) (.slice a n c) := by
     simp only [VR]
     exact ⟨L, a, c, hL, h1, rfl, by omega, by omega, ha, h5, h6⟩
    have he2 : st.elems esz (.sl o g off n e cap) = some (cut rs off n) := by
     simp only [St.elems, hg]
     rw [if_pos ⟨hc.1, hc.2.1, by omega⟩]
    obtain ⟨new, h7, h8⟩ := seen_sl (P := P) hR hv2 he2
    have hr := h7.read w rfl
    rw [h8] at hr
    rw [htk]
    exact ⟨new, hl, by cases a <;> exact hr, by rw [h7.size, h8], h7.rows⟩
   ·cases he
  ·cases he
 | str l => exact absurd rfl (hns l)
 | _ => simp [St.elems] at he
theorem copy_sound {P : Program} {B : Nat} {φ : Phi} {st st' : St} {w : World} (hR : Rep B φ st w) {t u ty e : TypeId} {i : TypeInfo}
  (ht : P.underlying t = some (.slice e)) (hi : P.info? e = some i)
  {dv xv : V} {cd cx : Value} (hd : VR φ dv cd) (hx : VR φ xv cx) (hns : ∀ l, xv ≠ .str l) {es : List (List V)} (he : st.elems i.size xv = some es) {v : V} (ha : st.copy i.size dv es = some (v, st')) :
  ∃ r w', (Builtin.copy_ #[t, u] ty #[cd, cx]).run P w = .ok r w' ∧ Ext B φ st w φ st' w' ∧ VR φ v r := by
 have run : ∀ {base : Option Addr} {dLen dCap : Nat} {new : List Value} {w' : World}, (Builtin.lenOf cx).run P w = .ok es.length w → (Builtin.firstCells i.size (min es.length dLen) cx).run P w = .ok new.toArray w → (match base with | some a => storeCells a new | none => pure ()).run P w = .ok () w' → (Builtin.copy_ #[t, u] ty #[.slice base dLen dCap, cx]).run P w = .ok (goInt (min es.length dLen : Nat)) w' := by
  intro base dLen dCap new w' h1 h2 h3
  unfold Builtin.copy_
  simp only [List.getElem?_toArray, List.getElem?_cons_zero, List.getElem?_cons_succ, Sem.run_bind, run_underlying ht, Result.andThen_ok, run_sizeOf_of w hi, Sem.run_pure, h1, Nat.min_def] at h2 ⊢
  simp only [h2, Result.andThen_ok]
  cases base with
  | none => simp only [Sem.run_pure] at h3 ⊢; cases h3; rfl
  | some a => simp only at h3 ⊢; simp only [Sem.run_bind, h3, Result.andThen_ok, Sem.run_pure]
 cases dv with
 | nils =>
  simp only [VR] at hd; subst hd
  simp only [St.copy, Option.some.injEq, Prod.mk.injEq] at ha
  obtain ⟨rfl, rfl⟩ := ha
  obtain ⟨new, h1, h2, h3, _⟩ := seen_first (P := P) hR hx hns he (n := min es.length 0) (by omega)
  exact ⟨_, w, run h1 h2 rfl, Ext.refl hR, by rw [Nat.min_zero]; exact VR_goInt0 (n := 0) (by unfold maxI; omega)⟩
 | sl o g off ln e' cap =>
  simp only [St.copy] at ha
  split at ha
  ·cases ha
  ·rename_i hesz
   have hesz : e' = i.size := by simpa using hesz
   subst hesz
   simp only [VR] at hd
   obtain ⟨L, a, c, hL, hLe, rfl, hlc, hoff, hac, _, hcm⟩ := hd
   obtain ⟨new, h1, h2, h3, h4⟩ := seen_first (P := P) hR hx hns he (n := min es.length ln) (by omega)
   split at ha
   ·rename_i h0
    cases ha
    have hn : new = [] := List.eq_nil_of_length_eq_zero (by rw [h3, h0, Nat.zero_mul])
    subst hn
    exact ⟨_, w, run h1 h2 (by cases a <;> simp [storeCells]), Ext.refl hR, by rw [h0]; exact VR_goInt0 (n := 0) (by unfold maxI; omega)⟩
   ·rename_i h0
    split at ha
    ·rename_i rs gen live ro hg
     split at ha
     ·rename_i hc
      obtain ⟨rfl, rfl, hfit⟩ := hc
      cases ha
      obtain ⟨rfl, hcap⟩ := hac (by omega)
      obtain ⟨hlg, _, hgens, hsb⟩ := hR.here o _ hg
      obtain ⟨⟨hlen, arr, et, lo, hi', hheap, hsize, hfr, hcells⟩, _, hlast⟩ := hR.rowOf hL hg hlg
      have hll := hlast rfl
      have hb : L.block < w.heap.size := hR.inh _ _ _ hL
      obtain ⟨n, hn⟩ : ∃ n, n = min es.length ln := ⟨_, rfl⟩
      rw [← hn] at h2 h3 h4 h0
      have htl : (es.take n).length = n := by rw [List.length_take]; omega
      have htk : es.take ln = es.take n := by
       rw [hn]
       rcases Nat.le_total es.length ln with h | h
       ·rw [Nat.min_eq_left h, List.take_of_length_le h, List.take_length]
       ·rw [Nat.min_eq_right h]
      have hmul : (off + n) * L.esz ≤ L.cap * L.esz := Nat.mul_le_mul_right _ (by omega)
      rw [Nat.add_mul] at hmul
      have hns2 : new.length = n * L.esz := by rw [hLe]; exact h3
      have hst := run_storeCells_put (P := P) (b := L.block) (o := L.base + off * L.esz) (t := et) (lo := lo) (hi := hi') new 0 arr w hheap (by rw [hns2]; omega) (fun j hj => by rw [hns2] at hj; rcases hfr rfl with hf | hf <;> omega) (fun v hv => by
       obtain ⟨k, hk, hvk⟩ := List.mem_iff_getElem.1 hv
       have hks : k < n * i.size := by rw [← h3]; exact hk
       have hp : 0 < i.size := by rcases Nat.eq_zero_or_pos i.size with h | h; rw [h] at hks; omega; exact h
       have hq : k / i.size < n := Nat.div_lt_of_lt_mul (by rw [Nat.mul_comm]; exact hks)
       obtain ⟨q1, q2, q3⟩ := h4 (k / i.size) ((es.take n)[k / i.size]'(by omega)) (List.getElem?_eq_getElem (by omega))
       refine one_of_VRs q3 q2 v ?_
       have hm : k % i.size < i.size := Nat.mod_lt _ hp
       have hdm : k / i.size * i.size + k % i.size = k := by rw [Nat.mul_comm]; exact Nat.div_add_mod k i.size
       refine List.mem_iff_getElem?.2 ⟨k % i.size, ?_⟩
       rw [cut_get, if_pos hm, hdm, List.getElem?_eq_getElem hk, hvk])
      simp only [Nat.add_zero] at hst
      have hrun := run (base := some ⟨L.block, L.base + off * L.esz, none⟩) (dLen := ln) (dCap := c) (new := new) h1 (by rw [← hn]; exact h2) hst
      rw [hLe] at hrun
      refine ⟨_, _, hrun, ?_, ?_⟩
      ·rw [← hLe]
       refine Ext.turn hR hg rfl rfl rfl rfl rfl (Nat.le_of_eq (putBlock_size _ _ _).symm) φ.le_refl (fun _ _ _ _ e => e) (fun b _ hbn => putBlock_other _ _ (hbn _ _ hL)) (fun g L e => .inl ⟨g, L, e, rfl⟩) (fun g L e => by rw [putBlock_size]; exact hR.inh _ _ _ e) ?_
       have hlay := lay_length arr.toList (L.base + off * L.esz) new (by rw [hns2]; simp; omega)
       have hlr : (lay rs off (es.take ln)).length = rs.length := lay_length _ _ _ (by rw [htk, htl]; omega)
       refine ⟨Nat.le_refl _, fun g L e => (hR.here o _ hg).2.1 g L e, fun k k1 k2 => ?_, hsb⟩
       obtain rfl : k = g := by omega
       refine ⟨L, hL, ⟨⟨hlen.1, by rw [hlr]; omega⟩, _, et, lo, hi', putBlock_same _ hb, ?_, (fun hro => by rw [List.size_toArray, hlay]; exact hfr hro), fun j e hj he => ?_⟩, fun _ => by rw [hlr]; exact hll⟩
       ·simp only [List.size_toArray, hlay]; simpa using hsize
       ·rw [htk, lay_get _ _ _ (by rw [htl]; omega), htl] at he
        by_cases hin : off ≤ j ∧ j < off + n
        ·rw [if_pos hin] at he
         obtain ⟨p1, p2, p3⟩ := h4 _ e he
         refine ⟨by rw [hLe]; exact p1, p2, ?_⟩
         have hm := mul_lt i.size (show j - off < n by omega)
         have hjm : j * i.size = off * i.size + (j - off) * i.size := by rw [← Nat.add_mul]; congr 1; omega
         have e2 : cut (lay arr.toList (L.base + off * L.esz) new) (L.base + j * L.esz) L.esz = cut new ((j - off) * i.size) i.size := by
          apply List.ext_getElem?
          intro q
          rw [cut_get, cut_get]
          simp only [hLe] at hns2 hmul hsize ⊢
          by_cases hq : q < i.size
          ·rw [if_pos hq, if_pos hq, lay_get _ _ _ (by rw [h3]; simp; omega), if_pos (by rw [h3]; omega)]
           congr 1; omega
          ·rw [if_neg hq, if_neg hq]
         rw [e2]; exact p3
        ·rw [if_neg hin] at he
         obtain ⟨p1, p2, p3⟩ := hcells j e hj he
         refine ⟨p1, p2, ?_⟩
         rw [cut_lay_out _ _ _ _ _ (by rw [hns2]; simp; omega)]
         ·exact p3
         ·rw [hns2]
          rcases Nat.lt_or_ge j off with h | h
          ·have := mul_lt L.esz h; omega
          ·have := Nat.mul_le_mul_right L.esz (show off + n ≤ j by omega)
           rw [Nat.add_mul] at this; omega
      ·rw [← hn]
       exact VR_goInt0 (by unfold maxI at *; omega)
     ·cases ha
    ·cases ha
 | _ => simp [St.copy] at ha
end Go.Ab
