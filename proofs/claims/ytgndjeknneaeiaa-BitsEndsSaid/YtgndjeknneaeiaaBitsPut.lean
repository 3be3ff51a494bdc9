/- bits.Writer on the abstract machine. -/
import Derived.Test.YtgndjeknneaeiaaBitsPure
import Derived.Test.YtgndjeknneaeiaaTab
namespace Go.Ab
open Go
set_option linter.unusedVariables false
set_option linter.unusedSimpArgs false

/-- A writer: its struct, its bytes, its bits. -/
structure WrN (st : St) (n0 o g : Nat) (s : V) (bs : List Nat) (l : List Bool) : Prop where
  get : st.get o = some (.row [[s, .int .i64 (l.length : Int)]] g g false)
  low : n0 ≤ o
  lt : o < st.next
  own : Own st n0 1 s (bytes bs)
  far : Far s o

def Wr (st : St) (n0 : Nat) (p : V) (l : List Bool) : Prop := ∃ o g s bs, p = .ptr o g 0 0 ∧ WrN st n0 o g s bs l ∧ Packed bs l

theorem WrN.up {st st' : St} {n0 o g : Nat} {s : V} {bs : List Nat} {l : List Bool} (h : WrN st n0 o g s bs l) (u : Up st.next st st') : WrN st' n0 o g s bs l :=
  ⟨by rw [u.same _ h.lt]; exact h.get, h.low, Nat.lt_of_lt_of_le h.lt u.next, h.own.up u, h.far⟩
theorem Wr.up {st st' : St} {n0 : Nat} {p : V} {l : List Bool} (h : Wr st n0 p l) (u : Up st.next st st') : Wr st' n0 p l := by
  obtain ⟨o, g, s, bs, h1, h2, h3⟩ := h
  exact ⟨o, g, s, bs, h1, h2.up u, h3⟩

theorem bound_F {st : St} {n : Int} : F tab fid_bits_bound [.int .i64 n] st = some (.int .i64 (clamp n : Int), st) := by
  refine F_fn tab_bits_bound rfl ?_
  unfold ir_bits_bound
  simp only [envOf]
  have hcl : (if (64 : Int) < (if (0 : Int) > n then 0 else n) then (64 : Int) else (if (0 : Int) > n then 0 else n)) = (clamp n : Int) := by
    unfold clamp; split <;> split <;> omega
  refine X_seq (X_reg (by simp only [evReg, guardOk, wantedI, IOp.run, IOp.ex, Opd.ev, evs, Env.get, Env.put, Env.keep, V.bin, V.un, intOp, shiftOp, fillRow, fillCells, cellsOf, V.one, optInt, bytesOfRow, byteOfCells, ofRes, strOp, List.map_cons, List.map_nil, List.getElem?_cons_zero, List.getElem?_cons_succ, Option.map_some, Option.map_none, reduceIte, reduceCtorEq, if_true, if_false, Nat.reduceEqDiff, Nat.reduceLT, Nat.reduceAdd, Nat.reduceLeDiff, Nat.reduceMul, Int.reduceToNat, Int.reduceLT, Int.reduceLE, Int.reduceEq, Int.reduceNe, Int.reduceBEq, Int.reduceBNe, decide_true, decide_false, List.replicate, List.set_cons_zero, List.set_cons_succ, List.length_cons, List.length_nil, List.all_cons, List.all_nil, Bool.and_true, Bool.true_and, Bool.and_self, and_self, and_true, true_and, Nat.zero_lt_succ, Nat.lt_add_one, beq_self_eq_true, beq_ft, beq_tf, Bool.not_true, Bool.not_false]; rfl) (thn_norm (X_seq ?_)))
  refine X_reg (by simp only [evReg, guardOk, wantedI, IOp.run, IOp.ex, Opd.ev, evs, Env.get, Env.put, Env.keep, V.bin, V.un, intOp, shiftOp, fillRow, fillCells, cellsOf, V.one, optInt, bytesOfRow, byteOfCells, ofRes, strOp, List.map_cons, List.map_nil, List.getElem?_cons_zero, List.getElem?_cons_succ, Option.map_some, Option.map_none, reduceIte, reduceCtorEq, if_true, if_false, Nat.reduceEqDiff, Nat.reduceLT, Nat.reduceAdd, Nat.reduceLeDiff, Nat.reduceMul, Int.reduceToNat, Int.reduceLT, Int.reduceLE, Int.reduceEq, Int.reduceNe, Int.reduceBEq, Int.reduceBNe, decide_true, decide_false, List.replicate, List.set_cons_zero, List.set_cons_succ, List.length_cons, List.length_nil, List.all_cons, List.all_nil, Bool.and_true, Bool.true_and, Bool.and_self, and_self, and_true, true_and, Nat.zero_lt_succ, Nat.lt_add_one, beq_self_eq_true, beq_ft, beq_tf, Bool.not_true, Bool.not_false, minmaxV, Bool.false_eq_true, hcl]; rfl) (thn_norm (X_ret ⟨.inr rfl, rfl, _, rfl, rfl⟩))

theorem newWriter_F {st : St} : F tab fid_bits_NewWriter [] st = some (.ptr st.next 0 0 0, st.push (.row [[.nils, .int .i64 0]] 0 0 false)) := by
  refine F_fn tab_bits_NewWriter rfl ?_
  unfold ir_bits_NewWriter
  simp only [envOf]
  refine X_seq (X_reg (by simp only [evReg, guardOk, wantedI, IOp.run, IOp.ex, Opd.ev, evs, Env.get, Env.put, Env.keep, V.bin, V.un, intOp, shiftOp, fillRow, fillCells, cellsOf, V.one, optInt, bytesOfRow, byteOfCells, ofRes, strOp, List.map_cons, List.map_nil, List.getElem?_cons_zero, List.getElem?_cons_succ, Option.map_some, Option.map_none, reduceIte, reduceCtorEq, if_true, if_false, Nat.reduceEqDiff, Nat.reduceLT, Nat.reduceAdd, Nat.reduceLeDiff, Nat.reduceMul, Int.reduceToNat, Int.reduceLT, Int.reduceLE, Int.reduceEq, Int.reduceNe, Int.reduceBEq, Int.reduceBNe, decide_true, decide_false, List.replicate, List.set_cons_zero, List.set_cons_succ, List.length_cons, List.length_nil, List.all_cons, List.all_nil, Bool.and_true, Bool.true_and, Bool.and_self, and_self, and_true, true_and, Nat.zero_lt_succ, Nat.lt_add_one, beq_self_eq_true, beq_ft, beq_tf, Bool.not_true, Bool.not_false]; rfl) (thn_norm (X_seq ?_)))
  refine X_reg (by simp only [evReg, guardOk, wantedI, IOp.run, IOp.ex, Opd.ev, evs, Env.get, Env.put, Env.keep, V.bin, V.un, intOp, shiftOp, fillRow, fillCells, cellsOf, V.one, optInt, bytesOfRow, byteOfCells, ofRes, strOp, List.map_cons, List.map_nil, List.getElem?_cons_zero, List.getElem?_cons_succ, Option.map_some, Option.map_none, reduceIte, reduceCtorEq, if_true, if_false, Nat.reduceEqDiff, Nat.reduceLT, Nat.reduceAdd, Nat.reduceLeDiff, Nat.reduceMul, Int.reduceToNat, Int.reduceLT, Int.reduceLE, Int.reduceEq, Int.reduceNe, Int.reduceBEq, Int.reduceBNe, decide_true, decide_false, List.replicate, List.set_cons_zero, List.set_cons_succ, List.length_cons, List.length_nil, List.all_cons, List.all_nil, Bool.and_true, Bool.true_and, Bool.and_self, and_self, and_true, true_and, Nat.zero_lt_succ, Nat.lt_add_one, beq_self_eq_true, beq_ft, beq_tf, Bool.not_true, Bool.not_false]; rfl) (thn_norm (X_ret ⟨.inr rfl, rfl, _, rfl, rfl⟩))

theorem Wr.new {st : St} : Wr (st.push (.row [[.nils, .int .i64 0]] 0 0 false)) st.next (.ptr st.next 0 0 0) [] :=
  ⟨st.next, 0, .nils, [], rfl, ⟨by rw [St.get_push, if_pos rfl]; rfl, Nat.le_refl _, by rw [St.next_push]; omega, .nil, .nils⟩, Packed.nil⟩

theorem shl_u8_bit (x : Bool) {k : Nat} (hk : k < 8) : IntKind.u8.wrap ((x.toNat : Int) * 2 ^ min ((k : Nat) : Int).toNat IntKind.u8.bits) = ((x.toNat * 2 ^ k : Nat) : Int) := by
  have e : min ((k : Nat) : Int).toNat IntKind.u8.bits = k := by show min _ 8 = k; omega
  rw [e]
  have h1 : 2 ^ k ≤ 2 ^ 7 := Nat.pow_le_pow_right (by omega) (by omega)
  have h2 : ((x.toNat : Int) * 2 ^ k) = ((x.toNat * 2 ^ k : Nat) : Int) := by simp
  rw [h2, wrap_u8_nat, Nat.mod_eq_of_lt]
  cases x <;> simp <;> omega

theorem bit_of {v i : Nat} (hv : v < 18446744073709551616) : bitsOf .and .u64 ((v / 2 ^ i : Nat) : Int) 1 = some (((v.testBit i).toNat : Nat) : Int) := by
  have h1 : v / 2 ^ i < 18446744073709551616 := Nat.lt_of_le_of_lt (Nat.div_le_self _ _) hv
  have h2 := and_u64 (a := v / 2 ^ i) (b := 1) h1 (by omega)
  rw [Nat.and_one_is_mod] at h2
  have h3 : v / 2 ^ i % 2 = (v.testBit i).toNat := by rw [Nat.toNat_testBit]
  rw [h3] at h2
  exact h2

/-- What isn't of the writer stays. -/
def Stays (st st' : St) (o : Nat) (s s' : V) : Prop := ∀ a, a < st.next → a ≠ o → Far s a → st'.get a = st.get a ∧ Far s' a

theorem Stays.refl {st : St} {o : Nat} {s : V} : Stays st st o s s := fun a _ _ h => ⟨rfl, h⟩
theorem Stays.trans {a b c : St} {o : Nat} {s t u : V} (h : Stays a b o s t) (k : Stays b c o t u) (hn : a.next ≤ b.next) : Stays a c o s u := fun x h1 h2 h3 => by
  obtain ⟨e1, e2⟩ := h x h1 h2 h3
  obtain ⟨e3, e4⟩ := k x (Nat.lt_of_lt_of_le h1 hn) h2 e2
  exact ⟨e3.trans e1, e4⟩

theorem wput_b0 {st : St} {env : Env} {n0 v k o g : Nat} {s0 : V} {bs0 : List Nat} {l : List Bool} (hw0 : WrN st n0 o g s0 bs0 l) (hp0 : Packed bs0 l) (hn : n0 ≤ st.next) (hv : v < 18446744073709551616) (hl : l.length + k ≤ 1099511627776) (hk : k ≤ 64)
    (h0 : Env.get env 0 = .ptr o g 0 0) (h1 : Env.get env 1 = .int .u64 (v : Int)) (h6 : Env.get env 6 = .int .i64 ((k : Int) - 1)) {Q : Ex → Env → St → Prop}
    (hQ : ∀ env' st' s' bs', WrN st' n0 o g s' bs' (l ++ top v k) → Packed bs' (l ++ top v k) → Up n0 st st' → Stays st st' o s0 s' → Q (.exit 0) env' st') :
    X tab (.loop [0, 1, 6] bits_Writer_Put_b0) env st Q := by
  refine X_while (fun m env1 st1 => ∃ s1 bs1 l1, m ≤ k ∧ Env.get env1 0 = .ptr o g 0 0 ∧ Env.get env1 1 = .int .u64 (v : Int) ∧ Env.get env1 6 = .int .i64 ((m : Int) - 1) ∧ WrN st1 n0 o g s1 bs1 l1 ∧ Packed bs1 l1 ∧ Up n0 st st1 ∧ l1 ++ top v m = l ++ top v k ∧ Stays st st1 o s0 s1) k ⟨s0, bs0, l, Nat.le_refl _, h0, h1, h6, hw0, hp0, .refl hn, rfl, .refl⟩ ?_
  rintro m env1 st1 K hK hE ⟨s1, bs1, l1, hm, g0, g1, g6, hw1, hp1, hu1, hb, hS⟩
  simp only [Env.keep, g0, g1, g6]
  unfold bits_Writer_Put_b0
  refine X_seq (X_seq ?_)
  refine X_reg (by simp only [evReg, guardOk, wantedI, IOp.run, IOp.ex, Opd.ev, evs, Env.get, Env.put, Env.keep, V.bin, V.un, intOp, shiftOp, fillRow, fillCells, cellsOf, V.one, optInt, bytesOfRow, byteOfCells, ofRes, strOp, List.map_cons, List.map_nil, List.getElem?_cons_zero, List.getElem?_cons_succ, Option.map_some, Option.map_none, reduceIte, reduceCtorEq, if_true, if_false, Nat.reduceEqDiff, Nat.reduceLT, Nat.reduceAdd, Nat.reduceLeDiff, Nat.reduceMul, Int.reduceToNat, Int.reduceLT, Int.reduceLE, Int.reduceEq, Int.reduceNe, Int.reduceBEq, Int.reduceBNe, decide_true, decide_false, List.replicate, List.set_cons_zero, List.set_cons_succ, List.length_cons, List.length_nil, List.all_cons, List.all_nil, Bool.and_true, Bool.true_and, Bool.and_self, and_self, and_true, true_and, Nat.zero_lt_succ, Nat.lt_add_one, beq_self_eq_true, beq_ft, beq_tf, Bool.not_true, Bool.not_false]; rfl) (thn_norm ?_)
  cases m with
  | zero =>
    have hc : ¬ ((0 : Nat) : Int) - 1 ≥ 0 := by omega
    refine X_false (by simp only [evReg, guardOk, wantedI, IOp.run, IOp.ex, Opd.ev, evs, Env.get, Env.put, Env.keep, V.bin, V.un, intOp, shiftOp, fillRow, fillCells, cellsOf, V.one, optInt, bytesOfRow, byteOfCells, ofRes, strOp, List.map_cons, List.map_nil, List.getElem?_cons_zero, List.getElem?_cons_succ, Option.map_some, Option.map_none, reduceIte, reduceCtorEq, if_true, if_false, Nat.reduceEqDiff, Nat.reduceLT, Nat.reduceAdd, Nat.reduceLeDiff, Nat.reduceMul, Int.reduceToNat, Int.reduceLT, Int.reduceLE, Int.reduceEq, Int.reduceNe, Int.reduceBEq, Int.reduceBNe, decide_true, decide_false, List.replicate, List.set_cons_zero, List.set_cons_succ, List.length_cons, List.length_nil, List.all_cons, List.all_nil, Bool.and_true, Bool.true_and, Bool.and_self, and_self, and_true, true_and, Nat.zero_lt_succ, Nat.lt_add_one, beq_self_eq_true, beq_ft, beq_tf, Bool.not_true, Bool.not_false, hc]) (X_exit (thn_exit (hE _ _ _ (by simp) (hQ _ _ s1 bs1 ?_ ?_ hu1 hS))))
    · simp only [top, List.append_nil] at hb
      rw [← hb]; exact hw1
    · simp only [top, List.append_nil] at hb
      rw [← hb]; exact hp1
  | succ m =>
    have hc : ((m + 1 : Nat) : Int) - 1 ≥ 0 := by omega
    have hi : ((m + 1 : Nat) : Int) - 1 = (m : Int) := by omega
    have hlen := congrArg List.length hb
    simp only [List.length_append, top_length] at hlen
    have hn1 := hu1.next
    refine X_true (by simp only [evReg, guardOk, wantedI, IOp.run, IOp.ex, Opd.ev, evs, Env.get, Env.put, Env.keep, V.bin, V.un, intOp, shiftOp, fillRow, fillCells, cellsOf, V.one, optInt, bytesOfRow, byteOfCells, ofRes, strOp, List.map_cons, List.map_nil, List.getElem?_cons_zero, List.getElem?_cons_succ, Option.map_some, Option.map_none, reduceIte, reduceCtorEq, if_true, if_false, Nat.reduceEqDiff, Nat.reduceLT, Nat.reduceAdd, Nat.reduceLeDiff, Nat.reduceMul, Int.reduceToNat, Int.reduceLT, Int.reduceLE, Int.reduceEq, Int.reduceNe, Int.reduceBEq, Int.reduceBNe, decide_true, decide_false, List.replicate, List.set_cons_zero, List.set_cons_succ, List.length_cons, List.length_nil, List.all_cons, List.all_nil, Bool.and_true, Bool.true_and, Bool.and_self, and_self, and_true, true_and, Nat.zero_lt_succ, Nat.lt_add_one, beq_self_eq_true, beq_ft, beq_tf, Bool.not_true, Bool.not_false, hc]) (X_skip (thn_norm (X_seq (X_block (X_seq (X_seq ?_))))))
    rw [hi]
    have hld0 : st1.load (.ptr o g 0 0) 1 false = some s1 := rec_load hw1.get rfl
    have hld1 : st1.load (.ptr o g 0 1) 1 false = some (.int .i64 (l1.length : Int)) := rec_load hw1.get rfl
    have hrem : ((l1.length : Nat) : Int).tmod 8 = ((l1.length % 8 : Nat) : Int) := rfl
    refine X_reg (by simp only [evReg, guardOk, wantedI, IOp.run, IOp.ex, Opd.ev, evs, Env.get, Env.put, Env.keep, V.bin, V.un, intOp, shiftOp, fillRow, fillCells, cellsOf, V.one, optInt, bytesOfRow, byteOfCells, ofRes, strOp, List.map_cons, List.map_nil, List.getElem?_cons_zero, List.getElem?_cons_succ, Option.map_some, Option.map_none, reduceIte, reduceCtorEq, if_true, if_false, Nat.reduceEqDiff, Nat.reduceLT, Nat.reduceAdd, Nat.reduceLeDiff, Nat.reduceMul, Int.reduceToNat, Int.reduceLT, Int.reduceLE, Int.reduceEq, Int.reduceNe, Int.reduceBEq, Int.reduceBNe, decide_true, decide_false, List.replicate, List.set_cons_zero, List.set_cons_succ, List.length_cons, List.length_nil, List.all_cons, List.all_nil, Bool.and_true, Bool.true_and, Bool.and_self, and_self, and_true, true_and, Nat.zero_lt_succ, Nat.lt_add_one, beq_self_eq_true, beq_ft, beq_tf, Bool.not_true, Bool.not_false, hld1, hrem]; rfl) (thn_norm ?_)
    obtain ⟨q1, q2⟩ := hp1.snoc (v.testBit m)
    refine X.mono (R := fun e env2 st2 => e = .norm ∧ Env.get env2 0 = .ptr o g 0 0 ∧ Env.get env2 1 = .int .u64 (v : Int) ∧ Env.get env2 6 = .int .i64 (m : Int) ∧ Up n0 st1 st2 ∧ ∃ s2, WrN st2 n0 o g s2 (if l1.length % 8 = 0 then bs1 ++ [0] else bs1) l1 ∧ Stays st1 st2 o s1 s2) ?_ ?_
    · by_cases h8 : l1.length % 8 = 0
      · have h8' : (((l1.length % 8 : Nat) : Int) == 0) = true := by simp; omega
        refine X_true (by simp only [evReg, guardOk, wantedI, IOp.run, IOp.ex, Opd.ev, evs, Env.get, Env.put, Env.keep, V.bin, V.un, intOp, shiftOp, fillRow, fillCells, cellsOf, V.one, optInt, bytesOfRow, byteOfCells, ofRes, strOp, List.map_cons, List.map_nil, List.getElem?_cons_zero, List.getElem?_cons_succ, Option.map_some, Option.map_none, reduceIte, reduceCtorEq, if_true, if_false, Nat.reduceEqDiff, Nat.reduceLT, Nat.reduceAdd, Nat.reduceLeDiff, Nat.reduceMul, Int.reduceToNat, Int.reduceLT, Int.reduceLE, Int.reduceEq, Int.reduceNe, Int.reduceBEq, Int.reduceBNe, decide_true, decide_false, List.replicate, List.set_cons_zero, List.set_cons_succ, List.length_cons, List.length_nil, List.all_cons, List.all_nil, Bool.and_true, Bool.true_and, Bool.and_self, and_self, and_true, true_and, Nat.zero_lt_succ, Nat.lt_add_one, beq_self_eq_true, beq_ft, beq_tf, Bool.not_true, Bool.not_false, h8']) ?_
        have hbl : bs1.length ≤ 1099511627776 := by have := hp1.len; omega
        have pu : Up st1.next st1 (st1.push (.row (bytes [0]) 0 0 false)) := .push _ (Nat.le_refl _)
        obtain ⟨s2, st2, e1, e2, e3⟩ := (hw1.own.up pu).append (bytes := 1) (ys := bytes [0]) (by rw [St.next_push]; omega) (by simp only [bytes_length, List.length_cons, List.length_nil, room]; omega)
        obtain ⟨f1, f2, f3⟩ := append_far (o := o) e1 hw1.far (by rw [St.next_push]; have := hw1.lt; omega) hw1.own.shape
        rw [pu.same _ hw1.lt, hw1.get] at f2
        have hel := (slc_new (st := st1) (bytes [0]) 1).elems
        have stay2 : ∀ a, a < st1.next → Far s1 a → st2.get a = st1.get a ∧ Far s2 a := fun a ha hfa => by
          obtain ⟨y1, y2, _⟩ := append_far (o := a) e1 hfa (by rw [St.next_push]; omega) hw1.own.shape
          exact ⟨by rw [y2, pu.same _ ha], y1⟩
        have hst := rec_store f2 (k := 0) (v := s2) (by simp) e2.slc.one
        simp only [bytes, List.map_cons, List.map_nil, List.length_cons, List.length_nil, Nat.reduceAdd, Int.natCast_zero] at hel e1
        refine X_reg (by simp only [evReg, guardOk, wantedI, IOp.run, IOp.ex, Opd.ev, evs, Env.get, Env.put, Env.keep, V.bin, V.un, intOp, shiftOp, fillRow, fillCells, cellsOf, V.one, optInt, bytesOfRow, byteOfCells, ofRes, strOp, List.map_cons, List.map_nil, List.getElem?_cons_zero, List.getElem?_cons_succ, Option.map_some, Option.map_none, reduceIte, reduceCtorEq, if_true, if_false, Nat.reduceEqDiff, Nat.reduceLT, Nat.reduceAdd, Nat.reduceLeDiff, Nat.reduceMul, Int.reduceToNat, Int.reduceLT, Int.reduceLE, Int.reduceEq, Int.reduceNe, Int.reduceBEq, Int.reduceBNe, decide_true, decide_false, List.replicate, List.set_cons_zero, List.set_cons_succ, List.length_cons, List.length_nil, List.all_cons, List.all_nil, Bool.and_true, Bool.true_and, Bool.and_self, and_self, and_true, true_and, Nat.zero_lt_succ, Nat.lt_add_one, beq_self_eq_true, beq_ft, beq_tf, Bool.not_true, Bool.not_false, hld0, hel, e1, hst]; rfl) ⟨rfl, rfl, rfl, rfl, ?_, s2, ?_⟩
        · have hlt := hw1.lt
          rw [St.next_push] at f3
          exact (Up.push _ (Nat.le_trans hn hn1)).trans (e3.trans (Up.set _ (by omega) hw1.low (by omega)))
        · rw [if_pos h8]
          refine ⟨?_, fun a ha hao hfa => ?_⟩
          case refine_2 =>
            obtain ⟨y2, y1⟩ := stay2 a ha hfa
            exact ⟨by rw [St.get_set, if_neg hao, y2], y1⟩
          refine ⟨by rw [St.get_set, if_pos rfl] <;> rfl, hw1.low, ?_, ?_, f1⟩
          · rw [St.next_set]; rw [St.next_push] at f3; have := hw1.lt; omega
          · rw [bytes_append]; exact e2.set f1
      · have h8' : (((l1.length % 8 : Nat) : Int) == 0) = false := by simp; omega
        refine X_false (by simp only [evReg, guardOk, wantedI, IOp.run, IOp.ex, Opd.ev, evs, Env.get, Env.put, Env.keep, V.bin, V.un, intOp, shiftOp, fillRow, fillCells, cellsOf, V.one, optInt, bytesOfRow, byteOfCells, ofRes, strOp, List.map_cons, List.map_nil, List.getElem?_cons_zero, List.getElem?_cons_succ, Option.map_some, Option.map_none, reduceIte, reduceCtorEq, if_true, if_false, Nat.reduceEqDiff, Nat.reduceLT, Nat.reduceAdd, Nat.reduceLeDiff, Nat.reduceMul, Int.reduceToNat, Int.reduceLT, Int.reduceLE, Int.reduceEq, Int.reduceNe, Int.reduceBEq, Int.reduceBNe, decide_true, decide_false, List.replicate, List.set_cons_zero, List.set_cons_succ, List.length_cons, List.length_nil, List.all_cons, List.all_nil, Bool.and_true, Bool.true_and, Bool.and_self, and_self, and_true, true_and, Nat.zero_lt_succ, Nat.lt_add_one, beq_self_eq_true, beq_ft, beq_tf, Bool.not_true, Bool.not_false, h8']) (X_skip ⟨rfl, rfl, rfl, rfl, .refl (Nat.le_trans hn hn1), s1, ?_, .refl⟩)
        rw [if_neg h8]; exact hw1
    · rintro e env2 st2 ⟨rfl, k0, k1, k6, u2, s2, hw2, hS2⟩
      have hlt2 : ∀ b ∈ (if l1.length % 8 = 0 then bs1 ++ [0] else bs1), b < 256 := by
        intro b hb
        split at hb
        · rcases List.mem_append.1 hb with h | h
          · exact hp1.lt b h
          · rw [List.mem_singleton] at h; omega
        · exact hp1.lt b hb
      generalize hbs : (if l1.length % 8 = 0 then bs1 ++ [0] else bs1) = bs2 at *
      have hn2 := u2.next
      have hb8 : bs2[l1.length / 8]? = some (bs2.getD (l1.length / 8) 0) := by
        rw [List.getD_eq_getElem?_getD, List.getElem?_eq_getElem q1]; rfl
      obtain ⟨os, gs, rfl, hlb, hsb⟩ := hw2.own.cellAt (by omega) (bytes_get hb8)
      have hb256 : bs2.getD (l1.length / 8) 0 < 256 := hlt2 _ (List.mem_of_getElem? hb8)
      have hset : (bytes bs2).set (l1.length / 8) [.int .u8 ((bs2.getD (l1.length / 8) 0 ||| (v.testBit m).toNat * 2 ^ (l1.length % 8) : Nat) : Int)] = bytes (bs2.set (l1.length / 8) (bs2.getD (l1.length / 8) 0 ||| (v.testBit m).toNat * 2 ^ (l1.length % 8))) := by
        simp [bytes, List.map_set]
      have hx256 : (v.testBit m).toNat * 2 ^ (l1.length % 8) < 256 := by
        have h1 : 2 ^ (l1.length % 8) ≤ 2 ^ 7 := Nat.pow_le_pow_right (by omega) (by omega)
        cases v.testBit m <;> simp <;> omega
      obtain ⟨X, s3, o3, u3⟩ := hsb (.int .u8 ((bs2.getD (l1.length / 8) 0 ||| (v.testBit m).toNat * 2 ^ (l1.length % 8) : Nat) : Int)) one_int
      rw [hset] at o3
      have hor := or_u8 (a := bs2.getD (l1.length / 8) 0) (b := (v.testBit m).toNat * 2 ^ (l1.length % 8)) hb256 hx256
      generalize hby : bs2.getD (l1.length / 8) 0 = by' at *
      have hfar : os ≠ o := hw2.far _ _ _ _ _ _ rfl
      have jld0 : st2.load (.ptr o g 0 0) 1 false = some (.sl os gs 0 (bytes bs2).length 1 none) := rec_load hw2.get rfl
      have jld1 : st2.load (.ptr o g 0 1) 1 false = some (.int .i64 (l1.length : Int)) := rec_load hw2.get rfl
      have hquo : IntKind.i64.wrap (((l1.length : Nat) : Int).tdiv 8) = ((l1.length / 8 : Nat) : Int) := wrap_i64_nat (n := l1.length / 8) (by omega)
      have hin : (0 : Int) ≤ ((l1.length / 8 : Nat) : Int) ∧ ((l1.length / 8 : Nat) : Int) < ((bytes bs2).length : Int) := by rw [bytes_length]; omega
      have htn : ((l1.length / 8 : Nat) : Int).toNat = l1.length / 8 := by omega
      have hnnm : ¬ ((m : Nat) : Int) < 0 := by omega
      have hshr := shr_nat (k := .u64) (a := v) (s := m) hv
      have hbit := bit_of (i := m) hv
      have hcv : IntKind.u8.wrap (((v.testBit m).toNat : Nat) : Int) = (((v.testBit m).toNat : Nat) : Int) := by
        rw [wrap_u8_nat, Nat.mod_eq_of_lt (by cases v.testBit m <;> decide)]
      have hshl := shl_u8_bit (v.testBit m) (k := l1.length % 8) (by omega)
      have hnn8 : ¬ ((l1.length % 8 : Nat) : Int) < 0 := by omega
      refine thn_norm (X_seq ?_)
      refine X_regD (by simp only [evReg, guardOk, wantedI, IOp.run, IOp.ex, Opd.ev, evs, Env.get, Env.put, Env.keep, V.bin, V.un, intOp, shiftOp, fillRow, fillCells, cellsOf, V.one, optInt, bytesOfRow, byteOfCells, ofRes, strOp, List.map_cons, List.map_nil, List.getElem?_cons_zero, List.getElem?_cons_succ, Option.map_some, Option.map_none, reduceIte, reduceCtorEq, if_true, if_false, Nat.reduceEqDiff, Nat.reduceLT, Nat.reduceAdd, Nat.reduceLeDiff, Nat.reduceMul, Int.reduceToNat, Int.reduceLT, Int.reduceLE, Int.reduceEq, Int.reduceNe, Int.reduceBEq, Int.reduceBNe, decide_true, decide_false, List.replicate, List.set_cons_zero, List.set_cons_succ, List.length_cons, List.length_nil, List.all_cons, List.all_nil, Bool.and_true, Bool.true_and, Bool.and_self, and_self, and_true, true_and, Nat.zero_lt_succ, Nat.lt_add_one, beq_self_eq_true, beq_ft, beq_tf, Bool.not_true, Bool.not_false, evRegD, IOp.kind, Chk.ok, Chk.at, Go.Ab.cut, List.drop_zero, List.drop_succ_cons, List.take_succ_cons, List.take_zero, List.reverse_cons, List.reverse_nil, List.nil_append, List.cons_append, V.beq, k0, k1, k6, jld0, jld1, hquo, hin, htn, Nat.zero_add, hlb, hnnm, hshr, hbit, hcv, hrem, hnn8, hshl, hor, s3]; rfl) (thn_norm ?_)
      have get3 : (st2.set os X).get o = some (.row [[.sl os gs 0 (bytes bs2).length 1 none, .int .i64 (l1.length : Int)]] g g false) := by
        rw [St.get_set, if_neg (fun h => hfar h.symm)]; exact hw2.get
      have ild1 : (st2.set os X).load (.ptr o g 0 1) 1 false = some (.int .i64 (l1.length : Int)) := rec_load get3 rfl
      have hadd : IntKind.i64.wrap ((l1.length : Int) + 1) = ((l1.length + 1 : Nat) : Int) := wrap_i64_nat (n := l1.length + 1) (by omega)
      have ist := rec_store get3 (k := 1) (v := .int .i64 ((l1.length + 1 : Nat) : Int)) (by simp) one_int
      refine X_reg (by simp only [evReg, guardOk, wantedI, IOp.run, IOp.ex, Opd.ev, evs, Env.get, Env.put, Env.keep, V.bin, V.un, intOp, shiftOp, fillRow, fillCells, cellsOf, V.one, optInt, bytesOfRow, byteOfCells, ofRes, strOp, List.map_cons, List.map_nil, List.getElem?_cons_zero, List.getElem?_cons_succ, Option.map_some, Option.map_none, reduceIte, reduceCtorEq, if_true, if_false, Nat.reduceEqDiff, Nat.reduceLT, Nat.reduceAdd, Nat.reduceLeDiff, Nat.reduceMul, Int.reduceToNat, Int.reduceLT, Int.reduceLE, Int.reduceEq, Int.reduceNe, Int.reduceBEq, Int.reduceBNe, decide_true, decide_false, List.replicate, List.set_cons_zero, List.set_cons_succ, List.length_cons, List.length_nil, List.all_cons, List.all_nil, Bool.and_true, Bool.true_and, Bool.and_self, and_self, and_true, true_and, Nat.zero_lt_succ, Nat.lt_add_one, beq_self_eq_true, beq_ft, beq_tf, Bool.not_true, Bool.not_false, k0, ild1, hadd, ist]; rfl) (inb_norm (thn_norm ?_))
      have hdec : IntKind.i64.wrap ((m : Int) - 1) = (m : Int) - 1 := IntWalk.i64_in _ (by omega)
      refine X_reg (by simp only [evReg, guardOk, wantedI, IOp.run, IOp.ex, Opd.ev, evs, Env.get, Env.put, Env.keep, V.bin, V.un, intOp, shiftOp, fillRow, fillCells, cellsOf, V.one, optInt, bytesOfRow, byteOfCells, ofRes, strOp, List.map_cons, List.map_nil, List.getElem?_cons_zero, List.getElem?_cons_succ, Option.map_some, Option.map_none, reduceIte, reduceCtorEq, if_true, if_false, Nat.reduceEqDiff, Nat.reduceLT, Nat.reduceAdd, Nat.reduceLeDiff, Nat.reduceMul, Int.reduceToNat, Int.reduceLT, Int.reduceLE, Int.reduceEq, Int.reduceNe, Int.reduceBEq, Int.reduceBNe, decide_true, decide_false, List.replicate, List.set_cons_zero, List.set_cons_succ, List.length_cons, List.length_nil, List.all_cons, List.all_nil, Bool.and_true, Bool.true_and, Bool.and_self, and_self, and_true, true_and, Nat.zero_lt_succ, Nat.lt_add_one, beq_self_eq_true, beq_ft, beq_tf, Bool.not_true, Bool.not_false, k6, hdec]; rfl) ?_
      refine hK m _ _ (by omega) ⟨.sl os gs 0 (bytes bs2).length 1 none, bs2.set (l1.length / 8) (by' ||| (v.testBit m).toNat * 2 ^ (l1.length % 8)), l1 ++ [v.testBit m], by omega, ?_, ?_, rfl, ⟨?_, hw2.low, ?_, ?_, .sl hfar⟩, q2, ?_, ?_, ?_⟩
      · simp only [evReg, guardOk, wantedI, IOp.run, IOp.ex, Opd.ev, evs, Env.get, Env.put, Env.keep, V.bin, V.un, intOp, shiftOp, fillRow, fillCells, cellsOf, V.one, optInt, bytesOfRow, byteOfCells, ofRes, strOp, List.map_cons, List.map_nil, List.getElem?_cons_zero, List.getElem?_cons_succ, Option.map_some, Option.map_none, reduceIte, reduceCtorEq, if_true, if_false, Nat.reduceEqDiff, Nat.reduceLT, Nat.reduceAdd, Nat.reduceLeDiff, Nat.reduceMul, Int.reduceToNat, Int.reduceLT, Int.reduceLE, Int.reduceEq, Int.reduceNe, Int.reduceBEq, Int.reduceBNe, decide_true, decide_false, List.replicate, List.set_cons_zero, List.set_cons_succ, List.length_cons, List.length_nil, List.all_cons, List.all_nil, Bool.and_true, Bool.true_and, Bool.and_self, and_self, and_true, true_and, Nat.zero_lt_succ, Nat.lt_add_one, beq_self_eq_true, beq_ft, beq_tf, Bool.not_true, Bool.not_false, k0]
      · simp only [evReg, guardOk, wantedI, IOp.run, IOp.ex, Opd.ev, evs, Env.get, Env.put, Env.keep, V.bin, V.un, intOp, shiftOp, fillRow, fillCells, cellsOf, V.one, optInt, bytesOfRow, byteOfCells, ofRes, strOp, List.map_cons, List.map_nil, List.getElem?_cons_zero, List.getElem?_cons_succ, Option.map_some, Option.map_none, reduceIte, reduceCtorEq, if_true, if_false, Nat.reduceEqDiff, Nat.reduceLT, Nat.reduceAdd, Nat.reduceLeDiff, Nat.reduceMul, Int.reduceToNat, Int.reduceLT, Int.reduceLE, Int.reduceEq, Int.reduceNe, Int.reduceBEq, Int.reduceBNe, decide_true, decide_false, List.replicate, List.set_cons_zero, List.set_cons_succ, List.length_cons, List.length_nil, List.all_cons, List.all_nil, Bool.and_true, Bool.true_and, Bool.and_self, and_self, and_true, true_and, Nat.zero_lt_succ, Nat.lt_add_one, beq_self_eq_true, beq_ft, beq_tf, Bool.not_true, Bool.not_false, k1]
      · rw [St.get_set, if_pos rfl, List.length_append, List.length_singleton]
      · rw [St.next_set, St.next_set]; exact hw2.lt
      · exact o3.set (.sl hfar)
      · exact hu1.trans (u2.trans (u3.trans (Up.set _ (by rw [St.next_set]; omega) hw2.low (by rw [St.next_set]; exact hw2.lt))))
      · rw [← hb, top, List.append_assoc]; rfl
      · refine hS.trans (hS2.trans (fun a ha hao hfa => ⟨?_, hfa⟩) hn2) hn1
        rw [St.get_set, if_neg hao, St.get_set, if_neg (fun h => hfa _ _ _ _ _ _ rfl h.symm)]

theorem WrN.put {st : St} {n0 o g v : Nat} {n : Int} {s0 : V} {bs0 : List Nat} {l : List Bool} (hw : WrN st n0 o g s0 bs0 l) (hp : Packed bs0 l) (hn : n0 ≤ st.next) (hv : v < 18446744073709551616) (hl : l.length + 64 ≤ 1099511627776) :
    ∃ st' s' bs', F tab fid_bits_Writer_Put [.ptr o g 0 0, .int .u64 (v : Int), .int .i64 n] st = some (.tup [], st') ∧ WrN st' n0 o g s' bs' (l ++ top v (clamp n)) ∧ Packed bs' (l ++ top v (clamp n)) ∧ Up n0 st st' ∧ Stays st st' o s0 s' := by
  have key : ∃ x st', F tab fid_bits_Writer_Put [.ptr o g 0 0, .int .u64 (v : Int), .int .i64 n] st = some (x, st') ∧ x = .tup [] ∧ ∃ s' bs', WrN st' n0 o g s' bs' (l ++ top v (clamp n)) ∧ Packed bs' (l ++ top v (clamp n)) ∧ Up n0 st st' ∧ Stays st st' o s0 s' := by
    refine F_fnR tab_bits_Writer_Put rfl ?_
    unfold ir_bits_Writer_Put
    simp only [envOf]
    have hc := clamp_le n
    have hdec : IntKind.i64.wrap ((clamp n : Int) - 1) = (clamp n : Int) - 1 := IntWalk.i64_in _ (by omega)
    have hbd := bound_F (st := st) (n := n)
    refine X_seq (X_reg (by simp only [evReg, guardOk, wantedI, IOp.run, IOp.ex, Opd.ev, evs, Env.get, Env.put, Env.keep, V.bin, V.un, intOp, shiftOp, fillRow, fillCells, cellsOf, V.one, optInt, bytesOfRow, byteOfCells, ofRes, strOp, List.map_cons, List.map_nil, List.getElem?_cons_zero, List.getElem?_cons_succ, Option.map_some, Option.map_none, reduceIte, reduceCtorEq, if_true, if_false, Nat.reduceEqDiff, Nat.reduceLT, Nat.reduceAdd, Nat.reduceLeDiff, Nat.reduceMul, Int.reduceToNat, Int.reduceLT, Int.reduceLE, Int.reduceEq, Int.reduceNe, Int.reduceBEq, Int.reduceBNe, decide_true, decide_false, List.replicate, List.set_cons_zero, List.set_cons_succ, List.length_cons, List.length_nil, List.all_cons, List.all_nil, Bool.and_true, Bool.true_and, Bool.and_self, and_self, and_true, true_and, Nat.zero_lt_succ, Nat.lt_add_one, beq_self_eq_true, beq_ft, beq_tf, Bool.not_true, Bool.not_false, hbd, hdec]; rfl) (thn_norm (X_block ?_)))
    refine wput_b0 (k := clamp n) hw hp hn hv (by omega) hc rfl rfl rfl ?_
    intro env' st' s' bs' h1 h2 h3 h4
    exact inb_hit ⟨.inl rfl, [], rfl, rfl, s', bs', h1, h2, h3, h4⟩
  obtain ⟨x, st', h1, rfl, s', bs', h2⟩ := key
  exact ⟨st', s', bs', h1, h2⟩

theorem wput_F {st : St} {n0 v : Nat} {n : Int} {p : V} {l : List Bool} (hw : Wr st n0 p l) (hn : n0 ≤ st.next) (hv : v < 18446744073709551616) (hl : l.length + 64 ≤ 1099511627776) :
    ∃ st', F tab fid_bits_Writer_Put [p, .int .u64 (v : Int), .int .i64 n] st = some (.tup [], st') ∧ Wr st' n0 p (l ++ top v (clamp n)) ∧ Up n0 st st' := by
  obtain ⟨o, g, s, bs, rfl, h1, h2⟩ := hw
  obtain ⟨st', s', bs', k1, k2, k3, k4, _⟩ := h1.put h2 hn hv hl
  exact ⟨st', k1, ⟨o, g, s', bs', rfl, k2, k3⟩, k4⟩

end Go.Ab
