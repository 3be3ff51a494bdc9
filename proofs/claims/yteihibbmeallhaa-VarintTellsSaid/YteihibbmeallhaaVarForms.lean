/- VarintForms on the abstract machine. -/
import Derived.Test.YteihibbmeallhaaVarPure
namespace Go.Ab
open Go
set_option linter.unusedVariables false
set_option linter.unusedSimpArgs false

theorem putV_form (v : Nat) : ∃ ys c, putV v = ys ++ [c] ∧ (∀ y ∈ ys, 128 ≤ y ∧ y < 256) ∧ c < 128 := by
  induction v using Nat.strongRecOn with
  | ind v ih =>
    by_cases h : v < 128
    · exact ⟨[], v, by rw [putV_small h]; rfl, by simp, h⟩
    · obtain ⟨ys, c, h1, h2, h3⟩ := ih (v / 128) (by omega)
      refine ⟨(v % 128 + 128) :: ys, c, by rw [putV_big h, h1]; rfl, fun y hy => ?_, h3⟩
      rcases List.mem_cons.1 hy with e | e
      · omega
      · exact h2 y e

theorem take_noughts {most : Nat} : ∀ (ys : List Nat) (i w : Nat), (∀ y ∈ ys, 128 ≤ y) → (i > 0 ∨ ys ≠ []) → takeV most i w (ys ++ [0]) = (0, 0, 21)
  | [], i, w, h, hi => by
    rw [List.nil_append, takeV, if_pos (.inr ⟨by rcases hi with h | h; exact h; exact absurd rfl h, rfl⟩)]
  | y :: ys, i, w, h, hi => by
    rw [List.cons_append, takeV]
    have hy := h y List.mem_cons_self
    split
    · rfl
    · exact take_noughts ys (i + 1) _ (fun z hz => h z (List.mem_cons_of_mem _ hz)) (.inl (by omega))

/-- A cell of one's own. -/
theorem Own.cell {st : St} {n : Nat} {x : V} {es : List (List V)} (h : Own st n 1 x es) (hn : n ≤ st.next) {i : Nat} {e : V} (hi : es[i]? = some [e]) :
    ∃ o g, x = .sl o g 0 es.length 1 none ∧ st.load (.ptr o g i 0) 1 false = some e ∧ ∀ k z, ∃ st', st.store (.ptr o g i 0) 1 (.int k z) = some st' ∧ Own st' n 1 x (es.set i [.int k z]) ∧ Up n st st' := by
  cases h with
  | nil => cases hi
  | row h hl hno hlt =>
    rename_i o g live
    refine ⟨o, g, rfl, by simp [St.load, h, hl, hi, cut], fun k z => ?_⟩
    refine ⟨st.set o (.row (es.set i [.int k z]) g g false), by simp [St.store, h, hi, lay, cellsOf], ?_, Up.set _ hn hno hlt⟩
    have : es.length = (es.set i [V.int k z]).length := by simp
    rw [this]
    exact .row (by rw [St.get_set, if_pos rfl]) (Nat.le_refl _) hno hlt

theorem forms_F {st : St} (hlow : st.Low) {n shift k : Nat} (hn : n < 18446744073709551616) (hsh : shift < 256) (hk : k < 256) :
    ∃ st', F tab fid_archipelagolaw2_VarintForms [.int .u64 (n : Int), .int .u8 (shift : Int), .int .u8 (k : Int)] st = some (.bool true, st') := by
  obtain ⟨st1, hkn, u1⟩ := known_F hlow
  have low1 := u1.low hlow
  have hrem : ((shift : Nat) : Int).tmod 64 = ((shift % 64 : Nat) : Int) := rfl
  have hnn : ¬ ((shift % 64 : Nat) : Int) < 0 := by omega
  have hshr := shr_nat (k := .u64) (a := n) (s := shift % 64) hn
  have hx : n / 2 ^ (shift % 64) < 18446744073709551616 := Nat.lt_of_le_of_lt (Nat.div_le_self _ _) hn
  generalize n / 2 ^ (shift % 64) = x at *
  have hpx : putL [x] = putV x := by simp [putL]
  have hlen := putV_length x
  have hlen2 := putV_len10 hx
  have hne : putV x ≠ [] := fun e => by rw [e] at hlen; simp at hlen
  obtain ⟨o, g, st2, h1, h2, u2⟩ := put_lit low1 [x] (by simp [hx]) (by rw [hpx]; omega) (by rw [hpx]; exact hne)
  rw [hpx] at h1 h2
  have low2 := u2.low low1
  have q2 := h2.slc.elems
  obtain ⟨c1, st3, e3, o3, u3⟩ := (Own.nil : Own st2 st2.next 1 .nils []).append (bytes := 1) (ys := bytes (putV x)) (Nat.le_refl _) (by simp only [bytes_length, List.length_nil, room]; omega)
  rw [List.nil_append] at o3
  simp only [nums, List.map_cons, List.map_nil, List.length_cons, List.length_nil, Nat.reduceAdd] at h1
  have hl0 : (((putV x).length : Int) == 0) = false := by simp; omega
  have key : ∃ v st', F tab fid_archipelagolaw2_VarintForms [.int .u64 (n : Int), .int .u8 (shift : Int), .int .u8 (k : Int)] st = some (v, st') ∧ v = .bool true := by
    refine F_fnR tab_archipelagolaw2_VarintForms rfl ?_
    unfold ir_archipelagolaw2_VarintForms
    simp only [envOf]
    refine X_seq (X_reg (by simp only [evReg, guardOk, wantedI, IOp.run, IOp.ex, Opd.ev, evs, Env.get, Env.put, Env.keep, V.bin, V.un, intOp, shiftOp, fillRow, fillCells, cellsOf, V.one, optInt, bytesOfRow, byteOfCells, ofRes, strOp, List.map_cons, List.map_nil, List.getElem?_cons_zero, List.getElem?_cons_succ, Option.map_some, Option.map_none, reduceIte, reduceCtorEq, if_true, if_false, Nat.reduceEqDiff, Nat.reduceLT, Nat.reduceAdd, Nat.reduceLeDiff, Nat.reduceMul, Int.reduceToNat, Int.reduceLT, Int.reduceLE, Int.reduceEq, Int.reduceNe, Int.reduceBEq, Int.reduceBNe, decide_true, decide_false, List.replicate, List.set_cons_zero, List.set_cons_succ, List.length_cons, List.length_nil, List.all_cons, List.all_nil, Bool.and_true, Bool.true_and, Bool.and_self, and_self, and_true, true_and, Nat.zero_lt_succ, Nat.lt_add_one, beq_self_eq_true, beq_ft, beq_tf, Bool.not_true, Bool.not_false]; rfl) (thn_norm (X_seq (X_seq ?_))))
    refine X_reg (by simp only [evReg, guardOk, wantedI, IOp.run, IOp.ex, Opd.ev, evs, Env.get, Env.put, Env.keep, V.bin, V.un, intOp, shiftOp, fillRow, fillCells, cellsOf, V.one, optInt, bytesOfRow, byteOfCells, ofRes, strOp, List.map_cons, List.map_nil, List.getElem?_cons_zero, List.getElem?_cons_succ, Option.map_some, Option.map_none, reduceIte, reduceCtorEq, if_true, if_false, Nat.reduceEqDiff, Nat.reduceLT, Nat.reduceAdd, Nat.reduceLeDiff, Nat.reduceMul, Int.reduceToNat, Int.reduceLT, Int.reduceLE, Int.reduceEq, Int.reduceNe, Int.reduceBEq, Int.reduceBNe, decide_true, decide_false, List.replicate, List.set_cons_zero, List.set_cons_succ, List.length_cons, List.length_nil, List.all_cons, List.all_nil, Bool.and_true, Bool.true_and, Bool.and_self, and_self, and_true, true_and, Nat.zero_lt_succ, Nat.lt_add_one, beq_self_eq_true, beq_ft, beq_tf, Bool.not_true, Bool.not_false, hkn]; rfl) (thn_norm ?_)
    refine X_false (by simp only [evReg, guardOk, wantedI, IOp.run, IOp.ex, Opd.ev, evs, Env.get, Env.put, Env.keep, V.bin, V.un, intOp, shiftOp, fillRow, fillCells, cellsOf, V.one, optInt, bytesOfRow, byteOfCells, ofRes, strOp, List.map_cons, List.map_nil, List.getElem?_cons_zero, List.getElem?_cons_succ, Option.map_some, Option.map_none, reduceIte, reduceCtorEq, if_true, if_false, Nat.reduceEqDiff, Nat.reduceLT, Nat.reduceAdd, Nat.reduceLeDiff, Nat.reduceMul, Int.reduceToNat, Int.reduceLT, Int.reduceLE, Int.reduceEq, Int.reduceNe, Int.reduceBEq, Int.reduceBNe, decide_true, decide_false, List.replicate, List.set_cons_zero, List.set_cons_succ, List.length_cons, List.length_nil, List.all_cons, List.all_nil, Bool.and_true, Bool.true_and, Bool.and_self, and_self, and_true, true_and, Nat.zero_lt_succ, Nat.lt_add_one, beq_self_eq_true, beq_ft, beq_tf, Bool.not_true, Bool.not_false]) (X_skip (thn_norm (X_seq ?_)))
    refine X_reg (by simp only [evReg, guardOk, wantedI, IOp.run, IOp.ex, Opd.ev, evs, Env.get, Env.put, Env.keep, V.bin, V.un, intOp, shiftOp, fillRow, fillCells, cellsOf, V.one, optInt, bytesOfRow, byteOfCells, ofRes, strOp, List.map_cons, List.map_nil, List.getElem?_cons_zero, List.getElem?_cons_succ, Option.map_some, Option.map_none, reduceIte, reduceCtorEq, if_true, if_false, Nat.reduceEqDiff, Nat.reduceLT, Nat.reduceAdd, Nat.reduceLeDiff, Nat.reduceMul, Int.reduceToNat, Int.reduceLT, Int.reduceLE, Int.reduceEq, Int.reduceNe, Int.reduceBEq, Int.reduceBNe, decide_true, decide_false, List.replicate, List.set_cons_zero, List.set_cons_succ, List.length_cons, List.length_nil, List.all_cons, List.all_nil, Bool.and_true, Bool.true_and, Bool.and_self, and_self, and_true, true_and, Nat.zero_lt_succ, Nat.lt_add_one, beq_self_eq_true, beq_ft, beq_tf, Bool.not_true, Bool.not_false, Int.reduceEq, hrem, hnn, hshr, h1]; rfl) (thn_norm (X_seq (X_seq ?_)))
    refine X_reg (by simp only [evReg, guardOk, wantedI, IOp.run, IOp.ex, Opd.ev, evs, Env.get, Env.put, Env.keep, V.bin, V.un, intOp, shiftOp, fillRow, fillCells, cellsOf, V.one, optInt, bytesOfRow, byteOfCells, ofRes, strOp, List.map_cons, List.map_nil, List.getElem?_cons_zero, List.getElem?_cons_succ, Option.map_some, Option.map_none, reduceIte, reduceCtorEq, if_true, if_false, Nat.reduceEqDiff, Nat.reduceLT, Nat.reduceAdd, Nat.reduceLeDiff, Nat.reduceMul, Int.reduceToNat, Int.reduceLT, Int.reduceLE, Int.reduceEq, Int.reduceNe, Int.reduceBEq, Int.reduceBNe, decide_true, decide_false, List.replicate, List.set_cons_zero, List.set_cons_succ, List.length_cons, List.length_nil, List.all_cons, List.all_nil, Bool.and_true, Bool.true_and, Bool.and_self, and_self, and_true, true_and, Nat.zero_lt_succ, Nat.lt_add_one, beq_self_eq_true, beq_ft, beq_tf, Bool.not_true, Bool.not_false, hl0]; rfl) (thn_norm ?_)
    refine X_false (by simp only [evReg, guardOk, wantedI, IOp.run, IOp.ex, Opd.ev, evs, Env.get, Env.put, Env.keep, V.bin, V.un, intOp, shiftOp, fillRow, fillCells, cellsOf, V.one, optInt, bytesOfRow, byteOfCells, ofRes, strOp, List.map_cons, List.map_nil, List.getElem?_cons_zero, List.getElem?_cons_succ, Option.map_some, Option.map_none, reduceIte, reduceCtorEq, if_true, if_false, Nat.reduceEqDiff, Nat.reduceLT, Nat.reduceAdd, Nat.reduceLeDiff, Nat.reduceMul, Int.reduceToNat, Int.reduceLT, Int.reduceLE, Int.reduceEq, Int.reduceNe, Int.reduceBEq, Int.reduceBNe, decide_true, decide_false, List.replicate, List.set_cons_zero, List.set_cons_succ, List.length_cons, List.length_nil, List.all_cons, List.all_nil, Bool.and_true, Bool.true_and, Bool.and_self, and_self, and_true, true_and, Nat.zero_lt_succ, Nat.lt_add_one, beq_self_eq_true, beq_ft, beq_tf, Bool.not_true, Bool.not_false]) (X_skip (thn_norm (X_seq ?_)))
    refine X_reg (by simp only [evReg, guardOk, wantedI, IOp.run, IOp.ex, Opd.ev, evs, Env.get, Env.put, Env.keep, V.bin, V.un, intOp, shiftOp, fillRow, fillCells, cellsOf, V.one, optInt, bytesOfRow, byteOfCells, ofRes, strOp, List.map_cons, List.map_nil, List.getElem?_cons_zero, List.getElem?_cons_succ, Option.map_some, Option.map_none, reduceIte, reduceCtorEq, if_true, if_false, Nat.reduceEqDiff, Nat.reduceLT, Nat.reduceAdd, Nat.reduceLeDiff, Nat.reduceMul, Int.reduceToNat, Int.reduceLT, Int.reduceLE, Int.reduceEq, Int.reduceNe, Int.reduceBEq, Int.reduceBNe, decide_true, decide_false, List.replicate, List.set_cons_zero, List.set_cons_succ, List.length_cons, List.length_nil, List.all_cons, List.all_nil, Bool.and_true, Bool.true_and, Bool.and_self, and_self, and_true, true_and, Nat.zero_lt_succ, Nat.lt_add_one, beq_self_eq_true, beq_ft, beq_tf, Bool.not_true, Bool.not_false, q2, e3]; rfl) (thn_norm (X_seq (X_seq ?_)))
    refine X_reg (by simp only [evReg, guardOk, wantedI, IOp.run, IOp.ex, Opd.ev, evs, Env.get, Env.put, Env.keep, V.bin, V.un, intOp, shiftOp, fillRow, fillCells, cellsOf, V.one, optInt, bytesOfRow, byteOfCells, ofRes, strOp, List.map_cons, List.map_nil, List.getElem?_cons_zero, List.getElem?_cons_succ, Option.map_some, Option.map_none, reduceIte, reduceCtorEq, if_true, if_false, Nat.reduceEqDiff, Nat.reduceLT, Nat.reduceAdd, Nat.reduceLeDiff, Nat.reduceMul, Int.reduceToNat, Int.reduceLT, Int.reduceLE, Int.reduceEq, Int.reduceNe, Int.reduceBEq, Int.reduceBNe, decide_true, decide_false, List.replicate, List.set_cons_zero, List.set_cons_succ, List.length_cons, List.length_nil, List.all_cons, List.all_nil, Bool.and_true, Bool.true_and, Bool.and_self, and_self, and_true, true_and, Nat.zero_lt_succ, Nat.lt_add_one, beq_self_eq_true, beq_ft, beq_tf, Bool.not_true, Bool.not_false]; rfl) (thn_norm (X_block ?_))
    have hrk : ((k : Nat) : Int).tmod 3 = ((k % 3 : Nat) : Int) := rfl
    have hck : IntKind.i64.wrap ((k % 3 : Nat) : Int) = ((k % 3 : Nat) : Int) := wrap_i64_nat (by omega)
    have hak : IntKind.i64.wrap (((k % 3 : Nat) : Int) + 1) = ((k % 3 + 1 : Nat) : Int) := wrap_i64_nat (n := k % 3 + 1) (by omega)
    refine X_while (fun m env1 st4 => ∃ j s ys c, j ≤ k % 3 + 1 ∧ k % 3 + 1 - j = m ∧ Env.get env1 2 = .int .u8 (k : Int) ∧ Env.get env1 8 = s ∧ Env.get env1 9 = .int .i64 ((j : Nat) : Int) ∧ Own st4 st2.next 1 s (bytes (ys ++ [c])) ∧ Up st2.next st2 st4 ∧ (∀ y ∈ ys, 128 ≤ y ∧ y < 256) ∧ c < 256 ∧ ys.length ≤ 9 + j ∧ (j > 0 → c = 0 ∧ ys ≠ [])) (k % 3 + 1) ?_ ?_
    · obtain ⟨ys, c, f1, f2, f3⟩ := putV_form x
      have := congrArg List.length f1
      rw [List.length_append, List.length_singleton] at this
      exact ⟨0, c1, ys, c, Nat.zero_le _, rfl, rfl, rfl, rfl, by rw [← f1]; exact o3, u3, f2, by omega, by omega, fun h => by omega⟩
    · rintro m env1 st4 K hK hE ⟨j, s, ys, c, hj, hm, g2, g8, g9, ho, hu, hys, hc, hyl, hj0⟩
      simp only [Env.keep, g2, g8, g9]
      unfold archipelagolaw2_VarintForms_b0
      refine X_seq (X_seq ?_)
      refine X_reg (by simp only [evReg, guardOk, wantedI, IOp.run, IOp.ex, Opd.ev, evs, Env.get, Env.put, Env.keep, V.bin, V.un, intOp, shiftOp, fillRow, fillCells, cellsOf, V.one, optInt, bytesOfRow, byteOfCells, ofRes, strOp, List.map_cons, List.map_nil, List.getElem?_cons_zero, List.getElem?_cons_succ, Option.map_some, Option.map_none, reduceIte, reduceCtorEq, if_true, if_false, Nat.reduceEqDiff, Nat.reduceLT, Nat.reduceAdd, Nat.reduceLeDiff, Nat.reduceMul, Int.reduceToNat, Int.reduceLT, Int.reduceLE, Int.reduceEq, Int.reduceNe, Int.reduceBEq, Int.reduceBNe, decide_true, decide_false, List.replicate, List.set_cons_zero, List.set_cons_succ, List.length_cons, List.length_nil, List.all_cons, List.all_nil, Bool.and_true, Bool.true_and, Bool.and_self, and_self, and_true, true_and, Nat.zero_lt_succ, Nat.lt_add_one, beq_self_eq_true, beq_ft, beq_tf, Bool.not_true, Bool.not_false, Int.reduceEq, hrk, hck, hak]; rfl) (thn_norm ?_)
      by_cases hlt : (j : Int) < ((k % 3 + 1 : Nat) : Int)
      · refine X_true (by simp only [evReg, guardOk, wantedI, IOp.run, IOp.ex, Opd.ev, evs, Env.get, Env.put, Env.keep, V.bin, V.un, intOp, shiftOp, fillRow, fillCells, cellsOf, V.one, optInt, bytesOfRow, byteOfCells, ofRes, strOp, List.map_cons, List.map_nil, List.getElem?_cons_zero, List.getElem?_cons_succ, Option.map_some, Option.map_none, reduceIte, reduceCtorEq, if_true, if_false, Nat.reduceEqDiff, Nat.reduceLT, Nat.reduceAdd, Nat.reduceLeDiff, Nat.reduceMul, Int.reduceToNat, Int.reduceLT, Int.reduceLE, Int.reduceEq, Int.reduceNe, Int.reduceBEq, Int.reduceBNe, decide_true, decide_false, List.replicate, List.set_cons_zero, List.set_cons_succ, List.length_cons, List.length_nil, List.all_cons, List.all_nil, Bool.and_true, Bool.true_and, Bool.and_self, and_self, and_true, true_and, Nat.zero_lt_succ, Nat.lt_add_one, beq_self_eq_true, beq_ft, beq_tf, Bool.not_true, Bool.not_false, hlt]) (X_skip (thn_norm (X_seq (X_block (X_seq ?_)))))
        have hnext := hu.next
        have hlenb : (bytes (ys ++ [c])).length = ys.length + 1 := by rw [bytes_length]; simp
        have hgc : (bytes (ys ++ [c]))[ys.length]? = some [.int .u8 (c : Int)] := bytes_get (by simp)
        obtain ⟨o', g', rfl, hld, hst⟩ := ho.cell hnext hgc
        obtain ⟨st5, s1, s2, s3⟩ := hst .u8 ((c ||| 128 : Nat) : Int)
        have hor : bitsOf .or .u8 (c : Int) 128 = some ((c ||| 128 : Nat) : Int) := or_u8 (a := c) (b := 128) hc (by omega)
        have hsb : IntKind.i64.wrap (((ys.length + 1 : Nat) : Int) - 1) = ((ys.length : Nat) : Int) := by
          have := wrap_i64_nat (n := ys.length) (by omega)
          rw [← this]; congr 1; omega
        have hin : (0 : Int) ≤ (ys.length : Int) ∧ ((ys.length : Nat) : Int) < ((ys.length + 1 : Nat) : Int) := by omega
        have htn : ((ys.length : Nat) : Int).toNat = ys.length := by omega
        rw [hlenb] at s2
        refine X_reg (by simp only [evReg, guardOk, wantedI, IOp.run, IOp.ex, Opd.ev, evs, Env.get, Env.put, Env.keep, V.bin, V.un, intOp, shiftOp, fillRow, fillCells, cellsOf, V.one, optInt, bytesOfRow, byteOfCells, ofRes, strOp, List.map_cons, List.map_nil, List.getElem?_cons_zero, List.getElem?_cons_succ, Option.map_some, Option.map_none, reduceIte, reduceCtorEq, if_true, if_false, Nat.reduceEqDiff, Nat.reduceLT, Nat.reduceAdd, Nat.reduceLeDiff, Nat.reduceMul, Int.reduceToNat, Int.reduceLT, Int.reduceLE, Int.reduceEq, Int.reduceNe, Int.reduceBEq, Int.reduceBNe, decide_true, decide_false, List.replicate, List.set_cons_zero, List.set_cons_succ, List.length_cons, List.length_nil, List.all_cons, List.all_nil, Bool.and_true, Bool.true_and, Bool.and_self, and_self, and_true, true_and, Nat.zero_lt_succ, Nat.lt_add_one, beq_self_eq_true, beq_ft, beq_tf, Bool.not_true, Bool.not_false, hlenb, hsb, hin, htn, Nat.zero_add, hld, hor, s1]; rfl) (thn_norm ?_)
        have hset : (bytes (ys ++ [c])).set ys.length [.int .u8 ((c ||| 128 : Nat) : Int)] = bytes (ys ++ [c ||| 128]) := by
          simp [bytes]
        rw [hset] at s2
        have hor2 := or128 hc
        have hn5 := s3.next
        obtain ⟨s', st6, p1, p2, p3⟩ := (s2.up (st' := st5.push (.row (bytes [0]) 0 0 false)) (Up.push _ (Nat.le_refl _))).append (bytes := 1) (ys := bytes [0]) (by rw [St.next_push]; omega) (by simp only [bytes_length, List.length_append, List.length_cons, List.length_nil, room]; omega)
        have hel := (slc_new (st := st5) (bytes [0]) 1).elems
        simp only [bytes, List.map_cons, List.map_nil, List.length_cons, List.length_nil, Nat.reduceAdd, Int.natCast_zero] at hel p1
        refine X_reg (by simp only [evReg, guardOk, wantedI, IOp.run, IOp.ex, Opd.ev, evs, Env.get, Env.put, Env.keep, V.bin, V.un, intOp, shiftOp, fillRow, fillCells, cellsOf, V.one, optInt, bytesOfRow, byteOfCells, ofRes, strOp, List.map_cons, List.map_nil, List.getElem?_cons_zero, List.getElem?_cons_succ, Option.map_some, Option.map_none, reduceIte, reduceCtorEq, if_true, if_false, Nat.reduceEqDiff, Nat.reduceLT, Nat.reduceAdd, Nat.reduceLeDiff, Nat.reduceMul, Int.reduceToNat, Int.reduceLT, Int.reduceLE, Int.reduceEq, Int.reduceNe, Int.reduceBEq, Int.reduceBNe, decide_true, decide_false, List.replicate, List.set_cons_zero, List.set_cons_succ, List.length_cons, List.length_nil, List.all_cons, List.all_nil, Bool.and_true, Bool.true_and, Bool.and_self, and_self, and_true, true_and, Nat.zero_lt_succ, Nat.lt_add_one, beq_self_eq_true, beq_ft, beq_tf, Bool.not_true, Bool.not_false, hel, p1]; rfl) (inb_norm (thn_norm ?_))
        have hadd : IntKind.i64.wrap ((j : Int) + 1) = ((j + 1 : Nat) : Int) := wrap_i64_nat (n := j + 1) (by omega)
        refine X_reg (by simp only [evReg, guardOk, wantedI, IOp.run, IOp.ex, Opd.ev, evs, Env.get, Env.put, Env.keep, V.bin, V.un, intOp, shiftOp, fillRow, fillCells, cellsOf, V.one, optInt, bytesOfRow, byteOfCells, ofRes, strOp, List.map_cons, List.map_nil, List.getElem?_cons_zero, List.getElem?_cons_succ, Option.map_some, Option.map_none, reduceIte, reduceCtorEq, if_true, if_false, Nat.reduceEqDiff, Nat.reduceLT, Nat.reduceAdd, Nat.reduceLeDiff, Nat.reduceMul, Int.reduceToNat, Int.reduceLT, Int.reduceLE, Int.reduceEq, Int.reduceNe, Int.reduceBEq, Int.reduceBNe, decide_true, decide_false, List.replicate, List.set_cons_zero, List.set_cons_succ, List.length_cons, List.length_nil, List.all_cons, List.all_nil, Bool.and_true, Bool.true_and, Bool.and_self, and_self, and_true, true_and, Nat.zero_lt_succ, Nat.lt_add_one, beq_self_eq_true, beq_ft, beq_tf, Bool.not_true, Bool.not_false, hadd]; rfl) ?_
        refine hK (k % 3 + 1 - (j + 1)) _ _ (by omega) ⟨j + 1, s', ys ++ [c ||| 128], 0, by omega, rfl, rfl, rfl, rfl, ?_, ?_, ?_, by omega, by rw [List.length_append, List.length_singleton]; omega, fun _ => ⟨rfl, by simp⟩⟩
        · rw [bytes_append]; exact p2
        · exact hu.trans (s3.trans ((Up.push _ (by omega)).trans p3))
        · intro y hy
          rcases List.mem_append.1 hy with h | h
          · exact hys y h
          · rw [List.mem_singleton] at h; omega
      · refine X_false (by simp only [evReg, guardOk, wantedI, IOp.run, IOp.ex, Opd.ev, evs, Env.get, Env.put, Env.keep, V.bin, V.un, intOp, shiftOp, fillRow, fillCells, cellsOf, V.one, optInt, bytesOfRow, byteOfCells, ofRes, strOp, List.map_cons, List.map_nil, List.getElem?_cons_zero, List.getElem?_cons_succ, Option.map_some, Option.map_none, reduceIte, reduceCtorEq, if_true, if_false, Nat.reduceEqDiff, Nat.reduceLT, Nat.reduceAdd, Nat.reduceLeDiff, Nat.reduceMul, Int.reduceToNat, Int.reduceLT, Int.reduceLE, Int.reduceEq, Int.reduceNe, Int.reduceBEq, Int.reduceBNe, decide_true, decide_false, List.replicate, List.set_cons_zero, List.set_cons_succ, List.length_cons, List.length_nil, List.all_cons, List.all_nil, Bool.and_true, Bool.true_and, Bool.and_self, and_self, and_true, true_and, Nat.zero_lt_succ, Nat.lt_add_one, beq_self_eq_true, beq_ft, beq_tf, Bool.not_true, Bool.not_false, hlt]) (X_exit (thn_exit (hE _ _ _ (by simp) (inb_hit (thn_norm (X_seq ?_))))))
        obtain ⟨rfl, hyne⟩ := hj0 (by omega)
        have t := take_F (most := 18446744073709551615) ho.slc (fun y hy => by
          rcases List.mem_append.1 hy with h | h
          · exact (hys y h).2
          · rw [List.mem_singleton] at h; omega) (by omega) (by rw [List.length_append, List.length_singleton]; omega)
        rw [take_noughts ys 0 0 (fun y hy => (hys y hy).1) (.inr hyne)] at t
        simp only [took, Int.natCast_zero, Int.natCast_one, Int.cast_ofNat_Int] at t
        refine X_reg (by simp only [evReg, guardOk, wantedI, IOp.run, IOp.ex, Opd.ev, evs, Env.get, Env.put, Env.keep, V.bin, V.un, intOp, shiftOp, fillRow, fillCells, cellsOf, V.one, optInt, bytesOfRow, byteOfCells, ofRes, strOp, List.map_cons, List.map_nil, List.getElem?_cons_zero, List.getElem?_cons_succ, Option.map_some, Option.map_none, reduceIte, reduceCtorEq, if_true, if_false, Nat.reduceEqDiff, Nat.reduceLT, Nat.reduceAdd, Nat.reduceLeDiff, Nat.reduceMul, Int.reduceToNat, Int.reduceLT, Int.reduceLE, Int.reduceEq, Int.reduceNe, Int.reduceBEq, Int.reduceBNe, decide_true, decide_false, List.replicate, List.set_cons_zero, List.set_cons_succ, List.length_cons, List.length_nil, List.all_cons, List.all_nil, Bool.and_true, Bool.true_and, Bool.and_self, and_self, and_true, true_and, Nat.zero_lt_succ, Nat.lt_add_one, beq_self_eq_true, beq_ft, beq_tf, Bool.not_true, Bool.not_false, t]; rfl) (thn_norm (X_seq ?_))
        refine X_reg (by simp only [evReg, guardOk, wantedI, IOp.run, IOp.ex, Opd.ev, evs, Env.get, Env.put, Env.keep, V.bin, V.un, intOp, shiftOp, fillRow, fillCells, cellsOf, V.one, optInt, bytesOfRow, byteOfCells, ofRes, strOp, List.map_cons, List.map_nil, List.getElem?_cons_zero, List.getElem?_cons_succ, Option.map_some, Option.map_none, reduceIte, reduceCtorEq, if_true, if_false, Nat.reduceEqDiff, Nat.reduceLT, Nat.reduceAdd, Nat.reduceLeDiff, Nat.reduceMul, Int.reduceToNat, Int.reduceLT, Int.reduceLE, Int.reduceEq, Int.reduceNe, Int.reduceBEq, Int.reduceBNe, decide_true, decide_false, List.replicate, List.set_cons_zero, List.set_cons_succ, List.length_cons, List.length_nil, List.all_cons, List.all_nil, Bool.and_true, Bool.true_and, Bool.and_self, and_self, and_true, true_and, Nat.zero_lt_succ, Nat.lt_add_one, beq_self_eq_true, beq_ft, beq_tf, Bool.not_true, Bool.not_false]; rfl) (thn_norm (X_ret ⟨.inr rfl, _, rfl, ?_⟩))
        simp only [evReg, guardOk, wantedI, IOp.run, IOp.ex, Opd.ev, evs, Env.get, Env.put, Env.keep, V.bin, V.un, intOp, shiftOp, fillRow, fillCells, cellsOf, V.one, optInt, bytesOfRow, byteOfCells, ofRes, strOp, List.map_cons, List.map_nil, List.getElem?_cons_zero, List.getElem?_cons_succ, Option.map_some, Option.map_none, reduceIte, reduceCtorEq, if_true, if_false, Nat.reduceEqDiff, Nat.reduceLT, Nat.reduceAdd, Nat.reduceLeDiff, Nat.reduceMul, Int.reduceToNat, Int.reduceLT, Int.reduceLE, Int.reduceEq, Int.reduceNe, Int.reduceBEq, Int.reduceBNe, decide_true, decide_false, List.replicate, List.set_cons_zero, List.set_cons_succ, List.length_cons, List.length_nil, List.all_cons, List.all_nil, Bool.and_true, Bool.true_and, Bool.and_self, and_self, and_true, true_and, Nat.zero_lt_succ, Nat.lt_add_one, beq_self_eq_true, beq_ft, beq_tf, Bool.not_true, Bool.not_false]
  obtain ⟨v, st', k1, rfl⟩ := key
  exact ⟨st', k1⟩

end Go.Ab
