/- bits.Flip on the abstract machine. -/
import Derived.Test.YtgndjeknneaeiaaBitsTake
namespace Go.Ab
open Go
set_option linter.unusedVariables false
set_option linter.unusedSimpArgs false

/-- The bytes after so many turns. -/
def flips (bs : List Nat) (from' : Int) (mask : Nat) : Nat → List Nat
  | 0 => bs
  | i + 1 =>
    if mask.testBit i = true ∧ 0 ≤ from' + i ∧ from' + i < 8 * (bs.length : Int) then
      (flips bs from' mask i).set ((from' + i).toNat / 8) ((flips bs from' mask i).getD ((from' + i).toNat / 8) 0 ^^^ 2 ^ ((from' + i).toNat % 8))
    else flips bs from' mask i

theorem flips_length (bs : List Nat) (f : Int) (m i : Nat) : (flips bs f m i).length = bs.length := by
  induction i with
  | zero => rfl
  | succ i ih => rw [flips]; split <;> simp [ih]

theorem flips_lt {bs : List Nat} (h : ∀ b ∈ bs, b < 256) (f : Int) (m i : Nat) : ∀ b ∈ flips bs f m i, b < 256 := by
  induction i with
  | zero => exact h
  | succ i ih =>
    rw [flips]
    split
    · rename_i hc
      intro b hb
      rcases List.mem_or_eq_of_mem_set hb with e | e
      · exact ih b e
      · rw [e]
        have h1 : (flips bs f m i).getD ((f + i).toNat / 8) 0 < 2 ^ 8 := by
          rw [List.getD_eq_getElem?_getD]
          cases hg : (flips bs f m i)[(f + i).toNat / 8]? with
          | none => decide
          | some x => exact ih x (List.mem_of_getElem? hg)
        have h2 : 2 ^ ((f + i).toNat % 8) < 2 ^ 8 := Nat.pow_lt_pow_right (by omega) (by omega)
        exact Nat.xor_lt_two_pow h1 h2
    · exact ih

/-- Behind the mask's last bit nothing turns. -/
theorem flips_end {bs : List Nat} {f : Int} {m i : Nat} (h : m / 2 ^ i = 0) : ∀ k, i ≤ k → flips bs f m k = flips bs f m i
  | 0, hk => by obtain rfl : i = 0 := by omega
                rfl
  | k + 1, hk => by
    by_cases e : i = k + 1
    · subst e; rfl
    · have hlt : m < 2 ^ i := by
        rcases Nat.lt_or_ge m (2 ^ i) with h1 | h1
        · exact h1
        · have := Nat.div_pos h1 (Nat.pow_pos (by omega : 0 < 2)); omega
      have hb : m.testBit k = false := Nat.testBit_lt_two_pow (Nat.lt_of_lt_of_le hlt (Nat.pow_le_pow_right (by omega) (by omega)))
      rw [flips, if_neg (by rw [hb]; simp)]
      exact flips_end h k (by omega)

theorem flip_F {st : St} (hlow : st.Low) {b : V} {bs : List Nat} {f : Int} {m : Nat} (hb : Slc st 1 b (bytes bs)) (hlt : ∀ x ∈ bs, x < 256) (hl : bs.length ≤ 1099511627776) (hf : -9223372036854775808 ≤ f ∧ f ≤ 9223372036854775807) (hm : m < 4294967296) :
    ∃ x st', F tab fid_bits_Flip [b, .int .i64 f, .int .u32 (m : Int)] st = some (x, st') ∧ Own st' st.next 1 x (bytes (flips bs f m 32)) ∧ Up st.next st st' := by
  obtain ⟨x0, st1, c1, c2, c3⟩ := clone_F hlow hb hl
  refine F_fnR tab_bits_Flip rfl ?_
  unfold ir_bits_Flip
  simp only [envOf]
  refine X_seq (X_reg (by simp only [evReg, guardOk, wantedI, IOp.run, IOp.ex, Opd.ev, evs, Env.get, Env.put, Env.keep, V.bin, V.un, intOp, shiftOp, fillRow, fillCells, cellsOf, V.one, optInt, bytesOfRow, byteOfCells, ofRes, strOp, List.map_cons, List.map_nil, List.getElem?_cons_zero, List.getElem?_cons_succ, Option.map_some, Option.map_none, reduceIte, reduceCtorEq, if_true, if_false, Nat.reduceEqDiff, Nat.reduceLT, Nat.reduceAdd, Nat.reduceLeDiff, Nat.reduceMul, Int.reduceToNat, Int.reduceLT, Int.reduceLE, Int.reduceEq, Int.reduceNe, Int.reduceBEq, Int.reduceBNe, decide_true, decide_false, List.replicate, List.set_cons_zero, List.set_cons_succ, List.length_cons, List.length_nil, List.all_cons, List.all_nil, Bool.and_true, Bool.true_and, Bool.and_self, and_self, and_true, true_and, Nat.zero_lt_succ, Nat.lt_add_one, beq_self_eq_true, beq_ft, beq_tf, Bool.not_true, Bool.not_false]; rfl) (thn_norm (X_seq ?_)))
  refine X_reg (by simp only [evReg, guardOk, wantedI, IOp.run, IOp.ex, Opd.ev, evs, Env.get, Env.put, Env.keep, V.bin, V.un, intOp, shiftOp, fillRow, fillCells, cellsOf, V.one, optInt, bytesOfRow, byteOfCells, ofRes, strOp, List.map_cons, List.map_nil, List.getElem?_cons_zero, List.getElem?_cons_succ, Option.map_some, Option.map_none, reduceIte, reduceCtorEq, if_true, if_false, Nat.reduceEqDiff, Nat.reduceLT, Nat.reduceAdd, Nat.reduceLeDiff, Nat.reduceMul, Int.reduceToNat, Int.reduceLT, Int.reduceLE, Int.reduceEq, Int.reduceNe, Int.reduceBEq, Int.reduceBNe, decide_true, decide_false, List.replicate, List.set_cons_zero, List.set_cons_succ, List.length_cons, List.length_nil, List.all_cons, List.all_nil, Bool.and_true, Bool.true_and, Bool.and_self, and_self, and_true, true_and, Nat.zero_lt_succ, Nat.lt_add_one, beq_self_eq_true, beq_ft, beq_tf, Bool.not_true, Bool.not_false, c1]; rfl) (thn_norm (X_seq (X_seq ?_)))
  refine X_reg (by simp only [evReg, guardOk, wantedI, IOp.run, IOp.ex, Opd.ev, evs, Env.get, Env.put, Env.keep, V.bin, V.un, intOp, shiftOp, fillRow, fillCells, cellsOf, V.one, optInt, bytesOfRow, byteOfCells, ofRes, strOp, List.map_cons, List.map_nil, List.getElem?_cons_zero, List.getElem?_cons_succ, Option.map_some, Option.map_none, reduceIte, reduceCtorEq, if_true, if_false, Nat.reduceEqDiff, Nat.reduceLT, Nat.reduceAdd, Nat.reduceLeDiff, Nat.reduceMul, Int.reduceToNat, Int.reduceLT, Int.reduceLE, Int.reduceEq, Int.reduceNe, Int.reduceBEq, Int.reduceBNe, decide_true, decide_false, List.replicate, List.set_cons_zero, List.set_cons_succ, List.length_cons, List.length_nil, List.all_cons, List.all_nil, Bool.and_true, Bool.true_and, Bool.and_self, and_self, and_true, true_and, Nat.zero_lt_succ, Nat.lt_add_one, beq_self_eq_true, beq_ft, beq_tf, Bool.not_true, Bool.not_false]; rfl) (thn_norm (X_block ?_))
  have hb1 := hb.up hlow c3
  refine X_while (fun w env1 st2 => ∃ i, i ≤ 32 ∧ 32 - i = w ∧ Env.get env1 0 = b ∧ Env.get env1 1 = .int .i64 f ∧ Env.get env1 2 = .int .u32 (m : Int) ∧ Env.get env1 7 = x0 ∧ Env.get env1 8 = .int .i64 ((i : Nat) : Int) ∧ Own st2 st.next 1 x0 (bytes (flips bs f m i)) ∧ Up st.next st st2) 32 ⟨0, by omega, rfl, rfl, rfl, rfl, rfl, rfl, c2, c3⟩ ?_
  rintro w env1 st2 K hK hE ⟨i, hi, hw, g0, g1, g2, g7, g8, ho, hu⟩
  simp only [Env.keep, g0, g1, g2, g7, g8]
  unfold bits_Flip_b0
  have hnn : ¬ ((i : Nat) : Int) < 0 := by omega
  have hshr := shr_nat (k := .u32) (a := m) (s := i) hm
  refine X_seq (X_seq ?_)
  refine X_reg (by simp only [evReg, guardOk, wantedI, IOp.run, IOp.ex, Opd.ev, evs, Env.get, Env.put, Env.keep, V.bin, V.un, intOp, shiftOp, fillRow, fillCells, cellsOf, V.one, optInt, bytesOfRow, byteOfCells, ofRes, strOp, List.map_cons, List.map_nil, List.getElem?_cons_zero, List.getElem?_cons_succ, Option.map_some, Option.map_none, reduceIte, reduceCtorEq, if_true, if_false, Nat.reduceEqDiff, Nat.reduceLT, Nat.reduceAdd, Nat.reduceLeDiff, Nat.reduceMul, Int.reduceToNat, Int.reduceLT, Int.reduceLE, Int.reduceEq, Int.reduceNe, Int.reduceBEq, Int.reduceBNe, decide_true, decide_false, List.replicate, List.set_cons_zero, List.set_cons_succ, List.length_cons, List.length_nil, List.all_cons, List.all_nil, Bool.and_true, Bool.true_and, Bool.and_self, and_self, and_true, true_and, Nat.zero_lt_succ, Nat.lt_add_one, beq_self_eq_true, beq_ft, beq_tf, Bool.not_true, Bool.not_false, hnn, hshr]; rfl) (thn_norm ?_)
  by_cases hz : m / 2 ^ i = 0
  · have hz' : (((m / 2 ^ i : Nat) : Int) != 0) = false := by rw [hz]; rfl
    refine X_false (by simp only [evReg, guardOk, wantedI, IOp.run, IOp.ex, Opd.ev, evs, Env.get, Env.put, Env.keep, V.bin, V.un, intOp, shiftOp, fillRow, fillCells, cellsOf, V.one, optInt, bytesOfRow, byteOfCells, ofRes, strOp, List.map_cons, List.map_nil, List.getElem?_cons_zero, List.getElem?_cons_succ, Option.map_some, Option.map_none, reduceIte, reduceCtorEq, if_true, if_false, Nat.reduceEqDiff, Nat.reduceLT, Nat.reduceAdd, Nat.reduceLeDiff, Nat.reduceMul, Int.reduceToNat, Int.reduceLT, Int.reduceLE, Int.reduceEq, Int.reduceNe, Int.reduceBEq, Int.reduceBNe, decide_true, decide_false, List.replicate, List.set_cons_zero, List.set_cons_succ, List.length_cons, List.length_nil, List.all_cons, List.all_nil, Bool.and_true, Bool.true_and, Bool.and_self, and_self, and_true, true_and, Nat.zero_lt_succ, Nat.lt_add_one, beq_self_eq_true, beq_ft, beq_tf, Bool.not_true, Bool.not_false, hz']) (X_exit (thn_exit (hE _ _ _ (by simp) (inb_hit (thn_norm (X_seq ?_))))))
    refine X_reg (by simp only [evReg, guardOk, wantedI, IOp.run, IOp.ex, Opd.ev, evs, Env.get, Env.put, Env.keep, V.bin, V.un, intOp, shiftOp, fillRow, fillCells, cellsOf, V.one, optInt, bytesOfRow, byteOfCells, ofRes, strOp, List.map_cons, List.map_nil, List.getElem?_cons_zero, List.getElem?_cons_succ, Option.map_some, Option.map_none, reduceIte, reduceCtorEq, if_true, if_false, Nat.reduceEqDiff, Nat.reduceLT, Nat.reduceAdd, Nat.reduceLeDiff, Nat.reduceMul, Int.reduceToNat, Int.reduceLT, Int.reduceLE, Int.reduceEq, Int.reduceNe, Int.reduceBEq, Int.reduceBNe, decide_true, decide_false, List.replicate, List.set_cons_zero, List.set_cons_succ, List.length_cons, List.length_nil, List.all_cons, List.all_nil, Bool.and_true, Bool.true_and, Bool.and_self, and_self, and_true, true_and, Nat.zero_lt_succ, Nat.lt_add_one, beq_self_eq_true, beq_ft, beq_tf, Bool.not_true, Bool.not_false]; rfl) (thn_norm (X_ret ⟨.inr rfl, _, rfl, ?_, hu⟩))
    rw [flips_end hz 32 hi]
    exact ho
  · have hz' : (((m / 2 ^ i : Nat) : Int) != 0) = true := by simp only [bne_iff_ne, ne_eq]; omega
    have hi32 : i < 32 := by
      rcases Nat.lt_or_ge i 32 with h | h
      · exact h
      · exfalso; apply hz
        exact Nat.div_eq_of_lt (Nat.lt_of_lt_of_le hm (Nat.pow_le_pow_right (n := 2) (by omega) h))
    refine X_true (by simp only [evReg, guardOk, wantedI, IOp.run, IOp.ex, Opd.ev, evs, Env.get, Env.put, Env.keep, V.bin, V.un, intOp, shiftOp, fillRow, fillCells, cellsOf, V.one, optInt, bytesOfRow, byteOfCells, ofRes, strOp, List.map_cons, List.map_nil, List.getElem?_cons_zero, List.getElem?_cons_succ, Option.map_some, Option.map_none, reduceIte, reduceCtorEq, if_true, if_false, Nat.reduceEqDiff, Nat.reduceLT, Nat.reduceAdd, Nat.reduceLeDiff, Nat.reduceMul, Int.reduceToNat, Int.reduceLT, Int.reduceLE, Int.reduceEq, Int.reduceNe, Int.reduceBEq, Int.reduceBNe, decide_true, decide_false, List.replicate, List.set_cons_zero, List.set_cons_succ, List.length_cons, List.length_nil, List.all_cons, List.all_nil, Bool.and_true, Bool.true_and, Bool.and_self, and_self, and_true, true_and, Nat.zero_lt_succ, Nat.lt_add_one, beq_self_eq_true, beq_ft, beq_tf, Bool.not_true, Bool.not_false, hz']) (X_skip (thn_norm (X_seq (X_block (X_seq (X_seq ?_))))))
    have hbit : bitsOf .and .u32 ((m / 2 ^ i : Nat) : Int) 1 = some (((m.testBit i).toNat : Nat) : Int) := by
      have h1 : m / 2 ^ i < 4294967296 := Nat.lt_of_le_of_lt (Nat.div_le_self _ _) hm
      have h2 := and_u32 (a := m / 2 ^ i) (b := 1) h1 (by omega)
      rw [Nat.and_one_is_mod] at h2
      have h3 : m / 2 ^ i % 2 = (m.testBit i).toNat := by rw [Nat.toNat_testBit]
      rw [h3] at h2; exact h2
    have hsub : IntKind.i64.wrap (9223372036854775807 - (i : Int)) = 9223372036854775807 - (i : Int) := IntWalk.i64_in _ (by omega)
    have hadd1 : IntKind.i64.wrap ((i : Int) + 1) = ((i + 1 : Nat) : Int) := wrap_i64_nat (n := i + 1) (by omega)
    refine X.mono (R := fun e env3 st3 => e = .norm ∧ st3 = st2 ∧ Env.get env3 28 = .bool ((((m.testBit i).toNat : Nat) : Int) == 0 || decide (f > 9223372036854775807 - (i : Int))) ∧ Env.get env3 0 = b ∧ Env.get env3 1 = .int .i64 f ∧ Env.get env3 2 = .int .u32 (m : Int) ∧ Env.get env3 7 = x0 ∧ Env.get env3 8 = .int .i64 (i : Int)) ?_ ?_
    · cases h1 : ((((m.testBit i).toNat : Nat) : Int) == 0) <;> cases h2 : decide (f > 9223372036854775807 - (i : Int)) <;>
        exact X_reg (by simp only [evReg, guardOk, wantedI, IOp.run, IOp.ex, Opd.ev, evs, Env.get, Env.put, Env.keep, V.bin, V.un, intOp, shiftOp, fillRow, fillCells, cellsOf, V.one, optInt, bytesOfRow, byteOfCells, ofRes, strOp, List.map_cons, List.map_nil, List.getElem?_cons_zero, List.getElem?_cons_succ, Option.map_some, Option.map_none, reduceIte, reduceCtorEq, if_true, if_false, Nat.reduceEqDiff, Nat.reduceLT, Nat.reduceAdd, Nat.reduceLeDiff, Nat.reduceMul, Int.reduceToNat, Int.reduceLT, Int.reduceLE, Int.reduceEq, Int.reduceNe, Int.reduceBEq, Int.reduceBNe, decide_true, decide_false, List.replicate, List.set_cons_zero, List.set_cons_succ, List.length_cons, List.length_nil, List.all_cons, List.all_nil, Bool.and_true, Bool.true_and, Bool.and_self, and_self, and_true, true_and, Nat.zero_lt_succ, Nat.lt_add_one, beq_self_eq_true, beq_ft, beq_tf, Bool.not_true, Bool.not_false, hnn, hshr, hbit, hsub, h1, h2]; rfl) ⟨rfl, rfl, rfl, rfl, rfl, rfl, rfl, rfl⟩
    · rintro e env3 st3 ⟨rfl, rfl, k28, k0, k1, k2, k7, k8⟩
      refine thn_norm (X_cond k28 ?_)
      by_cases hskip : m.testBit i = false ∨ f > 9223372036854775807 - (i : Int)
      · have : ((((m.testBit i).toNat : Nat) : Int) == 0 || decide (f > 9223372036854775807 - (i : Int))) = true := by
          rcases hskip with h | h
          · rw [h]; rfl
          · simp [h]
        rw [this, if_pos rfl]
        refine X_exit (thn_exit (inb_hit (thn_norm ?_)))
        refine X_reg (by simp only [evReg, guardOk, wantedI, IOp.run, IOp.ex, Opd.ev, evs, Env.get, Env.put, Env.keep, V.bin, V.un, intOp, shiftOp, fillRow, fillCells, cellsOf, V.one, optInt, bytesOfRow, byteOfCells, ofRes, strOp, List.map_cons, List.map_nil, List.getElem?_cons_zero, List.getElem?_cons_succ, Option.map_some, Option.map_none, reduceIte, reduceCtorEq, if_true, if_false, Nat.reduceEqDiff, Nat.reduceLT, Nat.reduceAdd, Nat.reduceLeDiff, Nat.reduceMul, Int.reduceToNat, Int.reduceLT, Int.reduceLE, Int.reduceEq, Int.reduceNe, Int.reduceBEq, Int.reduceBNe, decide_true, decide_false, List.replicate, List.set_cons_zero, List.set_cons_succ, List.length_cons, List.length_nil, List.all_cons, List.all_nil, Bool.and_true, Bool.true_and, Bool.and_self, and_self, and_true, true_and, Nat.zero_lt_succ, Nat.lt_add_one, beq_self_eq_true, beq_ft, beq_tf, Bool.not_true, Bool.not_false, k8, hadd1]; rfl) ?_
        refine hK (32 - (i + 1)) _ _ (by omega) ⟨i + 1, by omega, rfl, ?_, ?_, ?_, ?_, rfl, ?_, hu⟩
        · simp only [evReg, guardOk, wantedI, IOp.run, IOp.ex, Opd.ev, evs, Env.get, Env.put, Env.keep, V.bin, V.un, intOp, shiftOp, fillRow, fillCells, cellsOf, V.one, optInt, bytesOfRow, byteOfCells, ofRes, strOp, List.map_cons, List.map_nil, List.getElem?_cons_zero, List.getElem?_cons_succ, Option.map_some, Option.map_none, reduceIte, reduceCtorEq, if_true, if_false, Nat.reduceEqDiff, Nat.reduceLT, Nat.reduceAdd, Nat.reduceLeDiff, Nat.reduceMul, Int.reduceToNat, Int.reduceLT, Int.reduceLE, Int.reduceEq, Int.reduceNe, Int.reduceBEq, Int.reduceBNe, decide_true, decide_false, List.replicate, List.set_cons_zero, List.set_cons_succ, List.length_cons, List.length_nil, List.all_cons, List.all_nil, Bool.and_true, Bool.true_and, Bool.and_self, and_self, and_true, true_and, Nat.zero_lt_succ, Nat.lt_add_one, beq_self_eq_true, beq_ft, beq_tf, Bool.not_true, Bool.not_false, k0]
        · simp only [evReg, guardOk, wantedI, IOp.run, IOp.ex, Opd.ev, evs, Env.get, Env.put, Env.keep, V.bin, V.un, intOp, shiftOp, fillRow, fillCells, cellsOf, V.one, optInt, bytesOfRow, byteOfCells, ofRes, strOp, List.map_cons, List.map_nil, List.getElem?_cons_zero, List.getElem?_cons_succ, Option.map_some, Option.map_none, reduceIte, reduceCtorEq, if_true, if_false, Nat.reduceEqDiff, Nat.reduceLT, Nat.reduceAdd, Nat.reduceLeDiff, Nat.reduceMul, Int.reduceToNat, Int.reduceLT, Int.reduceLE, Int.reduceEq, Int.reduceNe, Int.reduceBEq, Int.reduceBNe, decide_true, decide_false, List.replicate, List.set_cons_zero, List.set_cons_succ, List.length_cons, List.length_nil, List.all_cons, List.all_nil, Bool.and_true, Bool.true_and, Bool.and_self, and_self, and_true, true_and, Nat.zero_lt_succ, Nat.lt_add_one, beq_self_eq_true, beq_ft, beq_tf, Bool.not_true, Bool.not_false, k1]
        · simp only [evReg, guardOk, wantedI, IOp.run, IOp.ex, Opd.ev, evs, Env.get, Env.put, Env.keep, V.bin, V.un, intOp, shiftOp, fillRow, fillCells, cellsOf, V.one, optInt, bytesOfRow, byteOfCells, ofRes, strOp, List.map_cons, List.map_nil, List.getElem?_cons_zero, List.getElem?_cons_succ, Option.map_some, Option.map_none, reduceIte, reduceCtorEq, if_true, if_false, Nat.reduceEqDiff, Nat.reduceLT, Nat.reduceAdd, Nat.reduceLeDiff, Nat.reduceMul, Int.reduceToNat, Int.reduceLT, Int.reduceLE, Int.reduceEq, Int.reduceNe, Int.reduceBEq, Int.reduceBNe, decide_true, decide_false, List.replicate, List.set_cons_zero, List.set_cons_succ, List.length_cons, List.length_nil, List.all_cons, List.all_nil, Bool.and_true, Bool.true_and, Bool.and_self, and_self, and_true, true_and, Nat.zero_lt_succ, Nat.lt_add_one, beq_self_eq_true, beq_ft, beq_tf, Bool.not_true, Bool.not_false, k2]
        · simp only [evReg, guardOk, wantedI, IOp.run, IOp.ex, Opd.ev, evs, Env.get, Env.put, Env.keep, V.bin, V.un, intOp, shiftOp, fillRow, fillCells, cellsOf, V.one, optInt, bytesOfRow, byteOfCells, ofRes, strOp, List.map_cons, List.map_nil, List.getElem?_cons_zero, List.getElem?_cons_succ, Option.map_some, Option.map_none, reduceIte, reduceCtorEq, if_true, if_false, Nat.reduceEqDiff, Nat.reduceLT, Nat.reduceAdd, Nat.reduceLeDiff, Nat.reduceMul, Int.reduceToNat, Int.reduceLT, Int.reduceLE, Int.reduceEq, Int.reduceNe, Int.reduceBEq, Int.reduceBNe, decide_true, decide_false, List.replicate, List.set_cons_zero, List.set_cons_succ, List.length_cons, List.length_nil, List.all_cons, List.all_nil, Bool.and_true, Bool.true_and, Bool.and_self, and_self, and_true, true_and, Nat.zero_lt_succ, Nat.lt_add_one, beq_self_eq_true, beq_ft, beq_tf, Bool.not_true, Bool.not_false, k7]
        · rw [flips, if_neg (by
            rintro ⟨h1, h2, h3⟩
            rcases hskip with h | h
            · rw [h] at h1; cases h1
            · omega)]
          exact ho
      · have hbt : m.testBit i = true := by
          cases h : m.testBit i with
          | true => rfl
          | false => exact absurd (.inl h) hskip
        have hfi : f ≤ 9223372036854775807 - (i : Int) := by
          rcases Int.lt_or_le (9223372036854775807 - (i : Int)) f with h | h
          · exact absurd (.inr h) hskip
          · exact h
        have : ((((m.testBit i).toNat : Nat) : Int) == 0 || decide (f > 9223372036854775807 - (i : Int))) = false := by
          rw [hbt]
          have : ¬ f > 9223372036854775807 - (i : Int) := by omega
          simp [this]
        rw [this, if_neg (by decide)]
        have hsum : IntKind.i64.wrap (f + (i : Int)) = f + (i : Int) := IntWalk.i64_in _ (by omega)
        refine X_skip (thn_norm (X_seq ?_))
        refine X_reg (by simp only [evReg, guardOk, wantedI, IOp.run, IOp.ex, Opd.ev, evs, Env.get, Env.put, Env.keep, V.bin, V.un, intOp, shiftOp, fillRow, fillCells, cellsOf, V.one, optInt, bytesOfRow, byteOfCells, ofRes, strOp, List.map_cons, List.map_nil, List.getElem?_cons_zero, List.getElem?_cons_succ, Option.map_some, Option.map_none, reduceIte, reduceCtorEq, if_true, if_false, Nat.reduceEqDiff, Nat.reduceLT, Nat.reduceAdd, Nat.reduceLeDiff, Nat.reduceMul, Int.reduceToNat, Int.reduceLT, Int.reduceLE, Int.reduceEq, Int.reduceNe, Int.reduceBEq, Int.reduceBNe, decide_true, decide_false, List.replicate, List.set_cons_zero, List.set_cons_succ, List.length_cons, List.length_nil, List.all_cons, List.all_nil, Bool.and_true, Bool.true_and, Bool.and_self, and_self, and_true, true_and, Nat.zero_lt_succ, Nat.lt_add_one, beq_self_eq_true, beq_ft, beq_tf, Bool.not_true, Bool.not_false, k1, k8, hsum]; rfl) (thn_norm (X_seq ?_))
        have hln := (hb.up hlow hu).len (env := [(36, b)]) (o := .t 36) rfl
        simp only [evReg, guardOk, wantedI, IOp.run, IOp.ex, Opd.ev, evs, Env.get, Env.put, Env.keep, V.bin, V.un, intOp, shiftOp, fillRow, fillCells, cellsOf, V.one, optInt, bytesOfRow, byteOfCells, ofRes, strOp, List.map_cons, List.map_nil, List.getElem?_cons_zero, List.getElem?_cons_succ, Option.map_some, Option.map_none, reduceIte, reduceCtorEq, if_true, if_false, Nat.reduceEqDiff, Nat.reduceLT, Nat.reduceAdd, Nat.reduceLeDiff, Nat.reduceMul, Int.reduceToNat, Int.reduceLT, Int.reduceLE, Int.reduceEq, Int.reduceNe, Int.reduceBEq, Int.reduceBNe, decide_true, decide_false, List.replicate, List.set_cons_zero, List.set_cons_succ, List.length_cons, List.length_nil, List.all_cons, List.all_nil, Bool.and_true, Bool.true_and, Bool.and_self, and_self, and_true, true_and, Nat.zero_lt_succ, Nat.lt_add_one, beq_self_eq_true, beq_ft, beq_tf, Bool.not_true, Bool.not_false, bytes_length] at hln
        have hmul : IntKind.i64.wrap ((bs.length : Int) * 8) = (bs.length : Int) * 8 := IntWalk.i64_in _ (by omega)
        refine X.mono (R := fun e env4 st4 => e = .norm ∧ st4 = st3 ∧ Env.get env4 40 = .bool (decide (f + (i : Int) ≥ 0) && decide (f + (i : Int) < (bs.length : Int) * 8)) ∧ Env.get env4 0 = b ∧ Env.get env4 1 = .int .i64 f ∧ Env.get env4 2 = .int .u32 (m : Int) ∧ Env.get env4 7 = x0 ∧ Env.get env4 8 = .int .i64 (i : Int) ∧ Env.get env4 9 = .int .i64 (f + (i : Int))) ?_ ?_
        · cases h1 : decide (f + (i : Int) ≥ 0) <;> cases h2 : decide (f + (i : Int) < (bs.length : Int) * 8) <;>
            (refine X_reg (by simp only [evReg, guardOk, wantedI, IOp.run, IOp.ex, Opd.ev, evs, Env.get, Env.put, Env.keep, V.bin, V.un, intOp, shiftOp, fillRow, fillCells, cellsOf, V.one, optInt, bytesOfRow, byteOfCells, ofRes, strOp, List.map_cons, List.map_nil, List.getElem?_cons_zero, List.getElem?_cons_succ, Option.map_some, Option.map_none, reduceIte, reduceCtorEq, if_true, if_false, Nat.reduceEqDiff, Nat.reduceLT, Nat.reduceAdd, Nat.reduceLeDiff, Nat.reduceMul, Int.reduceToNat, Int.reduceLT, Int.reduceLE, Int.reduceEq, Int.reduceNe, Int.reduceBEq, Int.reduceBNe, decide_true, decide_false, List.replicate, List.set_cons_zero, List.set_cons_succ, List.length_cons, List.length_nil, List.all_cons, List.all_nil, Bool.and_true, Bool.true_and, Bool.and_self, and_self, and_true, true_and, Nat.zero_lt_succ, Nat.lt_add_one, beq_self_eq_true, beq_ft, beq_tf, Bool.not_true, Bool.not_false, k0, hln, hmul, h1, h2]; rfl) ?_; exact ⟨rfl, rfl, rfl, k0, k1, k2, k7, k8, rfl⟩)
        · rintro e env4 st4 ⟨rfl, rfl, j40, j0, j1, j2, j7, j8, j9⟩
          refine thn_norm (X_cond j40 ?_)
          by_cases hin : 0 ≤ f + (i : Int) ∧ f + (i : Int) < 8 * (bs.length : Int)
          · have : (decide (f + (i : Int) ≥ 0) && decide (f + (i : Int) < (bs.length : Int) * 8)) = true := by
              simp only [Bool.and_eq_true, decide_eq_true_eq]; omega
            rw [this, if_pos rfl]
            obtain ⟨a, ha⟩ : ∃ a : Nat, f + (i : Int) = (a : Int) := ⟨(f + (i : Int)).toNat, by omega⟩
            have ha8 : a / 8 < bs.length := by omega
            have hfl := flips_length bs f m i
            have hb8 : (flips bs f m i)[a / 8]? = some ((flips bs f m i).getD (a / 8) 0) := by
              rw [List.getD_eq_getElem?_getD, List.getElem?_eq_getElem (by omega)]; rfl
            have hb256 : (flips bs f m i).getD (a / 8) 0 < 256 := flips_lt hlt f m i _ (List.mem_of_getElem? hb8)
            obtain ⟨os, gs, rfl, hlb, hsb⟩ := ho.cellAt hu.next (bytes_get hb8)
            obtain ⟨X', s3, o3, u3⟩ := hsb (.int .u8 (((flips bs f m i).getD (a / 8) 0 ^^^ 2 ^ (a % 8) : Nat) : Int)) one_int
            have hset : (bytes (flips bs f m i)).set (a / 8) [.int .u8 (((flips bs f m i).getD (a / 8) 0 ^^^ 2 ^ (a % 8) : Nat) : Int)] = bytes (flips bs f m (i + 1)) := by
              rw [flips, if_pos ⟨hbt, hin.1, hin.2⟩, ha]
              simp [bytes, List.map_set]
            rw [hset] at o3
            have hquo : IntKind.i64.wrap ((a : Int).tdiv 8) = ((a / 8 : Nat) : Int) := wrap_i64_nat (n := a / 8) (by omega)
            have hrem : ((a : Nat) : Int).tmod 8 = ((a % 8 : Nat) : Int) := rfl
            have hin2 : (0 : Int) ≤ ((a / 8 : Nat) : Int) ∧ ((a / 8 : Nat) : Int) < ((bytes (flips bs f m i)).length : Int) := by rw [bytes_length, hfl]; omega
            have htn : ((a / 8 : Nat) : Int).toNat = a / 8 := by omega
            have hnn8 : ¬ ((a % 8 : Nat) : Int) < 0 := by omega
            have hshl : IntKind.u8.wrap (1 * 2 ^ min ((a % 8 : Nat) : Int).toNat IntKind.u8.bits) = ((2 ^ (a % 8) : Nat) : Int) := by
              have := shl_u8_bit true (k := a % 8) (by omega)
              simpa using this
            have hxor := xor_u8 (a := (flips bs f m i).getD (a / 8) 0) (b := 2 ^ (a % 8)) hb256 (Nat.pow_lt_pow_right (n := 8) (a := 2) (by omega) (by omega))
            rw [ha] at j9
            refine X_regD (by simp only [evReg, guardOk, wantedI, IOp.run, IOp.ex, Opd.ev, evs, Env.get, Env.put, Env.keep, V.bin, V.un, intOp, shiftOp, fillRow, fillCells, cellsOf, V.one, optInt, bytesOfRow, byteOfCells, ofRes, strOp, List.map_cons, List.map_nil, List.getElem?_cons_zero, List.getElem?_cons_succ, Option.map_some, Option.map_none, reduceIte, reduceCtorEq, if_true, if_false, Nat.reduceEqDiff, Nat.reduceLT, Nat.reduceAdd, Nat.reduceLeDiff, Nat.reduceMul, Int.reduceToNat, Int.reduceLT, Int.reduceLE, Int.reduceEq, Int.reduceNe, Int.reduceBEq, Int.reduceBNe, decide_true, decide_false, List.replicate, List.set_cons_zero, List.set_cons_succ, List.length_cons, List.length_nil, List.all_cons, List.all_nil, Bool.and_true, Bool.true_and, Bool.and_self, and_self, and_true, true_and, Nat.zero_lt_succ, Nat.lt_add_one, beq_self_eq_true, beq_ft, beq_tf, Bool.not_true, Bool.not_false, evRegD, IOp.kind, Chk.ok, Chk.at, Go.Ab.cut, List.drop_zero, List.drop_succ_cons, List.take_succ_cons, List.take_zero, List.reverse_cons, List.reverse_nil, List.nil_append, List.cons_append, V.beq, j7, j9, hquo, hin2, htn, Nat.zero_add, hlb, hrem, hnn8, hshl, hxor, s3]; rfl) (inb_norm (thn_norm ?_))
            refine X_reg (by simp only [evReg, guardOk, wantedI, IOp.run, IOp.ex, Opd.ev, evs, Env.get, Env.put, Env.keep, V.bin, V.un, intOp, shiftOp, fillRow, fillCells, cellsOf, V.one, optInt, bytesOfRow, byteOfCells, ofRes, strOp, List.map_cons, List.map_nil, List.getElem?_cons_zero, List.getElem?_cons_succ, Option.map_some, Option.map_none, reduceIte, reduceCtorEq, if_true, if_false, Nat.reduceEqDiff, Nat.reduceLT, Nat.reduceAdd, Nat.reduceLeDiff, Nat.reduceMul, Int.reduceToNat, Int.reduceLT, Int.reduceLE, Int.reduceEq, Int.reduceNe, Int.reduceBEq, Int.reduceBNe, decide_true, decide_false, List.replicate, List.set_cons_zero, List.set_cons_succ, List.length_cons, List.length_nil, List.all_cons, List.all_nil, Bool.and_true, Bool.true_and, Bool.and_self, and_self, and_true, true_and, Nat.zero_lt_succ, Nat.lt_add_one, beq_self_eq_true, beq_ft, beq_tf, Bool.not_true, Bool.not_false, j8, hadd1]; rfl) ?_
            refine hK (32 - (i + 1)) _ _ (by omega) ⟨i + 1, by omega, rfl, ?_, ?_, ?_, ?_, rfl, ?_, hu.trans u3⟩
            · simp only [evReg, guardOk, wantedI, IOp.run, IOp.ex, Opd.ev, evs, Env.get, Env.put, Env.keep, V.bin, V.un, intOp, shiftOp, fillRow, fillCells, cellsOf, V.one, optInt, bytesOfRow, byteOfCells, ofRes, strOp, List.map_cons, List.map_nil, List.getElem?_cons_zero, List.getElem?_cons_succ, Option.map_some, Option.map_none, reduceIte, reduceCtorEq, if_true, if_false, Nat.reduceEqDiff, Nat.reduceLT, Nat.reduceAdd, Nat.reduceLeDiff, Nat.reduceMul, Int.reduceToNat, Int.reduceLT, Int.reduceLE, Int.reduceEq, Int.reduceNe, Int.reduceBEq, Int.reduceBNe, decide_true, decide_false, List.replicate, List.set_cons_zero, List.set_cons_succ, List.length_cons, List.length_nil, List.all_cons, List.all_nil, Bool.and_true, Bool.true_and, Bool.and_self, and_self, and_true, true_and, Nat.zero_lt_succ, Nat.lt_add_one, beq_self_eq_true, beq_ft, beq_tf, Bool.not_true, Bool.not_false, j0]
            · simp only [evReg, guardOk, wantedI, IOp.run, IOp.ex, Opd.ev, evs, Env.get, Env.put, Env.keep, V.bin, V.un, intOp, shiftOp, fillRow, fillCells, cellsOf, V.one, optInt, bytesOfRow, byteOfCells, ofRes, strOp, List.map_cons, List.map_nil, List.getElem?_cons_zero, List.getElem?_cons_succ, Option.map_some, Option.map_none, reduceIte, reduceCtorEq, if_true, if_false, Nat.reduceEqDiff, Nat.reduceLT, Nat.reduceAdd, Nat.reduceLeDiff, Nat.reduceMul, Int.reduceToNat, Int.reduceLT, Int.reduceLE, Int.reduceEq, Int.reduceNe, Int.reduceBEq, Int.reduceBNe, decide_true, decide_false, List.replicate, List.set_cons_zero, List.set_cons_succ, List.length_cons, List.length_nil, List.all_cons, List.all_nil, Bool.and_true, Bool.true_and, Bool.and_self, and_self, and_true, true_and, Nat.zero_lt_succ, Nat.lt_add_one, beq_self_eq_true, beq_ft, beq_tf, Bool.not_true, Bool.not_false, j1]
            · simp only [evReg, guardOk, wantedI, IOp.run, IOp.ex, Opd.ev, evs, Env.get, Env.put, Env.keep, V.bin, V.un, intOp, shiftOp, fillRow, fillCells, cellsOf, V.one, optInt, bytesOfRow, byteOfCells, ofRes, strOp, List.map_cons, List.map_nil, List.getElem?_cons_zero, List.getElem?_cons_succ, Option.map_some, Option.map_none, reduceIte, reduceCtorEq, if_true, if_false, Nat.reduceEqDiff, Nat.reduceLT, Nat.reduceAdd, Nat.reduceLeDiff, Nat.reduceMul, Int.reduceToNat, Int.reduceLT, Int.reduceLE, Int.reduceEq, Int.reduceNe, Int.reduceBEq, Int.reduceBNe, decide_true, decide_false, List.replicate, List.set_cons_zero, List.set_cons_succ, List.length_cons, List.length_nil, List.all_cons, List.all_nil, Bool.and_true, Bool.true_and, Bool.and_self, and_self, and_true, true_and, Nat.zero_lt_succ, Nat.lt_add_one, beq_self_eq_true, beq_ft, beq_tf, Bool.not_true, Bool.not_false, j2]
            · simp only [evReg, guardOk, wantedI, IOp.run, IOp.ex, Opd.ev, evs, Env.get, Env.put, Env.keep, V.bin, V.un, intOp, shiftOp, fillRow, fillCells, cellsOf, V.one, optInt, bytesOfRow, byteOfCells, ofRes, strOp, List.map_cons, List.map_nil, List.getElem?_cons_zero, List.getElem?_cons_succ, Option.map_some, Option.map_none, reduceIte, reduceCtorEq, if_true, if_false, Nat.reduceEqDiff, Nat.reduceLT, Nat.reduceAdd, Nat.reduceLeDiff, Nat.reduceMul, Int.reduceToNat, Int.reduceLT, Int.reduceLE, Int.reduceEq, Int.reduceNe, Int.reduceBEq, Int.reduceBNe, decide_true, decide_false, List.replicate, List.set_cons_zero, List.set_cons_succ, List.length_cons, List.length_nil, List.all_cons, List.all_nil, Bool.and_true, Bool.true_and, Bool.and_self, and_self, and_true, true_and, Nat.zero_lt_succ, Nat.lt_add_one, beq_self_eq_true, beq_ft, beq_tf, Bool.not_true, Bool.not_false, j7]
            · exact o3
          · have : (decide (f + (i : Int) ≥ 0) && decide (f + (i : Int) < (bs.length : Int) * 8)) = false := by
              rw [← Bool.not_eq_true]
              simp only [Bool.and_eq_true, decide_eq_true_eq]; omega
            rw [this, if_neg (by decide)]
            refine X_skip (inb_norm (thn_norm ?_))
            refine X_reg (by simp only [evReg, guardOk, wantedI, IOp.run, IOp.ex, Opd.ev, evs, Env.get, Env.put, Env.keep, V.bin, V.un, intOp, shiftOp, fillRow, fillCells, cellsOf, V.one, optInt, bytesOfRow, byteOfCells, ofRes, strOp, List.map_cons, List.map_nil, List.getElem?_cons_zero, List.getElem?_cons_succ, Option.map_some, Option.map_none, reduceIte, reduceCtorEq, if_true, if_false, Nat.reduceEqDiff, Nat.reduceLT, Nat.reduceAdd, Nat.reduceLeDiff, Nat.reduceMul, Int.reduceToNat, Int.reduceLT, Int.reduceLE, Int.reduceEq, Int.reduceNe, Int.reduceBEq, Int.reduceBNe, decide_true, decide_false, List.replicate, List.set_cons_zero, List.set_cons_succ, List.length_cons, List.length_nil, List.all_cons, List.all_nil, Bool.and_true, Bool.true_and, Bool.and_self, and_self, and_true, true_and, Nat.zero_lt_succ, Nat.lt_add_one, beq_self_eq_true, beq_ft, beq_tf, Bool.not_true, Bool.not_false, j8, hadd1]; rfl) ?_
            refine hK (32 - (i + 1)) _ _ (by omega) ⟨i + 1, by omega, rfl, ?_, ?_, ?_, ?_, rfl, ?_, hu⟩
            · simp only [evReg, guardOk, wantedI, IOp.run, IOp.ex, Opd.ev, evs, Env.get, Env.put, Env.keep, V.bin, V.un, intOp, shiftOp, fillRow, fillCells, cellsOf, V.one, optInt, bytesOfRow, byteOfCells, ofRes, strOp, List.map_cons, List.map_nil, List.getElem?_cons_zero, List.getElem?_cons_succ, Option.map_some, Option.map_none, reduceIte, reduceCtorEq, if_true, if_false, Nat.reduceEqDiff, Nat.reduceLT, Nat.reduceAdd, Nat.reduceLeDiff, Nat.reduceMul, Int.reduceToNat, Int.reduceLT, Int.reduceLE, Int.reduceEq, Int.reduceNe, Int.reduceBEq, Int.reduceBNe, decide_true, decide_false, List.replicate, List.set_cons_zero, List.set_cons_succ, List.length_cons, List.length_nil, List.all_cons, List.all_nil, Bool.and_true, Bool.true_and, Bool.and_self, and_self, and_true, true_and, Nat.zero_lt_succ, Nat.lt_add_one, beq_self_eq_true, beq_ft, beq_tf, Bool.not_true, Bool.not_false, j0]
            · simp only [evReg, guardOk, wantedI, IOp.run, IOp.ex, Opd.ev, evs, Env.get, Env.put, Env.keep, V.bin, V.un, intOp, shiftOp, fillRow, fillCells, cellsOf, V.one, optInt, bytesOfRow, byteOfCells, ofRes, strOp, List.map_cons, List.map_nil, List.getElem?_cons_zero, List.getElem?_cons_succ, Option.map_some, Option.map_none, reduceIte, reduceCtorEq, if_true, if_false, Nat.reduceEqDiff, Nat.reduceLT, Nat.reduceAdd, Nat.reduceLeDiff, Nat.reduceMul, Int.reduceToNat, Int.reduceLT, Int.reduceLE, Int.reduceEq, Int.reduceNe, Int.reduceBEq, Int.reduceBNe, decide_true, decide_false, List.replicate, List.set_cons_zero, List.set_cons_succ, List.length_cons, List.length_nil, List.all_cons, List.all_nil, Bool.and_true, Bool.true_and, Bool.and_self, and_self, and_true, true_and, Nat.zero_lt_succ, Nat.lt_add_one, beq_self_eq_true, beq_ft, beq_tf, Bool.not_true, Bool.not_false, j1]
            · simp only [evReg, guardOk, wantedI, IOp.run, IOp.ex, Opd.ev, evs, Env.get, Env.put, Env.keep, V.bin, V.un, intOp, shiftOp, fillRow, fillCells, cellsOf, V.one, optInt, bytesOfRow, byteOfCells, ofRes, strOp, List.map_cons, List.map_nil, List.getElem?_cons_zero, List.getElem?_cons_succ, Option.map_some, Option.map_none, reduceIte, reduceCtorEq, if_true, if_false, Nat.reduceEqDiff, Nat.reduceLT, Nat.reduceAdd, Nat.reduceLeDiff, Nat.reduceMul, Int.reduceToNat, Int.reduceLT, Int.reduceLE, Int.reduceEq, Int.reduceNe, Int.reduceBEq, Int.reduceBNe, decide_true, decide_false, List.replicate, List.set_cons_zero, List.set_cons_succ, List.length_cons, List.length_nil, List.all_cons, List.all_nil, Bool.and_true, Bool.true_and, Bool.and_self, and_self, and_true, true_and, Nat.zero_lt_succ, Nat.lt_add_one, beq_self_eq_true, beq_ft, beq_tf, Bool.not_true, Bool.not_false, j2]
            · simp only [evReg, guardOk, wantedI, IOp.run, IOp.ex, Opd.ev, evs, Env.get, Env.put, Env.keep, V.bin, V.un, intOp, shiftOp, fillRow, fillCells, cellsOf, V.one, optInt, bytesOfRow, byteOfCells, ofRes, strOp, List.map_cons, List.map_nil, List.getElem?_cons_zero, List.getElem?_cons_succ, Option.map_some, Option.map_none, reduceIte, reduceCtorEq, if_true, if_false, Nat.reduceEqDiff, Nat.reduceLT, Nat.reduceAdd, Nat.reduceLeDiff, Nat.reduceMul, Int.reduceToNat, Int.reduceLT, Int.reduceLE, Int.reduceEq, Int.reduceNe, Int.reduceBEq, Int.reduceBNe, decide_true, decide_false, List.replicate, List.set_cons_zero, List.set_cons_succ, List.length_cons, List.length_nil, List.all_cons, List.all_nil, Bool.and_true, Bool.true_and, Bool.and_self, and_self, and_true, true_and, Nat.zero_lt_succ, Nat.lt_add_one, beq_self_eq_true, beq_ft, beq_tf, Bool.not_true, Bool.not_false, j7]
            · rw [flips, if_neg (by rintro ⟨_, h2, h3⟩; exact hin ⟨h2, h3⟩)]
              exact ho

end Go.Ab
