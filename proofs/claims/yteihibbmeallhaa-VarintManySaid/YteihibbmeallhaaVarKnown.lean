/- varint.Size, and what the law knows for certain. -/
import Derived.Test.YteihibbmeallhaaVarTake
namespace Go.Ab
open Go
set_option linter.unusedVariables false
set_option linter.unusedSimpArgs false

theorem slc_new {st : St} (es : List (List V)) (esz : Nat) : Slc (st.push (.row es 0 0 false)) esz (.sl st.next 0 0 es.length esz none) es := (Own.new (n := 0) es (Nat.zero_le _)).slc

/-- Put of some numbers that are written out. -/
theorem put_lit {st : St} (hlow : st.Low) (ls : List Nat) (hv : ∀ v ∈ ls, v < 18446744073709551616) (hr : (putL ls).length ≤ 140737488355328) (hne : putL ls ≠ []) :
    ∃ o g st', F tab fid_varint_Put [.sl st.next 0 0 ls.length 1 none] (st.push (.row (nums .u64 ls) 0 0 false)) = some (.sl o g 0 (putL ls).length 1 none, st') ∧ Own st' (st.next + 1) 1 (.sl o g 0 (putL ls).length 1 none) (bytes (putL ls)) ∧ Up st.next st st' := by
  have hs := slc_new (st := st) (nums .u64 ls) 1
  rw [nums_length] at hs
  obtain ⟨s', st', h1, h2, h3⟩ := put_F hs (Low_push hlow) hv hr
  obtain ⟨o, g, rfl, h4, h5⟩ := h2.sl (by simp [bytes, hne])
  rw [bytes_length] at h1 h2
  exact ⟨o, g, st', h1, h2, (Up.push _ (Nat.le_refl _)).trans (h3.mono (by rw [St.next_push]; omega))⟩

theorem size_F {st : St} (hlow : st.Low) {v : Nat} (hv : v < 18446744073709551616) (hr : (putV v).length ≤ 140737488355328) :
    ∃ st', F tab fid_varint_Size [.int .u64 (v : Int)] st = some (.int .i64 ((putV v).length : Int), st') ∧ Up st.next st st' := by
  have h1 : putL [v] = putV v := by simp [putL]
  have hne : putV v ≠ [] := by have := putV_length v; intro h; rw [h] at this; simp at this
  obtain ⟨o, g, st', h2, h3, h4⟩ := put_lit hlow [v] (by simpa using hv) (by rw [h1]; exact hr) (by rw [h1]; exact hne)
  rw [h1] at h2 h3
  simp only [nums, List.map_cons, List.map_nil, List.length_cons, List.length_nil] at h2
  have key : ∃ x st', F tab fid_varint_Size [.int .u64 (v : Int)] st = some (x, st') ∧ (x = .int .i64 ((putV v).length : Int) ∧ Up st.next st st') := by
    refine F_fnR tab_varint_Size rfl ?_
    unfold ir_varint_Size
    simp only [envOf]
    refine X_seq (X_reg (by simp only [evReg, guardOk, wantedI, IOp.run, IOp.ex, Opd.ev, evs, Env.get, Env.put, Env.keep, V.bin, V.un, intOp, shiftOp, fillRow, fillCells, cellsOf, V.one, optInt, bytesOfRow, byteOfCells, ofRes, strOp, List.map_cons, List.map_nil, List.getElem?_cons_zero, List.getElem?_cons_succ, Option.map_some, Option.map_none, reduceIte, reduceCtorEq, if_true, if_false, Nat.reduceEqDiff, Nat.reduceLT, Nat.reduceAdd, Nat.reduceLeDiff, Nat.reduceMul, Int.reduceToNat, Int.reduceLT, Int.reduceLE, Int.reduceEq, Int.reduceNe, Int.reduceBEq, Int.reduceBNe, decide_true, decide_false, List.replicate, List.set_cons_zero, List.set_cons_succ, List.length_cons, List.length_nil, List.all_cons, List.all_nil, Bool.and_true, Bool.true_and, Bool.and_self, and_self, and_true, true_and, Nat.zero_lt_succ, Nat.lt_add_one, beq_self_eq_true, beq_ft, beq_tf, Bool.not_true, Bool.not_false]; rfl) (thn_norm (X_seq ?_)))
    refine X_reg (by simp only [evReg, guardOk, wantedI, IOp.run, IOp.ex, Opd.ev, evs, Env.get, Env.put, Env.keep, V.bin, V.un, intOp, shiftOp, fillRow, fillCells, cellsOf, V.one, optInt, bytesOfRow, byteOfCells, ofRes, strOp, List.map_cons, List.map_nil, List.getElem?_cons_zero, List.getElem?_cons_succ, Option.map_some, Option.map_none, reduceIte, reduceCtorEq, if_true, if_false, Nat.reduceEqDiff, Nat.reduceLT, Nat.reduceAdd, Nat.reduceLeDiff, Nat.reduceMul, Int.reduceToNat, Int.reduceLT, Int.reduceLE, Int.reduceEq, Int.reduceNe, Int.reduceBEq, Int.reduceBNe, decide_true, decide_false, List.replicate, List.set_cons_zero, List.set_cons_succ, List.length_cons, List.length_nil, List.all_cons, List.all_nil, Bool.and_true, Bool.true_and, Bool.and_self, and_self, and_true, true_and, Nat.zero_lt_succ, Nat.lt_add_one, beq_self_eq_true, beq_ft, beq_tf, Bool.not_true, Bool.not_false, h2]; rfl) (thn_norm (X_ret ⟨.inr rfl, _, rfl, ?_, h4⟩))
    rfl
  obtain ⟨x, st', k1, rfl, k2⟩ := key
  exact ⟨st', k1, k2⟩

theorem known_F {st : St} (hlow : st.Low) : ∃ st', F tab fid_archipelagolaw2_known [] st = some (.bool true, st') ∧ Up st.next st st' := by
  have hp : putL [300, 0] = [172, 2, 0] := by decide +kernel
  obtain ⟨o, g, st1, h1, h2, h3⟩ := put_lit hlow [300, 0] (by decide) (by rw [hp]; decide) (by rw [hp]; decide)
  rw [hp] at h1 h2
  have hlow1 := h3.low hlow
  have t1 := take_F (most := 300) h2.slc (by decide) (by decide) (by decide)
  have e1 : takeV 300 0 0 [172, 2, 0] = (300, 2, 0) := by decide +kernel
  rw [e1] at t1
  have hs2 := slc_new (st := st1) (bytes [128, 0]) 1
  have t2 := take_F (most := 9) hs2 (by decide) (by decide) (by decide)
  have e2 : takeV 9 0 0 [128, 0] = (0, 0, 21) := by decide +kernel
  rw [e2] at t2
  have h2' := h2.slc.up hlow1 (Up.push (.row (bytes [128, 0]) 0 0 false) (Nat.le_refl _))
  have t3 := take_F (most := 299) h2' (by decide) (by decide) (by decide)
  have e3 : takeV 299 0 0 [172, 2, 0] = (0, 0, 22) := by decide +kernel
  rw [e3] at t3
  have hel := h2'.elems
  have e4 : putV 127 = [127] := by decide +kernel
  obtain ⟨st2, t4, u4⟩ := size_F (st := st1.push (.row (bytes [128, 0]) 0 0 false)) (Low_push hlow1) (v := 127) (by decide) (by rw [e4]; decide)
  rw [e4] at t4
  simp only [nums, bytes, List.map_cons, List.map_nil, List.length_cons, List.length_nil, took, Nat.reduceAdd, Int.natCast_zero, Int.natCast_one, Int.cast_ofNat_Int] at h1 t1 t2 t3 t4 hel
  have key : ∃ x st', F tab fid_archipelagolaw2_known [] st = some (x, st') ∧ (x = .bool true ∧ Up st.next st st') := by
    refine F_fnR tab_archipelagolaw2_known rfl ?_
    unfold ir_archipelagolaw2_known
    simp only [envOf]
    refine X_seq (X_reg (by simp only [evReg, guardOk, wantedI, IOp.run, IOp.ex, Opd.ev, evs, Env.get, Env.put, Env.keep, V.bin, V.un, intOp, shiftOp, fillRow, fillCells, cellsOf, V.one, optInt, bytesOfRow, byteOfCells, ofRes, strOp, List.map_cons, List.map_nil, List.getElem?_cons_zero, List.getElem?_cons_succ, Option.map_some, Option.map_none, reduceIte, reduceCtorEq, if_true, if_false, Nat.reduceEqDiff, Nat.reduceLT, Nat.reduceAdd, Nat.reduceLeDiff, Nat.reduceMul, Int.reduceToNat, Int.reduceLT, Int.reduceLE, Int.reduceEq, Int.reduceNe, Int.reduceBEq, Int.reduceBNe, decide_true, decide_false, List.replicate, List.set_cons_zero, List.set_cons_succ, List.length_cons, List.length_nil, List.all_cons, List.all_nil, Bool.and_true, Bool.true_and, Bool.and_self, and_self, and_true, true_and, Nat.zero_lt_succ, Nat.lt_add_one, beq_self_eq_true, beq_ft, beq_tf, Bool.not_true, Bool.not_false]; rfl) (thn_norm (X_seq ?_)))
    refine X_reg (by simp only [evReg, guardOk, wantedI, IOp.run, IOp.ex, Opd.ev, evs, Env.get, Env.put, Env.keep, V.bin, V.un, intOp, shiftOp, fillRow, fillCells, cellsOf, V.one, optInt, bytesOfRow, byteOfCells, ofRes, strOp, List.map_cons, List.map_nil, List.getElem?_cons_zero, List.getElem?_cons_succ, Option.map_some, Option.map_none, reduceIte, reduceCtorEq, if_true, if_false, Nat.reduceEqDiff, Nat.reduceLT, Nat.reduceAdd, Nat.reduceLeDiff, Nat.reduceMul, Int.reduceToNat, Int.reduceLT, Int.reduceLE, Int.reduceEq, Int.reduceNe, Int.reduceBEq, Int.reduceBNe, decide_true, decide_false, List.replicate, List.set_cons_zero, List.set_cons_succ, List.length_cons, List.length_nil, List.all_cons, List.all_nil, Bool.and_true, Bool.true_and, Bool.and_self, and_self, and_true, true_and, Nat.zero_lt_succ, Nat.lt_add_one, beq_self_eq_true, beq_ft, beq_tf, Bool.not_true, Bool.not_false, h1]; rfl) (thn_norm (X_seq ?_))
    refine X_reg (by simp only [evReg, guardOk, wantedI, IOp.run, IOp.ex, Opd.ev, evs, Env.get, Env.put, Env.keep, V.bin, V.un, intOp, shiftOp, fillRow, fillCells, cellsOf, V.one, optInt, bytesOfRow, byteOfCells, ofRes, strOp, List.map_cons, List.map_nil, List.getElem?_cons_zero, List.getElem?_cons_succ, Option.map_some, Option.map_none, reduceIte, reduceCtorEq, if_true, if_false, Nat.reduceEqDiff, Nat.reduceLT, Nat.reduceAdd, Nat.reduceLeDiff, Nat.reduceMul, Int.reduceToNat, Int.reduceLT, Int.reduceLE, Int.reduceEq, Int.reduceNe, Int.reduceBEq, Int.reduceBNe, decide_true, decide_false, List.replicate, List.set_cons_zero, List.set_cons_succ, List.length_cons, List.length_nil, List.all_cons, List.all_nil, Bool.and_true, Bool.true_and, Bool.and_self, and_self, and_true, true_and, Nat.zero_lt_succ, Nat.lt_add_one, beq_self_eq_true, beq_ft, beq_tf, Bool.not_true, Bool.not_false, t1]; rfl) (thn_norm (X_seq ?_))
    refine X_reg (by simp only [evReg, guardOk, wantedI, IOp.run, IOp.ex, Opd.ev, evs, Env.get, Env.put, Env.keep, V.bin, V.un, intOp, shiftOp, fillRow, fillCells, cellsOf, V.one, optInt, bytesOfRow, byteOfCells, ofRes, strOp, List.map_cons, List.map_nil, List.getElem?_cons_zero, List.getElem?_cons_succ, Option.map_some, Option.map_none, reduceIte, reduceCtorEq, if_true, if_false, Nat.reduceEqDiff, Nat.reduceLT, Nat.reduceAdd, Nat.reduceLeDiff, Nat.reduceMul, Int.reduceToNat, Int.reduceLT, Int.reduceLE, Int.reduceEq, Int.reduceNe, Int.reduceBEq, Int.reduceBNe, decide_true, decide_false, List.replicate, List.set_cons_zero, List.set_cons_succ, List.length_cons, List.length_nil, List.all_cons, List.all_nil, Bool.and_true, Bool.true_and, Bool.and_self, and_self, and_true, true_and, Nat.zero_lt_succ, Nat.lt_add_one, beq_self_eq_true, beq_ft, beq_tf, Bool.not_true, Bool.not_false, t2]; rfl) (thn_norm (X_seq ?_))
    refine X_reg (by simp only [evReg, guardOk, wantedI, IOp.run, IOp.ex, Opd.ev, evs, Env.get, Env.put, Env.keep, V.bin, V.un, intOp, shiftOp, fillRow, fillCells, cellsOf, V.one, optInt, bytesOfRow, byteOfCells, ofRes, strOp, List.map_cons, List.map_nil, List.getElem?_cons_zero, List.getElem?_cons_succ, Option.map_some, Option.map_none, reduceIte, reduceCtorEq, if_true, if_false, Nat.reduceEqDiff, Nat.reduceLT, Nat.reduceAdd, Nat.reduceLeDiff, Nat.reduceMul, Int.reduceToNat, Int.reduceLT, Int.reduceLE, Int.reduceEq, Int.reduceNe, Int.reduceBEq, Int.reduceBNe, decide_true, decide_false, List.replicate, List.set_cons_zero, List.set_cons_succ, List.length_cons, List.length_nil, List.all_cons, List.all_nil, Bool.and_true, Bool.true_and, Bool.and_self, and_self, and_true, true_and, Nat.zero_lt_succ, Nat.lt_add_one, beq_self_eq_true, beq_ft, beq_tf, Bool.not_true, Bool.not_false, t3]; rfl) (thn_norm (X_seq ?_))
    refine X_reg (by simp only [evReg, guardOk, wantedI, IOp.run, IOp.ex, Opd.ev, evs, Env.get, Env.put, Env.keep, V.bin, V.un, intOp, shiftOp, fillRow, fillCells, cellsOf, V.one, optInt, bytesOfRow, byteOfCells, ofRes, strOp, List.map_cons, List.map_nil, List.getElem?_cons_zero, List.getElem?_cons_succ, Option.map_some, Option.map_none, reduceIte, reduceCtorEq, if_true, if_false, Nat.reduceEqDiff, Nat.reduceLT, Nat.reduceAdd, Nat.reduceLeDiff, Nat.reduceMul, Int.reduceToNat, Int.reduceLT, Int.reduceLE, Int.reduceEq, Int.reduceNe, Int.reduceBEq, Int.reduceBNe, decide_true, decide_false, List.replicate, List.set_cons_zero, List.set_cons_succ, List.length_cons, List.length_nil, List.all_cons, List.all_nil, Bool.and_true, Bool.true_and, Bool.and_self, and_self, and_true, true_and, Nat.zero_lt_succ, Nat.lt_add_one, beq_self_eq_true, beq_ft, beq_tf, Bool.not_true, Bool.not_false, hel, t4]; rfl) (thn_norm ?_)
    refine X_ret ⟨.inr rfl, _, rfl, rfl, ?_⟩
    exact h3.trans (((Up.push _ (Nat.le_refl _)).trans (u4.mono (by rw [St.next_push]; omega))).mono h3.next)
  obtain ⟨x, st', k1, rfl, k2⟩ := key
  exact ⟨st', k1, k2⟩

end Go.Ab
