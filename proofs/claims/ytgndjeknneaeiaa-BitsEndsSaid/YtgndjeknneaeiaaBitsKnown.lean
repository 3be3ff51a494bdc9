/- What the bits' laws know for certain. -/
import Derived.Test.YtgndjeknneaeiaaBitsFlip
namespace Go.Ab
open Go
set_option linter.unusedVariables false
set_option linter.unusedSimpArgs false

theorem Own.farAt {st : St} {n esz : Nat} {x : V} {es : List (List V)} {o : Nat} (h : Own st n esz x es) (ho : st.next ≤ o) : Far x o := by
  cases h with
  | nil => exact .nils
  | row h hl hn hlt => exact .sl (by omega)

theorem OnlyAt.up {o n : Nat} {st st' : St} (h : OnlyAt o st st') (h1 : n ≤ o) (h2 : n ≤ st.next) (h3 : o < st.next) : Up n st st' :=
  ⟨h2, by rw [h.next]; exact Nat.le_refl _, fun a ha => h.same a (by omega), fun l => h.low l h3⟩

theorem WrN.other {st st' : St} {n0 o g a : Nat} {s : V} {bs : List Nat} {l : List Bool} (h : WrN st n0 o g s bs l) (u : OnlyAt a st st') (hne : o ≠ a) (hf : Far s a) : WrN st' n0 o g s bs l := by
  refine ⟨by rw [u.same _ hne]; exact h.get, h.low, by rw [u.next]; exact h.lt, ?_, h.far⟩
  obtain ⟨h1, h2, h3, h4, h5⟩ := h
  generalize bytes bs = es at *
  cases h4 with
  | nil => exact .nil
  | row k1 k2 k3 k4 => exact .row (by rw [u.same _ (hf _ _ _ _ _ _ rfl)]; exact k1) k2 k3 (by rw [u.next]; exact k4)

theorem bknown_F {st : St} (hlow : st.Low) : ∃ st', F tab fid_archipelagolaw1_known [] st = some (.bool true, st') ∧ Up st.next st st' := by
  have w0 := newWriter_F (st := st)
  have p1 : Up st.next st (st.push (.row [[.nils, .int .i64 0]] 0 0 false)) := .push _ (Nat.le_refl _)
  have low1 := p1.low hlow
  have hw1 : WrN (st.push (.row [[.nils, .int .i64 0]] 0 0 false)) st.next st.next 0 .nils [] [] := ⟨by rw [St.get_push, if_pos rfl]; rfl, Nat.le_refl _, by rw [St.next_push]; omega, .nil, .nils⟩
  generalize st.push (.row [[.nils, .int .i64 0]] 0 0 false) = st1 at *
  obtain ⟨st2, s2, bs2, e2, hw2, hp2, u2, _⟩ := hw1.put (v := 1) (n := 2) Packed.nil p1.next (by omega) (by simp)
  have low2 := u2.low low1
  have n2 := Nat.le_trans p1.next u2.next
  obtain ⟨st3, s3, bs3, e3, hw3, hp3, u3, _⟩ := hw2.put (v := 5) (n := 3) hp2 n2 (by omega) (by rw [List.length_append, top_length]; have := clamp_le 2; simp; omega)
  have low3 := u3.low low2
  have n3 := Nat.le_trans n2 u3.next
  have hl : [] ++ top 1 (clamp 2) ++ top 5 (clamp 3) = [false, true, true, false, true] := by decide
  rw [hl] at hw3 hp3
  have h22 : Packed [22] [false, true, true, false, true] := ⟨rfl, by decide, by decide⟩
  have hbs := PackedN.unique hp3 h22
  subst hbs
  obtain ⟨x4, st4, bs4, e4, o4, hp4, u4⟩ := wbytes_F low3 ⟨st.next, 0, s3, [22], rfl, hw3, hp3⟩ (by simp)
  have hbs := PackedN.unique hp4 h22
  subst hbs
  have low4 := u4.low low3
  have hw4 := hw3.up u4
  obtain ⟨p5, st5, e5, r5, u5⟩ := newReader_F low4 o4.slc
  have low5 := u5.low low4
  have hw5 := hw4.up u5
  obtain ⟨o, g, rfl, r1, r2, r3, r4, r6⟩ := r5
  have hr5 : RdN st5 o g x4 [22] 0 := ⟨r1, r3, r4, r6, by decide, by decide, by decide⟩
  obtain ⟨st6, e6, hr6, u6⟩ := hr5.take (k := 5)
  have e6' : (if clamp 5 ≤ 8 * [22].length - 0 then (V.tup [.int .u64 (rnum [22] 0 (clamp 5) : Int), .bool true]) else .tup [.int .u64 0, .bool false]) = .tup [.int .u64 13, .bool true] := by
    rw [if_pos (by decide)]
    have : rnum [22] 0 (clamp 5) = 13 := by decide +kernel
    rw [this]; rfl
  rw [e6'] at e6
  rw [if_pos (by decide)] at hr6
  have hcl5 : 0 + clamp 5 = 5 := by decide
  rw [hcl5] at hr6
  have low6 := u6.low low5 r3
  have hne : st.next ≠ o := by have := hw4.lt; omega
  have hw6 := hw5.other u6 hne (hw4.own.farAt r2)
  have e7 := hr6.left
  obtain ⟨st8, e8, hr8, u8⟩ := hr6.take (k := 4)
  rw [if_neg (by decide)] at e8
  have low8 := u8.low low6 hr6.lt
  have hw8 := hw6.other u8 hne (hw4.own.farAt r2)
  have hs9 := slc_new (st := st8) (bytes [0, 0]) 1
  obtain ⟨x9, st9, e9, o9, u9⟩ := flip_F (st := st8.push (.row (bytes [0, 0]) 0 0 false)) (Low_push low8) (f := 7) (m := 3) hs9 (by decide) (by decide) (by decide) (by omega)
  have hfl : flips [0, 0] 7 3 32 = [128, 1] := by decide +kernel
  rw [hfl] at o9
  obtain ⟨ox, gx, rfl, _, _⟩ := o9.sl (by decide)
  have q9 : Up st8.next st8 (st8.push (.row (bytes [0, 0]) 0 0 false)) := .push _ (Nat.le_refl _)
  have hw9 := (hw8.up q9).up u9
  have e10 := wlen_F (st := st9) ⟨st.next, 0, s3, [22], rfl, hw9, h22⟩
  obtain ⟨o', g', j, ha, hld⟩ := o9.slc.at (i := 0) (e := [.int .u8 128]) rfl (env := [(57, .sl ox gx 0 2 1 none)]) (a := .t 57) (b := .c (.int .i64 0)) rfl rfl
  obtain ⟨o2', g2', j2, ha2, hld2⟩ := o9.slc.at (i := 1) (e := [.int .u8 1]) rfl (env := [(63, .sl ox gx 0 2 1 none)]) (a := .t 63) (b := .c (.int .i64 1)) rfl rfl
  have hb0 := hld 0 1 false (by simp)
  have hb1 := hld2 0 1 false (by simp)
  simp only [ofCells, cut, List.drop_zero, List.take_succ_cons, List.take_zero] at hb0 hb1
  simp only [evReg, guardOk, wantedI, IOp.run, IOp.ex, Opd.ev, evs, Env.get, Env.put, Env.keep, V.bin, V.un, intOp, shiftOp, fillRow, fillCells, cellsOf, V.one, optInt, bytesOfRow, byteOfCells, ofRes, strOp, List.map_cons, List.map_nil, List.getElem?_cons_zero, List.getElem?_cons_succ, Option.map_some, Option.map_none, reduceIte, reduceCtorEq, if_true, if_false, Nat.reduceEqDiff, Nat.reduceLT, Nat.reduceAdd, Nat.reduceLeDiff, Nat.reduceMul, Int.reduceToNat, Int.reduceLT, Int.reduceLE, Int.reduceEq, Int.reduceNe, Int.reduceBEq, Int.reduceBNe, decide_true, decide_false, List.replicate, List.set_cons_zero, List.set_cons_succ, List.length_cons, List.length_nil, List.all_cons, List.all_nil, Bool.and_true, Bool.true_and, Bool.and_self, and_self, and_true, true_and, Nat.zero_lt_succ, Nat.lt_add_one, beq_self_eq_true, beq_ft, beq_tf, Bool.not_true, Bool.not_false, Int.cast_ofNat_Int] at ha ha2
  simp only [bytes, List.map_cons, List.map_nil, List.length_cons, List.length_nil, Nat.reduceAdd, Nat.reduceMul, Nat.reduceSub, Int.natCast_zero, Int.natCast_one, Int.cast_ofNat_Int] at e2 e3 e7 e9 e10
  have key : ∃ y st', F tab fid_archipelagolaw1_known [] st = some (y, st') ∧ y = .bool true ∧ Up st.next st st' := by
    refine F_fnR tab_archipelagolaw1_known rfl ?_
    unfold ir_archipelagolaw1_known
    simp only [envOf]
    refine X_seq (X_reg (by simp only [evReg, guardOk, wantedI, IOp.run, IOp.ex, Opd.ev, evs, Env.get, Env.put, Env.keep, V.bin, V.un, intOp, shiftOp, fillRow, fillCells, cellsOf, V.one, optInt, bytesOfRow, byteOfCells, ofRes, strOp, List.map_cons, List.map_nil, List.getElem?_cons_zero, List.getElem?_cons_succ, Option.map_some, Option.map_none, reduceIte, reduceCtorEq, if_true, if_false, Nat.reduceEqDiff, Nat.reduceLT, Nat.reduceAdd, Nat.reduceLeDiff, Nat.reduceMul, Int.reduceToNat, Int.reduceLT, Int.reduceLE, Int.reduceEq, Int.reduceNe, Int.reduceBEq, Int.reduceBNe, decide_true, decide_false, List.replicate, List.set_cons_zero, List.set_cons_succ, List.length_cons, List.length_nil, List.all_cons, List.all_nil, Bool.and_true, Bool.true_and, Bool.and_self, and_self, and_true, true_and, Nat.zero_lt_succ, Nat.lt_add_one, beq_self_eq_true, beq_ft, beq_tf, Bool.not_true, Bool.not_false]; rfl) (thn_norm (X_seq ?_)))
    refine X_reg (by simp only [evReg, guardOk, wantedI, IOp.run, IOp.ex, Opd.ev, evs, Env.get, Env.put, Env.keep, V.bin, V.un, intOp, shiftOp, fillRow, fillCells, cellsOf, V.one, optInt, bytesOfRow, byteOfCells, ofRes, strOp, List.map_cons, List.map_nil, List.getElem?_cons_zero, List.getElem?_cons_succ, Option.map_some, Option.map_none, reduceIte, reduceCtorEq, if_true, if_false, Nat.reduceEqDiff, Nat.reduceLT, Nat.reduceAdd, Nat.reduceLeDiff, Nat.reduceMul, Int.reduceToNat, Int.reduceLT, Int.reduceLE, Int.reduceEq, Int.reduceNe, Int.reduceBEq, Int.reduceBNe, decide_true, decide_false, List.replicate, List.set_cons_zero, List.set_cons_succ, List.length_cons, List.length_nil, List.all_cons, List.all_nil, Bool.and_true, Bool.true_and, Bool.and_self, and_self, and_true, true_and, Nat.zero_lt_succ, Nat.lt_add_one, beq_self_eq_true, beq_ft, beq_tf, Bool.not_true, Bool.not_false, w0]; rfl) (thn_norm (X_seq (X_seq ?_)))
    refine X_reg (by simp only [evReg, guardOk, wantedI, IOp.run, IOp.ex, Opd.ev, evs, Env.get, Env.put, Env.keep, V.bin, V.un, intOp, shiftOp, fillRow, fillCells, cellsOf, V.one, optInt, bytesOfRow, byteOfCells, ofRes, strOp, List.map_cons, List.map_nil, List.getElem?_cons_zero, List.getElem?_cons_succ, Option.map_some, Option.map_none, reduceIte, reduceCtorEq, if_true, if_false, Nat.reduceEqDiff, Nat.reduceLT, Nat.reduceAdd, Nat.reduceLeDiff, Nat.reduceMul, Int.reduceToNat, Int.reduceLT, Int.reduceLE, Int.reduceEq, Int.reduceNe, Int.reduceBEq, Int.reduceBNe, decide_true, decide_false, List.replicate, List.set_cons_zero, List.set_cons_succ, List.length_cons, List.length_nil, List.all_cons, List.all_nil, Bool.and_true, Bool.true_and, Bool.and_self, and_self, and_true, true_and, Nat.zero_lt_succ, Nat.lt_add_one, beq_self_eq_true, beq_ft, beq_tf, Bool.not_true, Bool.not_false, V.eqk, Bool.false_eq_true]; rfl) (thn_norm ?_)
    refine X_false (by simp only [evReg, guardOk, wantedI, IOp.run, IOp.ex, Opd.ev, evs, Env.get, Env.put, Env.keep, V.bin, V.un, intOp, shiftOp, fillRow, fillCells, cellsOf, V.one, optInt, bytesOfRow, byteOfCells, ofRes, strOp, List.map_cons, List.map_nil, List.getElem?_cons_zero, List.getElem?_cons_succ, Option.map_some, Option.map_none, reduceIte, reduceCtorEq, if_true, if_false, Nat.reduceEqDiff, Nat.reduceLT, Nat.reduceAdd, Nat.reduceLeDiff, Nat.reduceMul, Int.reduceToNat, Int.reduceLT, Int.reduceLE, Int.reduceEq, Int.reduceNe, Int.reduceBEq, Int.reduceBNe, decide_true, decide_false, List.replicate, List.set_cons_zero, List.set_cons_succ, List.length_cons, List.length_nil, List.all_cons, List.all_nil, Bool.and_true, Bool.true_and, Bool.and_self, and_self, and_true, true_and, Nat.zero_lt_succ, Nat.lt_add_one, beq_self_eq_true, beq_ft, beq_tf, Bool.not_true, Bool.not_false]) (X_skip (thn_norm (X_seq ?_)))
    refine X_reg (by simp only [evReg, guardOk, wantedI, IOp.run, IOp.ex, Opd.ev, evs, Env.get, Env.put, Env.keep, V.bin, V.un, intOp, shiftOp, fillRow, fillCells, cellsOf, V.one, optInt, bytesOfRow, byteOfCells, ofRes, strOp, List.map_cons, List.map_nil, List.getElem?_cons_zero, List.getElem?_cons_succ, Option.map_some, Option.map_none, reduceIte, reduceCtorEq, if_true, if_false, Nat.reduceEqDiff, Nat.reduceLT, Nat.reduceAdd, Nat.reduceLeDiff, Nat.reduceMul, Int.reduceToNat, Int.reduceLT, Int.reduceLE, Int.reduceEq, Int.reduceNe, Int.reduceBEq, Int.reduceBNe, decide_true, decide_false, List.replicate, List.set_cons_zero, List.set_cons_succ, List.length_cons, List.length_nil, List.all_cons, List.all_nil, Bool.and_true, Bool.true_and, Bool.and_self, and_self, and_true, true_and, Nat.zero_lt_succ, Nat.lt_add_one, beq_self_eq_true, beq_ft, beq_tf, Bool.not_true, Bool.not_false, e2]; rfl) (thn_norm (X_seq ?_))
    refine X_reg (by simp only [evReg, guardOk, wantedI, IOp.run, IOp.ex, Opd.ev, evs, Env.get, Env.put, Env.keep, V.bin, V.un, intOp, shiftOp, fillRow, fillCells, cellsOf, V.one, optInt, bytesOfRow, byteOfCells, ofRes, strOp, List.map_cons, List.map_nil, List.getElem?_cons_zero, List.getElem?_cons_succ, Option.map_some, Option.map_none, reduceIte, reduceCtorEq, if_true, if_false, Nat.reduceEqDiff, Nat.reduceLT, Nat.reduceAdd, Nat.reduceLeDiff, Nat.reduceMul, Int.reduceToNat, Int.reduceLT, Int.reduceLE, Int.reduceEq, Int.reduceNe, Int.reduceBEq, Int.reduceBNe, decide_true, decide_false, List.replicate, List.set_cons_zero, List.set_cons_succ, List.length_cons, List.length_nil, List.all_cons, List.all_nil, Bool.and_true, Bool.true_and, Bool.and_self, and_self, and_true, true_and, Nat.zero_lt_succ, Nat.lt_add_one, beq_self_eq_true, beq_ft, beq_tf, Bool.not_true, Bool.not_false, e3]; rfl) (thn_norm (X_seq ?_))
    refine X_reg (by simp only [evReg, guardOk, wantedI, IOp.run, IOp.ex, Opd.ev, evs, Env.get, Env.put, Env.keep, V.bin, V.un, intOp, shiftOp, fillRow, fillCells, cellsOf, V.one, optInt, bytesOfRow, byteOfCells, ofRes, strOp, List.map_cons, List.map_nil, List.getElem?_cons_zero, List.getElem?_cons_succ, Option.map_some, Option.map_none, reduceIte, reduceCtorEq, if_true, if_false, Nat.reduceEqDiff, Nat.reduceLT, Nat.reduceAdd, Nat.reduceLeDiff, Nat.reduceMul, Int.reduceToNat, Int.reduceLT, Int.reduceLE, Int.reduceEq, Int.reduceNe, Int.reduceBEq, Int.reduceBNe, decide_true, decide_false, List.replicate, List.set_cons_zero, List.set_cons_succ, List.length_cons, List.length_nil, List.all_cons, List.all_nil, Bool.and_true, Bool.true_and, Bool.and_self, and_self, and_true, true_and, Nat.zero_lt_succ, Nat.lt_add_one, beq_self_eq_true, beq_ft, beq_tf, Bool.not_true, Bool.not_false, e4, e5]; rfl) (thn_norm (X_seq ?_))
    refine X_reg (by simp only [evReg, guardOk, wantedI, IOp.run, IOp.ex, Opd.ev, evs, Env.get, Env.put, Env.keep, V.bin, V.un, intOp, shiftOp, fillRow, fillCells, cellsOf, V.one, optInt, bytesOfRow, byteOfCells, ofRes, strOp, List.map_cons, List.map_nil, List.getElem?_cons_zero, List.getElem?_cons_succ, Option.map_some, Option.map_none, reduceIte, reduceCtorEq, if_true, if_false, Nat.reduceEqDiff, Nat.reduceLT, Nat.reduceAdd, Nat.reduceLeDiff, Nat.reduceMul, Int.reduceToNat, Int.reduceLT, Int.reduceLE, Int.reduceEq, Int.reduceNe, Int.reduceBEq, Int.reduceBNe, decide_true, decide_false, List.replicate, List.set_cons_zero, List.set_cons_succ, List.length_cons, List.length_nil, List.all_cons, List.all_nil, Bool.and_true, Bool.true_and, Bool.and_self, and_self, and_true, true_and, Nat.zero_lt_succ, Nat.lt_add_one, beq_self_eq_true, beq_ft, beq_tf, Bool.not_true, Bool.not_false, e6]; rfl) (thn_norm (X_seq ?_))
    refine X_reg (by simp only [evReg, guardOk, wantedI, IOp.run, IOp.ex, Opd.ev, evs, Env.get, Env.put, Env.keep, V.bin, V.un, intOp, shiftOp, fillRow, fillCells, cellsOf, V.one, optInt, bytesOfRow, byteOfCells, ofRes, strOp, List.map_cons, List.map_nil, List.getElem?_cons_zero, List.getElem?_cons_succ, Option.map_some, Option.map_none, reduceIte, reduceCtorEq, if_true, if_false, Nat.reduceEqDiff, Nat.reduceLT, Nat.reduceAdd, Nat.reduceLeDiff, Nat.reduceMul, Int.reduceToNat, Int.reduceLT, Int.reduceLE, Int.reduceEq, Int.reduceNe, Int.reduceBEq, Int.reduceBNe, decide_true, decide_false, List.replicate, List.set_cons_zero, List.set_cons_succ, List.length_cons, List.length_nil, List.all_cons, List.all_nil, Bool.and_true, Bool.true_and, Bool.and_self, and_self, and_true, true_and, Nat.zero_lt_succ, Nat.lt_add_one, beq_self_eq_true, beq_ft, beq_tf, Bool.not_true, Bool.not_false, e7]; rfl) (thn_norm (X_seq ?_))
    refine X_reg (by simp only [evReg, guardOk, wantedI, IOp.run, IOp.ex, Opd.ev, evs, Env.get, Env.put, Env.keep, V.bin, V.un, intOp, shiftOp, fillRow, fillCells, cellsOf, V.one, optInt, bytesOfRow, byteOfCells, ofRes, strOp, List.map_cons, List.map_nil, List.getElem?_cons_zero, List.getElem?_cons_succ, Option.map_some, Option.map_none, reduceIte, reduceCtorEq, if_true, if_false, Nat.reduceEqDiff, Nat.reduceLT, Nat.reduceAdd, Nat.reduceLeDiff, Nat.reduceMul, Int.reduceToNat, Int.reduceLT, Int.reduceLE, Int.reduceEq, Int.reduceNe, Int.reduceBEq, Int.reduceBNe, decide_true, decide_false, List.replicate, List.set_cons_zero, List.set_cons_succ, List.length_cons, List.length_nil, List.all_cons, List.all_nil, Bool.and_true, Bool.true_and, Bool.and_self, and_self, and_true, true_and, Nat.zero_lt_succ, Nat.lt_add_one, beq_self_eq_true, beq_ft, beq_tf, Bool.not_true, Bool.not_false, e8]; rfl) (thn_norm (X_seq ?_))
    refine X_reg (by simp only [evReg, guardOk, wantedI, IOp.run, IOp.ex, Opd.ev, evs, Env.get, Env.put, Env.keep, V.bin, V.un, intOp, shiftOp, fillRow, fillCells, cellsOf, V.one, optInt, bytesOfRow, byteOfCells, ofRes, strOp, List.map_cons, List.map_nil, List.getElem?_cons_zero, List.getElem?_cons_succ, Option.map_some, Option.map_none, reduceIte, reduceCtorEq, if_true, if_false, Nat.reduceEqDiff, Nat.reduceLT, Nat.reduceAdd, Nat.reduceLeDiff, Nat.reduceMul, Int.reduceToNat, Int.reduceLT, Int.reduceLE, Int.reduceEq, Int.reduceNe, Int.reduceBEq, Int.reduceBNe, decide_true, decide_false, List.replicate, List.set_cons_zero, List.set_cons_succ, List.length_cons, List.length_nil, List.all_cons, List.all_nil, Bool.and_true, Bool.true_and, Bool.and_self, and_self, and_true, true_and, Nat.zero_lt_succ, Nat.lt_add_one, beq_self_eq_true, beq_ft, beq_tf, Bool.not_true, Bool.not_false, e9]; rfl) (thn_norm (X_seq ?_))
    refine X_reg (by simp only [evReg, guardOk, wantedI, IOp.run, IOp.ex, Opd.ev, evs, Env.get, Env.put, Env.keep, V.bin, V.un, intOp, shiftOp, fillRow, fillCells, cellsOf, V.one, optInt, bytesOfRow, byteOfCells, ofRes, strOp, List.map_cons, List.map_nil, List.getElem?_cons_zero, List.getElem?_cons_succ, Option.map_some, Option.map_none, reduceIte, reduceCtorEq, if_true, if_false, Nat.reduceEqDiff, Nat.reduceLT, Nat.reduceAdd, Nat.reduceLeDiff, Nat.reduceMul, Int.reduceToNat, Int.reduceLT, Int.reduceLE, Int.reduceEq, Int.reduceNe, Int.reduceBEq, Int.reduceBNe, decide_true, decide_false, List.replicate, List.set_cons_zero, List.set_cons_succ, List.length_cons, List.length_nil, List.all_cons, List.all_nil, Bool.and_true, Bool.true_and, Bool.and_self, and_self, and_true, true_and, Nat.zero_lt_succ, Nat.lt_add_one, beq_self_eq_true, beq_ft, beq_tf, Bool.not_true, Bool.not_false, Int.cast_ofNat_Int, e10, ha, hb0, ha2, hb1]; rfl) (thn_norm (X_ret ⟨.inr rfl, _, rfl, rfl, ?_⟩))
    have m4 := u4.next
    have m5 := u5.next
    have m6 := u6.next
    have m8 := u8.next
    have m9 := q9.next
    exact p1.trans (u2.trans (u3.trans ((u4.mono n3).trans ((u5.mono (by omega)).trans ((u6.up (n := st.next) (by omega) (by omega) hr5.lt).trans ((u8.up (n := st.next) (by omega) (by omega) hr6.lt).trans ((q9.mono (by omega)).trans (u9.mono (by omega)))))))))
  obtain ⟨y, st', h1, rfl, h2⟩ := key
  exact ⟨st', h1, h2⟩

end Go.Ab
