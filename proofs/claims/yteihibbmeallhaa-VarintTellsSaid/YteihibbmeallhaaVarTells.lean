/- VarintTells on the abstract machine. -/
import Derived.Test.YteihibbmeallhaaVarRefTake
import Derived.Test.YteihibbmeallhaaVarBack
import Derived.Test.YteihibbmeallhaaVarForms
namespace Go.Ab
open Go
set_option linter.unusedVariables false
set_option linter.unusedSimpArgs false

/-- A row of slices of bytes. -/
def Each (st : St) (xs : List V) : Prop := ∀ (i : Nat) (x : V), xs[i]? = some x → ∃ bs, Slc st 1 x (bytes bs) ∧ (∀ c ∈ bs, c < 256) ∧ bs.length ≤ 1000

theorem Each.up {st st' : St} {xs : List V} (h : Each st xs) (l : st.Low) (u : Up st.next st st') : Each st' xs := fun i x hx => by
  obtain ⟨bs, h1, h2, h3⟩ := h i x hx
  exact ⟨bs, h1.up l u, h2, h3⟩

theorem ne_self_false (a : Int) : (a != a) = false := by simp

theorem tells_b0 {st : St} {env : Env} {x k m row : V} {n4 n5 n6 : V} {ms bs : List Nat} (hx : Slc st 1 x (bytes bs)) (hb : ∀ c ∈ bs, c < 256) (hbl : bs.length ≤ 1000) (hr : Slc st 1 row (nums .u64 ms)) (hms : ∀ v ∈ ms, v < 18446744073709551616) (hml : ms.length ≤ 1000)
    (h2 : Env.get env 2 = k) (h3 : Env.get env 3 = m) (h17 : Env.get env 17 = x) (h74 : Env.get env 74 = n4) (h75 : Env.get env 75 = n5) (h76 : Env.get env 76 = n6) (h84 : Env.get env 84 = row) (h85 : Env.get env 85 = .int .i64 (ms.length : Int)) (h86 : Env.get env 86 = .int .i64 0) {Q : Ex → Env → St → Prop}
    (hQ : ∀ env', Env.get env' 2 = k → Env.get env' 3 = m → Env.get env' 74 = n4 → Env.get env' 75 = n5 → Env.get env' 76 = n6 → Q (.exit 2) env' st) :
    X tab (.loop [2, 3, 17, 74, 75, 76, 84, 85, 86] archipelagolaw2_VarintTells_b0) env st Q := by
  refine X_while (fun w env1 st1 => st1 = st ∧ ∃ i, i ≤ ms.length ∧ ms.length - i = w ∧ Env.get env1 2 = k ∧ Env.get env1 3 = m ∧ Env.get env1 17 = x ∧ Env.get env1 74 = n4 ∧ Env.get env1 75 = n5 ∧ Env.get env1 76 = n6 ∧ Env.get env1 84 = row ∧ Env.get env1 85 = .int .i64 (ms.length : Int) ∧ Env.get env1 86 = .int .i64 ((i : Nat) : Int)) ms.length ⟨rfl, 0, Nat.zero_le _, rfl, h2, h3, h17, h74, h75, h76, h84, h85, h86⟩ ?_
  rintro w env1 st1 K hK hE ⟨rfl, i, hi, hw, g2, g3, g17, g74, g75, g76, g84, g85, g86⟩
  simp only [Env.keep, g2, g3, g17, g74, g75, g76, g84, g85, g86]
  unfold archipelagolaw2_VarintTells_b0
  refine X_seq ?_
  refine X_reg (by simp only [evReg, guardOk, wantedI, IOp.run, IOp.ex, Opd.ev, evs, Env.get, Env.put, Env.keep, V.bin, V.un, intOp, shiftOp, fillRow, fillCells, cellsOf, V.one, optInt, bytesOfRow, byteOfCells, ofRes, strOp, List.map_cons, List.map_nil, List.getElem?_cons_zero, List.getElem?_cons_succ, Option.map_some, Option.map_none, reduceIte, reduceCtorEq, if_true, if_false, Nat.reduceEqDiff, Nat.reduceLT, Nat.reduceAdd, Nat.reduceLeDiff, Nat.reduceMul, Int.reduceToNat, Int.reduceLT, Int.reduceLE, Int.reduceEq, Int.reduceNe, Int.reduceBEq, Int.reduceBNe, decide_true, decide_false, List.replicate, List.set_cons_zero, List.set_cons_succ, List.length_cons, List.length_nil, List.all_cons, List.all_nil, Bool.and_true, Bool.true_and, Bool.and_self, and_self, and_true, true_and, Nat.zero_lt_succ, Nat.lt_add_one, beq_self_eq_true, beq_ft, beq_tf, Bool.not_true, Bool.not_false]; rfl) (thn_norm (X_seq ?_))
  by_cases hlt : (i : Int) < (ms.length : Int)
  · refine X_true (by simp only [evReg, guardOk, wantedI, IOp.run, IOp.ex, Opd.ev, evs, Env.get, Env.put, Env.keep, V.bin, V.un, intOp, shiftOp, fillRow, fillCells, cellsOf, V.one, optInt, bytesOfRow, byteOfCells, ofRes, strOp, List.map_cons, List.map_nil, List.getElem?_cons_zero, List.getElem?_cons_succ, Option.map_some, Option.map_none, reduceIte, reduceCtorEq, if_true, if_false, Nat.reduceEqDiff, Nat.reduceLT, Nat.reduceAdd, Nat.reduceLeDiff, Nat.reduceMul, Int.reduceToNat, Int.reduceLT, Int.reduceLE, Int.reduceEq, Int.reduceNe, Int.reduceBEq, Int.reduceBNe, decide_true, decide_false, List.replicate, List.set_cons_zero, List.set_cons_succ, List.length_cons, List.length_nil, List.all_cons, List.all_nil, Bool.and_true, Bool.true_and, Bool.and_self, and_self, and_true, true_and, Nat.zero_lt_succ, Nat.lt_add_one, beq_self_eq_true, beq_ft, beq_tf, Bool.not_true, Bool.not_false, hlt]) (X_skip (thn_norm (X_seq (X_block (X_seq ?_)))))
    have hi' : i < ms.length := by omega
    obtain ⟨v, hvi⟩ : ∃ v, ms[i]? = some v := ⟨ms[i], List.getElem?_eq_getElem hi'⟩
    have hv := hms v (List.mem_of_getElem? hvi)
    obtain ⟨o, g, j, ha, hld⟩ := hr.at (nums_get hvi) (env := [(84, row), (86, .int .i64 ((i : Nat) : Int))]) (a := .t 84) (b := .t 86) rfl rfl
    have hld0 := hld 0 1 false (by simp)
    simp only [ofCells, cut, List.drop_zero, List.take_succ_cons, List.take_zero] at hld0
    simp only [evReg, guardOk, wantedI, IOp.run, IOp.ex, Opd.ev, evs, Env.get, Env.put, Env.keep, V.bin, V.un, intOp, shiftOp, fillRow, fillCells, cellsOf, V.one, optInt, bytesOfRow, byteOfCells, ofRes, strOp, List.map_cons, List.map_nil, List.getElem?_cons_zero, List.getElem?_cons_succ, Option.map_some, Option.map_none, reduceIte, reduceCtorEq, if_true, if_false, Nat.reduceEqDiff, Nat.reduceLT, Nat.reduceAdd, Nat.reduceLeDiff, Nat.reduceMul, Int.reduceToNat, Int.reduceLT, Int.reduceLE, Int.reduceEq, Int.reduceNe, Int.reduceBEq, Int.reduceBNe, decide_true, decide_false, List.replicate, List.set_cons_zero, List.set_cons_succ, List.length_cons, List.length_nil, List.all_cons, List.all_nil, Bool.and_true, Bool.true_and, Bool.and_self, and_self, and_true, true_and, Nat.zero_lt_succ, Nat.lt_add_one, beq_self_eq_true, beq_ft, beq_tf, Bool.not_true, Bool.not_false] at ha
    refine X_reg (by simp only [evReg, guardOk, wantedI, IOp.run, IOp.ex, Opd.ev, evs, Env.get, Env.put, Env.keep, V.bin, V.un, intOp, shiftOp, fillRow, fillCells, cellsOf, V.one, optInt, bytesOfRow, byteOfCells, ofRes, strOp, List.map_cons, List.map_nil, List.getElem?_cons_zero, List.getElem?_cons_succ, Option.map_some, Option.map_none, reduceIte, reduceCtorEq, if_true, if_false, Nat.reduceEqDiff, Nat.reduceLT, Nat.reduceAdd, Nat.reduceLeDiff, Nat.reduceMul, Int.reduceToNat, Int.reduceLT, Int.reduceLE, Int.reduceEq, Int.reduceNe, Int.reduceBEq, Int.reduceBNe, decide_true, decide_false, List.replicate, List.set_cons_zero, List.set_cons_succ, List.length_cons, List.length_nil, List.all_cons, List.all_nil, Bool.and_true, Bool.true_and, Bool.and_self, and_self, and_true, true_and, Nat.zero_lt_succ, Nat.lt_add_one, beq_self_eq_true, beq_ft, beq_tf, Bool.not_true, Bool.not_false, ha, hld0]; rfl) (thn_norm (X_seq ?_))
    have t1 := take_F (most := v) hx hb hv (by omega)
    have t2 := rtake_F (most := v) hx hb hv (by omega)
    generalize takeV v 0 0 bs = r at *
    obtain ⟨r1, r2, r3⟩ := r
    simp only [took] at t1 t2
    refine X_reg (by simp only [evReg, guardOk, wantedI, IOp.run, IOp.ex, Opd.ev, evs, Env.get, Env.put, Env.keep, V.bin, V.un, intOp, shiftOp, fillRow, fillCells, cellsOf, V.one, optInt, bytesOfRow, byteOfCells, ofRes, strOp, List.map_cons, List.map_nil, List.getElem?_cons_zero, List.getElem?_cons_succ, Option.map_some, Option.map_none, reduceIte, reduceCtorEq, if_true, if_false, Nat.reduceEqDiff, Nat.reduceLT, Nat.reduceAdd, Nat.reduceLeDiff, Nat.reduceMul, Int.reduceToNat, Int.reduceLT, Int.reduceLE, Int.reduceEq, Int.reduceNe, Int.reduceBEq, Int.reduceBNe, decide_true, decide_false, List.replicate, List.set_cons_zero, List.set_cons_succ, List.length_cons, List.length_nil, List.all_cons, List.all_nil, Bool.and_true, Bool.true_and, Bool.and_self, and_self, and_true, true_and, Nat.zero_lt_succ, Nat.lt_add_one, beq_self_eq_true, beq_ft, beq_tf, Bool.not_true, Bool.not_false, t1]; rfl) (thn_norm (X_seq ?_))
    refine X_reg (by simp only [evReg, guardOk, wantedI, IOp.run, IOp.ex, Opd.ev, evs, Env.get, Env.put, Env.keep, V.bin, V.un, intOp, shiftOp, fillRow, fillCells, cellsOf, V.one, optInt, bytesOfRow, byteOfCells, ofRes, strOp, List.map_cons, List.map_nil, List.getElem?_cons_zero, List.getElem?_cons_succ, Option.map_some, Option.map_none, reduceIte, reduceCtorEq, if_true, if_false, Nat.reduceEqDiff, Nat.reduceLT, Nat.reduceAdd, Nat.reduceLeDiff, Nat.reduceMul, Int.reduceToNat, Int.reduceLT, Int.reduceLE, Int.reduceEq, Int.reduceNe, Int.reduceBEq, Int.reduceBNe, decide_true, decide_false, List.replicate, List.set_cons_zero, List.set_cons_succ, List.length_cons, List.length_nil, List.all_cons, List.all_nil, Bool.and_true, Bool.true_and, Bool.and_self, and_self, and_true, true_and, Nat.zero_lt_succ, Nat.lt_add_one, beq_self_eq_true, beq_ft, beq_tf, Bool.not_true, Bool.not_false, t2]; rfl) (thn_norm (X_seq ?_))
    refine X_reg (by simp only [evReg, guardOk, wantedI, IOp.run, IOp.ex, Opd.ev, evs, Env.get, Env.put, Env.keep, V.bin, V.un, intOp, shiftOp, fillRow, fillCells, cellsOf, V.one, optInt, bytesOfRow, byteOfCells, ofRes, strOp, List.map_cons, List.map_nil, List.getElem?_cons_zero, List.getElem?_cons_succ, Option.map_some, Option.map_none, reduceIte, reduceCtorEq, if_true, if_false, Nat.reduceEqDiff, Nat.reduceLT, Nat.reduceAdd, Nat.reduceLeDiff, Nat.reduceMul, Int.reduceToNat, Int.reduceLT, Int.reduceLE, Int.reduceEq, Int.reduceNe, Int.reduceBEq, Int.reduceBNe, decide_true, decide_false, List.replicate, List.set_cons_zero, List.set_cons_succ, List.length_cons, List.length_nil, List.all_cons, List.all_nil, Bool.and_true, Bool.true_and, Bool.and_self, and_self, and_true, true_and, Nat.zero_lt_succ, Nat.lt_add_one, beq_self_eq_true, beq_ft, beq_tf, Bool.not_true, Bool.not_false, ne_self_false]; rfl) (thn_norm ?_)
    refine X_false (by simp only [evReg, guardOk, wantedI, IOp.run, IOp.ex, Opd.ev, evs, Env.get, Env.put, Env.keep, V.bin, V.un, intOp, shiftOp, fillRow, fillCells, cellsOf, V.one, optInt, bytesOfRow, byteOfCells, ofRes, strOp, List.map_cons, List.map_nil, List.getElem?_cons_zero, List.getElem?_cons_succ, Option.map_some, Option.map_none, reduceIte, reduceCtorEq, if_true, if_false, Nat.reduceEqDiff, Nat.reduceLT, Nat.reduceAdd, Nat.reduceLeDiff, Nat.reduceMul, Int.reduceToNat, Int.reduceLT, Int.reduceLE, Int.reduceEq, Int.reduceNe, Int.reduceBEq, Int.reduceBNe, decide_true, decide_false, List.replicate, List.set_cons_zero, List.set_cons_succ, List.length_cons, List.length_nil, List.all_cons, List.all_nil, Bool.and_true, Bool.true_and, Bool.and_self, and_self, and_true, true_and, Nat.zero_lt_succ, Nat.lt_add_one, beq_self_eq_true, beq_ft, beq_tf, Bool.not_true, Bool.not_false]) (X_skip (inb_norm (thn_norm ?_)))
    have hadd : IntKind.i64.wrap ((i : Int) + 1) = ((i + 1 : Nat) : Int) := wrap_i64_nat (n := i + 1) (by omega)
    refine X_reg (by simp only [evReg, guardOk, wantedI, IOp.run, IOp.ex, Opd.ev, evs, Env.get, Env.put, Env.keep, V.bin, V.un, intOp, shiftOp, fillRow, fillCells, cellsOf, V.one, optInt, bytesOfRow, byteOfCells, ofRes, strOp, List.map_cons, List.map_nil, List.getElem?_cons_zero, List.getElem?_cons_succ, Option.map_some, Option.map_none, reduceIte, reduceCtorEq, if_true, if_false, Nat.reduceEqDiff, Nat.reduceLT, Nat.reduceAdd, Nat.reduceLeDiff, Nat.reduceMul, Int.reduceToNat, Int.reduceLT, Int.reduceLE, Int.reduceEq, Int.reduceNe, Int.reduceBEq, Int.reduceBNe, decide_true, decide_false, List.replicate, List.set_cons_zero, List.set_cons_succ, List.length_cons, List.length_nil, List.all_cons, List.all_nil, Bool.and_true, Bool.true_and, Bool.and_self, and_self, and_true, true_and, Nat.zero_lt_succ, Nat.lt_add_one, beq_self_eq_true, beq_ft, beq_tf, Bool.not_true, Bool.not_false, hadd]; rfl) ?_
    exact hK (ms.length - (i + 1)) _ _ (by omega) ⟨rfl, i + 1, by omega, rfl, rfl, rfl, rfl, rfl, rfl, rfl, rfl, rfl, rfl⟩
  · refine X_false (by simp only [evReg, guardOk, wantedI, IOp.run, IOp.ex, Opd.ev, evs, Env.get, Env.put, Env.keep, V.bin, V.un, intOp, shiftOp, fillRow, fillCells, cellsOf, V.one, optInt, bytesOfRow, byteOfCells, ofRes, strOp, List.map_cons, List.map_nil, List.getElem?_cons_zero, List.getElem?_cons_succ, Option.map_some, Option.map_none, reduceIte, reduceCtorEq, if_true, if_false, Nat.reduceEqDiff, Nat.reduceLT, Nat.reduceAdd, Nat.reduceLeDiff, Nat.reduceMul, Int.reduceToNat, Int.reduceLT, Int.reduceLE, Int.reduceEq, Int.reduceNe, Int.reduceBEq, Int.reduceBNe, decide_true, decide_false, List.replicate, List.set_cons_zero, List.set_cons_succ, List.length_cons, List.length_nil, List.all_cons, List.all_nil, Bool.and_true, Bool.true_and, Bool.and_self, and_self, and_true, true_and, Nat.zero_lt_succ, Nat.lt_add_one, beq_self_eq_true, beq_ft, beq_tf, Bool.not_true, Bool.not_false, hlt]) (X_exit (thn_exit (hE _ _ _ (by simp) (hQ _ rfl rfl rfl rfl rfl))))

theorem tells_b1 {st : St} {env : Env} {k most : Nat} {row : V} {xs : List V} (hlow : st.Low) (hk : k < 256) (hm : most < 18446744073709551616) (hxs : Each st xs) (hxl : xs.length ≤ 1000) (hr : Slc st 1 row (xs.map fun y => [y]))
    (h2 : Env.get env 2 = .int .u8 (k : Int)) (h3 : Env.get env 3 = .int .u64 (most : Int)) (h74 : Env.get env 74 = row) (h75 : Env.get env 75 = .int .i64 (xs.length : Int)) (h76 : Env.get env 76 = .int .i64 0) {Q : Ex → Env → St → Prop}
    (hQ : ∀ env' st', Env.get env' 2 = .int .u8 (k : Int) → Env.get env' 3 = .int .u64 (most : Int) → Up st.next st st' → Q (.exit 0) env' st') :
    X tab (.loop [2, 3, 74, 75, 76] archipelagolaw2_VarintTells_b1) env st Q := by
  refine X_while (fun w env1 st1 => ∃ i, i ≤ xs.length ∧ xs.length - i = w ∧ Env.get env1 2 = .int .u8 (k : Int) ∧ Env.get env1 3 = .int .u64 (most : Int) ∧ Env.get env1 74 = row ∧ Env.get env1 75 = .int .i64 (xs.length : Int) ∧ Env.get env1 76 = .int .i64 ((i : Nat) : Int) ∧ Up st.next st st1) xs.length ⟨0, Nat.zero_le _, rfl, h2, h3, h74, h75, h76, .refl (Nat.le_refl _)⟩ ?_
  rintro w env1 st1 K hK hE ⟨i, hi, hw, g2, g3, g74, g75, g76, hu⟩
  simp only [Env.keep, g2, g3, g74, g75, g76]
  unfold archipelagolaw2_VarintTells_b1
  refine X_seq ?_
  refine X_reg (by simp only [evReg, guardOk, wantedI, IOp.run, IOp.ex, Opd.ev, evs, Env.get, Env.put, Env.keep, V.bin, V.un, intOp, shiftOp, fillRow, fillCells, cellsOf, V.one, optInt, bytesOfRow, byteOfCells, ofRes, strOp, List.map_cons, List.map_nil, List.getElem?_cons_zero, List.getElem?_cons_succ, Option.map_some, Option.map_none, reduceIte, reduceCtorEq, if_true, if_false, Nat.reduceEqDiff, Nat.reduceLT, Nat.reduceAdd, Nat.reduceLeDiff, Nat.reduceMul, Int.reduceToNat, Int.reduceLT, Int.reduceLE, Int.reduceEq, Int.reduceNe, Int.reduceBEq, Int.reduceBNe, decide_true, decide_false, List.replicate, List.set_cons_zero, List.set_cons_succ, List.length_cons, List.length_nil, List.all_cons, List.all_nil, Bool.and_true, Bool.true_and, Bool.and_self, and_self, and_true, true_and, Nat.zero_lt_succ, Nat.lt_add_one, beq_self_eq_true, beq_ft, beq_tf, Bool.not_true, Bool.not_false]; rfl) (thn_norm (X_seq ?_))
  by_cases hlt : (i : Int) < (xs.length : Int)
  · refine X_true (by simp only [evReg, guardOk, wantedI, IOp.run, IOp.ex, Opd.ev, evs, Env.get, Env.put, Env.keep, V.bin, V.un, intOp, shiftOp, fillRow, fillCells, cellsOf, V.one, optInt, bytesOfRow, byteOfCells, ofRes, strOp, List.map_cons, List.map_nil, List.getElem?_cons_zero, List.getElem?_cons_succ, Option.map_some, Option.map_none, reduceIte, reduceCtorEq, if_true, if_false, Nat.reduceEqDiff, Nat.reduceLT, Nat.reduceAdd, Nat.reduceLeDiff, Nat.reduceMul, Int.reduceToNat, Int.reduceLT, Int.reduceLE, Int.reduceEq, Int.reduceNe, Int.reduceBEq, Int.reduceBNe, decide_true, decide_false, List.replicate, List.set_cons_zero, List.set_cons_succ, List.length_cons, List.length_nil, List.all_cons, List.all_nil, Bool.and_true, Bool.true_and, Bool.and_self, and_self, and_true, true_and, Nat.zero_lt_succ, Nat.lt_add_one, beq_self_eq_true, beq_ft, beq_tf, Bool.not_true, Bool.not_false, hlt]) (X_skip (thn_norm (X_seq (X_block (X_seq ?_)))))
    have hi' : i < xs.length := by omega
    obtain ⟨x, hxi⟩ : ∃ x, xs[i]? = some x := ⟨xs[i], List.getElem?_eq_getElem hi'⟩
    have low1 := hu.low hlow
    have hr1 := hr.up hlow hu
    obtain ⟨bs, hx, hb, hbl⟩ := hxs.up hlow hu i x hxi
    obtain ⟨o, g, j, ha, hld⟩ := hr1.at (e := [x]) (by rw [List.getElem?_map, hxi]; rfl) (env := [(74, row), (76, .int .i64 ((i : Nat) : Int))]) (a := .t 74) (b := .t 76) rfl rfl
    have hld0 := hld 0 1 false (by simp)
    simp only [ofCells, cut, List.drop_zero, List.take_succ_cons, List.take_zero] at hld0
    simp only [evReg, guardOk, wantedI, IOp.run, IOp.ex, Opd.ev, evs, Env.get, Env.put, Env.keep, V.bin, V.un, intOp, shiftOp, fillRow, fillCells, cellsOf, V.one, optInt, bytesOfRow, byteOfCells, ofRes, strOp, List.map_cons, List.map_nil, List.getElem?_cons_zero, List.getElem?_cons_succ, Option.map_some, Option.map_none, reduceIte, reduceCtorEq, if_true, if_false, Nat.reduceEqDiff, Nat.reduceLT, Nat.reduceAdd, Nat.reduceLeDiff, Nat.reduceMul, Int.reduceToNat, Int.reduceLT, Int.reduceLE, Int.reduceEq, Int.reduceNe, Int.reduceBEq, Int.reduceBNe, decide_true, decide_false, List.replicate, List.set_cons_zero, List.set_cons_succ, List.length_cons, List.length_nil, List.all_cons, List.all_nil, Bool.and_true, Bool.true_and, Bool.and_self, and_self, and_true, true_and, Nat.zero_lt_succ, Nat.lt_add_one, beq_self_eq_true, beq_ft, beq_tf, Bool.not_true, Bool.not_false] at ha
    refine X_reg (by simp only [evReg, guardOk, wantedI, IOp.run, IOp.ex, Opd.ev, evs, Env.get, Env.put, Env.keep, V.bin, V.un, intOp, shiftOp, fillRow, fillCells, cellsOf, V.one, optInt, bytesOfRow, byteOfCells, ofRes, strOp, List.map_cons, List.map_nil, List.getElem?_cons_zero, List.getElem?_cons_succ, Option.map_some, Option.map_none, reduceIte, reduceCtorEq, if_true, if_false, Nat.reduceEqDiff, Nat.reduceLT, Nat.reduceAdd, Nat.reduceLeDiff, Nat.reduceMul, Int.reduceToNat, Int.reduceLT, Int.reduceLE, Int.reduceEq, Int.reduceNe, Int.reduceBEq, Int.reduceBNe, decide_true, decide_false, List.replicate, List.set_cons_zero, List.set_cons_succ, List.length_cons, List.length_nil, List.all_cons, List.all_nil, Bool.and_true, Bool.true_and, Bool.and_self, and_self, and_true, true_and, Nat.zero_lt_succ, Nat.lt_add_one, beq_self_eq_true, beq_ft, beq_tf, Bool.not_true, Bool.not_false, ha, hld0]; rfl) (thn_norm (X_seq ?_))
    obtain ⟨st2, he, u2⟩ := edge_F (st := st1) (n := most) (k := k) hm hk
    have low2 := u2.low low1
    have hx2 : edgeN most k < 18446744073709551616 := edgeN_lt hm
    refine X_reg (by simp only [evReg, guardOk, wantedI, IOp.run, IOp.ex, Opd.ev, evs, Env.get, Env.put, Env.keep, V.bin, V.un, intOp, shiftOp, fillRow, fillCells, cellsOf, V.one, optInt, bytesOfRow, byteOfCells, ofRes, strOp, List.map_cons, List.map_nil, List.getElem?_cons_zero, List.getElem?_cons_succ, Option.map_some, Option.map_none, reduceIte, reduceCtorEq, if_true, if_false, Nat.reduceEqDiff, Nat.reduceLT, Nat.reduceAdd, Nat.reduceLeDiff, Nat.reduceMul, Int.reduceToNat, Int.reduceLT, Int.reduceLE, Int.reduceEq, Int.reduceNe, Int.reduceBEq, Int.reduceBNe, decide_true, decide_false, List.replicate, List.set_cons_zero, List.set_cons_succ, List.length_cons, List.length_nil, List.all_cons, List.all_nil, Bool.and_true, Bool.true_and, Bool.and_self, and_self, and_true, true_and, Nat.zero_lt_succ, Nat.lt_add_one, beq_self_eq_true, beq_ft, beq_tf, Bool.not_true, Bool.not_false, he]; rfl) (thn_norm (X_block ?_))
    generalize edgeN most k = e at *
    have u3 : Up st2.next st2 (st2.push (.row (nums .u64 [most, e, 127, 18446744073709551615]) 0 0 false)) := .push _ (Nat.le_refl _)
    have hs := slc_new (st := st2) (nums .u64 [most, e, 127, 18446744073709551615]) 1
    refine tells_b0 (bs := bs) (ms := [most, e, 127, 18446744073709551615]) ((hx.up low1 u2).up low2 u3) hb hbl hs (by
      intro v hv
      simp only [List.mem_cons, List.not_mem_nil, or_false] at hv
      omega) (by simp) rfl rfl rfl rfl rfl rfl rfl rfl rfl ?_
    intro env4 k2 k3 k74 k75 k76
    refine inb_hit (inb_norm (thn_norm ?_))
    have hadd : IntKind.i64.wrap ((i : Int) + 1) = ((i + 1 : Nat) : Int) := wrap_i64_nat (n := i + 1) (by omega)
    refine X_reg (by simp only [evReg, guardOk, wantedI, IOp.run, IOp.ex, Opd.ev, evs, Env.get, Env.put, Env.keep, V.bin, V.un, intOp, shiftOp, fillRow, fillCells, cellsOf, V.one, optInt, bytesOfRow, byteOfCells, ofRes, strOp, List.map_cons, List.map_nil, List.getElem?_cons_zero, List.getElem?_cons_succ, Option.map_some, Option.map_none, reduceIte, reduceCtorEq, if_true, if_false, Nat.reduceEqDiff, Nat.reduceLT, Nat.reduceAdd, Nat.reduceLeDiff, Nat.reduceMul, Int.reduceToNat, Int.reduceLT, Int.reduceLE, Int.reduceEq, Int.reduceNe, Int.reduceBEq, Int.reduceBNe, decide_true, decide_false, List.replicate, List.set_cons_zero, List.set_cons_succ, List.length_cons, List.length_nil, List.all_cons, List.all_nil, Bool.and_true, Bool.true_and, Bool.and_self, and_self, and_true, true_and, Nat.zero_lt_succ, Nat.lt_add_one, beq_self_eq_true, beq_ft, beq_tf, Bool.not_true, Bool.not_false, k76, hadd]; rfl) ?_
    refine hK (xs.length - (i + 1)) _ _ (by omega) ⟨i + 1, by omega, rfl, ?_, ?_, ?_, ?_, rfl, ?_⟩
    · simp only [evReg, guardOk, wantedI, IOp.run, IOp.ex, Opd.ev, evs, Env.get, Env.put, Env.keep, V.bin, V.un, intOp, shiftOp, fillRow, fillCells, cellsOf, V.one, optInt, bytesOfRow, byteOfCells, ofRes, strOp, List.map_cons, List.map_nil, List.getElem?_cons_zero, List.getElem?_cons_succ, Option.map_some, Option.map_none, reduceIte, reduceCtorEq, if_true, if_false, Nat.reduceEqDiff, Nat.reduceLT, Nat.reduceAdd, Nat.reduceLeDiff, Nat.reduceMul, Int.reduceToNat, Int.reduceLT, Int.reduceLE, Int.reduceEq, Int.reduceNe, Int.reduceBEq, Int.reduceBNe, decide_true, decide_false, List.replicate, List.set_cons_zero, List.set_cons_succ, List.length_cons, List.length_nil, List.all_cons, List.all_nil, Bool.and_true, Bool.true_and, Bool.and_self, and_self, and_true, true_and, Nat.zero_lt_succ, Nat.lt_add_one, beq_self_eq_true, beq_ft, beq_tf, Bool.not_true, Bool.not_false, k2]
    · simp only [evReg, guardOk, wantedI, IOp.run, IOp.ex, Opd.ev, evs, Env.get, Env.put, Env.keep, V.bin, V.un, intOp, shiftOp, fillRow, fillCells, cellsOf, V.one, optInt, bytesOfRow, byteOfCells, ofRes, strOp, List.map_cons, List.map_nil, List.getElem?_cons_zero, List.getElem?_cons_succ, Option.map_some, Option.map_none, reduceIte, reduceCtorEq, if_true, if_false, Nat.reduceEqDiff, Nat.reduceLT, Nat.reduceAdd, Nat.reduceLeDiff, Nat.reduceMul, Int.reduceToNat, Int.reduceLT, Int.reduceLE, Int.reduceEq, Int.reduceNe, Int.reduceBEq, Int.reduceBNe, decide_true, decide_false, List.replicate, List.set_cons_zero, List.set_cons_succ, List.length_cons, List.length_nil, List.all_cons, List.all_nil, Bool.and_true, Bool.true_and, Bool.and_self, and_self, and_true, true_and, Nat.zero_lt_succ, Nat.lt_add_one, beq_self_eq_true, beq_ft, beq_tf, Bool.not_true, Bool.not_false, k3]
    · simp only [evReg, guardOk, wantedI, IOp.run, IOp.ex, Opd.ev, evs, Env.get, Env.put, Env.keep, V.bin, V.un, intOp, shiftOp, fillRow, fillCells, cellsOf, V.one, optInt, bytesOfRow, byteOfCells, ofRes, strOp, List.map_cons, List.map_nil, List.getElem?_cons_zero, List.getElem?_cons_succ, Option.map_some, Option.map_none, reduceIte, reduceCtorEq, if_true, if_false, Nat.reduceEqDiff, Nat.reduceLT, Nat.reduceAdd, Nat.reduceLeDiff, Nat.reduceMul, Int.reduceToNat, Int.reduceLT, Int.reduceLE, Int.reduceEq, Int.reduceNe, Int.reduceBEq, Int.reduceBNe, decide_true, decide_false, List.replicate, List.set_cons_zero, List.set_cons_succ, List.length_cons, List.length_nil, List.all_cons, List.all_nil, Bool.and_true, Bool.true_and, Bool.and_self, and_self, and_true, true_and, Nat.zero_lt_succ, Nat.lt_add_one, beq_self_eq_true, beq_ft, beq_tf, Bool.not_true, Bool.not_false, k74]
    · simp only [evReg, guardOk, wantedI, IOp.run, IOp.ex, Opd.ev, evs, Env.get, Env.put, Env.keep, V.bin, V.un, intOp, shiftOp, fillRow, fillCells, cellsOf, V.one, optInt, bytesOfRow, byteOfCells, ofRes, strOp, List.map_cons, List.map_nil, List.getElem?_cons_zero, List.getElem?_cons_succ, Option.map_some, Option.map_none, reduceIte, reduceCtorEq, if_true, if_false, Nat.reduceEqDiff, Nat.reduceLT, Nat.reduceAdd, Nat.reduceLeDiff, Nat.reduceMul, Int.reduceToNat, Int.reduceLT, Int.reduceLE, Int.reduceEq, Int.reduceNe, Int.reduceBEq, Int.reduceBNe, decide_true, decide_false, List.replicate, List.set_cons_zero, List.set_cons_succ, List.length_cons, List.length_nil, List.all_cons, List.all_nil, Bool.and_true, Bool.true_and, Bool.and_self, and_self, and_true, true_and, Nat.zero_lt_succ, Nat.lt_add_one, beq_self_eq_true, beq_ft, beq_tf, Bool.not_true, Bool.not_false, k75]
    · have h1 := hu.next
      have h2 := u2.next
      exact hu.trans ((u2.mono h1).trans (u3.mono (by omega)))
  · refine X_false (by simp only [evReg, guardOk, wantedI, IOp.run, IOp.ex, Opd.ev, evs, Env.get, Env.put, Env.keep, V.bin, V.un, intOp, shiftOp, fillRow, fillCells, cellsOf, V.one, optInt, bytesOfRow, byteOfCells, ofRes, strOp, List.map_cons, List.map_nil, List.getElem?_cons_zero, List.getElem?_cons_succ, Option.map_some, Option.map_none, reduceIte, reduceCtorEq, if_true, if_false, Nat.reduceEqDiff, Nat.reduceLT, Nat.reduceAdd, Nat.reduceLeDiff, Nat.reduceMul, Int.reduceToNat, Int.reduceLT, Int.reduceLE, Int.reduceEq, Int.reduceNe, Int.reduceBEq, Int.reduceBNe, decide_true, decide_false, List.replicate, List.set_cons_zero, List.set_cons_succ, List.length_cons, List.length_nil, List.all_cons, List.all_nil, Bool.and_true, Bool.true_and, Bool.and_self, and_self, and_true, true_and, Nat.zero_lt_succ, Nat.lt_add_one, beq_self_eq_true, beq_ft, beq_tf, Bool.not_true, Bool.not_false, hlt]) (X_exit (thn_exit (hE _ _ _ (by simp) (hQ _ _ rfl rfl hu))))

theorem set_lt {l : List Nat} {i c : Nat} (h : ∀ x ∈ l, x < 256) (hc : c < 256) : ∀ x ∈ l.set i c, x < 256 := fun x hx => by
  rcases List.mem_or_eq_of_mem_set hx with h1 | h1
  · exact h x h1
  · omega

theorem app_lt {a b : List Nat} (h : ∀ x ∈ a, x < 256) (k : ∀ x ∈ b, x < 256) : ∀ x ∈ a ++ b, x < 256 := fun x hx => by
  rcases List.mem_append.1 hx with e | e
  · exact h x e
  · exact k x e

theorem tells_F {st : St} (hlow : st.Low) {l raw : V} {ls rs : List Nat} {k most at' c : Nat} (hl : Slc st 1 l (nums .u64 ls)) (hls : ∀ v ∈ ls, v < 18446744073709551616) (hraw : Slc st 1 raw (nums .u8 rs)) (hrs : ∀ v ∈ rs, v < 256)
    (hk : k < 256) (hm : most < 18446744073709551616) (hat : at' < 256) (hc : c < 256) :
    ∃ st', F tab fid_archipelagolaw2_VarintTells [l, raw, .int .u8 (k : Int), .int .u64 (most : Int), .int .u8 (at' : Int), .int .u8 (c : Int)] st = some (.bool true, st') := by
  obtain ⟨st1, hkn, u1⟩ := known_F hlow
  have low1 := u1.low hlow
  have l1 := hl.up hlow u1
  have r1 : Slc st1 1 raw (bytes rs) := hraw.up hlow u1
  have hll := l1.len (env := [(28, l)]) (o := .t 28) rfl
  have hrl := r1.len (env := [(32, raw)]) (o := .t 32) rfl
  simp only [evReg, guardOk, wantedI, IOp.run, IOp.ex, Opd.ev, evs, Env.get, Env.put, Env.keep, V.bin, V.un, intOp, shiftOp, fillRow, fillCells, cellsOf, V.one, optInt, bytesOfRow, byteOfCells, ofRes, strOp, List.map_cons, List.map_nil, List.getElem?_cons_zero, List.getElem?_cons_succ, Option.map_some, Option.map_none, reduceIte, reduceCtorEq, if_true, if_false, Nat.reduceEqDiff, Nat.reduceLT, Nat.reduceAdd, Nat.reduceLeDiff, Nat.reduceMul, Int.reduceToNat, Int.reduceLT, Int.reduceLE, Int.reduceEq, Int.reduceNe, Int.reduceBEq, Int.reduceBNe, decide_true, decide_false, List.replicate, List.set_cons_zero, List.set_cons_succ, List.length_cons, List.length_nil, List.all_cons, List.all_nil, Bool.and_true, Bool.true_and, Bool.and_self, and_self, and_true, true_and, Nat.zero_lt_succ, Nat.lt_add_one, beq_self_eq_true, beq_ft, beq_tf, Bool.not_true, Bool.not_false, nums_length, bytes_length] at hll hrl
  have key : ∃ v st', F tab fid_archipelagolaw2_VarintTells [l, raw, .int .u8 (k : Int), .int .u64 (most : Int), .int .u8 (at' : Int), .int .u8 (c : Int)] st = some (v, st') ∧ v = .bool true := by
    refine F_fnR tab_archipelagolaw2_VarintTells rfl ?_
    unfold ir_archipelagolaw2_VarintTells
    simp only [envOf]
    refine X_seq (X_reg (by simp only [evReg, guardOk, wantedI, IOp.run, IOp.ex, Opd.ev, evs, Env.get, Env.put, Env.keep, V.bin, V.un, intOp, shiftOp, fillRow, fillCells, cellsOf, V.one, optInt, bytesOfRow, byteOfCells, ofRes, strOp, List.map_cons, List.map_nil, List.getElem?_cons_zero, List.getElem?_cons_succ, Option.map_some, Option.map_none, reduceIte, reduceCtorEq, if_true, if_false, Nat.reduceEqDiff, Nat.reduceLT, Nat.reduceAdd, Nat.reduceLeDiff, Nat.reduceMul, Int.reduceToNat, Int.reduceLT, Int.reduceLE, Int.reduceEq, Int.reduceNe, Int.reduceBEq, Int.reduceBNe, decide_true, decide_false, List.replicate, List.set_cons_zero, List.set_cons_succ, List.length_cons, List.length_nil, List.all_cons, List.all_nil, Bool.and_true, Bool.true_and, Bool.and_self, and_self, and_true, true_and, Nat.zero_lt_succ, Nat.lt_add_one, beq_self_eq_true, beq_ft, beq_tf, Bool.not_true, Bool.not_false]; rfl) (thn_norm (X_seq (X_seq ?_))))
    refine X_reg (by simp only [evReg, guardOk, wantedI, IOp.run, IOp.ex, Opd.ev, evs, Env.get, Env.put, Env.keep, V.bin, V.un, intOp, shiftOp, fillRow, fillCells, cellsOf, V.one, optInt, bytesOfRow, byteOfCells, ofRes, strOp, List.map_cons, List.map_nil, List.getElem?_cons_zero, List.getElem?_cons_succ, Option.map_some, Option.map_none, reduceIte, reduceCtorEq, if_true, if_false, Nat.reduceEqDiff, Nat.reduceLT, Nat.reduceAdd, Nat.reduceLeDiff, Nat.reduceMul, Int.reduceToNat, Int.reduceLT, Int.reduceLE, Int.reduceEq, Int.reduceNe, Int.reduceBEq, Int.reduceBNe, decide_true, decide_false, List.replicate, List.set_cons_zero, List.set_cons_succ, List.length_cons, List.length_nil, List.all_cons, List.all_nil, Bool.and_true, Bool.true_and, Bool.and_self, and_self, and_true, true_and, Nat.zero_lt_succ, Nat.lt_add_one, beq_self_eq_true, beq_ft, beq_tf, Bool.not_true, Bool.not_false, hkn]; rfl) (thn_norm ?_)
    refine X_false (by simp only [evReg, guardOk, wantedI, IOp.run, IOp.ex, Opd.ev, evs, Env.get, Env.put, Env.keep, V.bin, V.un, intOp, shiftOp, fillRow, fillCells, cellsOf, V.one, optInt, bytesOfRow, byteOfCells, ofRes, strOp, List.map_cons, List.map_nil, List.getElem?_cons_zero, List.getElem?_cons_succ, Option.map_some, Option.map_none, reduceIte, reduceCtorEq, if_true, if_false, Nat.reduceEqDiff, Nat.reduceLT, Nat.reduceAdd, Nat.reduceLeDiff, Nat.reduceMul, Int.reduceToNat, Int.reduceLT, Int.reduceLE, Int.reduceEq, Int.reduceNe, Int.reduceBEq, Int.reduceBNe, decide_true, decide_false, List.replicate, List.set_cons_zero, List.set_cons_succ, List.length_cons, List.length_nil, List.all_cons, List.all_nil, Bool.and_true, Bool.true_and, Bool.and_self, and_self, and_true, true_and, Nat.zero_lt_succ, Nat.lt_add_one, beq_self_eq_true, beq_ft, beq_tf, Bool.not_true, Bool.not_false]) (X_skip (thn_norm (X_seq (X_seq ?_))))
    refine X.mono (R := fun e env st => e = .norm ∧ st = st1 ∧ Env.get env 35 = .bool (decide ((ls.length : Int) > 12) || decide ((rs.length : Int) > 40)) ∧ Env.get env 0 = l ∧ Env.get env 1 = raw ∧ Env.get env 2 = .int .u8 (k : Int) ∧ Env.get env 3 = .int .u64 (most : Int) ∧ Env.get env 4 = .int .u8 (at' : Int) ∧ Env.get env 5 = .int .u8 (c : Int)) ?_ ?_
    · cases h1 : decide ((ls.length : Int) > 12) <;> cases h2 : decide ((rs.length : Int) > 40) <;>
        exact X_reg (by simp only [evReg, guardOk, wantedI, IOp.run, IOp.ex, Opd.ev, evs, Env.get, Env.put, Env.keep, V.bin, V.un, intOp, shiftOp, fillRow, fillCells, cellsOf, V.one, optInt, bytesOfRow, byteOfCells, ofRes, strOp, List.map_cons, List.map_nil, List.getElem?_cons_zero, List.getElem?_cons_succ, Option.map_some, Option.map_none, reduceIte, reduceCtorEq, if_true, if_false, Nat.reduceEqDiff, Nat.reduceLT, Nat.reduceAdd, Nat.reduceLeDiff, Nat.reduceMul, Int.reduceToNat, Int.reduceLT, Int.reduceLE, Int.reduceEq, Int.reduceNe, Int.reduceBEq, Int.reduceBNe, decide_true, decide_false, List.replicate, List.set_cons_zero, List.set_cons_succ, List.length_cons, List.length_nil, List.all_cons, List.all_nil, Bool.and_true, Bool.true_and, Bool.and_self, and_self, and_true, true_and, Nat.zero_lt_succ, Nat.lt_add_one, beq_self_eq_true, beq_ft, beq_tf, Bool.not_true, Bool.not_false, hll, hrl, h1, h2]; rfl) ⟨rfl, rfl, rfl, rfl, rfl, rfl, rfl, rfl, rfl⟩
    rintro e env2 st2 ⟨rfl, rfl, g35, g0, g1, g2, g3, g4, g5⟩
    refine thn_norm (X_cond g35 ?_)
    by_cases hbig : ls.length > 12 ∨ rs.length > 40
    · have : (decide ((ls.length : Int) > 12) || decide ((rs.length : Int) > 40)) = true := by
        simp only [Bool.or_eq_true, decide_eq_true_eq]; omega
      rw [this, if_pos rfl]
      refine X_seq (X_reg (by simp only [evReg, guardOk, wantedI, IOp.run, IOp.ex, Opd.ev, evs, Env.get, Env.put, Env.keep, V.bin, V.un, intOp, shiftOp, fillRow, fillCells, cellsOf, V.one, optInt, bytesOfRow, byteOfCells, ofRes, strOp, List.map_cons, List.map_nil, List.getElem?_cons_zero, List.getElem?_cons_succ, Option.map_some, Option.map_none, reduceIte, reduceCtorEq, if_true, if_false, Nat.reduceEqDiff, Nat.reduceLT, Nat.reduceAdd, Nat.reduceLeDiff, Nat.reduceMul, Int.reduceToNat, Int.reduceLT, Int.reduceLE, Int.reduceEq, Int.reduceNe, Int.reduceBEq, Int.reduceBNe, decide_true, decide_false, List.replicate, List.set_cons_zero, List.set_cons_succ, List.length_cons, List.length_nil, List.all_cons, List.all_nil, Bool.and_true, Bool.true_and, Bool.and_self, and_self, and_true, true_and, Nat.zero_lt_succ, Nat.lt_add_one, beq_self_eq_true, beq_ft, beq_tf, Bool.not_true, Bool.not_false]; rfl) (thn_norm (X_ret ?_)))
      exact ⟨.inr rfl, _, rfl, rfl⟩
    · have : (decide ((ls.length : Int) > 12) || decide ((rs.length : Int) > 40)) = false := by
        rw [← Bool.not_eq_true]
        simp only [Bool.or_eq_true, decide_eq_true_eq]; omega
      rw [this, if_neg (by decide)]
      refine X_skip (thn_norm (X_seq ?_))
      have hpl := putL_len hls
      obtain ⟨b, st3, e3, o3, u3⟩ := rput_F l1 low1 hls (by omega)
      have low3 := u3.low low1
      refine X_reg (by simp only [evReg, guardOk, wantedI, IOp.run, IOp.ex, Opd.ev, evs, Env.get, Env.put, Env.keep, V.bin, V.un, intOp, shiftOp, fillRow, fillCells, cellsOf, V.one, optInt, bytesOfRow, byteOfCells, ofRes, strOp, List.map_cons, List.map_nil, List.getElem?_cons_zero, List.getElem?_cons_succ, Option.map_some, Option.map_none, reduceIte, reduceCtorEq, if_true, if_false, Nat.reduceEqDiff, Nat.reduceLT, Nat.reduceAdd, Nat.reduceLeDiff, Nat.reduceMul, Int.reduceToNat, Int.reduceLT, Int.reduceLE, Int.reduceEq, Int.reduceNe, Int.reduceBEq, Int.reduceBNe, decide_true, decide_false, List.replicate, List.set_cons_zero, List.set_cons_succ, List.length_cons, List.length_nil, List.all_cons, List.all_nil, Bool.and_true, Bool.true_and, Bool.and_self, and_self, and_true, true_and, Nat.zero_lt_succ, Nat.lt_add_one, beq_self_eq_true, beq_ft, beq_tf, Bool.not_true, Bool.not_false, g0, e3]; rfl) (thn_norm (X_seq (X_seq ?_)))
      have l3 := l1.up low1 u3
      have r3 := r1.up low1 u3
      have b3 := o3.slc
      obtain ⟨b', st4, e4, o4, u4⟩ := put_F l3 low3 hls (by omega)
      have low4 := u4.low low3
      have b4 := b3.up low3 u4
      have r4 := r3.up low3 u4
      have x1 := o4.slc.text (env := [(39, b')]) (o := .t 39) rfl
      have x2 := b3.text (env := [(41, b)]) (o := .t 41) rfl
      have x3 := b4.text (env := [(41, b)]) (o := .t 41) rfl
      simp only [evReg, guardOk, wantedI, IOp.run, IOp.ex, Opd.ev, evs, Env.get, Env.put, Env.keep, V.bin, V.un, intOp, shiftOp, fillRow, fillCells, cellsOf, V.one, optInt, bytesOfRow, byteOfCells, ofRes, strOp, List.map_cons, List.map_nil, List.getElem?_cons_zero, List.getElem?_cons_succ, Option.map_some, Option.map_none, reduceIte, reduceCtorEq, if_true, if_false, Nat.reduceEqDiff, Nat.reduceLT, Nat.reduceAdd, Nat.reduceLeDiff, Nat.reduceMul, Int.reduceToNat, Int.reduceLT, Int.reduceLE, Int.reduceEq, Int.reduceNe, Int.reduceBEq, Int.reduceBNe, decide_true, decide_false, List.replicate, List.set_cons_zero, List.set_cons_succ, List.length_cons, List.length_nil, List.all_cons, List.all_nil, Bool.and_true, Bool.true_and, Bool.and_self, and_self, and_true, true_and, Nat.zero_lt_succ, Nat.lt_add_one, beq_self_eq_true, beq_ft, beq_tf, Bool.not_true, Bool.not_false] at x1 x2 x3
      refine X_regD (by simp only [evReg, guardOk, wantedI, IOp.run, IOp.ex, Opd.ev, evs, Env.get, Env.put, Env.keep, V.bin, V.un, intOp, shiftOp, fillRow, fillCells, cellsOf, V.one, optInt, bytesOfRow, byteOfCells, ofRes, strOp, List.map_cons, List.map_nil, List.getElem?_cons_zero, List.getElem?_cons_succ, Option.map_some, Option.map_none, reduceIte, reduceCtorEq, if_true, if_false, Nat.reduceEqDiff, Nat.reduceLT, Nat.reduceAdd, Nat.reduceLeDiff, Nat.reduceMul, Int.reduceToNat, Int.reduceLT, Int.reduceLE, Int.reduceEq, Int.reduceNe, Int.reduceBEq, Int.reduceBNe, decide_true, decide_false, List.replicate, List.set_cons_zero, List.set_cons_succ, List.length_cons, List.length_nil, List.all_cons, List.all_nil, Bool.and_true, Bool.true_and, Bool.and_self, and_self, and_true, true_and, Nat.zero_lt_succ, Nat.lt_add_one, beq_self_eq_true, beq_ft, beq_tf, Bool.not_true, Bool.not_false, evRegD, IOp.kind, Chk.ok, Chk.at, Go.Ab.cut, List.drop_zero, List.drop_succ_cons, List.take_succ_cons, List.take_zero, List.reverse_cons, List.reverse_nil, List.nil_append, List.cons_append, V.beq, g0, e4, x1, x2, x3]; rfl) (thn_norm ?_)
      refine X_false (by simp only [evReg, guardOk, wantedI, IOp.run, IOp.ex, Opd.ev, evs, Env.get, Env.put, Env.keep, V.bin, V.un, intOp, shiftOp, fillRow, fillCells, cellsOf, V.one, optInt, bytesOfRow, byteOfCells, ofRes, strOp, List.map_cons, List.map_nil, List.getElem?_cons_zero, List.getElem?_cons_succ, Option.map_some, Option.map_none, reduceIte, reduceCtorEq, if_true, if_false, Nat.reduceEqDiff, Nat.reduceLT, Nat.reduceAdd, Nat.reduceLeDiff, Nat.reduceMul, Int.reduceToNat, Int.reduceLT, Int.reduceLE, Int.reduceEq, Int.reduceNe, Int.reduceBEq, Int.reduceBNe, decide_true, decide_false, List.replicate, List.set_cons_zero, List.set_cons_succ, List.length_cons, List.length_nil, List.all_cons, List.all_nil, Bool.and_true, Bool.true_and, Bool.and_self, and_self, and_true, true_and, Nat.zero_lt_succ, Nat.lt_add_one, beq_self_eq_true, beq_ft, beq_tf, Bool.not_true, Bool.not_false]) (X_skip (thn_norm (X_seq ?_)))
      obtain ⟨st5, e5, u5⟩ := edge_F (st := st4) (n := most) (k := k) hm hk
      have low5 := u5.low low4
      have b5 := b4.up low4 u5
      have r5 := r4.up low4 u5
      have hx : edgeN most k < 18446744073709551616 := edgeN_lt hm
      have hpx : putL [edgeN most k] = putV (edgeN most k) := by simp [putL]
      have hlen := putV_length (edgeN most k)
      have hlen2 := putV_len10 hx
      have hne : putV (edgeN most k) ≠ [] := fun e => by rw [e] at hlen; simp at hlen
      obtain ⟨o, g, st6, h6, w6, u6⟩ := rput_lit low5 [edgeN most k] (by simp [hx]) (by rw [hpx]; omega) (by rw [hpx]; exact hne)
      rw [hpx] at h6 w6
      have low6 := u6.low low5
      have b6 := b5.up low5 u6
      have r6 := r5.up low5 u6
      have v6 := w6.slc
      simp only [nums, List.map_cons, List.map_nil, List.length_cons, List.length_nil, Nat.reduceAdd] at h6
      refine X_reg (by simp only [evReg, guardOk, wantedI, IOp.run, IOp.ex, Opd.ev, evs, Env.get, Env.put, Env.keep, V.bin, V.un, intOp, shiftOp, fillRow, fillCells, cellsOf, V.one, optInt, bytesOfRow, byteOfCells, ofRes, strOp, List.map_cons, List.map_nil, List.getElem?_cons_zero, List.getElem?_cons_succ, Option.map_some, Option.map_none, reduceIte, reduceCtorEq, if_true, if_false, Nat.reduceEqDiff, Nat.reduceLT, Nat.reduceAdd, Nat.reduceLeDiff, Nat.reduceMul, Int.reduceToNat, Int.reduceLT, Int.reduceLE, Int.reduceEq, Int.reduceNe, Int.reduceBEq, Int.reduceBNe, decide_true, decide_false, List.replicate, List.set_cons_zero, List.set_cons_succ, List.length_cons, List.length_nil, List.all_cons, List.all_nil, Bool.and_true, Bool.true_and, Bool.and_self, and_self, and_true, true_and, Nat.zero_lt_succ, Nat.lt_add_one, beq_self_eq_true, beq_ft, beq_tf, Bool.not_true, Bool.not_false, g2, g3, e5, h6]; rfl) (thn_norm (X_seq ?_))
      have q6 := v6.elems
      obtain ⟨d, st7, e7, o7, u7⟩ := (Own.nil : Own st6 st6.next 1 .nils []).append (bytes := 1) (ys := bytes (putV (edgeN most k))) (Nat.le_refl _) (by simp only [bytes_length, List.length_nil, room]; omega)
      rw [List.nil_append] at o7
      have low7 := u7.low low6
      refine X_reg (by simp only [evReg, guardOk, wantedI, IOp.run, IOp.ex, Opd.ev, evs, Env.get, Env.put, Env.keep, V.bin, V.un, intOp, shiftOp, fillRow, fillCells, cellsOf, V.one, optInt, bytesOfRow, byteOfCells, ofRes, strOp, List.map_cons, List.map_nil, List.getElem?_cons_zero, List.getElem?_cons_succ, Option.map_some, Option.map_none, reduceIte, reduceCtorEq, if_true, if_false, Nat.reduceEqDiff, Nat.reduceLT, Nat.reduceAdd, Nat.reduceLeDiff, Nat.reduceMul, Int.reduceToNat, Int.reduceLT, Int.reduceLE, Int.reduceEq, Int.reduceNe, Int.reduceBEq, Int.reduceBNe, decide_true, decide_false, List.replicate, List.set_cons_zero, List.set_cons_succ, List.length_cons, List.length_nil, List.all_cons, List.all_nil, Bool.and_true, Bool.true_and, Bool.and_self, and_self, and_true, true_and, Nat.zero_lt_succ, Nat.lt_add_one, beq_self_eq_true, beq_ft, beq_tf, Bool.not_true, Bool.not_false, q6, e7]; rfl) (thn_norm (X_seq ?_))
      have hilt : at' % (putV (edgeN most k)).length < (putV (edgeN most k)).length := Nat.mod_lt _ (by omega)
      have hgd : (bytes (putV (edgeN most k)))[at' % (putV (edgeN most k)).length]? = some [.int .u8 ((putV (edgeN most k))[at' % (putV (edgeN most k)).length] : Int)] := bytes_get (List.getElem?_eq_getElem hilt)
      obtain ⟨od, gd, rfl, hld, hst⟩ := o7.cell u7.next hgd
      obtain ⟨st8, s1, o8, u8⟩ := hst .u8 (c : Int)
      have hset : (bytes (putV (edgeN most k))).set (at' % (putV (edgeN most k)).length) [.int .u8 (c : Int)] = bytes ((putV (edgeN most k)).set (at' % (putV (edgeN most k)).length) c) := by
        simp [bytes, List.map_set]
      rw [hset, bytes_length] at o8
      have u78 := u7.trans u8
      have low8 := u78.low low6
      have b8 := b6.up low6 u78
      have r8 := r6.up low6 u78
      have v8 := v6.up low6 u78
      have hcv : IntKind.i64.wrap (at' : Int) = (at' : Int) := wrap_i64_nat (by omega)
      have hcm : ((at' : Nat) : Int).tmod ((putV (edgeN most k)).length : Int) = ((at' % (putV (edgeN most k)).length : Nat) : Int) := rfl
      have hc0 : ¬ ((putV (edgeN most k)).length : Int) = 0 := by omega
      have hin : (0 : Int) ≤ ((at' % (putV (edgeN most k)).length : Nat) : Int) ∧ ((at' % (putV (edgeN most k)).length : Nat) : Int) < ((putV (edgeN most k)).length : Int) := by omega
      have htn : ((at' % (putV (edgeN most k)).length : Nat) : Int).toNat = at' % (putV (edgeN most k)).length := by omega
      refine X_reg (by simp only [evReg, guardOk, wantedI, IOp.run, IOp.ex, Opd.ev, evs, Env.get, Env.put, Env.keep, V.bin, V.un, intOp, shiftOp, fillRow, fillCells, cellsOf, V.one, optInt, bytesOfRow, byteOfCells, ofRes, strOp, List.map_cons, List.map_nil, List.getElem?_cons_zero, List.getElem?_cons_succ, Option.map_some, Option.map_none, reduceIte, reduceCtorEq, if_true, if_false, Nat.reduceEqDiff, Nat.reduceLT, Nat.reduceAdd, Nat.reduceLeDiff, Nat.reduceMul, Int.reduceToNat, Int.reduceLT, Int.reduceLE, Int.reduceEq, Int.reduceNe, Int.reduceBEq, Int.reduceBNe, decide_true, decide_false, List.replicate, List.set_cons_zero, List.set_cons_succ, List.length_cons, List.length_nil, List.all_cons, List.all_nil, Bool.and_true, Bool.true_and, Bool.and_self, and_self, and_true, true_and, Nat.zero_lt_succ, Nat.lt_add_one, beq_self_eq_true, beq_ft, beq_tf, Bool.not_true, Bool.not_false, g4, g5, bytes_length, hcv, hc0, hcm, hin, htn, Nat.zero_add, s1]; rfl) (thn_norm (X_seq (X_seq ?_)))
      generalize hds : (putV (edgeN most k)).set (at' % (putV (edgeN most k)).length) c = ds at *
      have hdl : ds.length = (putV (edgeN most k)).length := by rw [← hds, List.length_set]
      have hdlt : ∀ y ∈ ds, y < 256 := by rw [← hds]; exact set_lt (putV_lt _) hc
      have n6 := u78.next
      obtain ⟨d9, st9, e9, o9, u9⟩ := o8.append (bytes := 1) (ys := bytes rs) n6 (by simp only [bytes_length, room]; omega)
      have d9old := o8.append_old e9
      rw [← bytes_append] at o9
      have low9 := u9.low low8
      have u69 := u78.trans u9
      have b9 := b6.up low6 u69
      have r9 := r6.up low6 u69
      have v9 := v6.up low6 u69
      have n9 := u69.next
      -- the row of ten
      have p10 : Up st9.next st9 (st9.push (.row (bytes [255, 255, 255, 255, 255, 255, 255, 255, 255, c]) 0 0 false)) := .push _ (Nat.le_refl _)
      have r10 := r9.up low9 p10
      obtain ⟨d11, st11, e11, o11, u11⟩ := (Own.new (st := st9) (bytes [255, 255, 255, 255, 255, 255, 255, 255, 255, c]) (n := st9.next) (esz := 1) (Nat.le_refl _)).append (bytes := 1) (ys := bytes rs) p10.next (by simp only [bytes_length, List.length_cons, List.length_nil, room]; omega)
      rw [← bytes_append] at o11
      have u911 := p10.trans u11
      have low11 := u911.low low9
      have r11 := r9.up low9 u911
      -- the row of three
      have p12 : Up st11.next st11 (st11.push (.row (bytes [128, 128, c]) 0 0 false)) := .push _ (Nat.le_refl _)
      have r12 := r11.up low11 p12
      obtain ⟨d13, st13, e13, o13, u13⟩ := (Own.new (st := st11) (bytes [128, 128, c]) (n := st11.next) (esz := 1) (Nat.le_refl _)).append (bytes := 1) (ys := bytes rs) p12.next (by simp only [bytes_length, List.length_cons, List.length_nil, room]; omega)
      rw [← bytes_append] at o13
      have u1113 := p12.trans u13
      have low13 := u1113.low low11
      have u913 := u911.trans (u1113.mono u911.next)
      have hxs : Each st13 [raw, b, .sl o g 0 (putV (edgeN most k)).length 1 none, .sl od gd 0 (putV (edgeN most k)).length 1 none, d9, d11, d13] := by
        intro i x hx
        have hrl2 : rs.length ≤ 40 := by omega
        match i, hx with
        | 0, hx => simp at hx; subst hx; exact ⟨rs, r9.up low9 u913, hrs, by omega⟩
        | 1, hx => simp at hx; subst hx; exact ⟨_, b9.up low9 u913, putL_lt _, by omega⟩
        | 2, hx => simp at hx; subst hx; exact ⟨_, v9.up low9 u913, putV_lt _, by omega⟩
        | 3, hx => simp at hx; subst hx; exact ⟨_, d9old.up low9 u913, hdlt, by omega⟩
        | 4, hx => simp at hx; subst hx; exact ⟨_, o9.slc.up low9 u913, app_lt hdlt hrs, by rw [List.length_append]; omega⟩
        | 5, hx => simp at hx; subst hx; exact ⟨_, o11.slc.up low11 u1113, app_lt (by intro y hy; simp only [List.mem_cons, List.not_mem_nil, or_false] at hy; omega) hrs, by simp only [List.length_append, List.length_cons, List.length_nil]; omega⟩
        | 6, hx => simp at hx; subst hx; exact ⟨_, o13.slc, app_lt (by intro y hy; simp only [List.mem_cons, List.not_mem_nil, or_false] at hy; omega) hrs, by simp only [List.length_append, List.length_cons, List.length_nil]; omega⟩
        | n + 7, hx => simp at hx
      have y1 := r9.one
      have y2 := b9.one
      have y3 := o9.slc.one
      have y4 := o11.slc.one
      have y5 := o13.slc.one
      have z8 := r8.elems
      have z10 := r10.elems
      have z12 := r12.elems
      have p14 : Up st13.next st13 (st13.push (.row ([raw, b, .sl o g 0 (putV (edgeN most k)).length 1 none, .sl od gd 0 (putV (edgeN most k)).length 1 none, d9, d11, d13].map fun y => [y]) 0 0 false)) := .push _ (Nat.le_refl _)
      have hrow := slc_new (st := st13) ([raw, b, .sl o g 0 (putV (edgeN most k)).length 1 none, .sl od gd 0 (putV (edgeN most k)).length 1 none, d9, d11, d13].map fun y => [y]) 1
      have hxs14 := hxs.up low13 p14
      have low14 := p14.low low13
      simp only [bytes, List.map_cons, List.map_nil, List.length_cons, List.length_nil, Nat.reduceAdd, Int.cast_ofNat_Int] at e9 e11 e13 z8 z10 z12
      simp only [evReg, guardOk, wantedI, IOp.run, IOp.ex, Opd.ev, evs, Env.get, Env.put, Env.keep, V.bin, V.un, intOp, shiftOp, fillRow, fillCells, cellsOf, V.one, optInt, bytesOfRow, byteOfCells, ofRes, strOp, List.map_cons, List.map_nil, List.getElem?_cons_zero, List.getElem?_cons_succ, Option.map_some, Option.map_none, reduceIte, reduceCtorEq, if_true, if_false, Nat.reduceEqDiff, Nat.reduceLT, Nat.reduceAdd, Nat.reduceLeDiff, Nat.reduceMul, Int.reduceToNat, Int.reduceLT, Int.reduceLE, Int.reduceEq, Int.reduceNe, Int.reduceBEq, Int.reduceBNe, decide_true, decide_false, List.replicate, List.set_cons_zero, List.set_cons_succ, List.length_cons, List.length_nil, List.all_cons, List.all_nil, Bool.and_true, Bool.true_and, Bool.and_self, and_self, and_true, true_and, Nat.zero_lt_succ, Nat.lt_add_one, beq_self_eq_true, beq_ft, beq_tf, Bool.not_true, Bool.not_false] at y1 y2 y3 y4 y5
      refine X_reg (by simp only [evReg, guardOk, wantedI, IOp.run, IOp.ex, Opd.ev, evs, Env.get, Env.put, Env.keep, V.bin, V.un, intOp, shiftOp, fillRow, fillCells, cellsOf, V.one, optInt, bytesOfRow, byteOfCells, ofRes, strOp, List.map_cons, List.map_nil, List.getElem?_cons_zero, List.getElem?_cons_succ, Option.map_some, Option.map_none, reduceIte, reduceCtorEq, if_true, if_false, Nat.reduceEqDiff, Nat.reduceLT, Nat.reduceAdd, Nat.reduceLeDiff, Nat.reduceMul, Int.reduceToNat, Int.reduceLT, Int.reduceLE, Int.reduceEq, Int.reduceNe, Int.reduceBEq, Int.reduceBNe, decide_true, decide_false, List.replicate, List.set_cons_zero, List.set_cons_succ, List.length_cons, List.length_nil, List.all_cons, List.all_nil, Bool.and_true, Bool.true_and, Bool.and_self, and_self, and_true, true_and, Nat.zero_lt_succ, Nat.lt_add_one, beq_self_eq_true, beq_ft, beq_tf, Bool.not_true, Bool.not_false, g1, g5, z8, e9, z10, e11, z12, e13, y1, y2, y3, y4, y5]; rfl) (thn_norm (X_block ?_))
      refine tells_b1 (row := .sl st13.next 0 0 7 1 none) low14 hk hm hxs14 (by simp) hrow ?_ ?_ rfl rfl rfl ?_
      · simp only [evReg, guardOk, wantedI, IOp.run, IOp.ex, Opd.ev, evs, Env.get, Env.put, Env.keep, V.bin, V.un, intOp, shiftOp, fillRow, fillCells, cellsOf, V.one, optInt, bytesOfRow, byteOfCells, ofRes, strOp, List.map_cons, List.map_nil, List.getElem?_cons_zero, List.getElem?_cons_succ, Option.map_some, Option.map_none, reduceIte, reduceCtorEq, if_true, if_false, Nat.reduceEqDiff, Nat.reduceLT, Nat.reduceAdd, Nat.reduceLeDiff, Nat.reduceMul, Int.reduceToNat, Int.reduceLT, Int.reduceLE, Int.reduceEq, Int.reduceNe, Int.reduceBEq, Int.reduceBNe, decide_true, decide_false, List.replicate, List.set_cons_zero, List.set_cons_succ, List.length_cons, List.length_nil, List.all_cons, List.all_nil, Bool.and_true, Bool.true_and, Bool.and_self, and_self, and_true, true_and, Nat.zero_lt_succ, Nat.lt_add_one, beq_self_eq_true, beq_ft, beq_tf, Bool.not_true, Bool.not_false, g2]
      · simp only [evReg, guardOk, wantedI, IOp.run, IOp.ex, Opd.ev, evs, Env.get, Env.put, Env.keep, V.bin, V.un, intOp, shiftOp, fillRow, fillCells, cellsOf, V.one, optInt, bytesOfRow, byteOfCells, ofRes, strOp, List.map_cons, List.map_nil, List.getElem?_cons_zero, List.getElem?_cons_succ, Option.map_some, Option.map_none, reduceIte, reduceCtorEq, if_true, if_false, Nat.reduceEqDiff, Nat.reduceLT, Nat.reduceAdd, Nat.reduceLeDiff, Nat.reduceMul, Int.reduceToNat, Int.reduceLT, Int.reduceLE, Int.reduceEq, Int.reduceNe, Int.reduceBEq, Int.reduceBNe, decide_true, decide_false, List.replicate, List.set_cons_zero, List.set_cons_succ, List.length_cons, List.length_nil, List.all_cons, List.all_nil, Bool.and_true, Bool.true_and, Bool.and_self, and_self, and_true, true_and, Nat.zero_lt_succ, Nat.lt_add_one, beq_self_eq_true, beq_ft, beq_tf, Bool.not_true, Bool.not_false, g3]
      intro env15 st15 k2 k3 u15
      have low15 := u15.low low14
      obtain ⟨st16, e16, u16⟩ := edge_F (st := st15) (n := most) (k := k) hm hk
      have low16 := u16.low low15
      obtain ⟨st17, e17, u17⟩ := size_F low16 hx (by omega)
      have low17 := u17.low low16
      obtain ⟨st18, e18, u18⟩ := edge_F (st := st17) (n := most) (k := k) hm hk
      have low18 := u18.low low17
      obtain ⟨st19, e19, u19⟩ := rsize_F low18 hx (by omega)
      refine inb_hit (thn_norm (X_seq ?_))
      refine X_reg (by simp only [evReg, guardOk, wantedI, IOp.run, IOp.ex, Opd.ev, evs, Env.get, Env.put, Env.keep, V.bin, V.un, intOp, shiftOp, fillRow, fillCells, cellsOf, V.one, optInt, bytesOfRow, byteOfCells, ofRes, strOp, List.map_cons, List.map_nil, List.getElem?_cons_zero, List.getElem?_cons_succ, Option.map_some, Option.map_none, reduceIte, reduceCtorEq, if_true, if_false, Nat.reduceEqDiff, Nat.reduceLT, Nat.reduceAdd, Nat.reduceLeDiff, Nat.reduceMul, Int.reduceToNat, Int.reduceLT, Int.reduceLE, Int.reduceEq, Int.reduceNe, Int.reduceBEq, Int.reduceBNe, decide_true, decide_false, List.replicate, List.set_cons_zero, List.set_cons_succ, List.length_cons, List.length_nil, List.all_cons, List.all_nil, Bool.and_true, Bool.true_and, Bool.and_self, and_self, and_true, true_and, Nat.zero_lt_succ, Nat.lt_add_one, beq_self_eq_true, beq_ft, beq_tf, Bool.not_true, Bool.not_false, k2, k3, e16, e17, e18, e19]; rfl) (thn_norm (X_ret ⟨.inr rfl, _, rfl, rfl⟩))
  obtain ⟨v, st', k1, rfl⟩ := key
  exact ⟨st', k1⟩

end Go.Ab
