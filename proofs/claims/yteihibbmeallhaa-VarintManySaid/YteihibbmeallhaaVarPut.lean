/- varint.Put on the abstract machine. -/
import Derived.Test.YteihibbmeallhaaAbsN
import Derived.Test.YteihibbmeallhaaTab
namespace Go.Ab
open Go
set_option linter.unusedVariables false
set_option linter.unusedSimpArgs false

def putV (v : Nat) : List Nat := if v < 128 then [v] else (v % 128 + 128) :: putV (v / 128)
  termination_by v
  decreasing_by omega

def putL (l : List Nat) : List Nat := l.flatMap putV

theorem or128_all : ∀ a : Fin 256, a.val ||| 128 = a.val % 128 + 128 := by decide +kernel
theorem or128 {a : Nat} (h : a < 256) : a ||| 128 = a % 128 + 128 := or128_all ⟨a, h⟩

theorem put_b0 {n : Nat} {st : St} {env : Env} {s l ln ix : V} {bs : List Nat} {v : Nat} (h3 : Env.get env 3 = s) (h5 : Env.get env 5 = .int .u64 (v : Int)) (h6 : Env.get env 6 = l) (h7 : Env.get env 7 = ln) (h8 : Env.get env 8 = ix)
    (hv : v < 18446744073709551616) (ho : Own st n 1 s (bytes bs)) (hn : n ≤ st.next) (hr : (bs ++ putV v).length ≤ 140737488355328) {Q : Ex → Env → St → Prop}
    (hQ : ∀ env' st' s' bs' v', Env.get env' 3 = s' → Env.get env' 5 = .int .u64 ((v' : Nat) : Int) → Env.get env' 6 = l → Env.get env' 7 = ln → Env.get env' 8 = ix → Own st' n 1 s' (bytes bs') → Up n st st' → v' < 128 → bs' ++ [v'] = bs ++ putV v → Q (.exit 2) env' st') :
    X tab (.loop [3, 5, 6, 7, 8] varint_Put_b0) env st Q := by
  refine X_while (fun m env1 st1 => ∃ s1 bs1 v1, v1 = m ∧ Env.get env1 3 = s1 ∧ Env.get env1 5 = .int .u64 ((v1 : Nat) : Int) ∧ Env.get env1 6 = l ∧ Env.get env1 7 = ln ∧ Env.get env1 8 = ix ∧ v1 < 18446744073709551616 ∧ Own st1 n 1 s1 (bytes bs1) ∧ Up n st st1 ∧ bs1 ++ putV v1 = bs ++ putV v) v ⟨s, bs, v, rfl, h3, h5, h6, h7, h8, hv, ho, .refl hn, rfl⟩ ?_
  rintro m env1 st1 K hK hE ⟨s1, bs1, v1, hm, g3, g5, g6, g7, g8, hv1, ho1, hu1, hb1⟩
  subst hm
  simp only [Env.keep, g3, g5, g6, g7, g8]
  unfold varint_Put_b0
  refine X_seq (X_seq ?_)
  refine X_reg (by simp only [evReg, guardOk, wantedI, IOp.run, IOp.ex, Opd.ev, evs, Env.get, Env.put, Env.keep, V.bin, V.un, intOp, shiftOp, fillRow, fillCells, cellsOf, V.one, optInt, bytesOfRow, byteOfCells, ofRes, strOp, List.map_cons, List.map_nil, List.getElem?_cons_zero, List.getElem?_cons_succ, Option.map_some, Option.map_none, reduceIte, reduceCtorEq, if_true, if_false, Nat.reduceEqDiff, Nat.reduceLT, Nat.reduceAdd, Nat.reduceLeDiff, Nat.reduceMul, Int.reduceToNat, Int.reduceLT, Int.reduceLE, Int.reduceEq, Int.reduceNe, Int.reduceBEq, Int.reduceBNe, decide_true, decide_false, List.replicate, List.set_cons_zero, List.set_cons_succ, List.length_cons, List.length_nil, List.all_cons, List.all_nil, Bool.and_true, Bool.true_and, Bool.and_self, and_self, and_true, true_and, Nat.zero_lt_succ, Nat.lt_add_one, beq_self_eq_true, beq_ft, beq_tf, Bool.not_true, Bool.not_false]; rfl) (thn_norm ?_)
  refine X_cond (by simp only [evReg, guardOk, wantedI, IOp.run, IOp.ex, Opd.ev, evs, Env.get, Env.put, Env.keep, V.bin, V.un, intOp, shiftOp, fillRow, fillCells, cellsOf, V.one, optInt, bytesOfRow, byteOfCells, ofRes, strOp, List.map_cons, List.map_nil, List.getElem?_cons_zero, List.getElem?_cons_succ, Option.map_some, Option.map_none, reduceIte, reduceCtorEq, if_true, if_false, Nat.reduceEqDiff, Nat.reduceLT, Nat.reduceAdd, Nat.reduceLeDiff, Nat.reduceMul, Int.reduceToNat, Int.reduceLT, Int.reduceLE, Int.reduceEq, Int.reduceNe, Int.reduceBEq, Int.reduceBNe, decide_true, decide_false, List.replicate, List.set_cons_zero, List.set_cons_succ, List.length_cons, List.length_nil, List.all_cons, List.all_nil, Bool.and_true, Bool.true_and, Bool.and_self, and_self, and_true, true_and, Nat.zero_lt_succ, Nat.lt_add_one, beq_self_eq_true, beq_ft, beq_tf, Bool.not_true, Bool.not_false]; rfl) ?_
  by_cases hc : (v1 : Int) ≥ 128
  · simp only [hc, decide_true, if_true]
    refine X_skip (thn_norm (X_seq (X_block ?_)))
    have hp : putV v1 = (v1 % 128 + 128) :: putV (v1 / 128) := by rw [putV, if_neg (by omega)]
    have hlen := congrArg List.length hb1
    rw [hp] at hb1 hlen
    simp only [List.length_append, List.length_cons] at hlen hr
    obtain ⟨s2, st2, e1, e2, e3⟩ := (ho1.up (st' := st1.push (.row (bytes [v1 % 128 + 128]) 0 0 false)) (Up.push _ (Nat.le_refl _))).append (bytes := 1) (ys := bytes [v1 % 128 + 128]) (by rw [St.next_push]; have := hu1.next; omega) (by simp only [bytes_length, List.length_cons, List.length_nil, room]; omega)
    have hor : bitsOf .or .u8 ((v1 % 256 : Nat) : Int) 128 = some ((v1 % 128 + 128 : Nat) : Int) := by
      have := or_u8 (a := v1 % 256) (b := 128) (by omega) (by omega)
      rw [or128 (by omega)] at this
      rw [show v1 % 256 % 128 = v1 % 128 by omega] at this
      exact this
    have hel := (Own.new (st := st1) (bytes [v1 % 128 + 128]) (n := n) (esz := 1) (by have := hu1.next; omega)).slc.elems
    simp only [bytes, List.map_cons, List.map_nil, List.length_cons, List.length_nil] at hel e1
    refine X_reg (by simp only [evReg, guardOk, wantedI, IOp.run, IOp.ex, Opd.ev, evs, Env.get, Env.put, Env.keep, V.bin, V.un, intOp, shiftOp, fillRow, fillCells, cellsOf, V.one, optInt, bytesOfRow, byteOfCells, ofRes, strOp, List.map_cons, List.map_nil, List.getElem?_cons_zero, List.getElem?_cons_succ, Option.map_some, Option.map_none, reduceIte, reduceCtorEq, if_true, if_false, Nat.reduceEqDiff, Nat.reduceLT, Nat.reduceAdd, Nat.reduceLeDiff, Nat.reduceMul, Int.reduceToNat, Int.reduceLT, Int.reduceLE, Int.reduceEq, Int.reduceNe, Int.reduceBEq, Int.reduceBNe, decide_true, decide_false, List.replicate, List.set_cons_zero, List.set_cons_succ, List.length_cons, List.length_nil, List.all_cons, List.all_nil, Bool.and_true, Bool.true_and, Bool.and_self, and_self, and_true, true_and, Nat.zero_lt_succ, Nat.lt_add_one, beq_self_eq_true, beq_ft, beq_tf, Bool.not_true, Bool.not_false, wrap_u8_nat, hor, hel, e1]; rfl) (inb_norm (thn_norm ?_))
    refine X_reg (by simp only [evReg, guardOk, wantedI, IOp.run, IOp.ex, Opd.ev, evs, Env.get, Env.put, Env.keep, V.bin, V.un, intOp, shiftOp, fillRow, fillCells, cellsOf, V.one, optInt, bytesOfRow, byteOfCells, ofRes, strOp, List.map_cons, List.map_nil, List.getElem?_cons_zero, List.getElem?_cons_succ, Option.map_some, Option.map_none, reduceIte, reduceCtorEq, if_true, if_false, Nat.reduceEqDiff, Nat.reduceLT, Nat.reduceAdd, Nat.reduceLeDiff, Nat.reduceMul, Int.reduceToNat, Int.reduceLT, Int.reduceLE, Int.reduceEq, Int.reduceNe, Int.reduceBEq, Int.reduceBNe, decide_true, decide_false, List.replicate, List.set_cons_zero, List.set_cons_succ, List.length_cons, List.length_nil, List.all_cons, List.all_nil, Bool.and_true, Bool.true_and, Bool.and_self, and_self, and_true, true_and, Nat.zero_lt_succ, Nat.lt_add_one, beq_self_eq_true, beq_ft, beq_tf, Bool.not_true, Bool.not_false]; rfl) ?_
    have hsh := shr_nat (k := .u64) (a := v1) (s := 7) hv1
    refine hK (v1 / 128) _ _ (by omega) ⟨s2, bs1 ++ [v1 % 128 + 128], v1 / 128, rfl, rfl, ?_, rfl, rfl, rfl, by omega, by rw [bytes_append]; exact e2, hu1.trans ((Up.push _ (by have := hu1.next; omega)).trans e3), by rw [← hb1]; simp⟩
    exact congrArg (V.int .u64) hsh
  · simp only [hc, decide_false, if_false]
    refine X_exit (thn_exit (hE _ _ _ (by simp) (hQ _ _ s1 bs1 v1 rfl rfl rfl rfl rfl ho1 hu1 (by omega) ?_)))
    rw [← hb1, putV, if_pos (by omega)]

theorem putV_length (v : Nat) : 1 ≤ (putV v).length := by
  rw [putV]; split <;> simp

theorem putL_length (l : List Nat) : l.length ≤ (putL l).length := by
  induction l with
  | nil => simp [putL]
  | cons v l ih =>
    have h := putV_length v
    have : putL (v :: l) = putV v ++ putL l := by simp [putL]
    rw [this, List.length_append, List.length_cons]; omega

theorem put_b1 {n : Nat} {st : St} {env : Env} {l : V} {ls : List Nat} (hl : Slc st 1 l (nums .u64 ls)) (hlow : st.Low) (hn : n = st.next) (h3 : Env.get env 3 = .nils) (h6 : Env.get env 6 = l) (h7 : Env.get env 7 = .int .i64 (ls.length : Int)) (h8 : Env.get env 8 = .int .i64 0)
    (hv : ∀ v ∈ ls, v < 18446744073709551616) (hr : (putL ls).length ≤ 140737488355328) {Q : Ex → Env → St → Prop}
    (hQ : ∀ env' st' s', Env.get env' 3 = s' → Own st' n 1 s' (bytes (putL ls)) → Up n st st' → Q (.exit 0) env' st') :
    X tab (.loop [3, 6, 7, 8] varint_Put_b1) env st Q := by
  subst hn
  refine X_while (fun m env1 st1 => ∃ s1 i, i ≤ ls.length ∧ ls.length - i = m ∧ Env.get env1 3 = s1 ∧ Env.get env1 6 = l ∧ Env.get env1 7 = .int .i64 (ls.length : Int) ∧ Env.get env1 8 = .int .i64 ((i : Nat) : Int) ∧ Own st1 st.next 1 s1 (bytes (putL (ls.take i))) ∧ Up st.next st st1) ls.length ⟨.nils, 0, Nat.zero_le _, rfl, h3, h6, h7, h8, by simp [putL, bytes]; exact .nil, .refl (Nat.le_refl _)⟩ ?_
  rintro m env1 st1 K hK hE ⟨s1, i, hi, hm, g3, g6, g7, g8, ho1, hu1⟩
  simp only [Env.keep, g3, g6, g7, g8]
  unfold varint_Put_b1
  refine X_seq ?_
  refine X_reg (by simp only [evReg, guardOk, wantedI, IOp.run, IOp.ex, Opd.ev, evs, Env.get, Env.put, Env.keep, V.bin, V.un, intOp, shiftOp, fillRow, fillCells, cellsOf, V.one, optInt, bytesOfRow, byteOfCells, ofRes, strOp, List.map_cons, List.map_nil, List.getElem?_cons_zero, List.getElem?_cons_succ, Option.map_some, Option.map_none, reduceIte, reduceCtorEq, if_true, if_false, Nat.reduceEqDiff, Nat.reduceLT, Nat.reduceAdd, Nat.reduceLeDiff, Nat.reduceMul, Int.reduceToNat, Int.reduceLT, Int.reduceLE, Int.reduceEq, Int.reduceNe, Int.reduceBEq, Int.reduceBNe, decide_true, decide_false, List.replicate, List.set_cons_zero, List.set_cons_succ, List.length_cons, List.length_nil, List.all_cons, List.all_nil, Bool.and_true, Bool.true_and, Bool.and_self, and_self, and_true, true_and, Nat.zero_lt_succ, Nat.lt_add_one, beq_self_eq_true, beq_ft, beq_tf, Bool.not_true, Bool.not_false]; rfl) (thn_norm (X_seq ?_))
  refine X_cond (by simp only [evReg, guardOk, wantedI, IOp.run, IOp.ex, Opd.ev, evs, Env.get, Env.put, Env.keep, V.bin, V.un, intOp, shiftOp, fillRow, fillCells, cellsOf, V.one, optInt, bytesOfRow, byteOfCells, ofRes, strOp, List.map_cons, List.map_nil, List.getElem?_cons_zero, List.getElem?_cons_succ, Option.map_some, Option.map_none, reduceIte, reduceCtorEq, if_true, if_false, Nat.reduceEqDiff, Nat.reduceLT, Nat.reduceAdd, Nat.reduceLeDiff, Nat.reduceMul, Int.reduceToNat, Int.reduceLT, Int.reduceLE, Int.reduceEq, Int.reduceNe, Int.reduceBEq, Int.reduceBNe, decide_true, decide_false, List.replicate, List.set_cons_zero, List.set_cons_succ, List.length_cons, List.length_nil, List.all_cons, List.all_nil, Bool.and_true, Bool.true_and, Bool.and_self, and_self, and_true, true_and, Nat.zero_lt_succ, Nat.lt_add_one, beq_self_eq_true, beq_ft, beq_tf, Bool.not_true, Bool.not_false]; rfl) ?_
  have hlt : ls.length ≤ 9223372036854775807 := by
    have := putL_length ls; omega
  by_cases hc : (i : Int) < (ls.length : Int)
  · simp only [hc, decide_true, if_true]
    refine X_skip (thn_norm (X_seq (X_block (X_seq ?_))))
    have hi' : i < ls.length := by omega
    obtain ⟨v, hvi⟩ : ∃ v, ls[i]? = some v := ⟨ls[i], List.getElem?_eq_getElem hi'⟩
    have hl1 := hl.up hlow hu1
    obtain ⟨o, g, j, ha, hld⟩ := hl1.at (nums_get hvi) (env := [(9, .bool true), (3, s1), (6, l), (7, .int .i64 (ls.length : Int)), (8, .int .i64 ((i : Nat) : Int))]) (a := .t 6) (b := .t 8) rfl rfl
    have hld0 := hld 0 1 false (by simp)
    simp only [ofCells, cut, List.drop_zero, List.take_succ_cons, List.take_zero] at hld0
    simp only [evReg, guardOk, wantedI, IOp.run, IOp.ex, Opd.ev, evs, Env.get, Env.put, Env.keep, V.bin, V.un, intOp, shiftOp, fillRow, fillCells, cellsOf, V.one, optInt, bytesOfRow, byteOfCells, ofRes, strOp, List.map_cons, List.map_nil, List.getElem?_cons_zero, List.getElem?_cons_succ, Option.map_some, Option.map_none, reduceIte, reduceCtorEq, if_true, if_false, Nat.reduceEqDiff, Nat.reduceLT, Nat.reduceAdd, Nat.reduceLeDiff, Nat.reduceMul, Int.reduceToNat, Int.reduceLT, Int.reduceLE, Int.reduceEq, Int.reduceNe, Int.reduceBEq, Int.reduceBNe, decide_true, decide_false, List.replicate, List.set_cons_zero, List.set_cons_succ, List.length_cons, List.length_nil, List.all_cons, List.all_nil, Bool.and_true, Bool.true_and, Bool.and_self, and_self, and_true, true_and, Nat.zero_lt_succ, Nat.lt_add_one, beq_self_eq_true, beq_ft, beq_tf, Bool.not_true, Bool.not_false] at ha
    refine X_reg (by simp only [evReg, guardOk, wantedI, IOp.run, IOp.ex, Opd.ev, evs, Env.get, Env.put, Env.keep, V.bin, V.un, intOp, shiftOp, fillRow, fillCells, cellsOf, V.one, optInt, bytesOfRow, byteOfCells, ofRes, strOp, List.map_cons, List.map_nil, List.getElem?_cons_zero, List.getElem?_cons_succ, Option.map_some, Option.map_none, reduceIte, reduceCtorEq, if_true, if_false, Nat.reduceEqDiff, Nat.reduceLT, Nat.reduceAdd, Nat.reduceLeDiff, Nat.reduceMul, Int.reduceToNat, Int.reduceLT, Int.reduceLE, Int.reduceEq, Int.reduceNe, Int.reduceBEq, Int.reduceBNe, decide_true, decide_false, List.replicate, List.set_cons_zero, List.set_cons_succ, List.length_cons, List.length_nil, List.all_cons, List.all_nil, Bool.and_true, Bool.true_and, Bool.and_self, and_self, and_true, true_and, Nat.zero_lt_succ, Nat.lt_add_one, beq_self_eq_true, beq_ft, beq_tf, Bool.not_true, Bool.not_false, ha, hld0]; rfl) (thn_norm (X_seq (X_block ?_)))
    have hsplit : putL (ls.take (i + 1)) = putL (ls.take i) ++ putV v := by
      have : ls.take (i + 1) = ls.take i ++ [v] := by rw [List.take_add_one, hvi]; rfl
      rw [this]; simp [putL]
    have hpre : (putL (ls.take (i + 1))).length ≤ (putL ls).length := by
      have : putL ls = putL (ls.take (i + 1)) ++ putL (ls.drop (i + 1)) := by simp only [putL]; rw [← List.flatMap_append, List.take_append_drop]
      rw [this]; simp
    refine put_b0 (v := v) (bs := putL (ls.take i)) (n := st.next) rfl rfl rfl rfl rfl (hv v (List.mem_of_getElem? hvi)) ho1 hu1.next (by rw [← hsplit]; omega) ?_
    intro env2 st2 s2 bs2 v2 k3 k5 k6 k7 k8 ho2 hu2 hv2 hb2
    refine inb_hit (thn_norm ?_)
    rw [← hsplit] at hb2
    have hlen := congrArg List.length hb2
    simp only [List.length_append, List.length_cons, List.length_nil] at hlen
    obtain ⟨s3, st3, e1, e2, e3⟩ := (ho2.up (st' := st2.push (.row (bytes [v2]) 0 0 false)) (Up.push _ (Nat.le_refl _))).append (bytes := 1) (ys := bytes [v2]) (by rw [St.next_push]; have := hu1.next; have := hu2.next; omega) (by simp only [bytes_length, List.length_cons, List.length_nil, room]; omega)
    have hel := (Own.new (st := st2) (bytes [v2]) (n := st.next) (esz := 1) (by have := hu1.next; have := hu2.next; omega)).slc.elems
    simp only [bytes, List.map_cons, List.map_nil, List.length_cons, List.length_nil] at hel e1
    have hm8 : ((v2 % 256 : Nat) : Int) = (v2 : Int) := by omega
    refine X_reg (by simp only [evReg, guardOk, wantedI, IOp.run, IOp.ex, Opd.ev, evs, Env.get, Env.put, Env.keep, V.bin, V.un, intOp, shiftOp, fillRow, fillCells, cellsOf, V.one, optInt, bytesOfRow, byteOfCells, ofRes, strOp, List.map_cons, List.map_nil, List.getElem?_cons_zero, List.getElem?_cons_succ, Option.map_some, Option.map_none, reduceIte, reduceCtorEq, if_true, if_false, Nat.reduceEqDiff, Nat.reduceLT, Nat.reduceAdd, Nat.reduceLeDiff, Nat.reduceMul, Int.reduceToNat, Int.reduceLT, Int.reduceLE, Int.reduceEq, Int.reduceNe, Int.reduceBEq, Int.reduceBNe, decide_true, decide_false, List.replicate, List.set_cons_zero, List.set_cons_succ, List.length_cons, List.length_nil, List.all_cons, List.all_nil, Bool.and_true, Bool.true_and, Bool.and_self, and_self, and_true, true_and, Nat.zero_lt_succ, Nat.lt_add_one, beq_self_eq_true, beq_ft, beq_tf, Bool.not_true, Bool.not_false, k3, k5, wrap_u8_nat, hm8, hel, e1]; rfl) (inb_norm (thn_norm ?_))
    have hadd : IntKind.i64.wrap ((i : Int) + 1) = ((i + 1 : Nat) : Int) := by
      have := wrap_i64_nat (n := i + 1) (by omega)
      exact this
    refine X_reg (by simp only [evReg, guardOk, wantedI, IOp.run, IOp.ex, Opd.ev, evs, Env.get, Env.put, Env.keep, V.bin, V.un, intOp, shiftOp, fillRow, fillCells, cellsOf, V.one, optInt, bytesOfRow, byteOfCells, ofRes, strOp, List.map_cons, List.map_nil, List.getElem?_cons_zero, List.getElem?_cons_succ, Option.map_some, Option.map_none, reduceIte, reduceCtorEq, if_true, if_false, Nat.reduceEqDiff, Nat.reduceLT, Nat.reduceAdd, Nat.reduceLeDiff, Nat.reduceMul, Int.reduceToNat, Int.reduceLT, Int.reduceLE, Int.reduceEq, Int.reduceNe, Int.reduceBEq, Int.reduceBNe, decide_true, decide_false, List.replicate, List.set_cons_zero, List.set_cons_succ, List.length_cons, List.length_nil, List.all_cons, List.all_nil, Bool.and_true, Bool.true_and, Bool.and_self, and_self, and_true, true_and, Nat.zero_lt_succ, Nat.lt_add_one, beq_self_eq_true, beq_ft, beq_tf, Bool.not_true, Bool.not_false, k6, k7, k8, hadd]; rfl) ?_
    refine hK (ls.length - (i + 1)) _ _ (by omega) ⟨s3, i + 1, by omega, rfl, rfl, ?_, ?_, rfl, ?_, ?_⟩
    · simp only [evReg, guardOk, wantedI, IOp.run, IOp.ex, Opd.ev, evs, Env.get, Env.put, Env.keep, V.bin, V.un, intOp, shiftOp, fillRow, fillCells, cellsOf, V.one, optInt, bytesOfRow, byteOfCells, ofRes, strOp, List.map_cons, List.map_nil, List.getElem?_cons_zero, List.getElem?_cons_succ, Option.map_some, Option.map_none, reduceIte, reduceCtorEq, if_true, if_false, Nat.reduceEqDiff, Nat.reduceLT, Nat.reduceAdd, Nat.reduceLeDiff, Nat.reduceMul, Int.reduceToNat, Int.reduceLT, Int.reduceLE, Int.reduceEq, Int.reduceNe, Int.reduceBEq, Int.reduceBNe, decide_true, decide_false, List.replicate, List.set_cons_zero, List.set_cons_succ, List.length_cons, List.length_nil, List.all_cons, List.all_nil, Bool.and_true, Bool.true_and, Bool.and_self, and_self, and_true, true_and, Nat.zero_lt_succ, Nat.lt_add_one, beq_self_eq_true, beq_ft, beq_tf, Bool.not_true, Bool.not_false, k6]
    · simp only [evReg, guardOk, wantedI, IOp.run, IOp.ex, Opd.ev, evs, Env.get, Env.put, Env.keep, V.bin, V.un, intOp, shiftOp, fillRow, fillCells, cellsOf, V.one, optInt, bytesOfRow, byteOfCells, ofRes, strOp, List.map_cons, List.map_nil, List.getElem?_cons_zero, List.getElem?_cons_succ, Option.map_some, Option.map_none, reduceIte, reduceCtorEq, if_true, if_false, Nat.reduceEqDiff, Nat.reduceLT, Nat.reduceAdd, Nat.reduceLeDiff, Nat.reduceMul, Int.reduceToNat, Int.reduceLT, Int.reduceLE, Int.reduceEq, Int.reduceNe, Int.reduceBEq, Int.reduceBNe, decide_true, decide_false, List.replicate, List.set_cons_zero, List.set_cons_succ, List.length_cons, List.length_nil, List.all_cons, List.all_nil, Bool.and_true, Bool.true_and, Bool.and_self, and_self, and_true, true_and, Nat.zero_lt_succ, Nat.lt_add_one, beq_self_eq_true, beq_ft, beq_tf, Bool.not_true, Bool.not_false, k7]
    · rw [← hb2, bytes_append]; exact e2
    · exact hu1.trans (hu2.trans ((Up.push _ (by have := hu1.next; have := hu2.next; omega)).trans e3))
  · simp only [hc, decide_false, if_false]
    refine X_exit (thn_exit (hE _ _ _ (by simp) (hQ _ _ s1 rfl ?_ hu1)))
    have : ls.take i = ls := List.take_of_length_le (by omega)
    rw [this] at ho1; exact ho1

theorem put_F {st : St} {l : V} {ls : List Nat} (hl : Slc st 1 l (nums .u64 ls)) (hlow : st.Low) (hv : ∀ v ∈ ls, v < 18446744073709551616) (hr : (putL ls).length ≤ 140737488355328) :
    ∃ s' st', F tab fid_varint_Put [l] st = some (s', st') ∧ Own st' st.next 1 s' (bytes (putL ls)) ∧ Up st.next st st' := by
  refine F_fnR tab_varint_Put rfl ?_
  unfold ir_varint_Put
  simp only [envOf]
  have hln := hl.len (env := [(6, l), (3, .nils), (2, .nils), (0, l)]) (o := .t 6) rfl
  simp only [evReg, guardOk, wantedI, IOp.run, IOp.ex, Opd.ev, evs, Env.get, Env.put, Env.keep, V.bin, V.un, intOp, shiftOp, fillRow, fillCells, cellsOf, V.one, optInt, bytesOfRow, byteOfCells, ofRes, strOp, List.map_cons, List.map_nil, List.getElem?_cons_zero, List.getElem?_cons_succ, Option.map_some, Option.map_none, reduceIte, reduceCtorEq, if_true, if_false, Nat.reduceEqDiff, Nat.reduceLT, Nat.reduceAdd, Nat.reduceLeDiff, Nat.reduceMul, Int.reduceToNat, Int.reduceLT, Int.reduceLE, Int.reduceEq, Int.reduceNe, Int.reduceBEq, Int.reduceBNe, decide_true, decide_false, List.replicate, List.set_cons_zero, List.set_cons_succ, List.length_cons, List.length_nil, List.all_cons, List.all_nil, Bool.and_true, Bool.true_and, Bool.and_self, and_self, and_true, true_and, Nat.zero_lt_succ, Nat.lt_add_one, beq_self_eq_true, beq_ft, beq_tf, Bool.not_true, Bool.not_false, nums_length] at hln
  refine X_seq (X_reg (by simp only [evReg, guardOk, wantedI, IOp.run, IOp.ex, Opd.ev, evs, Env.get, Env.put, Env.keep, V.bin, V.un, intOp, shiftOp, fillRow, fillCells, cellsOf, V.one, optInt, bytesOfRow, byteOfCells, ofRes, strOp, List.map_cons, List.map_nil, List.getElem?_cons_zero, List.getElem?_cons_succ, Option.map_some, Option.map_none, reduceIte, reduceCtorEq, if_true, if_false, Nat.reduceEqDiff, Nat.reduceLT, Nat.reduceAdd, Nat.reduceLeDiff, Nat.reduceMul, Int.reduceToNat, Int.reduceLT, Int.reduceLE, Int.reduceEq, Int.reduceNe, Int.reduceBEq, Int.reduceBNe, decide_true, decide_false, List.replicate, List.set_cons_zero, List.set_cons_succ, List.length_cons, List.length_nil, List.all_cons, List.all_nil, Bool.and_true, Bool.true_and, Bool.and_self, and_self, and_true, true_and, Nat.zero_lt_succ, Nat.lt_add_one, beq_self_eq_true, beq_ft, beq_tf, Bool.not_true, Bool.not_false]; rfl) (thn_norm (X_seq (X_reg (by simp only [evReg, guardOk, wantedI, IOp.run, IOp.ex, Opd.ev, evs, Env.get, Env.put, Env.keep, V.bin, V.un, intOp, shiftOp, fillRow, fillCells, cellsOf, V.one, optInt, bytesOfRow, byteOfCells, ofRes, strOp, List.map_cons, List.map_nil, List.getElem?_cons_zero, List.getElem?_cons_succ, Option.map_some, Option.map_none, reduceIte, reduceCtorEq, if_true, if_false, Nat.reduceEqDiff, Nat.reduceLT, Nat.reduceAdd, Nat.reduceLeDiff, Nat.reduceMul, Int.reduceToNat, Int.reduceLT, Int.reduceLE, Int.reduceEq, Int.reduceNe, Int.reduceBEq, Int.reduceBNe, decide_true, decide_false, List.replicate, List.set_cons_zero, List.set_cons_succ, List.length_cons, List.length_nil, List.all_cons, List.all_nil, Bool.and_true, Bool.true_and, Bool.and_self, and_self, and_true, true_and, Nat.zero_lt_succ, Nat.lt_add_one, beq_self_eq_true, beq_ft, beq_tf, Bool.not_true, Bool.not_false]; rfl) (thn_norm (X_seq (X_seq ?_)))))))
  refine X_reg (by simp only [evReg, guardOk, wantedI, IOp.run, IOp.ex, Opd.ev, evs, Env.get, Env.put, Env.keep, V.bin, V.un, intOp, shiftOp, fillRow, fillCells, cellsOf, V.one, optInt, bytesOfRow, byteOfCells, ofRes, strOp, List.map_cons, List.map_nil, List.getElem?_cons_zero, List.getElem?_cons_succ, Option.map_some, Option.map_none, reduceIte, reduceCtorEq, if_true, if_false, Nat.reduceEqDiff, Nat.reduceLT, Nat.reduceAdd, Nat.reduceLeDiff, Nat.reduceMul, Int.reduceToNat, Int.reduceLT, Int.reduceLE, Int.reduceEq, Int.reduceNe, Int.reduceBEq, Int.reduceBNe, decide_true, decide_false, List.replicate, List.set_cons_zero, List.set_cons_succ, List.length_cons, List.length_nil, List.all_cons, List.all_nil, Bool.and_true, Bool.true_and, Bool.and_self, and_self, and_true, true_and, Nat.zero_lt_succ, Nat.lt_add_one, beq_self_eq_true, beq_ft, beq_tf, Bool.not_true, Bool.not_false, hln]; rfl) (thn_norm (X_block ?_))
  refine put_b1 hl hlow rfl rfl rfl rfl rfl hv hr ?_
  intro env' st' s' k3 ho hu
  refine inb_hit (thn_norm (X_seq ?_))
  refine X_reg (by simp only [evReg, guardOk, wantedI, IOp.run, IOp.ex, Opd.ev, evs, Env.get, Env.put, Env.keep, V.bin, V.un, intOp, shiftOp, fillRow, fillCells, cellsOf, V.one, optInt, bytesOfRow, byteOfCells, ofRes, strOp, List.map_cons, List.map_nil, List.getElem?_cons_zero, List.getElem?_cons_succ, Option.map_some, Option.map_none, reduceIte, reduceCtorEq, if_true, if_false, Nat.reduceEqDiff, Nat.reduceLT, Nat.reduceAdd, Nat.reduceLeDiff, Nat.reduceMul, Int.reduceToNat, Int.reduceLT, Int.reduceLE, Int.reduceEq, Int.reduceNe, Int.reduceBEq, Int.reduceBNe, decide_true, decide_false, List.replicate, List.set_cons_zero, List.set_cons_succ, List.length_cons, List.length_nil, List.all_cons, List.all_nil, Bool.and_true, Bool.true_and, Bool.and_self, and_self, and_true, true_and, Nat.zero_lt_succ, Nat.lt_add_one, beq_self_eq_true, beq_ft, beq_tf, Bool.not_true, Bool.not_false]; rfl) (thn_norm (X_ret ⟨.inr rfl, [s'], by simp only [evReg, guardOk, wantedI, IOp.run, IOp.ex, Opd.ev, evs, Env.get, Env.put, Env.keep, V.bin, V.un, intOp, shiftOp, fillRow, fillCells, cellsOf, V.one, optInt, bytesOfRow, byteOfCells, ofRes, strOp, List.map_cons, List.map_nil, List.getElem?_cons_zero, List.getElem?_cons_succ, Option.map_some, Option.map_none, reduceIte, reduceCtorEq, if_true, if_false, Nat.reduceEqDiff, Nat.reduceLT, Nat.reduceAdd, Nat.reduceLeDiff, Nat.reduceMul, Int.reduceToNat, Int.reduceLT, Int.reduceLE, Int.reduceEq, Int.reduceNe, Int.reduceBEq, Int.reduceBNe, decide_true, decide_false, List.replicate, List.set_cons_zero, List.set_cons_succ, List.length_cons, List.length_nil, List.all_cons, List.all_nil, Bool.and_true, Bool.true_and, Bool.and_self, and_self, and_true, true_and, Nat.zero_lt_succ, Nat.lt_add_one, beq_self_eq_true, beq_ft, beq_tf, Bool.not_true, Bool.not_false, evRes, k3], ho, hu⟩))

end Go.Ab
