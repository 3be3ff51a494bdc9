/- CrcTurns on the machine of values. -/
import Derived.Test.YtcifidpaacfopaaCrcC
namespace Go.Ab
open Go
set_option linter.unusedVariables false
set_option linter.unusedSimpArgs false
set_option maxRecDepth 10000

/-! ### like long bytes -/
theorem crcRaw_noughts : ∀ (n : Nat) (a : List Nat) (s : Nat), a.length = n → xorL (xorL a a) (List.replicate n 0) = List.replicate n 0 := by
  intro n
  induction n with
  | zero => intro a s h; cases a <;> simp_all [xorL]
  | succ n ih =>
    intro a s h
    cases a with
    | nil => simp at h
    | cons x a =>
      have := ih a s (by simpa using h)
      simp only [xorL, List.zipWith_cons_cons, List.replicate_succ, Nat.xor_self, Nat.xor_zero] at this ⊢
      rw [this]

theorem xorL_length (a b : List Nat) (h : a.length = b.length) : (xorL a b).length = a.length := by simp [xorL, h]
theorem xorL_zero : ∀ (a : List Nat) (n : Nat), a.length = n → xorL a (List.replicate n 0) = a
  | [], n, h => by simp at h; subst h; rfl
  | x :: a, 0, h => by simp at h
  | x :: a, n + 1, h => by
    simp only [xorL, List.replicate_succ, List.zipWith_cons_cons, Nat.xor_zero, List.cons.injEq, true_and]
    exact xorL_zero a n (by simpa using h)

theorem xor4 (m x y z : Nat) : (m ^^^ x) ^^^ (m ^^^ y) ^^^ (m ^^^ z) = m ^^^ (x ^^^ y ^^^ z) := by
  apply Nat.eq_of_testBit_eq
  intro i
  simp only [Nat.testBit_xor]
  cases m.testBit i <;> cases x.testBit i <;> cases y.testBit i <;> cases z.testBit i <;> rfl

theorem crcSum_xor {a b : List Nat} {n : Nat} (ha : a.length = n) (hb : b.length = n) : crcSum a ^^^ crcSum b ^^^ crcSum (List.replicate n 0) = crcSum (xorL a b) := by
  have h1 := crcRaw_xor a b 4294967295 4294967295 (by omega)
  have h2 := crcRaw_xor (xorL a b) (List.replicate n 0) (4294967295 ^^^ 4294967295) 4294967295 (by rw [xorL_length _ _ (by omega)]; simp [ha])
  rw [xorL_zero _ _ (by rw [xorL_length _ _ (by omega)]; exact ha), h1] at h2
  have e : (4294967295 ^^^ 4294967295 ^^^ 4294967295 : Nat) = 4294967295 := by decide
  rw [e] at h2
  unfold crcSum
  rw [h2]
  generalize crcRaw 4294967295 a = x
  generalize crcRaw 4294967295 b = y
  generalize crcRaw 4294967295 (List.replicate n 0) = z
  rw [inv32_def, inv32_def, inv32_def, inv32_def]
  exact xor4 _ x y z

theorem mem_xorL {x : Nat} : ∀ {a b : List Nat}, x ∈ xorL a b → ∃ u ∈ a, ∃ v ∈ b, x = u ^^^ v
  | [], _, h => by simp [xorL] at h
  | _ :: _, [], h => by simp [xorL] at h
  | y :: a, z :: b, h => by
    simp only [xorL, List.zipWith_cons_cons, List.mem_cons] at h
    rcases h with rfl | h
    · exact ⟨y, List.mem_cons_self, z, List.mem_cons_self, rfl⟩
    · obtain ⟨u, hu, v, hv, e⟩ := mem_xorL (a := a) (b := b) h
      exact ⟨u, List.mem_cons_of_mem _ hu, v, List.mem_cons_of_mem _ hv, e⟩

theorem crcTurns_G {a b : List Nat} {c0 : Nat} (ha : ∀ x ∈ a, x < 256) (hb : ∀ x ∈ b, x < 256) (hla : a.length ≤ 9223372036854775807) (hlb : b.length ≤ 9223372036854775807) (hc : c0 < 256) : GF gtab fid_archipelagolaw4_CrcTurns [.list false 1 (un .u8 a), .list false 1 (un .u8 b), .int .u8 c0] [] 0 = some (.bool true, []) := by
  refine fn_archipelagolaw4_CrcTurns rfl ?_
  simp only [genvOf]
  refine Zr rfl (by simp (maxSteps := 2000000) only [gevReg_cons, gevReg_nil, gguardOk, gwanted, IOp.grun, IOp.gex, Opd.gev, gevs, GEnv.get, GEnv.put, GEnv.keep, U.ofV, U.ofVs, U.share, shares, U.moved, U.handed, demote, U.cells, U.mcells, U.one, gof, gfill, gfillRow, gload, gtake, gstore, els, gfresh, isIn, memN, goptInt, gpart, U.slice, U.toV, toVs, U.eqk, plainEq, ubin, uun, V.bin, V.un, intOp, shiftOp, strOp, ukeyEq, umapFind, umapPut, uminmax, tupDemote, thaw, ownCall, roCall, rwCall, cloneCall, U.snap, snapL, snapLL, scalLL, rfL, rfLL, U.rf, U.clean, U.clean1, cleanL, U.scal, scalL, cut, lay, V.one, gnum, if_true, if_false, reduceIte, reduceCtorEq, Nat.reduceEqDiff, Nat.reduceLT, Nat.reduceAdd, Nat.reduceSub, Nat.reduceLeDiff, Nat.reduceMul, Int.reduceToNat, Int.toNat_natCast, Int.reduceLT, Int.reduceLE, Int.reduceEq, Int.reduceNe, Int.reduceBEq, Int.reduceBNe, Int.reduceAdd, Int.reduceSub, Int.reduceNeg, Nat.zero_add, Nat.add_zero, Nat.le_refl, Nat.zero_le, decide_true, decide_false, List.replicate, List.set_cons_zero, List.set_cons_succ, List.length_cons, List.length_nil, List.all_cons, List.all_nil, List.isEmpty_cons, List.isEmpty_nil, List.map_cons, List.map_nil, List.getElem?_cons_zero, List.getElem?_cons_succ, List.nil_append, List.cons_append, List.drop_zero, List.drop_succ_cons, List.take_succ_cons, List.take_zero, Option.map_some, Option.map_none, Option.getD_some, Option.getD_none, Option.isSome_some, Option.isSome_none, Bool.and_true, Bool.true_and, Bool.and_false, Bool.false_and, Bool.or_false, Bool.false_or, Bool.and_self, Bool.or_self, Bool.false_eq_true, Bool.true_eq_false, and_self, and_true, true_and, and_false, false_and, ne_eq, not_true_eq_false, not_false_eq_true, Nat.zero_lt_succ, Nat.lt_add_one, beq_self_eq_true, beq_ft, beq_tf, Bool.not_true, Bool.not_false, Int.natCast_zero, Int.natCast_one, Int.cast_ofNat_Int]; rfl) ?_
  refine Zr rfl (by simp (maxSteps := 2000000) only [gevReg_cons, gevReg_nil, gguardOk, gwanted, IOp.grun, IOp.gex, Opd.gev, gevs, GEnv.get, GEnv.put, GEnv.keep, U.ofV, U.ofVs, U.share, shares, U.moved, U.handed, demote, U.cells, U.mcells, U.one, gof, gfill, gfillRow, gload, gtake, gstore, els, gfresh, isIn, memN, goptInt, gpart, U.slice, U.toV, toVs, U.eqk, plainEq, ubin, uun, V.bin, V.un, intOp, shiftOp, strOp, ukeyEq, umapFind, umapPut, uminmax, tupDemote, thaw, ownCall, roCall, rwCall, cloneCall, U.snap, snapL, snapLL, scalLL, rfL, rfLL, U.rf, U.clean, U.clean1, cleanL, U.scal, scalL, cut, lay, V.one, gnum, if_true, if_false, reduceIte, reduceCtorEq, Nat.reduceEqDiff, Nat.reduceLT, Nat.reduceAdd, Nat.reduceSub, Nat.reduceLeDiff, Nat.reduceMul, Int.reduceToNat, Int.toNat_natCast, Int.reduceLT, Int.reduceLE, Int.reduceEq, Int.reduceNe, Int.reduceBEq, Int.reduceBNe, Int.reduceAdd, Int.reduceSub, Int.reduceNeg, Nat.zero_add, Nat.add_zero, Nat.le_refl, Nat.zero_le, decide_true, decide_false, List.replicate, List.set_cons_zero, List.set_cons_succ, List.length_cons, List.length_nil, List.all_cons, List.all_nil, List.isEmpty_cons, List.isEmpty_nil, List.map_cons, List.map_nil, List.getElem?_cons_zero, List.getElem?_cons_succ, List.nil_append, List.cons_append, List.drop_zero, List.drop_succ_cons, List.take_succ_cons, List.take_zero, Option.map_some, Option.map_none, Option.getD_some, Option.getD_none, Option.isSome_some, Option.isSome_none, Bool.and_true, Bool.true_and, Bool.and_false, Bool.false_and, Bool.or_false, Bool.false_or, Bool.and_self, Bool.or_self, Bool.false_eq_true, Bool.true_eq_false, and_self, and_true, true_and, and_false, false_and, ne_eq, not_true_eq_false, not_false_eq_true, Nat.zero_lt_succ, Nat.lt_add_one, beq_self_eq_true, beq_ft, beq_tf, Bool.not_true, Bool.not_false, Int.natCast_zero, Int.natCast_one, Int.cast_ofNat_Int, gc_archipelagolaw4_known, crc_known]; rfl) (Zc rfl rfl (fun h => by cases h) (fun _ => ?_))
  obtain ⟨n, hn⟩ : ∃ n, n = min (min a.length b.length) 100 := ⟨_, rfl⟩
  have hmin : (if (100 : Int) < (if (b.length : Int) < (a.length : Int) then (b.length : Int) else (a.length : Int)) then (100 : Int) else (if (b.length : Int) < (a.length : Int) then (b.length : Int) else (a.length : Int))) = (n : Int) := by split <;> split <;> omega
  refine Zr rfl (by simp (maxSteps := 2000000) only [gevReg_cons, gevReg_nil, gguardOk, gwanted, IOp.grun, IOp.gex, Opd.gev, gevs, GEnv.get, GEnv.put, GEnv.keep, U.ofV, U.ofVs, U.share, shares, U.moved, U.handed, demote, U.cells, U.mcells, U.one, gof, gfill, gfillRow, gload, gtake, gstore, els, gfresh, isIn, memN, goptInt, gpart, U.slice, U.toV, toVs, U.eqk, plainEq, ubin, uun, V.bin, V.un, intOp, shiftOp, strOp, ukeyEq, umapFind, umapPut, uminmax, tupDemote, thaw, ownCall, roCall, rwCall, cloneCall, U.snap, snapL, snapLL, scalLL, rfL, rfLL, U.rf, U.clean, U.clean1, cleanL, U.scal, scalL, cut, lay, V.one, gnum, if_true, if_false, reduceIte, reduceCtorEq, Nat.reduceEqDiff, Nat.reduceLT, Nat.reduceAdd, Nat.reduceSub, Nat.reduceLeDiff, Nat.reduceMul, Int.reduceToNat, Int.toNat_natCast, Int.reduceLT, Int.reduceLE, Int.reduceEq, Int.reduceNe, Int.reduceBEq, Int.reduceBNe, Int.reduceAdd, Int.reduceSub, Int.reduceNeg, Nat.zero_add, Nat.add_zero, Nat.le_refl, Nat.zero_le, decide_true, decide_false, List.replicate, List.set_cons_zero, List.set_cons_succ, List.length_cons, List.length_nil, List.all_cons, List.all_nil, List.isEmpty_cons, List.isEmpty_nil, List.map_cons, List.map_nil, List.getElem?_cons_zero, List.getElem?_cons_succ, List.nil_append, List.cons_append, List.drop_zero, List.drop_succ_cons, List.take_succ_cons, List.take_zero, Option.map_some, Option.map_none, Option.getD_some, Option.getD_none, Option.isSome_some, Option.isSome_none, Bool.and_true, Bool.true_and, Bool.and_false, Bool.false_and, Bool.or_false, Bool.false_or, Bool.and_self, Bool.or_self, Bool.false_eq_true, Bool.true_eq_false, and_self, and_true, true_and, and_false, false_and, ne_eq, not_true_eq_false, not_false_eq_true, Nat.zero_lt_succ, Nat.lt_add_one, beq_self_eq_true, beq_ft, beq_tf, Bool.not_true, Bool.not_false, Int.natCast_zero, Int.natCast_one, Int.cast_ofNat_Int, un_length, hmin]; rfl) ?_
  have p1 : (0 : Int) ≤ (n : Int) := by omega
  have p2 : ((n : Int) * 1 ≤ (room : Int)) = True := eq_true (by unfold room; omega)
  have p3 : ((n : Int) * ((1 : Nat) : Int) ≤ (room : Int)) = True := eq_true (by unfold room; omega)
  have hrep : List.replicate n [U.int .u8 0] = un .u8 (List.replicate n 0) := by simp [un]
  have p0 : (n : Int) ≤ (n : Int) := by omega
  refine Zr rfl (by simp (maxSteps := 2000000) only [gevReg_cons, gevReg_nil, gguardOk, gwanted, IOp.grun, IOp.gex, Opd.gev, gevs, GEnv.get, GEnv.put, GEnv.keep, U.ofV, U.ofVs, U.share, shares, U.moved, U.handed, demote, U.cells, U.mcells, U.one, gof, gfill, gfillRow, gload, gtake, gstore, els, gfresh, isIn, memN, goptInt, gpart, U.slice, U.toV, toVs, U.eqk, plainEq, ubin, uun, V.bin, V.un, intOp, shiftOp, strOp, ukeyEq, umapFind, umapPut, uminmax, tupDemote, thaw, ownCall, roCall, rwCall, cloneCall, U.snap, snapL, snapLL, scalLL, rfL, rfLL, U.rf, U.clean, U.clean1, cleanL, U.scal, scalL, cut, lay, V.one, gnum, if_true, if_false, reduceIte, reduceCtorEq, Nat.reduceEqDiff, Nat.reduceLT, Nat.reduceAdd, Nat.reduceSub, Nat.reduceLeDiff, Nat.reduceMul, Int.reduceToNat, Int.toNat_natCast, Int.reduceLT, Int.reduceLE, Int.reduceEq, Int.reduceNe, Int.reduceBEq, Int.reduceBNe, Int.reduceAdd, Int.reduceSub, Int.reduceNeg, Nat.zero_add, Nat.add_zero, Nat.le_refl, Nat.zero_le, decide_true, decide_false, List.replicate, List.set_cons_zero, List.set_cons_succ, List.length_cons, List.length_nil, List.all_cons, List.all_nil, List.isEmpty_cons, List.isEmpty_nil, List.map_cons, List.map_nil, List.getElem?_cons_zero, List.getElem?_cons_succ, List.nil_append, List.cons_append, List.drop_zero, List.drop_succ_cons, List.take_succ_cons, List.take_zero, Option.map_some, Option.map_none, Option.getD_some, Option.getD_none, Option.isSome_some, Option.isSome_none, Bool.and_true, Bool.true_and, Bool.and_false, Bool.false_and, Bool.or_false, Bool.false_or, Bool.and_self, Bool.or_self, Bool.false_eq_true, Bool.true_eq_false, and_self, and_true, true_and, and_false, false_and, ne_eq, not_true_eq_false, not_false_eq_true, Nat.zero_lt_succ, Nat.lt_add_one, beq_self_eq_true, beq_ft, beq_tf, Bool.not_true, Bool.not_false, Int.natCast_zero, Int.natCast_one, Int.cast_ofNat_Int, p0, p1, p2, p3, hrep, un_length, List.length_replicate]; rfl) ?_
  refine Zr rfl (by simp (maxSteps := 2000000) only [gevReg_cons, gevReg_nil, gguardOk, gwanted, IOp.grun, IOp.gex, Opd.gev, gevs, GEnv.get, GEnv.put, GEnv.keep, U.ofV, U.ofVs, U.share, shares, U.moved, U.handed, demote, U.cells, U.mcells, U.one, gof, gfill, gfillRow, gload, gtake, gstore, els, gfresh, isIn, memN, goptInt, gpart, U.slice, U.toV, toVs, U.eqk, plainEq, ubin, uun, V.bin, V.un, intOp, shiftOp, strOp, ukeyEq, umapFind, umapPut, uminmax, tupDemote, thaw, ownCall, roCall, rwCall, cloneCall, U.snap, snapL, snapLL, scalLL, rfL, rfLL, U.rf, U.clean, U.clean1, cleanL, U.scal, scalL, cut, lay, V.one, gnum, if_true, if_false, reduceIte, reduceCtorEq, Nat.reduceEqDiff, Nat.reduceLT, Nat.reduceAdd, Nat.reduceSub, Nat.reduceLeDiff, Nat.reduceMul, Int.reduceToNat, Int.toNat_natCast, Int.reduceLT, Int.reduceLE, Int.reduceEq, Int.reduceNe, Int.reduceBEq, Int.reduceBNe, Int.reduceAdd, Int.reduceSub, Int.reduceNeg, Nat.zero_add, Nat.add_zero, Nat.le_refl, Nat.zero_le, decide_true, decide_false, List.replicate, List.set_cons_zero, List.set_cons_succ, List.length_cons, List.length_nil, List.all_cons, List.all_nil, List.isEmpty_cons, List.isEmpty_nil, List.map_cons, List.map_nil, List.getElem?_cons_zero, List.getElem?_cons_succ, List.nil_append, List.cons_append, List.drop_zero, List.drop_succ_cons, List.take_succ_cons, List.take_zero, Option.map_some, Option.map_none, Option.getD_some, Option.getD_none, Option.isSome_some, Option.isSome_none, Bool.and_true, Bool.true_and, Bool.and_false, Bool.false_and, Bool.or_false, Bool.false_or, Bool.and_self, Bool.or_self, Bool.false_eq_true, Bool.true_eq_false, and_self, and_true, true_and, and_false, false_and, ne_eq, not_true_eq_false, not_false_eq_true, Nat.zero_lt_succ, Nat.lt_add_one, beq_self_eq_true, beq_ft, beq_tf, Bool.not_true, Bool.not_false, Int.natCast_zero, Int.natCast_one, Int.cast_ofNat_Int]; rfl) ?_
  have hta : ∀ x ∈ a.take n, x < 256 := fun x h => ha x (List.mem_of_mem_take h)
  have htb : ∀ x ∈ b.take n, x < 256 := fun x h => hb x (List.mem_of_mem_take h)
  have hlta : (a.take n).length = n := by rw [List.length_take]; omega
  have hltb : (b.take n).length = n := by rw [List.length_take]; omega
  refine Zw rfl (fun m env h => ∃ i : Nat, ∃ g l : Nat, GEnv.get env 0 = .list false 1 (un .u8 a) ∧ GEnv.get env 1 = .list false 1 (un .u8 b) ∧ GEnv.get env 2 = .int .u8 c0 ∧ GEnv.get env 7 = .int .i64 (n : Int) ∧ GEnv.get env 8 = .asl none 0 0 0 n 1 ∧ GEnv.get env 9 = .int .i64 (i : Int) ∧ m + i = n ∧ h = [.arr (un .u8 ((xorL (a.take i) (b.take i)) ++ List.replicate (n - i) 0)) 0 0]) n ⟨0, 0, 0, rfl, rfl, rfl, rfl, rfl, rfl, by omega, by simp [xorL]⟩ ?_
  rintro m env h ⟨i, g, l, k0, k1, k2, k7, k8, k9, hm, rfl⟩
  simp only [GEnv.keep, k0, k1, k2, k7, k8, k9]
  refine Zr rfl (by simp (maxSteps := 2000000) only [gevReg_cons, gevReg_nil, gguardOk, gwanted, IOp.grun, IOp.gex, Opd.gev, gevs, GEnv.get, GEnv.put, GEnv.keep, U.ofV, U.ofVs, U.share, shares, U.moved, U.handed, demote, U.cells, U.mcells, U.one, gof, gfill, gfillRow, gload, gtake, gstore, els, gfresh, isIn, memN, goptInt, gpart, U.slice, U.toV, toVs, U.eqk, plainEq, ubin, uun, V.bin, V.un, intOp, shiftOp, strOp, ukeyEq, umapFind, umapPut, uminmax, tupDemote, thaw, ownCall, roCall, rwCall, cloneCall, U.snap, snapL, snapLL, scalLL, rfL, rfLL, U.rf, U.clean, U.clean1, cleanL, U.scal, scalL, cut, lay, V.one, gnum, if_true, if_false, reduceIte, reduceCtorEq, Nat.reduceEqDiff, Nat.reduceLT, Nat.reduceAdd, Nat.reduceSub, Nat.reduceLeDiff, Nat.reduceMul, Int.reduceToNat, Int.toNat_natCast, Int.reduceLT, Int.reduceLE, Int.reduceEq, Int.reduceNe, Int.reduceBEq, Int.reduceBNe, Int.reduceAdd, Int.reduceSub, Int.reduceNeg, Nat.zero_add, Nat.add_zero, Nat.le_refl, Nat.zero_le, decide_true, decide_false, List.replicate, List.set_cons_zero, List.set_cons_succ, List.length_cons, List.length_nil, List.all_cons, List.all_nil, List.isEmpty_cons, List.isEmpty_nil, List.map_cons, List.map_nil, List.getElem?_cons_zero, List.getElem?_cons_succ, List.nil_append, List.cons_append, List.drop_zero, List.drop_succ_cons, List.take_succ_cons, List.take_zero, Option.map_some, Option.map_none, Option.getD_some, Option.getD_none, Option.isSome_some, Option.isSome_none, Bool.and_true, Bool.true_and, Bool.and_false, Bool.false_and, Bool.or_false, Bool.false_or, Bool.and_self, Bool.or_self, Bool.false_eq_true, Bool.true_eq_false, and_self, and_true, true_and, and_false, false_and, ne_eq, not_true_eq_false, not_false_eq_true, Nat.zero_lt_succ, Nat.lt_add_one, beq_self_eq_true, beq_ft, beq_tf, Bool.not_true, Bool.not_false, Int.natCast_zero, Int.natCast_one, Int.cast_ofNat_Int]; rfl) (Zp rfl rfl (fun hi => ?_) (fun hi => ?_))
  · have hin : i < n := by omega
    have g1 : a[i]? = some (a[i]'(by omega)) := List.getElem?_eq_getElem _
    have g2 : b[i]? = some (b[i]'(by omega)) := List.getElem?_eq_getElem _
    have hxl : (xorL (a.take i) (b.take i)).length = i := by
      rw [xorL_length _ _ (by rw [List.length_take, List.length_take]; omega), List.length_take]; omega
    have g3 : (un .u8 ((xorL (a.take i) (b.take i)) ++ List.replicate (n - i) 0))[i]? = some [.int .u8 0] := by
      have : ((xorL (a.take i) (b.take i)) ++ List.replicate (n - i) 0)[i]? = some 0 := by
        rw [List.getElem?_append_right (by omega), hxl, Nat.sub_self, List.getElem?_replicate, if_pos (by omega)]
      exact un_get this
    have hx := xor_u8 (a := a[i]'(by omega)) (b := b[i]'(by omega)) (ha _ (List.getElem_mem _)) (hb _ (List.getElem_mem _))
    have n0 : (0 : Int) ≤ (i : Int) := by omega
    have n1 : ((i : Int) < (n : Int)) := by omega
    have hset : ((un .u8 ((xorL (a.take i) (b.take i)) ++ List.replicate (n - i) 0)).set i [.int .u8 ((a[i]'(by omega) ^^^ b[i]'(by omega) : Nat) : Int)]) = un .u8 ((xorL (a.take (i + 1)) (b.take (i + 1))) ++ List.replicate (n - (i + 1)) 0) := by
      have e1 : a.take (i + 1) = a.take i ++ [a[i]'(by omega)] := by rw [List.take_add_one, g1]; rfl
      have e2 : b.take (i + 1) = b.take i ++ [b[i]'(by omega)] := by rw [List.take_add_one, g2]; rfl
      have e3 : xorL (a.take (i + 1)) (b.take (i + 1)) = xorL (a.take i) (b.take i) ++ [a[i]'(by omega) ^^^ b[i]'(by omega)] := by
        rw [e1, e2]
        unfold xorL
        rw [List.zipWith_append (by rw [List.length_take, List.length_take]; omega)]
        rfl
      rw [e3, List.append_assoc]
      have e4 : List.replicate (n - i) 0 = 0 :: List.replicate (n - (i + 1)) 0 := by rw [show n - i = (n - (i + 1)) + 1 by omega, List.replicate_succ]
      rw [e4]
      unfold un
      rw [← List.map_set, List.set_append_right _ _ (by omega), hxl, Nat.sub_self]
      rfl
    refine Zd rfl (by simp (maxSteps := 2000000) only [gevReg_cons, gevReg_nil, gguardOk, gwanted, IOp.grun, IOp.gex, Opd.gev, gevs, GEnv.get, GEnv.put, GEnv.keep, U.ofV, U.ofVs, U.share, shares, U.moved, U.handed, demote, U.cells, U.mcells, U.one, gof, gfill, gfillRow, gload, gtake, gstore, els, gfresh, isIn, memN, goptInt, gpart, U.slice, U.toV, toVs, U.eqk, plainEq, ubin, uun, V.bin, V.un, intOp, shiftOp, strOp, ukeyEq, umapFind, umapPut, uminmax, tupDemote, thaw, ownCall, roCall, rwCall, cloneCall, U.snap, snapL, snapLL, scalLL, rfL, rfLL, U.rf, U.clean, U.clean1, cleanL, U.scal, scalL, cut, lay, V.one, gnum, if_true, if_false, reduceIte, reduceCtorEq, Nat.reduceEqDiff, Nat.reduceLT, Nat.reduceAdd, Nat.reduceSub, Nat.reduceLeDiff, Nat.reduceMul, Int.reduceToNat, Int.toNat_natCast, Int.reduceLT, Int.reduceLE, Int.reduceEq, Int.reduceNe, Int.reduceBEq, Int.reduceBNe, Int.reduceAdd, Int.reduceSub, Int.reduceNeg, Nat.zero_add, Nat.add_zero, Nat.le_refl, Nat.zero_le, decide_true, decide_false, List.replicate, List.set_cons_zero, List.set_cons_succ, List.length_cons, List.length_nil, List.all_cons, List.all_nil, List.isEmpty_cons, List.isEmpty_nil, List.map_cons, List.map_nil, List.getElem?_cons_zero, List.getElem?_cons_succ, List.nil_append, List.cons_append, List.drop_zero, List.drop_succ_cons, List.take_succ_cons, List.take_zero, Option.map_some, Option.map_none, Option.getD_some, Option.getD_none, Option.isSome_some, Option.isSome_none, Bool.and_true, Bool.true_and, Bool.and_false, Bool.false_and, Bool.or_false, Bool.false_or, Bool.and_self, Bool.or_self, Bool.false_eq_true, Bool.true_eq_false, and_self, and_true, true_and, and_false, false_and, ne_eq, not_true_eq_false, not_false_eq_true, Nat.zero_lt_succ, Nat.lt_add_one, beq_self_eq_true, beq_ft, beq_tf, Bool.not_true, Bool.not_false, Int.natCast_zero, Int.natCast_one, Int.cast_ofNat_Int, gevRegD_cons, gevRegD_nil, IOp.kind, List.reverse_cons, List.reverse_nil, quiet, storeAt, uobj, readOf, offB, Turn.off, IOp.since, again, IOp.where?, onDst, cOf, id, n0, n1, un_get g1, un_get g2, g3, hx, hset]; rfl) ?_
    refine Zr rfl (by simp (maxSteps := 2000000) only [gevReg_cons, gevReg_nil, gguardOk, gwanted, IOp.grun, IOp.gex, Opd.gev, gevs, GEnv.get, GEnv.put, GEnv.keep, U.ofV, U.ofVs, U.share, shares, U.moved, U.handed, demote, U.cells, U.mcells, U.one, gof, gfill, gfillRow, gload, gtake, gstore, els, gfresh, isIn, memN, goptInt, gpart, U.slice, U.toV, toVs, U.eqk, plainEq, ubin, uun, V.bin, V.un, intOp, shiftOp, strOp, ukeyEq, umapFind, umapPut, uminmax, tupDemote, thaw, ownCall, roCall, rwCall, cloneCall, U.snap, snapL, snapLL, scalLL, rfL, rfLL, U.rf, U.clean, U.clean1, cleanL, U.scal, scalL, cut, lay, V.one, gnum, if_true, if_false, reduceIte, reduceCtorEq, Nat.reduceEqDiff, Nat.reduceLT, Nat.reduceAdd, Nat.reduceSub, Nat.reduceLeDiff, Nat.reduceMul, Int.reduceToNat, Int.toNat_natCast, Int.reduceLT, Int.reduceLE, Int.reduceEq, Int.reduceNe, Int.reduceBEq, Int.reduceBNe, Int.reduceAdd, Int.reduceSub, Int.reduceNeg, Nat.zero_add, Nat.add_zero, Nat.le_refl, Nat.zero_le, decide_true, decide_false, List.replicate, List.set_cons_zero, List.set_cons_succ, List.length_cons, List.length_nil, List.all_cons, List.all_nil, List.isEmpty_cons, List.isEmpty_nil, List.map_cons, List.map_nil, List.getElem?_cons_zero, List.getElem?_cons_succ, List.nil_append, List.cons_append, List.drop_zero, List.drop_succ_cons, List.take_succ_cons, List.take_zero, Option.map_some, Option.map_none, Option.getD_some, Option.getD_none, Option.isSome_some, Option.isSome_none, Bool.and_true, Bool.true_and, Bool.and_false, Bool.false_and, Bool.or_false, Bool.false_or, Bool.and_self, Bool.or_self, Bool.false_eq_true, Bool.true_eq_false, and_self, and_true, true_and, and_false, false_and, ne_eq, not_true_eq_false, not_false_eq_true, Nat.zero_lt_succ, Nat.lt_add_one, beq_self_eq_true, beq_ft, beq_tf, Bool.not_true, Bool.not_false, Int.natCast_zero, Int.natCast_one, Int.cast_ofNat_Int, i64_succ (show i < 9223372036854775807 by omega)]; rfl) ?_
    exact Za rfl ⟨m - 1, by omega, i + 1, 0, 0, rfl, rfl, rfl, rfl, rfl, rfl, by omega, rfl⟩
  · have : i = n := by omega
    subst this
    rw [Nat.sub_self, List.replicate_zero, List.append_nil]
    have q1 : (i : Int) ≤ (a.length : Int) := by omega
    have q2 : (i : Int) ≤ (b.length : Int) := by omega
    have q3 : ((i : Int) - 0).toNat = i := by omega
    have q4 : ((i : Int)).toNat = i := by omega
    have hxl : (xorL (a.take i) (b.take i)).length = i := by rw [xorL_length _ _ (by omega)]; exact hlta
    have hxt : (xorL (a.take i) (b.take i)).take i = xorL (a.take i) (b.take i) := by
      have := List.take_length (l := xorL (a.take i) (b.take i))
      rwa [hxl] at this
    have hxb : ∀ x ∈ xorL (a.take i) (b.take i), x < 256 := by
      intro x hx
      obtain ⟨u, hu, v, hv, rfl⟩ := mem_xorL hx
      exact Nat.xor_lt_two_pow (n := 8) (hta u hu) (htb v hv)
    have hzb : ∀ x ∈ List.replicate i 0, x < 256 := fun x h => by rw [(List.mem_replicate.1 h).2]; omega
    have s1 := sum1_G hta (by omega)
    have s2 := sum1_G htb (by omega)
    have s3 := sum1_G hzb (by simp; omega)
    have s4 := sum1_G hxb (by omega)
    have s5 := sum1_G ha hla
    have s6 := next_G (s := crcSum a) (b := c0) (crcSum_lt ha) hc
    have s7 := sum2_G (a := a) (b := [c0]) ha (fun x hx => by rw [List.mem_singleton] at hx; omega) hla (by simp)
    have s8 : GF gtab fid_crc_Sum [.nils] [] 0 = some (.int .u32 0, []) := GF_run 40 (by kernel_rfl)
    rw [crcSum_snoc] at s6
    have x1 := xor_u32 (crcSum_lt hta) (crcSum_lt htb)
    have x2 := xor_u32 (Nat.xor_lt_two_pow (n := 32) (crcSum_lt hta) (crcSum_lt htb)) (crcSum_lt hzb)
    have x3 := crcSum_xor hlta hltb
    have hone : ([[U.int .u8 (c0 : Int)]] : List (List U)) = un .u8 [c0] := rfl
    rw [← hone] at s7
    exact Zd rfl (by simp (maxSteps := 2000000) only [gevReg_cons, gevReg_nil, gguardOk, gwanted, IOp.grun, IOp.gex, Opd.gev, gevs, GEnv.get, GEnv.put, GEnv.keep, U.ofV, U.ofVs, U.share, shares, U.moved, U.handed, demote, U.cells, U.mcells, U.one, gof, gfill, gfillRow, gload, gtake, gstore, els, gfresh, isIn, memN, goptInt, gpart, U.slice, U.toV, toVs, U.eqk, plainEq, ubin, uun, V.bin, V.un, intOp, shiftOp, strOp, ukeyEq, umapFind, umapPut, uminmax, tupDemote, thaw, ownCall, roCall, rwCall, cloneCall, U.snap, snapL, snapLL, scalLL, rfL, rfLL, U.rf, U.clean, U.clean1, cleanL, U.scal, scalL, cut, lay, V.one, gnum, if_true, if_false, reduceIte, reduceCtorEq, Nat.reduceEqDiff, Nat.reduceLT, Nat.reduceAdd, Nat.reduceSub, Nat.reduceLeDiff, Nat.reduceMul, Int.reduceToNat, Int.toNat_natCast, Int.reduceLT, Int.reduceLE, Int.reduceEq, Int.reduceNe, Int.reduceBEq, Int.reduceBNe, Int.reduceAdd, Int.reduceSub, Int.reduceNeg, Nat.zero_add, Nat.add_zero, Nat.le_refl, Nat.zero_le, decide_true, decide_false, List.replicate, List.set_cons_zero, List.set_cons_succ, List.length_cons, List.length_nil, List.all_cons, List.all_nil, List.isEmpty_cons, List.isEmpty_nil, List.map_cons, List.map_nil, List.getElem?_cons_zero, List.getElem?_cons_succ, List.nil_append, List.cons_append, List.drop_zero, List.drop_succ_cons, List.take_succ_cons, List.take_zero, Option.map_some, Option.map_none, Option.getD_some, Option.getD_none, Option.isSome_some, Option.isSome_none, Bool.and_true, Bool.true_and, Bool.and_false, Bool.false_and, Bool.or_false, Bool.false_or, Bool.and_self, Bool.or_self, Bool.false_eq_true, Bool.true_eq_false, and_self, and_true, true_and, and_false, false_and, ne_eq, not_true_eq_false, not_false_eq_true, Nat.zero_lt_succ, Nat.lt_add_one, beq_self_eq_true, beq_ft, beq_tf, Bool.not_true, Bool.not_false, Int.natCast_zero, Int.natCast_one, Int.cast_ofNat_Int, gevRegD_cons, gevRegD_nil, IOp.kind, List.reverse_cons, List.reverse_nil, quiet, storeAt, uobj, readOf, offB, Turn.off, IOp.since, again, IOp.where?, onDst, cOf, id, p0, p1, p2, p3, q1, q2, q3, q4, un_length, un_take, hrep, List.length_replicate, gc_crc_Sum, iq_crc_Sum, snapLL_un, rfLL_un, hxl, hxt, s1, s2, s3, s4, s5, s6, s7, s8, x1, x2, x3, gc_crc_Next, iq_crc_Next, beq_self_eq_true]; rfl) (Zq rfl ⟨_, rfl, rfl⟩)

theorem crcTurns_F {st : St} (low : st.Low) {x y : V} {a b : List Nat} {c0 : Nat} (hx : Slc st 1 x (nums .u8 a)) (ha : ∀ x ∈ a, x < 256) (hla : a.length ≤ 9223372036854775807) (hy : Slc st 1 y (nums .u8 b)) (hb : ∀ x ∈ b, x < 256) (hlb : b.length ≤ 9223372036854775807) (hc : c0 < 256) : ∃ st', F tab fid_archipelagolaw4_CrcTurns [x, y, .int .u8 c0] st = some (.bool true, st') :=
  law_args gtab_sim gtab_clone (crcTurns_G ha hb hla hlb hc) low ⟨.nums hx, .nums hy, .int _ _, trivial⟩

end Go.Ab
