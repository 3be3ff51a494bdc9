/- bits.Reader.Take on the abstract machine. -/
import Derived.Test.YtgndjeknneaeiaaBitsRead
namespace Go.Ab
open Go
set_option linter.unusedVariables false
set_option linter.unusedSimpArgs false

def rbit (bs : List Nat) (i : Nat) : Bool := (bs.getD (i / 8) 0).testBit (i % 8)

/-- The number that k bits from the n-th one on make. -/
def rnum (bs : List Nat) (n : Nat) : Nat → Nat
  | 0 => 0
  | k + 1 => 2 * rnum bs n k + (rbit bs (n + k)).toNat

theorem rnum_lt (bs : List Nat) (n k : Nat) : rnum bs n k < 2 ^ k := by
  induction k with
  | zero => simp [rnum]
  | succ k ih =>
    rw [rnum, Nat.pow_succ]
    have : (rbit bs (n + k)).toNat ≤ 1 := by cases rbit bs (n + k) <;> decide
    omega

/-- Nothing but object o has turned. -/
structure OnlyAt (o : Nat) (st st' : St) : Prop where
  next : st'.next = st.next
  same : ∀ a, a ≠ o → st'.get a = st.get a

theorem OnlyAt.refl {o : Nat} {st : St} : OnlyAt o st st := ⟨rfl, fun _ _ => rfl⟩
theorem OnlyAt.trans {o : Nat} {a b c : St} (h : OnlyAt o a b) (k : OnlyAt o b c) : OnlyAt o a c := ⟨k.next.trans h.next, fun p hp => (k.same p hp).trans (h.same p hp)⟩
theorem OnlyAt.set {o : Nat} {st : St} (x : Obj) : OnlyAt o st (st.set o x) := ⟨rfl, fun a ha => by rw [St.get_set, if_neg ha]⟩
theorem OnlyAt.low {o : Nat} {st st' : St} (h : OnlyAt o st st') (l : st.Low) (ho : o < st.next) : st'.Low := fun a x e => by
  rw [h.next]
  by_cases k : a = o
  · subst k; exact ho
  · rw [h.same a k] at e; exact l a x e
theorem OnlyAt.slc {o : Nat} {st st' : St} (h : OnlyAt o st st') {esz : Nat} {x : V} {es : List (List V)} (hs : Slc st esz x es) (hf : Far x o) : Slc st' esz x es := by
  cases hs with
  | nil => exact .nil
  | row h1 h2 h3 h4 => exact .row (by rw [h.same _ (hf _ _ _ _ _ _ rfl)]; exact h1) h2 h3 h4

/-- A reader, where it stands. -/
structure RdN (st : St) (o g : Nat) (b : V) (bs : List Nat) (n : Nat) : Prop where
  get : st.get o = some (.row [[b, .int .i64 (n : Int)]] g g false)
  lt : o < st.next
  row : Slc st 1 b (bytes bs)
  far : Far b o
  byte : ∀ x ∈ bs, x < 256
  few : bs.length ≤ 1099511627776
  at' : n ≤ 8 * bs.length

theorem RdN.up {st st' : St} {o g : Nat} {b : V} {bs : List Nat} {n : Nat} (h : RdN st o g b bs n) (l : st.Low) (u : Up st.next st st') : RdN st' o g b bs n :=
  ⟨by rw [u.same _ h.lt]; exact h.get, Nat.lt_of_lt_of_le h.lt u.next, h.row.up l u, h.far, h.byte, h.few, h.at'⟩

theorem RdN.other {st st' : St} {o g a : Nat} {b : V} {bs : List Nat} {n : Nat} (h : RdN st o g b bs n) (u : OnlyAt a st st') (hne : o ≠ a) (hf : Far b a) : RdN st' o g b bs n :=
  ⟨by rw [u.same _ hne]; exact h.get, by rw [u.next]; exact h.lt, u.slc h.row hf, h.far, h.byte, h.few, h.at'⟩

theorem RdN.left {st : St} {o g : Nat} {b : V} {bs : List Nat} {n : Nat} (h : RdN st o g b bs n) : F tab fid_bits_Reader_Left [.ptr o g 0 0] st = some (.int .i64 ((8 * bs.length - n : Nat) : Int), st) :=
  left_F (n0 := 0) ⟨o, g, rfl, h.get, Nat.zero_le _, h.lt, h.row, h.far⟩ h.few h.at'

theorem rtk_b0 {st : St} {env : Env} {o g k n : Nat} {b : V} {bs : List Nat} (hr : RdN st o g b bs n) (hk : k ≤ 64) (hkn : n + k ≤ 8 * bs.length)
    (h0 : Env.get env 0 = .ptr o g 0 0) (h6 : Env.get env 6 = .int .u64 0) (h13 : Env.get env 13 = .int .i64 (k : Int)) (h14 : Env.get env 14 = .int .i64 0) {Q : Ex → Env → St → Prop}
    (hQ : ∀ env' st', Env.get env' 6 = .int .u64 (rnum bs n k : Int) → RdN st' o g b bs (n + k) → OnlyAt o st st' → Q (.exit 0) env' st') :
    X tab (.loop [0, 6, 13, 14] bits_Reader_Take_b0) env st Q := by
  refine X_while (fun m env1 st1 => ∃ i, i ≤ k ∧ k - i = m ∧ Env.get env1 0 = .ptr o g 0 0 ∧ Env.get env1 6 = .int .u64 (rnum bs n i : Int) ∧ Env.get env1 13 = .int .i64 (k : Int) ∧ Env.get env1 14 = .int .i64 ((i : Nat) : Int) ∧ RdN st1 o g b bs (n + i) ∧ OnlyAt o st st1) k ⟨0, Nat.zero_le _, rfl, h0, h6, h13, h14, hr, .refl⟩ ?_
  rintro m env1 st1 K hK hE ⟨i, hi, hm, g0, g6, g13, g14, hr1, hu1⟩
  simp only [Env.keep, g0, g6, g13, g14]
  unfold bits_Reader_Take_b0
  refine X_seq ?_
  refine X_reg (by simp only [evReg, guardOk, wantedI, IOp.run, IOp.ex, Opd.ev, evs, Env.get, Env.put, Env.keep, V.bin, V.un, intOp, shiftOp, fillRow, fillCells, cellsOf, V.one, optInt, bytesOfRow, byteOfCells, ofRes, strOp, List.map_cons, List.map_nil, List.getElem?_cons_zero, List.getElem?_cons_succ, Option.map_some, Option.map_none, reduceIte, reduceCtorEq, if_true, if_false, Nat.reduceEqDiff, Nat.reduceLT, Nat.reduceAdd, Nat.reduceLeDiff, Nat.reduceMul, Int.reduceToNat, Int.reduceLT, Int.reduceLE, Int.reduceEq, Int.reduceNe, Int.reduceBEq, Int.reduceBNe, decide_true, decide_false, List.replicate, List.set_cons_zero, List.set_cons_succ, List.length_cons, List.length_nil, List.all_cons, List.all_nil, Bool.and_true, Bool.true_and, Bool.and_self, and_self, and_true, true_and, Nat.zero_lt_succ, Nat.lt_add_one, beq_self_eq_true, beq_ft, beq_tf, Bool.not_true, Bool.not_false]; rfl) (thn_norm (X_seq ?_))
  by_cases hlt : (i : Int) < (k : Int)
  · refine X_true (by simp only [evReg, guardOk, wantedI, IOp.run, IOp.ex, Opd.ev, evs, Env.get, Env.put, Env.keep, V.bin, V.un, intOp, shiftOp, fillRow, fillCells, cellsOf, V.one, optInt, bytesOfRow, byteOfCells, ofRes, strOp, List.map_cons, List.map_nil, List.getElem?_cons_zero, List.getElem?_cons_succ, Option.map_some, Option.map_none, reduceIte, reduceCtorEq, if_true, if_false, Nat.reduceEqDiff, Nat.reduceLT, Nat.reduceAdd, Nat.reduceLeDiff, Nat.reduceMul, Int.reduceToNat, Int.reduceLT, Int.reduceLE, Int.reduceEq, Int.reduceNe, Int.reduceBEq, Int.reduceBNe, decide_true, decide_false, List.replicate, List.set_cons_zero, List.set_cons_succ, List.length_cons, List.length_nil, List.all_cons, List.all_nil, Bool.and_true, Bool.true_and, Bool.and_self, and_self, and_true, true_and, Nat.zero_lt_succ, Nat.lt_add_one, beq_self_eq_true, beq_ft, beq_tf, Bool.not_true, Bool.not_false, hlt]) (X_skip (thn_norm (X_seq (X_block (X_seq ?_)))))
    have hf := hr1.few
    have hin8 : (n + i) / 8 < bs.length := by omega
    have hld0 : st1.load (.ptr o g 0 0) 1 false = some b := rec_load hr1.get rfl
    have hld1 : st1.load (.ptr o g 0 1) 1 false = some (.int .i64 ((n + i : Nat) : Int)) := rec_load hr1.get rfl
    have hquo : IntKind.i64.wrap (((n + i : Nat) : Int).tdiv 8) = (((n + i) / 8 : Nat) : Int) := wrap_i64_nat (n := (n + i) / 8) (by omega)
    have hrem : ((n + i : Nat) : Int).tmod 8 = (((n + i) % 8 : Nat) : Int) := rfl
    have hb8 : bs[(n + i) / 8]? = some (bs.getD ((n + i) / 8) 0) := by rw [List.getD_eq_getElem?_getD, List.getElem?_eq_getElem hin8]; rfl
    have hb256 : bs.getD ((n + i) / 8) 0 < 256 := hr1.byte _ (List.mem_of_getElem? hb8)
    obtain ⟨o', g', j, ha, hld⟩ := hr1.row.at (bytes_get hb8) (env := [(21, b), (26, .int .i64 (((n + i) / 8 : Nat) : Int))]) (a := .t 21) (b := .t 26) rfl rfl
    have hldb := hld 0 1 false (by simp)
    simp only [ofCells, cut, List.drop_zero, List.take_succ_cons, List.take_zero] at hldb
    simp only [evReg, guardOk, wantedI, IOp.run, IOp.ex, Opd.ev, evs, Env.get, Env.put, Env.keep, V.bin, V.un, intOp, shiftOp, fillRow, fillCells, cellsOf, V.one, optInt, bytesOfRow, byteOfCells, ofRes, strOp, List.map_cons, List.map_nil, List.getElem?_cons_zero, List.getElem?_cons_succ, Option.map_some, Option.map_none, reduceIte, reduceCtorEq, if_true, if_false, Nat.reduceEqDiff, Nat.reduceLT, Nat.reduceAdd, Nat.reduceLeDiff, Nat.reduceMul, Int.reduceToNat, Int.reduceLT, Int.reduceLE, Int.reduceEq, Int.reduceNe, Int.reduceBEq, Int.reduceBNe, decide_true, decide_false, List.replicate, List.set_cons_zero, List.set_cons_succ, List.length_cons, List.length_nil, List.all_cons, List.all_nil, Bool.and_true, Bool.true_and, Bool.and_self, and_self, and_true, true_and, Nat.zero_lt_succ, Nat.lt_add_one, beq_self_eq_true, beq_ft, beq_tf, Bool.not_true, Bool.not_false] at ha
    have hv := rnum_lt bs n i
    have hv2 : 2 ^ i ≤ 2 ^ 63 := Nat.pow_le_pow_right (by omega) (by omega)
    have hshl : IntKind.u64.wrap (((rnum bs n i : Nat) : Int) * 2 ^ min 1 IntKind.u64.bits) = ((2 * rnum bs n i : Nat) : Int) := by
      have := shl_u64 (a := rnum bs n i) (s := 1)
      rw [Nat.mod_eq_of_lt (by omega)] at this
      have e : ((1 : Nat) : Int).toNat = 1 := rfl
      rw [e] at this
      rw [this, Nat.pow_one, Nat.mul_comm]
    have hnn : ¬ (((n + i) % 8 : Nat) : Int) < 0 := by omega
    have hshr := shr_nat (k := .u8) (a := bs.getD ((n + i) / 8) 0) (s := (n + i) % 8) hb256
    have hand : bitsOf .and .u8 ((bs.getD ((n + i) / 8) 0 / 2 ^ ((n + i) % 8) : Nat) : Int) 1 = some (((rbit bs (n + i)).toNat : Nat) : Int) := by
      have h1 : bs.getD ((n + i) / 8) 0 / 2 ^ ((n + i) % 8) < 256 := Nat.lt_of_le_of_lt (Nat.div_le_self _ _) hb256
      have h2 := and_u8 (a := bs.getD ((n + i) / 8) 0 / 2 ^ ((n + i) % 8)) (b := 1) h1 (by omega)
      rw [Nat.and_one_is_mod] at h2
      have h3 : bs.getD ((n + i) / 8) 0 / 2 ^ ((n + i) % 8) % 2 = (rbit bs (n + i)).toNat := by unfold rbit; rw [Nat.toNat_testBit]
      rw [h3] at h2; exact h2
    have hx1 : (rbit bs (n + i)).toNat ≤ 1 := by cases rbit bs (n + i) <;> decide
    have hcv : IntKind.u64.wrap (((rbit bs (n + i)).toNat : Nat) : Int) = (((rbit bs (n + i)).toNat : Nat) : Int) := by rw [wrap_u64_nat, Nat.mod_eq_of_lt (by omega)]
    have hor : bitsOf .or .u64 ((2 * rnum bs n i : Nat) : Int) (((rbit bs (n + i)).toNat : Nat) : Int) = some ((rnum bs n (i + 1) : Nat) : Int) := by
      rw [or_u64 (by omega) (by omega), rnum]
      have := Nat.two_pow_add_eq_or_of_lt (i := 1) (b := (rbit bs (n + i)).toNat) (by omega) (rnum bs n i)
      rw [Nat.pow_one] at this
      rw [this]
    refine X_regD (by simp only [evReg, guardOk, wantedI, IOp.run, IOp.ex, Opd.ev, evs, Env.get, Env.put, Env.keep, V.bin, V.un, intOp, shiftOp, fillRow, fillCells, cellsOf, V.one, optInt, bytesOfRow, byteOfCells, ofRes, strOp, List.map_cons, List.map_nil, List.getElem?_cons_zero, List.getElem?_cons_succ, Option.map_some, Option.map_none, reduceIte, reduceCtorEq, if_true, if_false, Nat.reduceEqDiff, Nat.reduceLT, Nat.reduceAdd, Nat.reduceLeDiff, Nat.reduceMul, Int.reduceToNat, Int.reduceLT, Int.reduceLE, Int.reduceEq, Int.reduceNe, Int.reduceBEq, Int.reduceBNe, decide_true, decide_false, List.replicate, List.set_cons_zero, List.set_cons_succ, List.length_cons, List.length_nil, List.all_cons, List.all_nil, Bool.and_true, Bool.true_and, Bool.and_self, and_self, and_true, true_and, Nat.zero_lt_succ, Nat.lt_add_one, beq_self_eq_true, beq_ft, beq_tf, Bool.not_true, Bool.not_false, evRegD, IOp.kind, Chk.ok, Chk.at, Go.Ab.cut, List.drop_zero, List.drop_succ_cons, List.take_succ_cons, List.take_zero, List.reverse_cons, List.reverse_nil, List.nil_append, List.cons_append, V.beq, hld0, hld1, hquo, ha, hldb, hshl, hrem, hnn, hshr, hand, hcv, hor]; rfl) (thn_norm ?_)
    have hadd : IntKind.i64.wrap (((n + i : Nat) : Int) + 1) = ((n + i + 1 : Nat) : Int) := wrap_i64_nat (n := n + i + 1) (by omega)
    have hst := rec_store hr1.get (k := 1) (v := .int .i64 ((n + i + 1 : Nat) : Int)) (by simp) one_int
    refine X_reg (by simp only [evReg, guardOk, wantedI, IOp.run, IOp.ex, Opd.ev, evs, Env.get, Env.put, Env.keep, V.bin, V.un, intOp, shiftOp, fillRow, fillCells, cellsOf, V.one, optInt, bytesOfRow, byteOfCells, ofRes, strOp, List.map_cons, List.map_nil, List.getElem?_cons_zero, List.getElem?_cons_succ, Option.map_some, Option.map_none, reduceIte, reduceCtorEq, if_true, if_false, Nat.reduceEqDiff, Nat.reduceLT, Nat.reduceAdd, Nat.reduceLeDiff, Nat.reduceMul, Int.reduceToNat, Int.reduceLT, Int.reduceLE, Int.reduceEq, Int.reduceNe, Int.reduceBEq, Int.reduceBNe, decide_true, decide_false, List.replicate, List.set_cons_zero, List.set_cons_succ, List.length_cons, List.length_nil, List.all_cons, List.all_nil, Bool.and_true, Bool.true_and, Bool.and_self, and_self, and_true, true_and, Nat.zero_lt_succ, Nat.lt_add_one, beq_self_eq_true, beq_ft, beq_tf, Bool.not_true, Bool.not_false, hld1, hadd, hst]; rfl) (inb_norm (thn_norm ?_))
    have hadd1 : IntKind.i64.wrap ((i : Int) + 1) = ((i + 1 : Nat) : Int) := wrap_i64_nat (n := i + 1) (by omega)
    refine X_reg (by simp only [evReg, guardOk, wantedI, IOp.run, IOp.ex, Opd.ev, evs, Env.get, Env.put, Env.keep, V.bin, V.un, intOp, shiftOp, fillRow, fillCells, cellsOf, V.one, optInt, bytesOfRow, byteOfCells, ofRes, strOp, List.map_cons, List.map_nil, List.getElem?_cons_zero, List.getElem?_cons_succ, Option.map_some, Option.map_none, reduceIte, reduceCtorEq, if_true, if_false, Nat.reduceEqDiff, Nat.reduceLT, Nat.reduceAdd, Nat.reduceLeDiff, Nat.reduceMul, Int.reduceToNat, Int.reduceLT, Int.reduceLE, Int.reduceEq, Int.reduceNe, Int.reduceBEq, Int.reduceBNe, decide_true, decide_false, List.replicate, List.set_cons_zero, List.set_cons_succ, List.length_cons, List.length_nil, List.all_cons, List.all_nil, Bool.and_true, Bool.true_and, Bool.and_self, and_self, and_true, true_and, Nat.zero_lt_succ, Nat.lt_add_one, beq_self_eq_true, beq_ft, beq_tf, Bool.not_true, Bool.not_false, hadd1]; rfl) ?_
    refine hK (k - (i + 1)) _ _ (by omega) ⟨i + 1, by omega, rfl, rfl, rfl, rfl, rfl, ?_, hu1.trans (OnlyAt.set _)⟩
    exact ⟨by rw [St.get_set, if_pos rfl]; rfl, hr1.lt, (OnlyAt.set _).slc hr1.row hr1.far, hr1.far, hr1.byte, hr1.few, by omega⟩
  · have e : i = k := by omega
    subst e
    refine X_false (by simp only [evReg, guardOk, wantedI, IOp.run, IOp.ex, Opd.ev, evs, Env.get, Env.put, Env.keep, V.bin, V.un, intOp, shiftOp, fillRow, fillCells, cellsOf, V.one, optInt, bytesOfRow, byteOfCells, ofRes, strOp, List.map_cons, List.map_nil, List.getElem?_cons_zero, List.getElem?_cons_succ, Option.map_some, Option.map_none, reduceIte, reduceCtorEq, if_true, if_false, Nat.reduceEqDiff, Nat.reduceLT, Nat.reduceAdd, Nat.reduceLeDiff, Nat.reduceMul, Int.reduceToNat, Int.reduceLT, Int.reduceLE, Int.reduceEq, Int.reduceNe, Int.reduceBEq, Int.reduceBNe, decide_true, decide_false, List.replicate, List.set_cons_zero, List.set_cons_succ, List.length_cons, List.length_nil, List.all_cons, List.all_nil, Bool.and_true, Bool.true_and, Bool.and_self, and_self, and_true, true_and, Nat.zero_lt_succ, Nat.lt_add_one, beq_self_eq_true, beq_ft, beq_tf, Bool.not_true, Bool.not_false, hlt]) (X_exit (thn_exit (hE _ _ _ (by simp) (hQ _ _ rfl hr1 hu1))))

/-- Bits are taken, or there are too few. -/
theorem RdN.take {st : St} {o g n : Nat} {b : V} {bs : List Nat} {k : Int} (hr : RdN st o g b bs n) :
    ∃ st', F tab fid_bits_Reader_Take [.ptr o g 0 0, .int .i64 k] st = some (if clamp k ≤ 8 * bs.length - n then .tup [.int .u64 (rnum bs n (clamp k) : Int), .bool true] else .tup [.int .u64 0, .bool false], st') ∧
      RdN st' o g b bs (if clamp k ≤ 8 * bs.length - n then n + clamp k else n) ∧ OnlyAt o st st' := by
  have hbd := bound_F (st := st) (n := k)
  have hlf := hr.left
  have hcl := clamp_le k
  have key : ∃ v st', F tab fid_bits_Reader_Take [.ptr o g 0 0, .int .i64 k] st = some (v, st') ∧ v = (if clamp k ≤ 8 * bs.length - n then .tup [.int .u64 (rnum bs n (clamp k) : Int), .bool true] else .tup [.int .u64 0, .bool false]) ∧ RdN st' o g b bs (if clamp k ≤ 8 * bs.length - n then n + clamp k else n) ∧ OnlyAt o st st' := by
    refine F_fnR tab_bits_Reader_Take rfl ?_
    unfold ir_bits_Reader_Take
    simp only [envOf]
    refine X_seq (X_reg (by simp only [evReg, guardOk, wantedI, IOp.run, IOp.ex, Opd.ev, evs, Env.get, Env.put, Env.keep, V.bin, V.un, intOp, shiftOp, fillRow, fillCells, cellsOf, V.one, optInt, bytesOfRow, byteOfCells, ofRes, strOp, List.map_cons, List.map_nil, List.getElem?_cons_zero, List.getElem?_cons_succ, Option.map_some, Option.map_none, reduceIte, reduceCtorEq, if_true, if_false, Nat.reduceEqDiff, Nat.reduceLT, Nat.reduceAdd, Nat.reduceLeDiff, Nat.reduceMul, Int.reduceToNat, Int.reduceLT, Int.reduceLE, Int.reduceEq, Int.reduceNe, Int.reduceBEq, Int.reduceBNe, decide_true, decide_false, List.replicate, List.set_cons_zero, List.set_cons_succ, List.length_cons, List.length_nil, List.all_cons, List.all_nil, Bool.and_true, Bool.true_and, Bool.and_self, and_self, and_true, true_and, Nat.zero_lt_succ, Nat.lt_add_one, beq_self_eq_true, beq_ft, beq_tf, Bool.not_true, Bool.not_false]; rfl) (thn_norm (X_seq ?_)))
    refine X_reg (by simp only [evReg, guardOk, wantedI, IOp.run, IOp.ex, Opd.ev, evs, Env.get, Env.put, Env.keep, V.bin, V.un, intOp, shiftOp, fillRow, fillCells, cellsOf, V.one, optInt, bytesOfRow, byteOfCells, ofRes, strOp, List.map_cons, List.map_nil, List.getElem?_cons_zero, List.getElem?_cons_succ, Option.map_some, Option.map_none, reduceIte, reduceCtorEq, if_true, if_false, Nat.reduceEqDiff, Nat.reduceLT, Nat.reduceAdd, Nat.reduceLeDiff, Nat.reduceMul, Int.reduceToNat, Int.reduceLT, Int.reduceLE, Int.reduceEq, Int.reduceNe, Int.reduceBEq, Int.reduceBNe, decide_true, decide_false, List.replicate, List.set_cons_zero, List.set_cons_succ, List.length_cons, List.length_nil, List.all_cons, List.all_nil, Bool.and_true, Bool.true_and, Bool.and_self, and_self, and_true, true_and, Nat.zero_lt_succ, Nat.lt_add_one, beq_self_eq_true, beq_ft, beq_tf, Bool.not_true, Bool.not_false, hbd]; rfl) (thn_norm (X_seq (X_seq ?_)))
    refine X_reg (by simp only [evReg, guardOk, wantedI, IOp.run, IOp.ex, Opd.ev, evs, Env.get, Env.put, Env.keep, V.bin, V.un, intOp, shiftOp, fillRow, fillCells, cellsOf, V.one, optInt, bytesOfRow, byteOfCells, ofRes, strOp, List.map_cons, List.map_nil, List.getElem?_cons_zero, List.getElem?_cons_succ, Option.map_some, Option.map_none, reduceIte, reduceCtorEq, if_true, if_false, Nat.reduceEqDiff, Nat.reduceLT, Nat.reduceAdd, Nat.reduceLeDiff, Nat.reduceMul, Int.reduceToNat, Int.reduceLT, Int.reduceLE, Int.reduceEq, Int.reduceNe, Int.reduceBEq, Int.reduceBNe, decide_true, decide_false, List.replicate, List.set_cons_zero, List.set_cons_succ, List.length_cons, List.length_nil, List.all_cons, List.all_nil, Bool.and_true, Bool.true_and, Bool.and_self, and_self, and_true, true_and, Nat.zero_lt_succ, Nat.lt_add_one, beq_self_eq_true, beq_ft, beq_tf, Bool.not_true, Bool.not_false, hlf]; rfl) (thn_norm ?_)
    by_cases hbig : (clamp k : Int) > ((8 * bs.length - n : Nat) : Int)
    · refine X_true (by simp only [evReg, guardOk, wantedI, IOp.run, IOp.ex, Opd.ev, evs, Env.get, Env.put, Env.keep, V.bin, V.un, intOp, shiftOp, fillRow, fillCells, cellsOf, V.one, optInt, bytesOfRow, byteOfCells, ofRes, strOp, List.map_cons, List.map_nil, List.getElem?_cons_zero, List.getElem?_cons_succ, Option.map_some, Option.map_none, reduceIte, reduceCtorEq, if_true, if_false, Nat.reduceEqDiff, Nat.reduceLT, Nat.reduceAdd, Nat.reduceLeDiff, Nat.reduceMul, Int.reduceToNat, Int.reduceLT, Int.reduceLE, Int.reduceEq, Int.reduceNe, Int.reduceBEq, Int.reduceBNe, decide_true, decide_false, List.replicate, List.set_cons_zero, List.set_cons_succ, List.length_cons, List.length_nil, List.all_cons, List.all_nil, Bool.and_true, Bool.true_and, Bool.and_self, and_self, and_true, true_and, Nat.zero_lt_succ, Nat.lt_add_one, beq_self_eq_true, beq_ft, beq_tf, Bool.not_true, Bool.not_false, hbig]) (X_seq (X_reg (by simp only [evReg, guardOk, wantedI, IOp.run, IOp.ex, Opd.ev, evs, Env.get, Env.put, Env.keep, V.bin, V.un, intOp, shiftOp, fillRow, fillCells, cellsOf, V.one, optInt, bytesOfRow, byteOfCells, ofRes, strOp, List.map_cons, List.map_nil, List.getElem?_cons_zero, List.getElem?_cons_succ, Option.map_some, Option.map_none, reduceIte, reduceCtorEq, if_true, if_false, Nat.reduceEqDiff, Nat.reduceLT, Nat.reduceAdd, Nat.reduceLeDiff, Nat.reduceMul, Int.reduceToNat, Int.reduceLT, Int.reduceLE, Int.reduceEq, Int.reduceNe, Int.reduceBEq, Int.reduceBNe, decide_true, decide_false, List.replicate, List.set_cons_zero, List.set_cons_succ, List.length_cons, List.length_nil, List.all_cons, List.all_nil, Bool.and_true, Bool.true_and, Bool.and_self, and_self, and_true, true_and, Nat.zero_lt_succ, Nat.lt_add_one, beq_self_eq_true, beq_ft, beq_tf, Bool.not_true, Bool.not_false]; rfl) (thn_norm (X_ret ?_))))
      rw [if_neg (by omega), if_neg (by omega)]
      exact ⟨.inr rfl, _, rfl, rfl, hr, .refl⟩
    · refine X_false (by simp only [evReg, guardOk, wantedI, IOp.run, IOp.ex, Opd.ev, evs, Env.get, Env.put, Env.keep, V.bin, V.un, intOp, shiftOp, fillRow, fillCells, cellsOf, V.one, optInt, bytesOfRow, byteOfCells, ofRes, strOp, List.map_cons, List.map_nil, List.getElem?_cons_zero, List.getElem?_cons_succ, Option.map_some, Option.map_none, reduceIte, reduceCtorEq, if_true, if_false, Nat.reduceEqDiff, Nat.reduceLT, Nat.reduceAdd, Nat.reduceLeDiff, Nat.reduceMul, Int.reduceToNat, Int.reduceLT, Int.reduceLE, Int.reduceEq, Int.reduceNe, Int.reduceBEq, Int.reduceBNe, decide_true, decide_false, List.replicate, List.set_cons_zero, List.set_cons_succ, List.length_cons, List.length_nil, List.all_cons, List.all_nil, Bool.and_true, Bool.true_and, Bool.and_self, and_self, and_true, true_and, Nat.zero_lt_succ, Nat.lt_add_one, beq_self_eq_true, beq_ft, beq_tf, Bool.not_true, Bool.not_false, hbig]) (X_skip (thn_norm (X_seq ?_)))
      refine X_reg (by simp only [evReg, guardOk, wantedI, IOp.run, IOp.ex, Opd.ev, evs, Env.get, Env.put, Env.keep, V.bin, V.un, intOp, shiftOp, fillRow, fillCells, cellsOf, V.one, optInt, bytesOfRow, byteOfCells, ofRes, strOp, List.map_cons, List.map_nil, List.getElem?_cons_zero, List.getElem?_cons_succ, Option.map_some, Option.map_none, reduceIte, reduceCtorEq, if_true, if_false, Nat.reduceEqDiff, Nat.reduceLT, Nat.reduceAdd, Nat.reduceLeDiff, Nat.reduceMul, Int.reduceToNat, Int.reduceLT, Int.reduceLE, Int.reduceEq, Int.reduceNe, Int.reduceBEq, Int.reduceBNe, decide_true, decide_false, List.replicate, List.set_cons_zero, List.set_cons_succ, List.length_cons, List.length_nil, List.all_cons, List.all_nil, Bool.and_true, Bool.true_and, Bool.and_self, and_self, and_true, true_and, Nat.zero_lt_succ, Nat.lt_add_one, beq_self_eq_true, beq_ft, beq_tf, Bool.not_true, Bool.not_false]; rfl) (thn_norm (X_seq (X_seq ?_)))
      refine X_reg (by simp only [evReg, guardOk, wantedI, IOp.run, IOp.ex, Opd.ev, evs, Env.get, Env.put, Env.keep, V.bin, V.un, intOp, shiftOp, fillRow, fillCells, cellsOf, V.one, optInt, bytesOfRow, byteOfCells, ofRes, strOp, List.map_cons, List.map_nil, List.getElem?_cons_zero, List.getElem?_cons_succ, Option.map_some, Option.map_none, reduceIte, reduceCtorEq, if_true, if_false, Nat.reduceEqDiff, Nat.reduceLT, Nat.reduceAdd, Nat.reduceLeDiff, Nat.reduceMul, Int.reduceToNat, Int.reduceLT, Int.reduceLE, Int.reduceEq, Int.reduceNe, Int.reduceBEq, Int.reduceBNe, decide_true, decide_false, List.replicate, List.set_cons_zero, List.set_cons_succ, List.length_cons, List.length_nil, List.all_cons, List.all_nil, Bool.and_true, Bool.true_and, Bool.and_self, and_self, and_true, true_and, Nat.zero_lt_succ, Nat.lt_add_one, beq_self_eq_true, beq_ft, beq_tf, Bool.not_true, Bool.not_false]; rfl) (thn_norm (X_block ?_))
      have hat := hr.at'
      refine rtk_b0 (k := clamp k) hr hcl (by omega) rfl rfl rfl rfl ?_
      intro env' st' k6 hr' hu
      refine inb_hit (thn_norm (X_seq ?_))
      refine X_reg (by simp only [evReg, guardOk, wantedI, IOp.run, IOp.ex, Opd.ev, evs, Env.get, Env.put, Env.keep, V.bin, V.un, intOp, shiftOp, fillRow, fillCells, cellsOf, V.one, optInt, bytesOfRow, byteOfCells, ofRes, strOp, List.map_cons, List.map_nil, List.getElem?_cons_zero, List.getElem?_cons_succ, Option.map_some, Option.map_none, reduceIte, reduceCtorEq, if_true, if_false, Nat.reduceEqDiff, Nat.reduceLT, Nat.reduceAdd, Nat.reduceLeDiff, Nat.reduceMul, Int.reduceToNat, Int.reduceLT, Int.reduceLE, Int.reduceEq, Int.reduceNe, Int.reduceBEq, Int.reduceBNe, decide_true, decide_false, List.replicate, List.set_cons_zero, List.set_cons_succ, List.length_cons, List.length_nil, List.all_cons, List.all_nil, Bool.and_true, Bool.true_and, Bool.and_self, and_self, and_true, true_and, Nat.zero_lt_succ, Nat.lt_add_one, beq_self_eq_true, beq_ft, beq_tf, Bool.not_true, Bool.not_false, k6]; rfl) (thn_norm (X_ret ?_))
      rw [if_pos (by omega), if_pos (by omega)]
      exact ⟨.inr rfl, _, rfl, rfl, hr', hu⟩
  obtain ⟨v, st', h1, h2, h3, h4⟩ := key
  exact ⟨st', by rw [h1, h2], h3, h4⟩

end Go.Ab
