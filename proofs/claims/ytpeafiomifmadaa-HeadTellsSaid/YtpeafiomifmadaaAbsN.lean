/- What 'simp' may use in walks; numbers. -/
import Derived.Test.YtpeafiomifmadaaAbsM
import Derived.IntWalk
namespace Go.Ab
open Go
set_option linter.unusedVariables false
set_option linter.unusedSimpArgs false
attribute [simp] evReg guardOk wantedI IOp.run IOp.ex Opd.ev evs Env.get Env.put Env.keep V.bin V.un intOp shiftOp fillRow fillCells cellsOf V.one ofRes evRes envOf ofCells
theorem beq_ft : (false == true) = false := rfl
theorem beq_tf : (true == false) = false := rfl
theorem two64 : (2 : Nat) ^ 64 = 18446744073709551616 := rfl
theorem wrap_u8_nat (n : Nat) : IntKind.u8.wrap (n : Int) = ((n % 256 : Nat) : Int) := by rw [IntKind.wrap_u8]; omega
theorem wrap_u64_nat (n : Nat) : IntKind.u64.wrap (n : Int) = ((n % 18446744073709551616 : Nat) : Int) := by
 simp [IntKind.wrap, IntKind.bits, IntKind.signed]
theorem wrap_u32_nat (n : Nat) : IntKind.u32.wrap (n : Int) = ((n % 4294967296 : Nat) : Int) := by rw [IntKind.wrap_u32]; omega
theorem wrap_i64_nat {n : Nat} (h : n ≤ 9223372036854775807) : IntKind.i64.wrap (n : Int) = (n : Int) := by rw [IntKind.wrap_i64]; omega
theorem ofInt_nat (k n : Nat) : BitVec.ofInt k (n : Int) = BitVec.ofNat k n := by
 apply BitVec.eq_of_toNat_eq
 simp [BitVec.toNat_ofInt]
theorem bv_or {m a b : Nat} (ha : a < 2 ^ m) (hb : b < 2 ^ m) : (BitVec.ofInt m (a : Int) ||| BitVec.ofInt m (b : Int)).toNat = a ||| b := by
 rw [ofInt_nat, ofInt_nat, BitVec.toNat_or, BitVec.toNat_ofNat, BitVec.toNat_ofNat, Nat.mod_eq_of_lt ha, Nat.mod_eq_of_lt hb]
theorem bv_and {m a b : Nat} (ha : a < 2 ^ m) (hb : b < 2 ^ m) : (BitVec.ofInt m (a : Int) &&& BitVec.ofInt m (b : Int)).toNat = a &&& b := by
 rw [ofInt_nat, ofInt_nat, BitVec.toNat_and, BitVec.toNat_ofNat, BitVec.toNat_ofNat, Nat.mod_eq_of_lt ha, Nat.mod_eq_of_lt hb]
theorem bv_xor {m a b : Nat} (ha : a < 2 ^ m) (hb : b < 2 ^ m) : (BitVec.ofInt m (a : Int) ^^^ BitVec.ofInt m (b : Int)).toNat = a ^^^ b := by
 rw [ofInt_nat, ofInt_nat, BitVec.toNat_xor, BitVec.toNat_ofNat, BitVec.toNat_ofNat, Nat.mod_eq_of_lt ha, Nat.mod_eq_of_lt hb]
theorem or_u64 {a b : Nat} (ha : a < 18446744073709551616) (hb : b < 18446744073709551616) : bitsOf .or .u64 (a : Int) (b : Int) = some ((a ||| b : Nat) : Int) := by
 have h : a ||| b < 18446744073709551616 := Nat.or_lt_two_pow (n := 64) ha hb
 show some (IntKind.u64.wrap (BitVec.ofInt 64 (a : Int) ||| BitVec.ofInt 64 (b : Int)).toNat) = _
 rw [bv_or (m := 64) ha hb, wrap_u64_nat, Nat.mod_eq_of_lt h]
theorem and_u64 {a b : Nat} (ha : a < 18446744073709551616) (hb : b < 18446744073709551616) : bitsOf .and .u64 (a : Int) (b : Int) = some ((a &&& b : Nat) : Int) := by
 have h : a &&& b < 18446744073709551616 := Nat.lt_of_le_of_lt Nat.and_le_left ha
 show some (IntKind.u64.wrap (BitVec.ofInt 64 (a : Int) &&& BitVec.ofInt 64 (b : Int)).toNat) = _
 rw [bv_and (m := 64) ha hb, wrap_u64_nat, Nat.mod_eq_of_lt h]
theorem xor_u64 {a b : Nat} (ha : a < 18446744073709551616) (hb : b < 18446744073709551616) : bitsOf .xor .u64 (a : Int) (b : Int) = some ((a ^^^ b : Nat) : Int) := by
 have h : a ^^^ b < 18446744073709551616 := Nat.xor_lt_two_pow (n := 64) ha hb
 show some (IntKind.u64.wrap (BitVec.ofInt 64 (a : Int) ^^^ BitVec.ofInt 64 (b : Int)).toNat) = _
 rw [bv_xor (m := 64) ha hb, wrap_u64_nat, Nat.mod_eq_of_lt h]
theorem or_u32 {a b : Nat} (ha : a < 4294967296) (hb : b < 4294967296) : bitsOf .or .u32 (a : Int) (b : Int) = some ((a ||| b : Nat) : Int) := by
 have h : a ||| b < 4294967296 := Nat.or_lt_two_pow (n := 32) ha hb
 show some (IntKind.u32.wrap (BitVec.ofInt 32 (a : Int) ||| BitVec.ofInt 32 (b : Int)).toNat) = _
 rw [bv_or (m := 32) ha hb, wrap_u32_nat, Nat.mod_eq_of_lt h]
theorem and_u32 {a b : Nat} (ha : a < 4294967296) (hb : b < 4294967296) : bitsOf .and .u32 (a : Int) (b : Int) = some ((a &&& b : Nat) : Int) := by
 have h : a &&& b < 4294967296 := Nat.lt_of_le_of_lt Nat.and_le_left ha
 show some (IntKind.u32.wrap (BitVec.ofInt 32 (a : Int) &&& BitVec.ofInt 32 (b : Int)).toNat) = _
 rw [bv_and (m := 32) ha hb, wrap_u32_nat, Nat.mod_eq_of_lt h]
theorem xor_u32 {a b : Nat} (ha : a < 4294967296) (hb : b < 4294967296) : bitsOf .xor .u32 (a : Int) (b : Int) = some ((a ^^^ b : Nat) : Int) := by
 have h : a ^^^ b < 4294967296 := Nat.xor_lt_two_pow (n := 32) ha hb
 show some (IntKind.u32.wrap (BitVec.ofInt 32 (a : Int) ^^^ BitVec.ofInt 32 (b : Int)).toNat) = _
 rw [bv_xor (m := 32) ha hb, wrap_u32_nat, Nat.mod_eq_of_lt h]
theorem or_u8 {a b : Nat} (ha : a < 256) (hb : b < 256) : bitsOf .or .u8 (a : Int) (b : Int) = some ((a ||| b : Nat) : Int) := by
 have h : a ||| b < 256 := Nat.or_lt_two_pow (n := 8) ha hb
 show some (IntKind.u8.wrap (BitVec.ofInt 8 (a : Int) ||| BitVec.ofInt 8 (b : Int)).toNat) = _
 rw [bv_or (m := 8) ha hb, wrap_u8_nat, Nat.mod_eq_of_lt h]
theorem and_u8 {a b : Nat} (ha : a < 256) (hb : b < 256) : bitsOf .and .u8 (a : Int) (b : Int) = some ((a &&& b : Nat) : Int) := by
 have h : a &&& b < 256 := Nat.lt_of_le_of_lt Nat.and_le_left ha
 show some (IntKind.u8.wrap (BitVec.ofInt 8 (a : Int) &&& BitVec.ofInt 8 (b : Int)).toNat) = _
 rw [bv_and (m := 8) ha hb, wrap_u8_nat, Nat.mod_eq_of_lt h]
theorem xor_u8 {a b : Nat} (ha : a < 256) (hb : b < 256) : bitsOf .xor .u8 (a : Int) (b : Int) = some ((a ^^^ b : Nat) : Int) := by
 have h : a ^^^ b < 256 := Nat.xor_lt_two_pow (n := 8) ha hb
 show some (IntKind.u8.wrap (BitVec.ofInt 8 (a : Int) ^^^ BitVec.ofInt 8 (b : Int)).toNat) = _
 rw [bv_xor (m := 8) ha hb, wrap_u8_nat, Nat.mod_eq_of_lt h]
theorem shr_nat {k : IntKind} {a s : Nat} (ha : a < 2 ^ k.bits) : (a : Int).fdiv (2 ^ min ((s : Int)).toNat k.bits) = ((a / 2 ^ s : Nat) : Int) := by
 have e : ((s : Int)).toNat = s := by omega
 rw [e]
 by_cases h : s ≤ k.bits
 ·rw [Nat.min_eq_left h, Int.fdiv_eq_ediv_of_nonneg _ (Int.le_of_lt (Int.pow_pos (by omega)))]
  simp
 ·have h1 : k.bits ≤ s := by omega
  rw [Nat.min_eq_right h1, Int.fdiv_eq_ediv_of_nonneg _ (Int.le_of_lt (Int.pow_pos (by omega)))]
  have e1 : a / 2 ^ k.bits = 0 := Nat.div_eq_of_lt ha
  have e2 : a / 2 ^ s = 0 := Nat.div_eq_of_lt (Nat.lt_of_lt_of_le ha (Nat.pow_le_pow_right (by omega) h1))
  rw [e2]
  have : ((a / 2 ^ k.bits : Nat) : Int) = 0 := by rw [e1]; rfl
  simpa using this
theorem shl_u64 {a s : Nat} : IntKind.u64.wrap ((a : Int) * 2 ^ min ((s : Int)).toNat IntKind.u64.bits) = ((a * 2 ^ s % 18446744073709551616 : Nat) : Int) := by
 have e : ((s : Int)).toNat = s := by omega
 rw [e]
 have hc : ((a : Int) * 2 ^ min s IntKind.u64.bits) = ((a * 2 ^ min s IntKind.u64.bits : Nat) : Int) := by simp
 rw [hc, wrap_u64_nat]
 by_cases h : s ≤ 64
 ·rw [show IntKind.u64.bits = 64 from rfl, Nat.min_eq_left h]
 ·have h1 : 64 ≤ s := by omega
  rw [show IntKind.u64.bits = 64 from rfl, Nat.min_eq_right h1]
  have e1 : a * 2 ^ 64 % 18446744073709551616 = 0 := Nat.mul_mod_left a _
  have e2 : a * 2 ^ s % 18446744073709551616 = 0 := by
   rw [show s = (s - 64) + 64 by omega, Nat.pow_add, ← Nat.mul_assoc]
   exact Nat.mul_mod_left _ _
  rw [e1, e2]
def bytes (l : List Nat) : List (List V) := l.map fun (n : Nat) => [.int .u8 (n : Int)]
def nums (k : IntKind) (l : List Nat) : List (List V) := l.map fun (n : Nat) => [.int k (n : Int)]
theorem bytes_append (a b : List Nat) : bytes (a ++ b) = bytes a ++ bytes b := by simp [bytes]
theorem bytes_length (a : List Nat) : (bytes a).length = a.length := by simp [bytes]
theorem bytes_get {a : List Nat} {i n : Nat} (h : a[i]? = some n) : (bytes a)[i]? = some [.int .u8 (n : Int)] := by simp [bytes, h]
theorem nums_length (k : IntKind) (a : List Nat) : (nums k a).length = a.length := by simp [nums]
theorem nums_get {k : IntKind} {a : List Nat} {i n : Nat} (h : a[i]? = some n) : (nums k a)[i]? = some [.int k (n : Int)] := by simp [nums, h]
theorem cut_bytes (a : List Nat) (i n : Nat) : cut (bytes a) i n = bytes (cut a i n) := by simp [cut, bytes, List.map_drop, List.map_take]
theorem bytesOfRow_bytes (l : List Nat) : bytesOfRow (bytes l) = some (l.map fun (n : Nat) => (n : Int)) := by
 induction l with
 | nil => rfl
 | cons n l ih =>
  have : bytes (n :: l) = [.int .u8 (n : Int)] :: bytes l := rfl
  rw [this, bytesOfRow, ih]; rfl
theorem Slc.text' {st : St} {x : V} {es : List (List V)} {t : List Int} (h : Slc st 1 x es) (ht : bytesOfRow es = some t) {env : Env} {o : Opd} (he : o.ev env = x) : (IOp.toStr o).ex env st = some (.str t, st) := by
 have h1 := h.elems
 cases h with
 | nil => simp only [IOp.ex, he, h1, ht, Option.map_some]
 | row h hl hb hes => simp only [IOp.ex, he, h1, ht, Option.map_some]
theorem Slc.text {st : St} {x : V} {l : List Nat} (h : Slc st 1 x (bytes l)) {env : Env} {o : Opd} (he : o.ev env = x) : (IOp.toStr o).ex env st = some (.str (l.map fun (n : Nat) => (n : Int)), st) :=
 h.text' (bytesOfRow_bytes l) he
end Go.Ab
