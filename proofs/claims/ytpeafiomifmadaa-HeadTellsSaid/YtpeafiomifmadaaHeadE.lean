/- HeadTells on the machine of values. -/
import Derived.Test.YtpeafiomifmadaaHeadA
import Derived.Test.YtpeafiomifmadaaRefH
import Derived.Test.YtpeafiomifmadaaArgA
import Derived.Test.YtpeafiomifmadaaValN
namespace Go.Ab
open Go
open Nat renaming reduceEqDiff → zpa, reduceLT → zpb, reduceAdd → zpc, reduceSub → zpd, reduceLeDiff → zpe, reduceMul → zpf
open Int renaming reduceToNat → zpg, reduceLT → zph, reduceLE → zpi, reduceEq → zpj, reduceNe → zpk, reduceBEq → zpl, reduceBNe → zpm, reduceAdd → zpn, reduceSub → zpo, reduceNeg → zpp
open List renaming replicate → zlr
set_option linter.unusedVariables false
set_option linter.unusedSimpArgs false
set_option maxRecDepth 10000
theorem head_knownE : GF gtab fid_archipelagolaw18_known [] [] 0 = some (.bool true, []) := GF_run 100 (by kernel_rfl)
theorem Zj1 {T : GTab} {fl : Fl} {lo : Nat} {env : GEnv} {h : GH} {Q : GEnv → GH → Prop} {ic : IC} {ks' : List K} (P : GEnv → GH → Prop) (k1 : Z T fl lo (.c ic :: .again P :: ks') env h Q) (k2 : ∀ env h, P env h → Z T fl lo ks' env h Q) : Z T fl lo (.c ic :: ks') env h Q := by
 unfold Z at k1 k2 ⊢
 simp only [post] at k1 ⊢
 refine k1.mono fun e env' h' m => ?_
 cases e with
 | norm => exact k2 _ _ m
 | exit j => exact m
 | ret => exact m
theorem put_any (n : Nat) (k c : Int) : ∃ w : U, GF gtab fid_head_Put [hd n k c] [] 0 = some (w, []) ∧ GF gtab fid_archipelagoref18_Put [hd n k c] [] 0 = some (w, []) ∧ (w = .nils ∨ ∃ l, w = .own 1 (un .u8 l)) := by
 by_cases h : headOk n k c
 ·have h' := h
  obtain ⟨h1, h2, h3, h4, h5⟩ := h
  obtain ⟨K, rfl⟩ : ∃ q : Nat, k = (q : Int) := ⟨k.toNat, by omega⟩
  obtain ⟨C, rfl⟩ : ∃ q : Nat, c = (q : Int) := ⟨c.toNat, by omega⟩
  exact ⟨_, hput_G h', rhput_G h', .inr ⟨_, rfl⟩⟩
 ·exact ⟨_, hputNo_G h, rhputNo_G h, .inl rfl⟩
theorem blocks_two (n : Nat) (k c : Int) : ∃ m : Nat, GF gtab fid_head_Blocks [hd n k c] [] 0 = some (.int .i64 (m : Int), []) ∧ GF gtab fid_archipelagoref18_Blocks [hd n k c] [] 0 = some (.int .i64 (m : Int), []) ∧ (0 < m → ∃ K C : Nat, k = K ∧ c = C ∧ headOk n K C ∧ m = (C + K - 1) / K) := by
 by_cases h : headOk n k c
 ·have h' := h
  obtain ⟨h1, h2, h3, h4, h5⟩ := h
  obtain ⟨K, rfl⟩ : ∃ q : Nat, k = (q : Int) := ⟨k.toNat, by omega⟩
  obtain ⟨C, rfl⟩ : ∃ q : Nat, c = (q : Int) := ⟨c.toNat, by omega⟩
  exact ⟨_, hblocks_G h', rhblocks_G h', fun _ => ⟨K, C, rfl, rfl, h', rfl⟩⟩
 ·exact ⟨0, hblocksNo_G h, rhblocksNo_G h, fun h => absurd h (by omega)⟩
theorem size_any (n : Nat) (k c i : Int) : ∃ s : Int, GF gtab fid_head_Size [hd n k c, .int .i64 i] [] 0 = some (.int .i64 s, []) ∧ GF gtab fid_archipelagoref18_Size [hd n k c, .int .i64 i] [] 0 = some (.int .i64 s, []) := by
 by_cases hi : i < 0
 ·exact ⟨0, hsizeNeg_G hi, rhsizeNeg_G hi⟩
 obtain ⟨j, rfl⟩ : ∃ q : Nat, i = (q : Int) := ⟨i.toNat, by omega⟩
 obtain ⟨m, B1, B2, hm⟩ := blocks_two n k c
 by_cases hj : j < m
 ·obtain ⟨K, C, rfl, rfl, ho, e⟩ := hm (by omega)
  have h2 := ho.2.1
  have hlt : j * K < C := by
   have h3 : (j + 1) * K ≤ m * K := Nat.mul_le_mul_right K hj
   have h4 : m * K ≤ C + K - 1 := by rw [e]; exact Nat.div_mul_le_self _ _
   rw [Nat.succ_mul] at h3
   omega
  exact ⟨_, hsize_G ho hlt (by rw [← e]; exact hj), rhsize_G ho hlt (by rw [← e]; exact hj)⟩
 ·exact ⟨0, hsizeOver_G B1 (by omega), rhsizeOver_G B2 (by omega)⟩
def heU (l : List (Nat × Int × Int)) : List (List U) := l.map fun r => [.int .u64 r.1, .int .i64 r.2.1, .int .i64 r.2.2]
theorem heU_get {l : List (Nat × Int × Int)} {i : Nat} {r : Nat × Int × Int} (h : l[i]? = some r) : (heU l)[i]? = some [.int .u64 r.1, .int .i64 r.2.1, .int .i64 r.2.2] := by simp [heU, h]
theorem heU_length (l : List (Nat × Int × Int)) : (heU l).length = l.length := by simp [heU]
def heR (xs : List (List Nat)) : List (List U) := xs.map fun x => [.list false 1 (un .u8 x)]
theorem heR_get {xs : List (List Nat)} {i : Nat} {x : List Nat} (h : xs[i]? = some x) : (heR xs)[i]? = some [.list false 1 (un .u8 x)] := by simp [heR, h]
def low64 (n : Int) (m : Nat) : Nat := (BitVec.ofInt IntKind.i64.bits n &&& BitVec.ofInt IntKind.i64.bits (m : Int)).toNat
theorem low64_le (n : Int) {m : Nat} (h : m < 9223372036854775808) : low64 n m ≤ m := by
 unfold low64
 rw [BitVec.toNat_and]
 refine Nat.le_trans Nat.and_le_right ?_
 have e : IntKind.i64.bits = 64 := rfl
 rw [e, BitVec.toNat_ofInt]
 omega
theorem low64_eq (n : Int) {m : Nat} (h : m < 9223372036854775808) : bitsOf .and .i64 n (m : Int) = some ((low64 n m : Nat) : Int) := by
 have : bitsOf .and .i64 n (m : Int) = some (IntKind.i64.wrap ((low64 n m : Nat) : Int)) := rfl
 rw [this, wrap_i64_nat (by have := low64_le n h; omega)]
def heC (o : Nat) (x : U) : Prop := (∃ l, x = .list false 1 (un .u8 l) ∧ (∀ b ∈ l, b < 256) ∧ l.length ≤ 1000) ∨ ∃ cp, x = .asl cp o 0 0 24 1
theorem heC.one {o : Nat} {l : List Nat} (hb : ∀ b ∈ l, b < 256) (hl : l.length ≤ 1000) : heC o (.list false 1 (un .u8 l)) := .inl ⟨l, rfl, hb, hl⟩
def heX (xs : List U) : List (List U) := xs.map fun x => [x]
theorem heX_get {xs : List U} {i : Nat} {x : U} (h : xs[i]? = some x) : (heX xs)[i]? = some [x] := by simp [heX, h]
theorem heSix {o : Nat} {a b c d e f : U} (ha : heC o a) (hb : heC o b) (hc : heC o c) (hd : heC o d) (he : heC o e) (hf : heC o f) : ∀ (i : Nat) (x : U), [a, b, c, d, e, f][i]? = some x → heC o x := fun i x h => by
 have := List.mem_of_getElem? h
 simp only [List.mem_cons, List.not_mem_nil, or_false] at this
 rcases this with rfl | rfl | rfl | rfl | rfl | rfl <;> assumption
theorem app_b {a b : List Nat} (ha : ∀ x ∈ a, x < 256) (hb : ∀ x ∈ b, x < 256) : ∀ x ∈ a ++ b, x < 256 := fun x h => by
 rcases List.mem_append.1 h with h | h
 ·exact ha x h
 ·exact hb x h
def zer16 : List Nat := List.replicate 16 0
def put20 (a : List Nat) (s : Nat) : List Nat := a.take 20 ++ leB 4 s ++ a.drop 24
theorem put20_eq (a : List Nat) (s : Nat) : a.take 20 ++ leB 4 s ++ a.drop 24 = put20 a s := rfl
theorem put20_lt {a : List Nat} {s : Nat} (ha : ∀ c ∈ a, c < 256) : ∀ c ∈ put20 a s, c < 256 := fun c h => by
 unfold put20 at h
 rcases List.mem_append.1 h with h | h
 ·rcases List.mem_append.1 h with h | h
  ·exact ha c (List.mem_of_mem_take h)
  ·exact leB_lt _ _ c h
 ·exact ha c (List.mem_of_mem_drop h)
theorem put20_length {a : List Nat} {s : Nat} (h : a.length = 24) : (put20 a s).length = 24 := by
 unfold put20
 simp only [List.length_append, List.length_take, List.length_drop, leB_length]
 omega
theorem read_two {bs : List Nat} (hb : ∀ b ∈ bs, b < 256) (hl : bs.length ≤ 1099511627776) : ∃ a b d e : Int, GF gtab fid_head_Read [.list false 1 (un .u8 bs)] [] 0 = some (.tup [.agg [.int .u64 a, .int .i64 b, .int .i64 d], .int .i64 e], []) ∧ GF gtab fid_archipelagoref18_Read [.list false 1 (un .u8 bs)] [] 0 = some (.tup [.agg [.int .u64 a, .int .i64 b, .int .i64 d], .int .i64 e], []) := by
 have h1 := hread_G hb hl
 have h2 := rhread_G hb hl
 cases h : rdHead bs with
 | bad e => rw [h] at h1 h2; exact ⟨_, _, _, _, h1, h2⟩
 | ok n k c => rw [h] at h1 h2; exact ⟨_, _, _, _, h1, h2⟩
set_option maxHeartbeats 8000000 in
theorem headTells_G {rn n at' c : Nat} {rk rc k c0 i : Int} {bytes : List Nat} {mend : Bool} (hn : n < 18446744073709551616) (hby : ∀ x ∈ bytes, x < 256) (ha : at' < 256) (hc : c < 256) :
  GF gtab fid_archipelagolaw18_HeadTells [.agg [.int .u64 (rn : Int), .int .i64 rk, .int .i64 rc], .int .u64 (n : Int), .int .i64 k, .int .i64 c0, .int .i64 i, .list false 1 (un .u8 bytes), .int .u8 (at' : Int), .int .u8 (c : Int), .bool mend] [] 0 = some (.bool true, []) := by
 refine fn_archipelagolaw18_HeadTells rfl ?_
 simp only [genvOf]
 refine Zr rfl (by simp (maxSteps := 2000000) only [gs,zlr,reduceIte,reduceCtorEq,zpa,zpb,zpc,zpd,zpe,zpf,zpg,zph,zpi,zpj,zpk,zpl,zpm,zpn,zpo,zpp]; rfl) ?_
 refine Zr rfl (by simp (maxSteps := 2000000) only [gs,zlr,reduceIte,reduceCtorEq,zpa,zpb,zpc,zpd,zpe,zpf,zpg,zph,zpi,zpj,zpk,zpl,zpm,zpn,zpo,zpp, gc_archipelagolaw18_known, head_knownE]; rfl) (Zc rfl rfl (fun h => by cases h) (fun _ => ?_))
 by_cases a0 : bytes.length ≤ 60
 case neg =>
  have g0 : ((bytes.length : Int) > 60) = True := eq_true (by omega)
  refine Zr rfl (by simp (maxSteps := 2000000) only [gs,zlr,reduceIte,reduceCtorEq,zpa,zpb,zpc,zpd,zpe,zpf,zpg,zph,zpi,zpj,zpk,zpl,zpm,zpn,zpo,zpp, un_length, g0]; rfl) (Zc rfl rfl (fun _ => ?_) (fun h => by cases h))
  exact Zr rfl (by simp (maxSteps := 2000000) only [gs,zlr,reduceIte,reduceCtorEq,zpa,zpb,zpc,zpd,zpe,zpf,zpg,zph,zpi,zpj,zpk,zpl,zpm,zpn,zpo,zpp]; rfl) (Zq rfl ⟨_, rfl, rfl⟩)
 have g0 : ((bytes.length : Int) > 60) = False := eq_false (by omega)
 have f1 : bitsOf .and .u64 (n : Int) 8589934591 = some ((n &&& 8589934591 : Nat) : Int) := and_u64 (a := n) (b := 8589934591) hn (by omega)
 obtain ⟨fk, hfk⟩ : ∃ x, bitsOf .and .i64 k 2097151 = some x := ⟨_, rfl⟩
 obtain ⟨fc, hfc⟩ : ∃ x, bitsOf .and .i64 c0 4294967295 = some x := ⟨_, rfl⟩
 have s1 : bitsOf .and .u64 (n : Int) 255 = some ((n &&& 255 : Nat) : Int) := and_u64 (a := n) (b := 255) hn (by omega)
 have s2 : bitsOf .and .i64 k 7 = some ((low64 k 7 : Nat) : Int) := low64_eq k (m := 7) (by omega)
 have s3 : bitsOf .and .i64 c0 31 = some ((low64 c0 31 : Nat) : Int) := low64_eq c0 (m := 31) (by omega)
 have l1 : n &&& 255 ≤ 255 := Nat.and_le_right
 have l2 := low64_le k (m := 7) (by omega)
 have l3 := low64_le c0 (m := 31) (by omega)
 generalize n &&& 8589934591 = fn at f1
 generalize n &&& 255 = N at s1 l1
 generalize low64 k 7 = K0 at s2 l2
 generalize low64 c0 31 = C at s3 l3
 obtain ⟨K, hK⟩ : ∃ K, K = K0 + 1 := ⟨_, rfl⟩
 have wK : IntKind.i64.wrap ((K0 : Int) + 1) = (K : Int) := by rw [hK]; exact up64 (by omega)
 have hok : headOk N K C := ⟨by omega, by omega, by omega, by omega, by omega⟩
 refine Zr rfl (by simp (maxSteps := 2000000) only [gs,zlr,reduceIte,reduceCtorEq,zpa,zpb,zpc,zpd,zpe,zpf,zpg,zph,zpi,zpj,zpk,zpl,zpm,zpn,zpo,zpp, un_length, g0]; rfl) (Zc rfl rfl (fun h => by cases h) (fun _ => ?_))
 refine Zr rfl (by simp (maxSteps := 2000000) only [gs,zlr,reduceIte,reduceCtorEq,zpa,zpb,zpc,zpd,zpe,zpf,zpg,zph,zpi,zpj,zpk,zpl,zpm,zpn,zpo,zpp, f1, hfk, hfc]; rfl) ?_
 refine Zr rfl (by simp (maxSteps := 2000000) only [gs,zlr,reduceIte,reduceCtorEq,zpa,zpb,zpc,zpd,zpe,zpf,zpg,zph,zpi,zpj,zpk,zpl,zpm,zpn,zpo,zpp, s1, s2, s3, wK]; rfl) ?_
 obtain ⟨hs, hhs⟩ : ∃ hs : List (Nat × Int × Int), hs = [(rn, rk, rc), (fn, fk, fc), (N, (K : Int), (C : Int))] := ⟨_, rfl⟩
 have hhu : [[U.int .u64 (rn : Int), .int .i64 rk, .int .i64 rc], [.int .u64 (fn : Int), .int .i64 fk, .int .i64 fc], [.int .u64 (N : Int), .int .i64 (K : Int), .int .i64 (C : Int)]] = heU hs := by rw [hhs]; rfl
 have hhl : hs.length = 3 := by rw [hhs]; rfl
 obtain ⟨bx, hbx⟩ : ∃ b, b = GObj.box [.int .u64 (N : Int), .int .i64 (K : Int), .int .i64 (C : Int)] := ⟨_, rfl⟩
 refine Z_nrm 1 (Zj1 (fun env h => h[2]? = some bx ∧ GEnv.get env 5 = .list false 1 (un .u8 bytes) ∧ GEnv.get env 6 = .int .u8 (at' : Int) ∧ GEnv.get env 7 = .int .u8 (c : Int) ∧ GEnv.get env 8 = .bool mend ∧ GEnv.get env 20 = .ptr 2 0 0 0) ?_ ?_)
 ·refine Zr rfl (by simp (maxSteps := 2000000) only [gs,zlr,reduceIte,reduceCtorEq,zpa,zpb,zpc,zpd,zpe,zpf,zpg,zph,zpi,zpj,zpk,zpl,zpm,zpn,zpo,zpp, hhu, heU_length, hhl]; rfl) ?_
  refine Zw rfl (fun q env h => ∃ j : Nat, q + j = 3 ∧ h[2]? = some bx ∧ 3 ≤ h.length ∧ GEnv.get env 4 = .int .i64 i ∧ GEnv.get env 5 = .list false 1 (un .u8 bytes) ∧ GEnv.get env 6 = .int .u8 (at' : Int) ∧ GEnv.get env 7 = .int .u8 (c : Int) ∧ GEnv.get env 8 = .bool mend ∧ GEnv.get env 20 = .ptr 2 0 0 0 ∧ GEnv.get env 54 = .own 3 (heU hs) ∧ GEnv.get env 55 = .int .i64 3 ∧ GEnv.get env 56 = .int .i64 (j : Int)) 3 ⟨0, rfl, by rw [hbx]; rfl, by simp, rfl, rfl, rfl, rfl, rfl, rfl, rfl, rfl, rfl⟩ ?_
  rintro q env h ⟨j, hq, hh2, hhl3, k4, k5, k6, k7, k8, k20, k54, k55, k56⟩
  simp only [GEnv.keep, k4, k5, k6, k7, k8, k20, k54, k55, k56]
  refine Zr rfl (by simp (maxSteps := 2000000) only [gs,zlr,reduceIte,reduceCtorEq,zpa,zpb,zpc,zpd,zpe,zpf,zpg,zph,zpi,zpj,zpk,zpl,zpm,zpn,zpo,zpp]; rfl) (Zp rfl rfl (fun hj => ?_) (fun hj => ?_))
  ·have gy : hs[j]? = some (hs[j]'(by omega)) := List.getElem?_eq_getElem _
   generalize hs[j]'(by omega) = y at gy
   obtain ⟨yn, yk, yc⟩ := y
   have n0 : ((0 : Int) ≤ (j : Int)) = True := eq_true (by omega)
   have UG := heU_get gy
   have gn : gbytesOf [] = some [] := rfl
   have hjnc := up64 (show j < 9223372036854775807 by omega)
   have ge : ∀ z : GObj, (h ++ [z])[h.length]? = some z := fun z => by simp
   have gs' : ∀ z w : GObj, (h ++ [z]).set h.length w = h ++ [w] := fun z w => by simp
   have ap : ∀ z : GObj, (h ++ [z])[2]? = some bx := fun z => by rw [List.getElem?_append_left (by omega)]; exact hh2
   obtain ⟨pw, P1, P2, hpw⟩ := put_any yn yk yc
   obtain ⟨bl, B1, B2, _⟩ := blocks_two yn yk yc
   obtain ⟨z1, S1, S2⟩ := size_any yn yk yc i
   obtain ⟨i7, hi7⟩ : ∃ x, bitsOf .and .i64 i 7 = some x := ⟨_, rfl⟩
   obtain ⟨z2, S3, S4⟩ := size_any yn yk yc i7
   have R1 := hright_G yn yk yc
   have R2 := rhright_G yn yk yc
   generalize decide (headOk yn yk yc) = rb at R1 R2
   unfold hd at P1 P2 B1 B2 S1 S2 S3 S4 R1 R2
   refine Zr rfl (by simp (maxSteps := 2000000) only [gs,zlr,reduceIte,reduceCtorEq,zpa,zpb,zpc,zpd,zpe,zpf,zpg,zph,zpi,zpj,zpk,zpl,zpm,zpn,zpo,zpp, n0, UG, ge, gs']; rfl) ?_
   rcases hpw with rfl | ⟨l, rfl⟩
   ·refine Zd rfl (by simp (maxSteps := 2000000) only [gs,gd,zlr,id,reduceIte,reduceCtorEq,zpa,zpb,zpc,zpd,zpe,zpf,zpg,zph,zpi,zpj,zpk,zpl,zpm,zpn,zpo,zpp, gn, bne_self_eq_false, beq_self_eq_true, Bool.not_true, n0, ge, gs', gc_head_Right, iq_head_Right, R1, gc_archipelagoref18_Right, iq_archipelagoref18_Right, R2, iq_head_Right, iq_archipelagoref18_Right, gc_head_Put, iq_head_Put, P1, gc_archipelagoref18_Put, iq_archipelagoref18_Put, P2, iq_head_Put, iq_archipelagoref18_Put, gc_head_Blocks, iq_head_Blocks, B1, gc_archipelagoref18_Blocks, iq_archipelagoref18_Blocks, B2, iq_head_Blocks, iq_archipelagoref18_Blocks, gc_head_Size, iq_head_Size, S1, S3, gc_archipelagoref18_Size, iq_archipelagoref18_Size, S2, S4, iq_head_Size, iq_archipelagoref18_Size, hi7]; rfl) ?_
    refine Zc rfl rfl (fun h => by cases h) (fun _ => ?_)
    refine Zr rfl (by simp (maxSteps := 2000000) only [gs,zlr,reduceIte,reduceCtorEq,zpa,zpb,zpc,zpd,zpe,zpf,zpg,zph,zpi,zpj,zpk,zpl,zpm,zpn,zpo,zpp, hjnc]; rfl) ?_
    exact Za rfl ⟨q - 1, by omega, j + 1, by omega, by rw [ap], by simp; omega, rfl, rfl, rfl, rfl, rfl, rfl, rfl, rfl, rfl⟩
   ·refine Zd rfl (by simp (maxSteps := 2000000) only [gs,gd,zlr,id,reduceIte,reduceCtorEq,zpa,zpb,zpc,zpd,zpe,zpf,zpg,zph,zpi,zpj,zpk,zpl,zpm,zpn,zpo,zpp, gbytesOf_un, bne_self_eq_false, beq_self_eq_true, Bool.not_true, n0, ge, gs', gc_head_Right, iq_head_Right, R1, gc_archipelagoref18_Right, iq_archipelagoref18_Right, R2, iq_head_Right, iq_archipelagoref18_Right, gc_head_Put, iq_head_Put, P1, gc_archipelagoref18_Put, iq_archipelagoref18_Put, P2, iq_head_Put, iq_archipelagoref18_Put, gc_head_Blocks, iq_head_Blocks, B1, gc_archipelagoref18_Blocks, iq_archipelagoref18_Blocks, B2, iq_head_Blocks, iq_archipelagoref18_Blocks, gc_head_Size, iq_head_Size, S1, S3, gc_archipelagoref18_Size, iq_archipelagoref18_Size, S2, S4, iq_head_Size, iq_archipelagoref18_Size, hi7]; rfl) ?_
    refine Zc rfl rfl (fun h => by cases h) (fun _ => ?_)
    refine Zr rfl (by simp (maxSteps := 2000000) only [gs,zlr,reduceIte,reduceCtorEq,zpa,zpb,zpc,zpd,zpe,zpf,zpg,zph,zpi,zpj,zpk,zpl,zpm,zpn,zpo,zpp, hjnc]; rfl) ?_
    exact Za rfl ⟨q - 1, by omega, j + 1, by omega, by rw [ap], by simp; omega, rfl, rfl, rfl, rfl, rfl, rfl, rfl, rfl, rfl⟩
  ·exact Za rfl ⟨hh2, rfl, rfl, rfl, rfl, rfl⟩
 clear hhu hhl
 rintro env h ⟨hh2, k5, k6, k7, k8, k20⟩
 rw [hbx] at hh2
 have ge : ∀ z : GObj, (h ++ [z])[h.length]? = some z := fun z => by simp
 have gs' : ∀ z w : GObj, (h ++ [z]).set h.length w = h ++ [w] := fun z w => by simp
 have PT := rhput_G hok
 unfold hd at PT
 have hSl := headS_length N K C
 have hSb := headS_lt N K C
 generalize headS N K C = S at PT hSl hSb
 have q24 : (24 ≤ room) = True := eq_true (by unfold room; decide)
 have hie : (un .u8 S).isEmpty = false := by
  cases S with
  | nil => simp at hSl
  | cons x l => rfl
 have hne : (un .u8 S = []) = False := eq_false (by
  cases S with
  | nil => simp at hSl
  | cons x l => simp [un])
 have wat : IntKind.i64.wrap (at' : Int) = (at' : Int) := wrap_i64_nat (by omega)
 have m24 : ((at' : Nat) : Int).tmod 24 = ((at' % 24 : Nat) : Int) := rfl
 obtain ⟨p, hp⟩ : ∃ p, p = at' % 24 := ⟨_, rfl⟩
 rw [← hp] at m24
 have p0 : ((0 : Int) ≤ (p : Int)) = True := eq_true (by omega)
 have p1 : ((p : Int) < 24) = True := eq_true (by omega)
 have gS : S[p]? = some (S[p]'(by omega)) := List.getElem?_eq_getElem _
 refine Zr rfl (by simp (maxSteps := 2000000) only [gs,zlr,reduceIte,reduceCtorEq,zpa,zpb,zpc,zpd,zpe,zpf,zpg,zph,zpi,zpj,zpk,zpl,zpm,zpn,zpo,zpp, k20, hh2, gc_archipelagoref18_Put, PT]; rfl) ?_
 refine Zr rfl (by simp (maxSteps := 2000000) only [gs,zlr,reduceIte,reduceCtorEq,zpa,zpb,zpc,zpd,zpe,zpf,zpg,zph,zpi,zpj,zpk,zpl,zpm,zpn,zpo,zpp, un_length, hSl, q24, hie, hne, scalLL_un, Nat.mul_one]; rfl) ?_
 refine Zr rfl (by simp (maxSteps := 2000000) only [gs,zlr,reduceIte,reduceCtorEq,zpa,zpb,zpc,zpd,zpe,zpf,zpg,zph,zpi,zpj,zpk,zpl,zpm,zpn,zpo,zpp, k6, k7, wat, m24, p0, p1, ge, gs', un_get gS, un_set, Int.toNat_natCast]; rfl) ?_
 refine Zr rfl (by simp (maxSteps := 2000000) only [gs,zlr,reduceIte,reduceCtorEq,zpa,zpb,zpc,zpd,zpe,zpf,zpg,zph,zpi,zpj,zpk,zpl,zpm,zpn,zpo,zpp, k8]; rfl) ?_
 obtain ⟨D0, hD0⟩ : ∃ D, D = S.set p c := ⟨_, rfl⟩
 have hD0l : D0.length = 24 := by rw [hD0, List.length_set, hSl]
 have hD0b : ∀ b ∈ D0, b < 256 := fun b hb => by
  rw [hD0] at hb
  rcases List.mem_or_eq_of_mem_set hb with h1 | rfl
  ·exact hSb b h1
  ·exact hc
 rw [← hD0]
 obtain ⟨o, ho⟩ : ∃ o, o = h.length := ⟨_, rfl⟩
 rw [← ho] at ge gs' ⊢
 refine Zj1 (fun env h1 => ∃ D, D.length = 24 ∧ (∀ b ∈ D, b < 256) ∧ h1 = h ++ [.arr (un .u8 D) 0 0] ∧ GEnv.get env 5 = .list false 1 (un .u8 bytes) ∧ GEnv.get env 6 = .int .u8 (at' : Int) ∧ GEnv.get env 23 = .list false 1 (un .u8 S) ∧ GEnv.get env 24 = .asl none o 0 0 24 1) ?_ ?_
 ·cases mend with
  | false =>
   refine Zc rfl rfl (fun h => by cases h) (fun _ => ?_)
   exact Za rfl ⟨D0, hD0l, hD0b, rfl, k5, k6, rfl, rfl⟩
  | true =>
   have a3 : (20 ≤ 24) = True := eq_true (by omega)
   have tb : ∀ b ∈ D0.take 20, b < 256 := fun b h => hD0b b (List.mem_of_mem_take h)
   have RS := rsum_G tb (by rw [List.length_take]; omega)
   have hs := crcSum_lt tb
   have FX : GF gtab fid_archipelagoref1_Fixed [.int .u64 (crcSum (D0.take 20) : Nat), .int .i64 4] [] 0 = some (.own 1 (un .u8 (leB 4 (crcSum (D0.take 20)))), []) := fixed_G (n := 4) (by omega) (by omega) (by omega)
   have t4 : ∀ s, (leB 4 s).take 4 = leB 4 s := fun s => List.take_of_length_le (by rw [leB_length]; omega)
   refine Zc rfl rfl (fun _ => ?_) (fun h => by cases h)
   refine Zd rfl (by simp (maxSteps := 2000000) only [gs,gd,zlr,id,reduceIte,reduceCtorEq,zpa,zpb,zpc,zpd,zpe,zpf,zpg,zph,zpi,zpj,zpk,zpl,zpm,zpn,zpo,zpp, un_length, hD0l, ge, gs', List.drop_zero, un_drop, un_take, rfLL_un, snapLL_un, gc_archipelagoref1_Sum, iq_archipelagoref1_Sum, RS, conv_u64 hs, gc_archipelagoref1_Fixed, iq_archipelagoref1_Fixed, FX, leB_length, Nat.min_self, Nat.le_refl, t4, un_append, put20_eq]; rfl) ?_
   exact Za rfl ⟨_, put20_length hD0l, put20_lt hD0b, rfl, k5, k6, rfl, rfl⟩
 clear hD0 hD0l hD0b k5 k6 k7 k8 k20 gS
 rintro env h1 ⟨D, hDl, hDb, rfl, k5, k6, k23, k24⟩
 obtain ⟨H, hH⟩ : ∃ H : GH, H = h ++ [.arr (un .u8 D) 0 0] := ⟨_, rfl⟩
 have hHo : H[o]? = some (.arr (un .u8 D) 0 0) := by rw [hH]; exact ge _
 have hHl : o < H.length := by rw [hH, ho]; simp
 rw [← hH]
 clear hH ge gs'
 have m25 : ((at' : Nat) : Int).tmod 25 = ((at' % 25 : Nat) : Int) := rfl
 obtain ⟨p', hp'⟩ : ∃ p, p = at' % 25 := ⟨_, rfl⟩
 rw [← hp'] at m25
 have e0 : ([[U.int .u8 84], [.int .u8 71], [.int .u8 88], [.int .u8 49]] : List (List U)) = un .u8 magicB := rfl
 refine Z_nrm 2 (Zj1 (fun env h1 => H = h1 ∧ ∃ xs : List U, xs.length = 6 ∧ (∀ (i : Nat) (x : U), xs[i]? = some x → heC o x) ∧ GEnv.get env 143 = .own 1 (heX xs) ∧ GEnv.get env 144 = .int .i64 6 ∧ GEnv.get env 145 = .int .i64 0) ?_ ?_)
 ·have hie2 : (un .u8 magicB).isEmpty = false := rfl
  have z16 : ([[U.int .u8 0], [.int .u8 0], [.int .u8 0], [.int .u8 0], [.int .u8 0], [.int .u8 0], [.int .u8 0], [.int .u8 0], [.int .u8 0], [.int .u8 0], [.int .u8 0], [.int .u8 0], [.int .u8 0], [.int .u8 0], [.int .u8 0], [.int .u8 0]] : List (List U)) = un .u8 zer16 := rfl
  have l0 : magicB.length = 4 := rfl
  have l1 : zer16.length = 16 := rfl
  have b1 : ((16 : Int) * 1 ≤ (room : Int)) = True := eq_true (by unfold room; decide)
  have b2 : (20 ≤ room) = True := eq_true (by unfold room; decide)
  have b3 : (20 + bytes.length ≤ room) = True := eq_true (by unfold room; omega)
  have b4 : (24 + bytes.length ≤ room) = True := eq_true (by unfold room; omega)
  have q0 : ((0 : Int) ≤ (p' : Int)) = True := eq_true (by omega)
  have q1 : ((p' : Int) ≤ 24) = True := eq_true (by omega)
  have q2 : ((p' : Int) - 0).toNat = p' := by omega
  have q3 : (p' ≤ 24) = True := eq_true (by omega)
  have tk : (un .u8 D).take 24 = un .u8 D := List.take_of_length_le (by rw [un_length]; omega)
  have hS1 : heC o (.list false 1 (un .u8 S)) := .one hSb (by omega)
  have hS2 : heC o (.list false 1 (un .u8 (S.take p'))) := .one (fun b h => hSb b (List.mem_of_mem_take h)) (by rw [List.length_take]; omega)
  have hmz : ∀ b ∈ magicB ++ zer16, b < 256 := app_b (by decide) (by decide)
  by_cases hb0 : bytes = []
  ·have u0 : un .u8 bytes = [] := by rw [hb0]; rfl
   rw [u0] at k5
   refine Zd rfl (by simp (maxSteps := 2000000) only [gs,gd,zlr,id,reduceIte,reduceCtorEq,zpa,zpb,zpc,zpd,zpe,zpf,zpg,zph,zpi,zpj,zpk,zpl,zpm,zpn,zpo,zpp, k5, k6, k23, k24, hHo, e0, hie2, z16, l0, b1, b2, un_length, un_append, hDl, hSl, wat, m25, Nat.mul_one, q0, q1, q2, q3, l1, List.length_append, List.append_nil, un_take]; rfl) ?_
   exact Za rfl ⟨rfl, [.list false 1 (un .u8 []), .list false 1 (un .u8 S), .asl none o 0 0 24 1, .asl (some 24) o 0 0 24 1, .list false 1 (un .u8 (S.take p')), .list false 1 (un .u8 (magicB ++ zer16))], rfl, heSix (.one (by simp) (by simp)) hS1 (.inr ⟨_, rfl⟩) (.inr ⟨_, rfl⟩) hS2 (.one hmz (by rw [List.length_append, l0, l1]; omega)), rfl, rfl, rfl⟩
  ·have u0 : (un .u8 bytes = []) = False := eq_false (by
    cases bytes with
    | nil => exact absurd rfl hb0
    | cons x l => simp [un])
   have b5 : (24 < 24 + bytes.length) = True := eq_true (by have := List.length_pos_iff.2 hb0; omega)
   refine Zd rfl (by simp (maxSteps := 2000000) only [gs,gd,zlr,id,reduceIte,reduceCtorEq,zpa,zpb,zpc,zpd,zpe,zpf,zpg,zph,zpi,zpj,zpk,zpl,zpm,zpn,zpo,zpp, u0, k5, k6, k23, k24, hHo, e0, hie2, z16, l0, b1, b2, b3, b4, b5, un_length, un_append, hDl, hSl, wat, m25, Nat.mul_one, q0, q1, q2, q3, l1, List.length_append, un_take, List.drop_zero, Nat.zero_add, Nat.le_refl, tk]; rfl) ?_
   exact Za rfl ⟨rfl, [.list false 1 (un .u8 bytes), .list false 1 (un .u8 S), .asl none o 0 0 24 1, .list false 1 (un .u8 (D ++ bytes)), .list false 1 (un .u8 (S.take p')), .list false 1 (un .u8 (magicB ++ zer16 ++ bytes))], rfl, heSix (.one hby (by omega)) hS1 (.inr ⟨_, rfl⟩) (.one (app_b hDb hby) (by rw [List.length_append]; omega)) hS2 (.one (app_b hmz hby) (by rw [List.length_append, List.length_append, l0, l1]; omega)), rfl, rfl, rfl⟩
 clear k5 k6 k23 k24
 rintro env h1 ⟨rfl, xs, hxl, hxs, k143, k144, k145⟩
 refine Zw rfl (fun q env h1 => ∃ j : Nat, q + j = 6 ∧ h1[o]? = some (.arr (un .u8 D) 0 0) ∧ o < h1.length ∧ GEnv.get env 143 = .own 1 (heX xs) ∧ GEnv.get env 144 = .int .i64 6 ∧ GEnv.get env 145 = .int .i64 (j : Int)) 6 ⟨0, rfl, hHo, hHl, k143, k144, k145⟩ ?_
 clear k143 k144 k145 hHo hHl
 rintro q env h1 ⟨j, hq, hHo, hHl, k143, k144, k145⟩
 simp only [GEnv.keep, k143, k144, k145]
 refine Zr rfl (by simp (maxSteps := 2000000) only [gs,zlr,reduceIte,reduceCtorEq,zpa,zpb,zpc,zpd,zpe,zpf,zpg,zph,zpi,zpj,zpk,zpl,zpm,zpn,zpo,zpp]; rfl) (Zp rfl rfl (fun hj => ?_) (fun hj => ?_))
 ·have gx : xs[j]? = some (xs[j]'(by omega)) := List.getElem?_eq_getElem _
  generalize xs[j]'(by omega) = x at gx
  have hx := hxs j x gx
  have n0 : ((0 : Int) ≤ (j : Int)) = True := eq_true (by omega)
  have hjnc := up64 (show j < 9223372036854775807 by omega)
  have RG := heX_get gx
  have ge : ∀ (h : GH) (z : GObj), (h ++ [z])[h.length]? = some z := fun h z => by simp
  have ge2 : ∀ (h : GH) (z w : GObj), (h ++ [z] ++ [w])[h.length]? = some z := fun h z w => by simp
  have gs' : ∀ (h : GH) (z w : GObj), (h ++ [z]).set h.length w = h ++ [w] := fun h z w => by simp
  have keep : ∀ z w : GObj, (h1 ++ [z] ++ [w])[o]? = some (.arr (un .u8 D) 0 0) ∧ o < (h1 ++ [z] ++ [w]).length := fun z w => by
   refine ⟨?_, by simp; omega⟩
   rw [List.getElem?_append_left (by simp; omega), List.getElem?_append_left hHl]
   exact hHo
  rcases hx with ⟨l, rfl, hlb, hll⟩ | ⟨cp, rfl⟩
  ·obtain ⟨a, b, d, e, V1, V2⟩ := read_two hlb (by omega)
   refine Zr rfl (by simp (maxSteps := 2000000) only [gs,zlr,reduceIte,reduceCtorEq,zpa,zpb,zpc,zpd,zpe,zpf,zpg,zph,zpi,zpj,zpk,zpl,zpm,zpn,zpo,zpp, n0, RG]; rfl) ?_
   refine Zr rfl (by simp (maxSteps := 2000000) only [gs,zlr,reduceIte,reduceCtorEq,zpa,zpb,zpc,zpd,zpe,zpf,zpg,zph,zpi,zpj,zpk,zpl,zpm,zpn,zpo,zpp, gc_head_Read, snapLL_un, V1, ge, gs']; rfl) ?_
   refine Zr rfl (by simp (maxSteps := 2000000) only [gs,zlr,reduceIte,reduceCtorEq,zpa,zpb,zpc,zpd,zpe,zpf,zpg,zph,zpi,zpj,zpk,zpl,zpm,zpn,zpo,zpp, gc_archipelagoref18_Read, snapLL_un, V2, ge, gs']; rfl) ?_
   refine Zr rfl (by simp (maxSteps := 2000000) only [gs,zlr,reduceIte,reduceCtorEq,zpa,zpb,zpc,zpd,zpe,zpf,zpg,zph,zpi,zpj,zpk,zpl,zpm,zpn,zpo,zpp, ge, ge2, beq_self_eq_true, bne_self_eq_false]; rfl) ?_
   refine Zc rfl rfl (fun h => by cases h) (fun _ => ?_)
   refine Zr rfl (by simp (maxSteps := 2000000) only [gs,zlr,reduceIte,reduceCtorEq,zpa,zpb,zpc,zpd,zpe,zpf,zpg,zph,zpi,zpj,zpk,zpl,zpm,zpn,zpo,zpp, hjnc]; rfl) ?_
   exact Za rfl ⟨q - 1, by omega, j + 1, by omega, (keep _ _).1, (keep _ _).2, rfl, rfl, rfl⟩
  ·obtain ⟨a, b, d, e, V1, V2⟩ := read_two hDb (by omega)
   have hH2 : ∀ z : GObj, (h1 ++ [z])[o]? = some (.arr (un .u8 D) 0 0) := fun z => by
    rw [List.getElem?_append_left hHl]
    exact hHo
   have tk : D.take 24 = D := List.take_of_length_le (by omega)
   refine Zr rfl (by simp (maxSteps := 2000000) only [gs,zlr,reduceIte,reduceCtorEq,zpa,zpb,zpc,zpd,zpe,zpf,zpg,zph,zpi,zpj,zpk,zpl,zpm,zpn,zpo,zpp, n0, RG]; rfl) ?_
   refine Zr rfl (by simp (maxSteps := 2000000) only [gs,zlr,reduceIte,reduceCtorEq,zpa,zpb,zpc,zpd,zpe,zpf,zpg,zph,zpi,zpj,zpk,zpl,zpm,zpn,zpo,zpp, gc_head_Read, hHo, un_length, hDl, Nat.le_refl, un_take, tk, List.drop_zero, Nat.zero_add, rfLL_un, V1, ge, gs']; rfl) ?_
   refine Zr rfl (by simp (maxSteps := 2000000) only [gs,zlr,reduceIte,reduceCtorEq,zpa,zpb,zpc,zpd,zpe,zpf,zpg,zph,zpi,zpj,zpk,zpl,zpm,zpn,zpo,zpp, gc_archipelagoref18_Read, hH2, un_length, hDl, Nat.le_refl, un_take, tk, List.drop_zero, Nat.zero_add, rfLL_un, V2, ge, gs']; rfl) ?_
   refine Zr rfl (by simp (maxSteps := 2000000) only [gs,zlr,reduceIte,reduceCtorEq,zpa,zpb,zpc,zpd,zpe,zpf,zpg,zph,zpi,zpj,zpk,zpl,zpm,zpn,zpo,zpp, ge, ge2, beq_self_eq_true, bne_self_eq_false]; rfl) ?_
   refine Zc rfl rfl (fun h => by cases h) (fun _ => ?_)
   refine Zr rfl (by simp (maxSteps := 2000000) only [gs,zlr,reduceIte,reduceCtorEq,zpa,zpb,zpc,zpd,zpe,zpf,zpg,zph,zpi,zpj,zpk,zpl,zpm,zpn,zpo,zpp, hjnc]; rfl) ?_
   exact Za rfl ⟨q - 1, by omega, j + 1, by omega, (keep _ _).1, (keep _ _).2, rfl, rfl, rfl⟩
 ·exact Zr rfl (by simp (maxSteps := 2000000) only [gs,zlr,reduceIte,reduceCtorEq,zpa,zpb,zpc,zpd,zpe,zpf,zpg,zph,zpi,zpj,zpk,zpl,zpm,zpn,zpo,zpp]; rfl) (Zq rfl ⟨_, rfl, rfl⟩)
theorem headTells_law (us : List U) (h : Ars [.agg [(.int .u64), (.int .i64), (.int .i64)], .one (.int .u64), .one (.int .i64), .one (.int .i64), .one (.int .i64), .one (.sl [(.int .u8)]), .one (.int .u8), .one (.int .u8), .one .bool] us) : GF gtab fid_archipelagolaw18_HeadTells us [] 0 = some (.bool true, []) := by
 obtain ⟨u0, _, rfl, h0, u1, _, rfl, h1, u2, _, rfl, h2, u3, _, rfl, h3, u4, _, rfl, h4, u5, _, rfl, h5, u6, _, rfl, h6, u7, _, rfl, h7, u8, _, rfl, h8, rfl⟩ := h
 obtain ⟨_, rfl, h0⟩ := h0
 simp only [Sh.fitsL] at h0
 obtain ⟨_, _, rfl, hrn, _, _, rfl, hrk, _, _, rfl, hrc, rfl⟩ := h0
 obtain ⟨rn, rfl, _⟩ := Sh.nat rfl hrn
 simp only [Sh.fits] at hrk hrc
 obtain ⟨rk, rfl, _⟩ := hrk
 obtain ⟨rc, rfl, _⟩ := hrc
 obtain ⟨n, rfl, hn⟩ := Sh.nat rfl h1
 simp only [Ar.fits, Sh.fits] at h2 h3 h4 h8
 obtain ⟨k, rfl, _⟩ := h2
 obtain ⟨c0, rfl, _⟩ := h3
 obtain ⟨i, rfl, _⟩ := h4
 obtain ⟨bytes, rfl, _, hby⟩ := Sh.nums rfl h5
 obtain ⟨a, rfl, ha⟩ := Sh.nat rfl h6
 obtain ⟨c, rfl, hc⟩ := Sh.nat rfl h7
 obtain ⟨m, rfl⟩ := h8
 exact headTells_G (Nat.lt_succ_of_le (Int.ofNat_le.1 hn)) (fun x hx => Nat.lt_succ_of_le (Int.ofNat_le.1 (hby x hx))) (Nat.lt_succ_of_le (Int.ofNat_le.1 ha)) (Nat.lt_succ_of_le (Int.ofNat_le.1 hc))
end Go.Ab
