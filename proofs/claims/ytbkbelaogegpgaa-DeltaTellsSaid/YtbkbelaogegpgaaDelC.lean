/- delta's reader on the machine of values. -/
import Derived.Test.YtbkbelaogegpgaaDelA
import Derived.Test.YtbkbelaogegpgaaValN
namespace Go.Ab
open Go
open Nat renaming reduceEqDiff → zpa, reduceLT → zpb, reduceAdd → zpc, reduceSub → zpd, reduceLeDiff → zpe, reduceMul → zpf
open Int renaming reduceToNat → zpg, reduceLT → zph, reduceLE → zpi, reduceEq → zpj, reduceNe → zpk, reduceBEq → zpl, reduceBNe → zpm, reduceAdd → zpn, reduceSub → zpo, reduceNeg → zpp
open List renaming replicate → zlr
set_option linter.unusedVariables false
set_option linter.unusedSimpArgs false
set_option maxRecDepth 10000
theorem gt_rng {bs : List Nat} {p v q : Nat} : ∀ (f i : Nat), i + f ≤ 64 → gt bs p f i = some (v, q) → 1 ≤ v ∧ v < 18446744073709551616 ∧ p < q ∧ q ≤ 8 * bs.length
 | 0, i, _, h => by cases h
 | f + 1, i, hi, h => by
  rw [gt] at h
  split at h
  ·split at h
   ·split at h
    ·simp only [Option.some.injEq, Prod.mk.injEq] at h
     obtain ⟨rfl, rfl⟩ := h
     have hr := rnum_lt bs (p + i + 1) i
     have h1 : rnum bs (p + i + 1) i ||| 1 * 2 ^ i = rnum bs (p + i + 1) i + 1 * 2 ^ i := or_high2 hr
     rw [Nat.one_mul] at h1
     rw [Nat.or_comm, h1]
     have h2 : 2 ^ (i + 1) ≤ 2 ^ 64 := Nat.pow_le_pow_right (by omega) (by omega)
     rw [Nat.pow_succ] at h2
     have := Nat.two_pow_pos i
     omega
    ·cases h
   ·exact gt_rng f (i + 1) (by omega) h
  ·cases h
theorem u64_sum (a b : Nat) : IntKind.u64.wrap ((a : Int) + (b : Int)) = (((a + b) % 18446744073709551616 : Nat) : Int) := by
 rw [show (a : Int) + (b : Int) = ((a + b : Nat) : Int) by omega, wrap_u64_nat]
def rBox (T U V : Int) (A any ok : Bool) : GObj := .box [.ptr 0 0 0 0, .int .i64 T, .int .u32 U, .int .u32 V, .bool A, .bool any, .bool ok]
structure RdS (bs : List Nat) (h : GH) (p : Nat) (last : Ev) (any ok : Bool) : Prop where
 rd : h[0]? = some (rdBox bs p)
 bx : h[1]? = some (rBox last.1 last.2.1 last.2.2.1 last.2.2.2 any ok)
 le : p ≤ 8 * bs.length
def KpR (h h' : GH) : Prop := h.length ≤ h'.length ∧ ∀ j, 2 ≤ j → j < h.length → h'[j]? = h[j]?
theorem KpR.trans {a b c : GH} (h : KpR a b) (k : KpR b c) : KpR a c := ⟨Nat.le_trans h.1 k.1, fun j h1 h2 => by rw [k.2 j h1 (Nat.lt_of_lt_of_le h2 h.1), h.2 j h1 h2]⟩
theorem numD_G {h : GH} {bs : List Nat} {p M : Nat} {last : Ev} {any ok : Bool} (s : RdS bs h p last any ok) (hb : ∀ b ∈ bs, b < 256) (hl : bs.length ≤ 1099511627776) :
  ∃ v q ok' h', GF gtab fid_delta_reader_num [.ptr 1 0 0 0, .int .u64 (M : Int)] h 0 = some (.int .u64 ((v : Nat) : Int), h') ∧ RdS bs h' q last any ok' ∧ KpR h h' ∧
   ((gt bs p 64 0 = some (v, q) ∧ ok' = (ok && decide (v ≤ M))) ∨ (gt bs p 64 0 = none ∧ v = 0 ∧ ok' = false)) := by
 obtain ⟨s1, s2, s3⟩ := s
 have l1 := get_lt s2
 have T := gtake_G (lo := 0) s1 hb hl s3 (Nat.zero_le _)
 unfold rBox at s2
 cases hg : gt bs p 64 0 with
 | none =>
  rw [hg] at T
  simp only [gtR] at T
  have k1 : (h ++ [rdBox bs p])[1]? = some (.box [.ptr 0 0 0 0, .int .i64 last.1, .int .u32 last.2.1, .int .u32 last.2.2.1, .bool last.2.2.2, .bool any, .bool ok]) := by rw [app_lt l1, s2]
  refine ⟨0, p, false, (h ++ [rdBox bs p]).set 1 (rBox last.1 last.2.1 last.2.2.1 last.2.2.2 any false), ?_, ⟨by rw [set_ne (by omega), app_lt (by omega)]; exact s1, set_eq (by rw [List.length_append]; omega), s3⟩, ⟨by simp, fun j h1 h2 => by rw [set_ne (by omega), app_lt h2]⟩, .inr ⟨rfl, rfl, rfl⟩⟩
  refine fn_delta_reader_num rfl ?_
  simp only [genvOf]
  refine Zr rfl (by simp (maxSteps := 2000000) only [gs,zlr,reduceIte,reduceCtorEq,zpa,zpb,zpc,zpd,zpe,zpf,zpg,zph,zpi,zpj,zpk,zpl,zpm,zpn,zpo,zpp]; rfl) ?_
  refine Zr rfl (by simp (maxSteps := 2000000) only [gs,zlr,reduceIte,reduceCtorEq,zpa,zpb,zpc,zpd,zpe,zpf,zpg,zph,zpi,zpj,zpk,zpl,zpm,zpn,zpo,zpp, s2, gc_gamma_Take, T]; rfl) ?_
  cases ok with
  | true =>
   refine Zr rfl (by simp (maxSteps := 2000000) only [gs,zlr,reduceIte,reduceCtorEq,zpa,zpb,zpc,zpd,zpe,zpf,zpg,zph,zpi,zpj,zpk,zpl,zpm,zpn,zpo,zpp, k1]; rfl) ?_
   exact Zr rfl (by simp (maxSteps := 2000000) only [gs,zlr,reduceIte,reduceCtorEq,zpa,zpb,zpc,zpd,zpe,zpf,zpg,zph,zpi,zpj,zpk,zpl,zpm,zpn,zpo,zpp]; rfl) (Zq rfl ⟨_, rfl, rfl⟩)
  | false =>
   refine Zr rfl (by simp (maxSteps := 2000000) only [gs,zlr,reduceIte,reduceCtorEq,zpa,zpb,zpc,zpd,zpe,zpf,zpg,zph,zpi,zpj,zpk,zpl,zpm,zpn,zpo,zpp, k1]; rfl) ?_
   exact Zr rfl (by simp (maxSteps := 2000000) only [gs,zlr,reduceIte,reduceCtorEq,zpa,zpb,zpc,zpd,zpe,zpf,zpg,zph,zpi,zpj,zpk,zpl,zpm,zpn,zpo,zpp]; rfl) (Zq rfl ⟨_, rfl, rfl⟩)
 | some r =>
  obtain ⟨v, q⟩ := r
  rw [hg] at T
  simp only [gtR] at T
  obtain ⟨r1, r2, r3, r4⟩ := gt_rng 64 0 (by omega) hg
  have hls : (h.set 0 (rdBox bs q)).length = h.length := List.length_set
  have k1 : (h.set 0 (rdBox bs q) ++ [rdBox bs p])[1]? = some (.box [.ptr 0 0 0 0, .int .i64 last.1, .int .u32 last.2.1, .int .u32 last.2.2.1, .bool last.2.2.2, .bool any, .bool ok]) := by rw [app_lt (by rw [hls]; exact l1), set_ne (by omega), s2]
  refine ⟨v, q, ok && decide (v ≤ M), (h.set 0 (rdBox bs q) ++ [rdBox bs p]).set 1 (rBox last.1 last.2.1 last.2.2.1 last.2.2.2 any (ok && decide (v ≤ M))), ?_, ⟨by rw [set_ne (by omega), app_lt (by rw [hls]; omega), set_eq (by omega)], set_eq (by rw [List.length_append, hls]; omega), r4⟩, ⟨by simp, fun j h1 h2 => by rw [set_ne (by omega), app_lt (by rw [hls]; exact h2), set_ne (by omega)]⟩, .inl ⟨rfl, rfl⟩⟩
  refine fn_delta_reader_num rfl ?_
  simp only [genvOf]
  have hd : decide (((v : Nat) : Int) ≤ ((M : Nat) : Int)) = decide (v ≤ M) := by simp only [Int.ofNat_le]
  refine Zr rfl (by simp (maxSteps := 2000000) only [gs,zlr,reduceIte,reduceCtorEq,zpa,zpb,zpc,zpd,zpe,zpf,zpg,zph,zpi,zpj,zpk,zpl,zpm,zpn,zpo,zpp]; rfl) ?_
  refine Zr rfl (by simp (maxSteps := 2000000) only [gs,zlr,reduceIte,reduceCtorEq,zpa,zpb,zpc,zpd,zpe,zpf,zpg,zph,zpi,zpj,zpk,zpl,zpm,zpn,zpo,zpp, s2, gc_gamma_Take, T]; rfl) ?_
  cases ok with
  | true =>
   refine Zr rfl (by simp (maxSteps := 2000000) only [gs,zlr,reduceIte,reduceCtorEq,zpa,zpb,zpc,zpd,zpe,zpf,zpg,zph,zpi,zpj,zpk,zpl,zpm,zpn,zpo,zpp, k1, hd]; rfl) ?_
   exact Zr rfl (by simp (maxSteps := 2000000) only [gs,zlr,reduceIte,reduceCtorEq,zpa,zpb,zpc,zpd,zpe,zpf,zpg,zph,zpi,zpj,zpk,zpl,zpm,zpn,zpo,zpp]; rfl) (Zq rfl ⟨_, rfl, rfl⟩)
  | false =>
   refine Zr rfl (by simp (maxSteps := 2000000) only [gs,zlr,reduceIte,reduceCtorEq,zpa,zpb,zpc,zpd,zpe,zpf,zpg,zph,zpi,zpj,zpk,zpl,zpm,zpn,zpo,zpp, k1]; rfl) ?_
   exact Zr rfl (by simp (maxSteps := 2000000) only [gs,zlr,reduceIte,reduceCtorEq,zpa,zpb,zpc,zpd,zpe,zpf,zpg,zph,zpi,zpj,zpk,zpl,zpm,zpn,zpo,zpp]; rfl) (Zq rfl ⟨_, rfl, rfl⟩)
theorem packed_le {bs : List Nat} {l : List Bool} (h : Packed bs l) : l.length ≤ 8 * bs.length := by
 have := h.len
 omega
theorem take1_G {h : GH} {bs : List Nat} {p : Nat} {last : Ev} {any ok : Bool} (s : RdS bs h p last any ok) (hb : ∀ b ∈ bs, b < 256) (hl : bs.length ≤ 1099511627776) :
  ∃ sg is q h', GF gtab fid_bits_Reader_Take [.ptr 0 0 0 0, .int .i64 1] h 0 = some (.tup [.int .u64 ((sg : Nat) : Int), .bool is], h') ∧ RdS bs h' q last any ok ∧ KpR h h' ∧
   ((is = true ∧ q = p + 1 ∧ sg = (rbit bs p).toNat) ∨ (is = false ∧ 8 * bs.length < p + 1)) := by
 obtain ⟨s1, s2, s3⟩ := s
 have l1 := get_lt s2
 by_cases hc : p + 1 ≤ 8 * bs.length
 ·have T := take_G (lo := 0) (c := 1) s1 hb hl (by rw [clamp1]; exact hc) (Nat.zero_le _)
  rw [clamp1, rnum1] at T
  exact ⟨_, true, p + 1, _, T, ⟨set_eq (by omega), by rw [set_ne (by omega)]; exact s2, hc⟩, ⟨by simp, fun j h1 h2 => by rw [set_ne (by omega)]⟩, .inl ⟨rfl, rfl, rfl⟩⟩
 ·have T := takeNo_G (lo := 0) (c := 1) s1 hl s3 (by rw [clamp1]; omega)
  exact ⟨0, false, p, h, T, ⟨s1, s2, s3⟩, ⟨Nat.le_refl _, fun _ _ _ => rfl⟩, .inr ⟨rfl, by omega⟩⟩
structure RdM (bs : List Nat) (h : GH) (q n m : Nat) (X : GObj) (E : List U) : Prop where
 rd : h[0]? = some (rdBox bs q)
 bx : h[1]? = some X
 z : h[n]? = some (.box [.int .i64 0, .int .u32 0, .int .u32 0, .bool false])
 e : h[m]? = some (.box E)
theorem RdM.set1 {bs : List Nat} {h : GH} {q n m : Nat} {X Y : GObj} {E : List U} (r : RdM bs h q n m X E) (hn : 2 ≤ n) (hm : 2 ≤ m) : RdM bs (h.set 1 Y) q n m Y E :=
 ⟨by rw [set_ne (by omega)]; exact r.rd, set_eq (get_lt r.bx), by rw [set_ne (by omega)]; exact r.z, by rw [set_ne (by omega)]; exact r.e⟩
theorem RdM.setm {bs : List Nat} {h : GH} {q n m : Nat} {X : GObj} {E F : List U} (r : RdM bs h q n m X E) (hn : n ≠ m) (hm : 2 ≤ m) : RdM bs (h.set m (.box F)) q n m X F :=
 ⟨by rw [set_ne (by omega)]; exact r.rd, by rw [set_ne (by omega)]; exact r.bx, by rw [set_ne (by omega)]; exact r.z, set_eq (get_lt r.e)⟩
theorem ev_back {T0 : Int} {U0 V0 : Nat} {A0 any : Bool} {e0 : Ev} (hd : DNext (T0, (U0 : Int), (V0 : Int), A0) any e0) {t u v sg u1 base : Nat} (ht : t = dgap (T0, (U0 : Int), (V0 : Int), A0) e0) (hu : u = du (T0, (U0 : Int), (V0 : Int), A0) any e0) (hv : v = dv (T0, (U0 : Int), (V0 : Int), A0) any e0) (hsg : sg = e0.2.2.2.toNat)
  (hu1 : u1 = (u - 1) + (if any = true ∧ t = 1 then U0 else 0)) (hb : base = if (any = true ∧ t = 1) ∧ u1 = U0 then V0 - U0 else 0) :
  ((T0 + ((t - 1 : Nat) : Int), ((u1 % 4294967296 : Nat) : Int), (((v + (u1 + base)) % 4294967296 : Nat) : Int), decide (sg = 1)) : Ev) = e0 ∧ T0 + ((t - 1 : Nat) : Int) ≤ 4611686018427387903 ∧ u1 ≤ 4294967295 ∧ v + (u1 + base) ≤ 4294967295 := by
 obtain ⟨T, U, V, A⟩ := e0
 obtain ⟨⟨b1, b2, b3⟩, ⟨b4, b5, b6⟩, ⟨b7, b8, b9, b10⟩, b11, b12⟩ := hd
 simp only at b1 b2 b3 b4 b5 b6 b7 b8 b9 b10 b11 b12 hsg
 obtain ⟨U, rfl⟩ : ∃ n : Nat, U = (n : Int) := ⟨U.toNat, by omega⟩
 obtain ⟨V, rfl⟩ : ∃ n : Nat, V = (n : Int) := ⟨V.toNat, by omega⟩
 have hdg : t = (T - T0 + 1).toNat := ht
 have ht1 : t = 1 ↔ T = T0 := by omega
 have hsame : dsame (T0, (U0 : Int), (V0 : Int), A0) any (T, (U : Int), (V : Int), A) = (any && decide (T = T0)) := rfl
 have hU : u1 = U := by
  rw [hu] at hu1
  unfold du at hu1
  rw [hsame] at hu1
  simp only [Bool.and_eq_true, decide_eq_true_eq] at hu1
  by_cases hc : any = true ∧ t = 1
  ·rw [if_pos hc, if_pos ⟨hc.1, ht1.1 hc.2⟩] at hu1
   have := b12 hc.1 (ht1.1 hc.2)
   omega
  ·rw [if_neg hc, if_neg (fun h => hc ⟨h.1, ht1.2 h.2⟩)] at hu1
   omega
 have hV : v + (u1 + base) = V := by
  rw [hv, hU, hb, hU]
  unfold dv
  rw [hsame]
  simp only [Bool.and_eq_true, decide_eq_true_eq, Int.ofNat_inj]
  by_cases hc : (any = true ∧ t = 1) ∧ U = U0
  ·rw [if_pos hc, if_pos ⟨⟨hc.1.1, ht1.1 hc.1.2⟩, hc.2⟩]
   have h1 := b12 hc.1.1 (ht1.1 hc.1.2)
   have h2 := b11 hc.1.1
   have := h1.2 (by rw [hc.2])
   omega
  ·rw [if_neg hc, if_neg (fun h => hc ⟨⟨h.1.1, ht1.2 h.1.2⟩, h.2⟩)]
   omega
 have hA : decide (sg = 1) = A := by rw [hsg]; cases A <;> rfl
 rw [hV, hU, hA, Nat.mod_eq_of_lt (by omega), Nat.mod_eq_of_lt (by omega)]
 refine ⟨?_, by omega, by omega, by omega⟩
 rw [show T0 + ((t - 1 : Nat) : Int) = T by omega]
set_option maxHeartbeats 4000000 in
theorem event_G {h : GH} {bs : List Nat} {p : Nat} {last : Ev} {any : Bool} (s : RdS bs h p last any true) (hb : ∀ b ∈ bs, b < 256) (hl : bs.length ≤ 1099511627776) (hT : 0 ≤ last.1 ∧ last.1 ≤ 4611686018427387903)
  (hUV : (0 ≤ last.2.1 ∧ last.2.1 ≤ 4294967295) ∧ (0 ≤ last.2.2.1 ∧ last.2.2.1 ≤ 4294967295)) (hany : any = true → last.2.1 < last.2.2.1) :
  ∃ (e : Ev) (q : Nat) (last' : Ev) (any' ok' : Bool) (h' : GH), GF gtab fid_delta_reader_event [.ptr 1 0 0 0] h 0 = some (.agg [.int .i64 e.1, .int .u32 e.2.1, .int .u32 e.2.2.1, .bool e.2.2.2], h') ∧ RdS bs h' q last' any' ok' ∧
   ((0 ≤ e.2.1 ∧ e.2.1 ≤ 4294967295) ∧ (0 ≤ e.2.2.1 ∧ e.2.2.1 ≤ 4294967295)) ∧ (ok' = true → last' = e ∧ any' = true ∧ 0 ≤ e.1 ∧ e.1 ≤ 4611686018427387903) ∧
   (∀ (e0 : Ev) (pre post : List Bool), DNext last any e0 → Packed bs (pre ++ (dbits last any e0 ++ post)) → p = pre.length → ok' = true ∧ e = e0 ∧ q = (pre ++ dbits last any e0).length) := by
 have key : ∃ u h', GF gtab fid_delta_reader_event [.ptr 1 0 0 0] h 0 = some (u, h') ∧ ∃ (e : Ev) (q : Nat) (last' : Ev) (any' ok' : Bool), u = .agg [.int .i64 e.1, .int .u32 e.2.1, .int .u32 e.2.2.1, .bool e.2.2.2] ∧ RdS bs h' q last' any' ok' ∧
   ((0 ≤ e.2.1 ∧ e.2.1 ≤ 4294967295) ∧ (0 ≤ e.2.2.1 ∧ e.2.2.1 ≤ 4294967295)) ∧ (ok' = true → last' = e ∧ any' = true ∧ 0 ≤ e.1 ∧ e.1 ≤ 4611686018427387903) ∧
   (∀ (e0 : Ev) (pre post : List Bool), DNext last any e0 → Packed bs (pre ++ (dbits last any e0 ++ post)) → p = pre.length → ok' = true ∧ e = e0 ∧ q = (pre ++ dbits last any e0).length) := by
  have hl1 := get_lt s.bx
  have s1 : RdS bs (h ++ [GObj.box [.int .i64 0, .int .u32 0, .int .u32 0, .bool false]]) p last any true := ⟨by rw [app_lt (by omega)]; exact s.rd, by rw [app_lt hl1]; exact s.bx, s.le⟩
  have hz1 : (h ++ [GObj.box [.int .i64 0, .int .u32 0, .int .u32 0, .bool false]])[h.length]? = some (GObj.box [.int .i64 0, .int .u32 0, .int .u32 0, .bool false]) := dapp_eq
  have hlen1 : (h ++ [GObj.box [.int .i64 0, .int .u32 0, .int .u32 0, .bool false]]).length = h.length + 1 := by simp
  obtain ⟨t, q1, ok1, h2, G1, s2, kp1, c1⟩ := numD_G (M := 4611686018427387904) s1 hb hl
  have G1 : GF gtab fid_delta_reader_num [.ptr 1 0 0 0, .int .u64 4611686018427387904] (h ++ [GObj.box [.int .i64 0, .int .u32 0, .int .u32 0, .bool false]]) 0 = some (.int .u64 ((t : Nat) : Int), h2) := G1
  obtain ⟨sg, is, q2, h3, G2, s3, kp2, c2⟩ := take1_G s2 hb hl
  obtain ⟨u, q3, ok3, h4, G3, s4, kp3, c3⟩ := numD_G (M := 4294967296) s3 hb hl
  have G3 : GF gtab fid_delta_reader_num [.ptr 1 0 0 0, .int .u64 4294967296] h3 0 = some (.int .u64 ((u : Nat) : Int), h4) := G3
  obtain ⟨v, q4, ok4, h5, G4, s5, kp4, c4⟩ := numD_G (M := 4294967296) s4 hb hl
  have G4 : GF gtab fid_delta_reader_num [.ptr 1 0 0 0, .int .u64 4294967296] h4 0 = some (.int .u64 ((v : Nat) : Int), h5) := G4
  have KP := kp1.trans (kp2.trans (kp3.trans kp4))
  have hz5 := KP.2 h.length (by omega) (by rw [hlen1]; omega)
  rw [hz1] at hz5
  have COMP : ∀ (e0 : Ev) (pre post : List Bool), DNext last any e0 → Packed bs (pre ++ (dbits last any e0 ++ post)) → p = pre.length → (ok4 && is) = true ∧ t = dgap last e0 ∧ sg = e0.2.2.2.toNat ∧ u = du last any e0 ∧ v = dv last any e0 ∧ q4 = (pre ++ dbits last any e0).length := by
   intro e0 pre post hd hp hpl
   have a1 := hd.gap
   have a2 := hd.u
   have a3 := hd.v
   have hp1 : Packed bs (pre ++ gbits (dgap last e0) ++ ([e0.2.2.2] ++ (gbits (du last any e0) ++ gbits (dv last any e0)) ++ post)) := by
    have : pre ++ (dbits last any e0 ++ post) = pre ++ gbits (dgap last e0) ++ ([e0.2.2.2] ++ (gbits (du last any e0) ++ gbits (dv last any e0)) ++ post) := by unfold dbits; simp only [List.append_assoc]
    rw [← this]; exact hp
   have g1 := gt_packed hp1 (by omega) (by omega)
   rw [← hpl] at g1
   rcases c1 with ⟨e1, e2⟩ | ⟨e1, _⟩
   rotate_left
   ·rw [g1] at e1; cases e1
   rw [g1] at e1
   simp only [Option.some.injEq, Prod.mk.injEq] at e1
   obtain ⟨t1, t2⟩ := e1
   have hle := packed_le hp1
   simp only [List.length_append, List.length_singleton] at hle t2
   rcases c2 with ⟨i1, i2, i3⟩ | ⟨_, i2⟩
   rotate_left
   ·omega
   have hbit := Packed.rbit hp1 q1
   have hq1 : q1 = (pre ++ gbits (dgap last e0)).length := by rw [List.length_append]; omega
   rw [List.getD_eq_getElem?_getD, hq1, List.getElem?_append_right (Nat.le_refl _), Nat.sub_self] at hbit
   simp only [List.singleton_append, List.cons_append, List.getElem?_cons_zero, Option.getD_some] at hbit
   rw [← hq1] at hbit
   have hp2 : Packed bs ((pre ++ gbits (dgap last e0) ++ [e0.2.2.2]) ++ gbits (du last any e0) ++ (gbits (dv last any e0) ++ post)) := by
    have : pre ++ (dbits last any e0 ++ post) = (pre ++ gbits (dgap last e0) ++ [e0.2.2.2]) ++ gbits (du last any e0) ++ (gbits (dv last any e0) ++ post) := by unfold dbits; simp only [List.append_assoc]
    rw [← this]; exact hp
   have g2 := gt_packed hp2 (by omega) (by omega)
   have hq2 : q2 = (pre ++ gbits (dgap last e0) ++ [e0.2.2.2]).length := by simp only [List.length_append, List.length_singleton]; omega
   rw [← hq2] at g2
   rcases c3 with ⟨e3, e4⟩ | ⟨e3, _⟩
   rotate_left
   ·rw [g2] at e3; cases e3
   rw [g2] at e3
   simp only [Option.some.injEq, Prod.mk.injEq] at e3
   obtain ⟨u1, u2⟩ := e3
   have hp3 : Packed bs ((pre ++ gbits (dgap last e0) ++ [e0.2.2.2] ++ gbits (du last any e0)) ++ gbits (dv last any e0) ++ post) := by
    have : pre ++ (dbits last any e0 ++ post) = (pre ++ gbits (dgap last e0) ++ [e0.2.2.2] ++ gbits (du last any e0)) ++ gbits (dv last any e0) ++ post := by unfold dbits; simp only [List.append_assoc]
    rw [← this]; exact hp
   have g3 := gt_packed hp3 (by omega) (by omega)
   rw [u2] at g3
   rcases c4 with ⟨e5, e6⟩ | ⟨e5, _⟩
   rotate_left
   ·rw [g3] at e5; cases e5
   rw [g3] at e5
   simp only [Option.some.injEq, Prod.mk.injEq] at e5
   obtain ⟨v1, v2⟩ := e5
   refine ⟨?_, t1.symm, by rw [i3, hbit], u1.symm, v1.symm, ?_⟩
   ·rw [e6, e4, e2, i1]
    simp only [Bool.true_and, Bool.and_true, Bool.and_eq_true, decide_eq_true_eq]
    omega
   ·rw [← v2]
    unfold dbits
    simp only [List.length_append, List.length_singleton]
    omega
  obtain ⟨T0, U0, V0, A0⟩ := last
  simp only at hT hUV hany
  obtain ⟨U0, rfl⟩ : ∃ n : Nat, U0 = (n : Int) := ⟨U0.toNat, by omega⟩
  obtain ⟨V0, rfl⟩ : ∃ n : Nat, V0 = (n : Int) := ⟨V0.toNat, by omega⟩
  have b2 := s2.bx
  have b5 := s5.bx
  unfold rBox at b2 b5
  refine fnR_delta_reader_event rfl ?_
  simp only [genvOf]
  refine Zr rfl (by simp (maxSteps := 2000000) only [gs,zlr,reduceIte,reduceCtorEq,zpa,zpb,zpc,zpd,zpe,zpf,zpg,zph,zpi,zpj,zpk,zpl,zpm,zpn,zpo,zpp]; rfl) ?_
  refine Zr rfl (by simp (maxSteps := 2000000) only [gs,zlr,reduceIte,reduceCtorEq,zpa,zpb,zpc,zpd,zpe,zpf,zpg,zph,zpi,zpj,zpk,zpl,zpm,zpn,zpo,zpp, gc_delta_reader_num, G1]; rfl) ?_
  refine Zr rfl (by simp (maxSteps := 2000000) only [gs,zlr,reduceIte,reduceCtorEq,zpa,zpb,zpc,zpd,zpe,zpf,zpg,zph,zpi,zpj,zpk,zpl,zpm,zpn,zpo,zpp, b2, gc_bits_Reader_Take, G2]; rfl) ?_
  refine Zr rfl (by simp (maxSteps := 2000000) only [gs,zlr,reduceIte,reduceCtorEq,zpa,zpb,zpc,zpd,zpe,zpf,zpg,zph,zpi,zpj,zpk,zpl,zpm,zpn,zpo,zpp, gc_delta_reader_num, G3, G4]; rfl) ?_
  refine Zj rfl (fun env h' => RdS bs h' q4 (T0, (U0 : Int), (V0 : Int), A0) any (ok4 && is) ∧ KpR h5 h' ∧ GEnv.get env 0 = .ptr 1 0 0 0 ∧ GEnv.get env 2 = .ptr h.length 0 0 0 ∧ GEnv.get env 3 = .int .u64 ((t : Nat) : Int) ∧ GEnv.get env 4 = .int .u64 ((sg : Nat) : Int) ∧ GEnv.get env 6 = .int .u64 ((u : Nat) : Int) ∧ GEnv.get env 7 = .int .u64 ((v : Nat) : Int)) ?_ ?_
  ·have fin : ∀ x : Bool, x = (ok4 && is) → RdS bs (h5.set 1 (.box [.ptr 0 0 0 0, .int .i64 T0, .int .u32 (U0 : Int), .int .u32 (V0 : Int), .bool A0, .bool any, .bool x])) q4 (T0, (U0 : Int), (V0 : Int), A0) any (ok4 && is) ∧ KpR h5 (h5.set 1 (.box [.ptr 0 0 0 0, .int .i64 T0, .int .u32 (U0 : Int), .int .u32 (V0 : Int), .bool A0, .bool any, .bool x])) := fun x hx =>
    ⟨⟨by rw [set_ne (by omega)]; exact s5.rd, by rw [set_eq (get_lt b5), hx]; rfl, s5.le⟩, ⟨by simp, fun j h1 h2 => by rw [set_ne (by omega)]⟩⟩
   cases ok4 with
   | true =>
    refine Zr rfl (by simp (maxSteps := 2000000) only [gs,zlr,reduceIte,reduceCtorEq,zpa,zpb,zpc,zpd,zpe,zpf,zpg,zph,zpi,zpj,zpk,zpl,zpm,zpn,zpo,zpp, b5]; rfl) ?_
    exact Za rfl ⟨(fin is (by simp)).1, (fin is (by simp)).2, rfl, rfl, rfl, rfl, rfl, rfl⟩
   | false =>
    refine Zr rfl (by simp (maxSteps := 2000000) only [gs,zlr,reduceIte,reduceCtorEq,zpa,zpb,zpc,zpd,zpe,zpf,zpg,zph,zpi,zpj,zpk,zpl,zpm,zpn,zpo,zpp, b5]; rfl) ?_
    exact Za rfl ⟨(fin false (by simp)).1, (fin false (by simp)).2, rfl, rfl, rfl, rfl, rfl, rfl⟩
  rintro env h6 ⟨s6, kp6, k0, k2, k3, k4, k6, k7⟩
  have hz6 := kp6.2 h.length (by omega) (by have := KP.1; rw [hlen1] at this; omega)
  rw [hz5] at hz6
  have hl6 := get_lt hz6
  have b6 := s6.bx
  unfold rBox at b6
  cases hk : (ok4 && is) with
  | false =>
   rw [hk] at b6 s6
   refine Zr rfl (by simp (maxSteps := 2000000) only [gs,zlr,reduceIte,reduceCtorEq,zpa,zpb,zpc,zpd,zpe,zpf,zpg,zph,zpi,zpj,zpk,zpl,zpm,zpn,zpo,zpp, k0, b6]; rfl) (Zc rfl rfl (fun _ => ?_) (fun h => by cases h))
   have hzz : ∀ X : GObj, (h6.set h.length X)[h.length]? = some X := fun X => set_eq hl6
   refine Zr rfl (by simp (maxSteps := 2000000) only [gs,zlr,reduceIte,reduceCtorEq,zpa,zpb,zpc,zpd,zpe,zpf,zpg,zph,zpi,zpj,zpk,zpl,zpm,zpn,zpo,zpp, k2, hz6, Nat.zero_le]; rfl) (Zq rfl ⟨_, (by simp [gres, gload, GEnv.get, k2, hzz, gof, cut, shares, U.share, U.handed]; rfl), _, _, rfl, (0, 0, 0, false), q4, (T0, (U0 : Int), (V0 : Int), A0), any, false, rfl, ⟨by rw [set_ne (by omega)]; exact s6.rd, by rw [set_ne (by omega)]; exact s6.bx, s6.le⟩, by decide, fun h => (by cases h), fun e0 pre post a b c => absurd (COMP e0 pre post a b c).1 (by rw [hk]; simp)⟩)
  | true =>
   rw [hk] at b6 s6
   have hk2 : ok4 = true ∧ is = true := by simpa using hk
   have hv4 : 1 ≤ v ∧ v ≤ 4294967296 ∧ ok3 = true := by
    rcases c4 with ⟨e1, e2⟩ | ⟨_, _, e2⟩
    ·have := gt_rng 64 0 (by omega) e1
     rw [hk2.1] at e2
     have := e2.symm
     simp only [Bool.and_eq_true, decide_eq_true_eq] at this
     exact ⟨by omega, this.2, this.1⟩
    ·rw [hk2.1] at e2; cases e2
   have hu3 : 1 ≤ u ∧ u ≤ 4294967296 ∧ ok1 = true := by
    rcases c3 with ⟨e1, e2⟩ | ⟨_, _, e2⟩
    ·have := gt_rng 64 0 (by omega) e1
     rw [hv4.2.2] at e2
     have := e2.symm
     simp only [Bool.and_eq_true, decide_eq_true_eq] at this
     exact ⟨by omega, this.2, this.1⟩
    ·rw [hv4.2.2] at e2; cases e2
   have ht1 : 1 ≤ t ∧ t ≤ 4611686018427387904 := by
    rcases c1 with ⟨e1, e2⟩ | ⟨_, _, e2⟩
    ·have := gt_rng 64 0 (by omega) e1
     rw [hu3.2.2] at e2
     have := e2.symm
     simp only [Bool.true_and, decide_eq_true_eq] at this
     exact ⟨by omega, this⟩
    ·rw [hu3.2.2] at e2; cases e2
   have w1 : IntKind.u64.wrap (((t : Nat) : Int) - 1) = ((t - 1 : Nat) : Int) := by
    rw [show ((t : Nat) : Int) - 1 = ((t - 1 : Nat) : Int) by omega, wrap_u64_nat, Nat.mod_eq_of_lt (by omega)]
   have w2 : IntKind.i64.wrap ((t - 1 : Nat) : Int) = ((t - 1 : Nat) : Int) := wrap_i64_nat (by omega)
   have w3 : IntKind.i64.wrap (T0 + ((t - 1 : Nat) : Int)) = T0 + ((t - 1 : Nat) : Int) := wrap_i64 (by omega) (by omega)
   have w4 : IntKind.u64.wrap (((u : Nat) : Int) - 1) = ((u - 1 : Nat) : Int) := by
    rw [show ((u : Nat) : Int) - 1 = ((u - 1 : Nat) : Int) by omega, wrap_u64_nat, Nat.mod_eq_of_lt (by omega)]
   have hsg : (((sg : Nat) : Int) == 1) = decide (sg = 1) := by
    by_cases h : sg = 1
    ·subst h; rfl
    ·rw [beq_eq_false_iff_ne.2 (by omega), decide_eq_false h]
   obtain ⟨u1, hu1⟩ : ∃ u1, u1 = (u - 1) + (if any = true ∧ t = 1 then U0 else 0) := ⟨_, rfl⟩
   obtain ⟨ba, hba⟩ : ∃ ba, ba = if (any = true ∧ t = 1) ∧ u1 = U0 then V0 - U0 else 0 := ⟨_, rfl⟩
   have COMP2 : ∀ (e0 : Ev) (pre post : List Bool), DNext (T0, (U0 : Int), (V0 : Int), A0) any e0 → Packed bs (pre ++ (dbits (T0, (U0 : Int), (V0 : Int), A0) any e0 ++ post)) → p = pre.length → ((T0 + ((t - 1 : Nat) : Int), ((u1 % 4294967296 : Nat) : Int), (((v + (u1 + ba)) % 4294967296 : Nat) : Int), decide (sg = 1)) : Ev) = e0 ∧ T0 + ((t - 1 : Nat) : Int) ≤ 4611686018427387903 ∧ u1 ≤ 4294967295 ∧ v + (u1 + ba) ≤ 4294967295 ∧ q4 = (pre ++ dbits (T0, (U0 : Int), (V0 : Int), A0) any e0).length := fun e0 pre post a b c => by
    obtain ⟨_, e1, e2, e3, e4, e5⟩ := COMP e0 pre post a b c
    obtain ⟨x1, x2, x3, x4⟩ := ev_back a e1 e3 e4 e2 hu1 hba
    exact ⟨x1, x2, x3, x4, e5⟩
   have hu1b : u1 ≤ 8589934592 := by rw [hu1]; split <;> omega
   have hbab : ba ≤ 4294967296 := by rw [hba]; split <;> omega
   refine Zr rfl (by simp (maxSteps := 2000000) only [gs,zlr,reduceIte,reduceCtorEq,zpa,zpb,zpc,zpd,zpe,zpf,zpg,zph,zpi,zpj,zpk,zpl,zpm,zpn,zpo,zpp, k0, b6]; rfl) (Zc rfl rfl (fun h => by cases h) (fun _ => ?_))
   refine Zr rfl (by simp (maxSteps := 2000000) only [gs,zlr,reduceIte,reduceCtorEq,zpa,zpb,zpc,zpd,zpe,zpf,zpg,zph,zpi,zpj,zpk,zpl,zpm,zpn,zpo,zpp, k0, k3, k4, b6, w1, w2, w3, hsg, dapp_eq, dapp_set, Nat.zero_le]; rfl) ?_
   refine Zr rfl (by simp (maxSteps := 2000000) only [gs,zlr,reduceIte,reduceCtorEq,zpa,zpb,zpc,zpd,zpe,zpf,zpg,zph,zpi,zpj,zpk,zpl,zpm,zpn,zpo,zpp, k6, w4]; rfl) ?_
   refine Zr rfl (by simp (maxSteps := 2000000) only [gs,zlr,reduceIte,reduceCtorEq,zpa,zpb,zpc,zpd,zpe,zpf,zpg,zph,zpi,zpj,zpk,zpl,zpm,zpn,zpo,zpp]; rfl) ?_
   have hm2 : 2 ≤ h6.length := by omega
   have r7 : RdM bs (h6 ++ [GObj.box [.int .i64 (T0 + ((t - 1 : Nat) : Int)), .int .u32 0, .int .u32 0, .bool (decide (sg = 1))]]) q4 h.length h6.length (.box [.ptr 0 0 0 0, .int .i64 T0, .int .u32 (U0 : Int), .int .u32 (V0 : Int), .bool A0, .bool any, .bool true]) [.int .i64 (T0 + ((t - 1 : Nat) : Int)), .int .u32 0, .int .u32 0, .bool (decide (sg = 1))] :=
    ⟨by rw [app_lt (by omega)]; exact s6.rd, by rw [app_lt (by omega)]; exact b6, by rw [app_lt hl6]; exact hz6, dapp_eq⟩
   refine Z_nrm 1 (Zj2 (fun env h' => RdM bs h' q4 h.length h6.length (.box [.ptr 0 0 0 0, .int .i64 T0, .int .u32 (U0 : Int), .int .u32 (V0 : Int), .bool A0, .bool any, .bool true]) [.int .i64 (T0 + ((t - 1 : Nat) : Int)), .int .u32 0, .int .u32 0, .bool (decide (sg = 1))] ∧ GEnv.get env 0 = .ptr 1 0 0 0 ∧ GEnv.get env 2 = .ptr h.length 0 0 0 ∧ GEnv.get env 6 = .int .u64 ((u1 : Nat) : Int) ∧ GEnv.get env 7 = .int .u64 ((v : Nat) : Int) ∧ GEnv.get env 8 = .ptr h6.length 0 0 0 ∧ GEnv.get env 9 = .int .u64 ((ba : Nat) : Int)) ?_ ?_)
   ·have b7 := r7.bx
    cases any with
    | false =>
     rw [if_neg (by simp)] at hu1 hba
     refine Zr rfl (by simp (maxSteps := 2000000) only [gs,zlr,reduceIte,reduceCtorEq,zpa,zpb,zpc,zpd,zpe,zpf,zpg,zph,zpi,zpj,zpk,zpl,zpm,zpn,zpo,zpp, k0, b7]; rfl) (Zc rfl rfl (fun h => by cases h) (fun _ => ?_))
     exact Za rfl ⟨r7, by simp [GEnv.get, k0], by simp [GEnv.get, k2], by simp [GEnv.get, hu1], by simp [GEnv.get, k7], by simp [GEnv.get], by simp [GEnv.get, hba]⟩
    | true =>
     by_cases ht : t = 1
     ·have hb1 : (((t : Nat) : Int) == 1) = true := by rw [ht]; rfl
      rw [if_pos ⟨rfl, ht⟩] at hu1
      have w5 : IntKind.u64.wrap ((U0 : Nat) : Int) = ((U0 : Nat) : Int) := by rw [wrap_u64_nat, Nat.mod_eq_of_lt (by omega)]
      have w6 : IntKind.u64.wrap (((u - 1 : Nat) : Int) + ((U0 : Nat) : Int)) = ((u1 : Nat) : Int) := by
       rw [show ((u - 1 : Nat) : Int) + ((U0 : Nat) : Int) = ((u1 : Nat) : Int) by omega, wrap_u64_nat, Nat.mod_eq_of_lt (by omega)]
      refine Zr rfl (by simp (maxSteps := 2000000) only [gs,zlr,reduceIte,reduceCtorEq,zpa,zpb,zpc,zpd,zpe,zpf,zpg,zph,zpi,zpj,zpk,zpl,zpm,zpn,zpo,zpp, k0, k3, b7, hb1]; rfl) (Zc rfl rfl (fun _ => ?_) (fun h => by cases h))
      refine Zr rfl (by simp (maxSteps := 2000000) only [gs,zlr,reduceIte,reduceCtorEq,zpa,zpb,zpc,zpd,zpe,zpf,zpg,zph,zpi,zpj,zpk,zpl,zpm,zpn,zpo,zpp, k0, b7, w5, w6]; rfl) ?_
      by_cases hU : u1 = U0
      ·have hbU : (((u1 : Nat) : Int) == ((U0 : Nat) : Int)) = true := by rw [hU]; exact beq_self_eq_true _
       rw [if_pos ⟨⟨rfl, ht⟩, hU⟩] at hba
       have hlt := hany rfl
       have w7 : IntKind.u64.wrap ((V0 : Nat) : Int) = ((V0 : Nat) : Int) := by rw [wrap_u64_nat, Nat.mod_eq_of_lt (by omega)]
       have w8 : IntKind.u64.wrap (((V0 : Nat) : Int) - ((u1 : Nat) : Int)) = ((ba : Nat) : Int) := by
        rw [show ((V0 : Nat) : Int) - ((u1 : Nat) : Int) = ((ba : Nat) : Int) by omega, wrap_u64_nat, Nat.mod_eq_of_lt (by omega)]
       refine Zr rfl (by simp (maxSteps := 2000000) only [gs,zlr,reduceIte,reduceCtorEq,zpa,zpb,zpc,zpd,zpe,zpf,zpg,zph,zpi,zpj,zpk,zpl,zpm,zpn,zpo,zpp, k0, b7, w5, hbU]; rfl) (Zc rfl rfl (fun _ => ?_) (fun h => by cases h))
       refine Zr rfl (by simp (maxSteps := 2000000) only [gs,zlr,reduceIte,reduceCtorEq,zpa,zpb,zpc,zpd,zpe,zpf,zpg,zph,zpi,zpj,zpk,zpl,zpm,zpn,zpo,zpp, k0, b7, w7, w8]; rfl) ?_
       exact Za rfl ⟨r7, by simp [GEnv.get, k0], by simp [GEnv.get, k2], by simp [GEnv.get], by simp [GEnv.get, k7], by simp [GEnv.get], by simp [GEnv.get]⟩
      ·have hbU : (((u1 : Nat) : Int) == ((U0 : Nat) : Int)) = false := beq_eq_false_iff_ne.2 (by omega)
       rw [if_neg (fun h => hU h.2)] at hba
       refine Zr rfl (by simp (maxSteps := 2000000) only [gs,zlr,reduceIte,reduceCtorEq,zpa,zpb,zpc,zpd,zpe,zpf,zpg,zph,zpi,zpj,zpk,zpl,zpm,zpn,zpo,zpp, k0, b7, w5, hbU]; rfl) (Zc rfl rfl (fun h => by cases h) (fun _ => ?_))
       exact Za rfl ⟨r7, by simp [GEnv.get, k0], by simp [GEnv.get, k2], by simp [GEnv.get], by simp [GEnv.get, k7], by simp [GEnv.get], by simp [GEnv.get, hba]⟩
     ·have hb1 : (((t : Nat) : Int) == 1) = false := beq_eq_false_iff_ne.2 (by omega)
      rw [if_neg (fun h => ht h.2)] at hu1
      rw [if_neg (fun h => ht h.1.2)] at hba
      refine Zr rfl (by simp (maxSteps := 2000000) only [gs,zlr,reduceIte,reduceCtorEq,zpa,zpb,zpc,zpd,zpe,zpf,zpg,zph,zpi,zpj,zpk,zpl,zpm,zpn,zpo,zpp, k0, k3, b7, hb1]; rfl) (Zc rfl rfl (fun h => by cases h) (fun _ => ?_))
      exact Za rfl ⟨r7, by simp [GEnv.get, k0], by simp [GEnv.get, k2], by simp [GEnv.get, hu1], by simp [GEnv.get, k7], by simp [GEnv.get], by simp [GEnv.get, hba]⟩
   rintro env h8 ⟨r8, k0, k2, k6, k7, k8, k9⟩
   have w10 : IntKind.u64.wrap (((u1 : Nat) : Int) + ((ba : Nat) : Int)) = ((u1 + ba : Nat) : Int) := by rw [u64_sum, Nat.mod_eq_of_lt (by omega)]
   have w11 : IntKind.u64.wrap (((v : Nat) : Int) + ((u1 + ba : Nat) : Int)) = ((v + (u1 + ba) : Nat) : Int) := by rw [u64_sum, Nat.mod_eq_of_lt (by omega)]
   refine Zr rfl (by simp (maxSteps := 2000000) only [gs,zlr,reduceIte,reduceCtorEq,zpa,zpb,zpc,zpd,zpe,zpf,zpg,zph,zpi,zpj,zpk,zpl,zpm,zpn,zpo,zpp, k7, k6, k9, w10, w11]; rfl) ?_
   obtain ⟨v1, hv1⟩ : ∃ v1, v1 = v + (u1 + ba) := ⟨_, rfl⟩
   rw [← hv1] at COMP2 ⊢
   refine Zj rfl (fun env h' => RdM bs h' q4 h.length h6.length (.box [.ptr 0 0 0 0, .int .i64 T0, .int .u32 (U0 : Int), .int .u32 (V0 : Int), .bool A0, .bool any, .bool (decide (T0 + ((t - 1 : Nat) : Int) ≤ 4611686018427387903) && (decide (((u1 : Nat) : Int) ≤ 4294967295) && decide (((v1 : Nat) : Int) ≤ 4294967295)))]) [.int .i64 (T0 + ((t - 1 : Nat) : Int)), .int .u32 0, .int .u32 0, .bool (decide (sg = 1))] ∧ GEnv.get env 0 = .ptr 1 0 0 0 ∧ GEnv.get env 2 = .ptr h.length 0 0 0 ∧ GEnv.get env 6 = .int .u64 ((u1 : Nat) : Int) ∧ GEnv.get env 7 = .int .u64 ((v1 : Nat) : Int) ∧ GEnv.get env 8 = .ptr h6.length 0 0 0) ?_ ?_
   ·have b8 := r8.bx
    have e8 := r8.e
    cases hd1 : decide (T0 + ((t - 1 : Nat) : Int) ≤ 4611686018427387903) <;> cases hd2 : decide (((u1 : Nat) : Int) ≤ 4294967295) <;> cases hd3 : decide (((v1 : Nat) : Int) ≤ 4294967295) <;>
     exact Zr rfl (by simp (maxSteps := 2000000) only [gs,zlr,reduceIte,reduceCtorEq,zpa,zpb,zpc,zpd,zpe,zpf,zpg,zph,zpi,zpj,zpk,zpl,zpm,zpn,zpo,zpp, k0, k6, k8, b8, e8, hd1, hd2, hd3]; rfl) (Za rfl ⟨r8.set1 (by omega) hm2, by simp [GEnv.get, k0], by simp [GEnv.get, k2], by simp [GEnv.get, k6], by simp [GEnv.get], by simp [GEnv.get, k8]⟩)
   rintro env h9 ⟨r9, k0, k2, k6, k7, k8⟩
   generalize hok : (decide (T0 + ((t - 1 : Nat) : Int) ≤ 4611686018427387903) && (decide (((u1 : Nat) : Int) ≤ 4294967295) && decide (((v1 : Nat) : Int) ≤ 4294967295))) = okv at r9
   have c5 : IntKind.u32.wrap ((u1 : Nat) : Int) = ((u1 % 4294967296 : Nat) : Int) := wrap_u32_nat u1
   have c6 : IntKind.u32.wrap ((v1 : Nat) : Int) = ((v1 % 4294967296 : Nat) : Int) := wrap_u32_nat v1
   have hnm : h.length ≠ h6.length := by omega
   refine Zj rfl (fun env h' => RdM bs h' q4 h.length h6.length (.box [.ptr 0 0 0 0, .int .i64 T0, .int .u32 (U0 : Int), .int .u32 (V0 : Int), .bool A0, .bool any, .bool okv]) [.int .i64 (T0 + ((t - 1 : Nat) : Int)), .int .u32 ((u1 % 4294967296 : Nat) : Int), .int .u32 ((v1 % 4294967296 : Nat) : Int), .bool (decide (sg = 1))] ∧ GEnv.get env 0 = .ptr 1 0 0 0 ∧ GEnv.get env 2 = .ptr h.length 0 0 0 ∧ GEnv.get env 8 = .ptr h6.length 0 0 0) ?_ ?_
   ·have e9 := r9.e
    refine Zr rfl (by simp (maxSteps := 2000000) only [gs,zlr,reduceIte,reduceCtorEq,zpa,zpb,zpc,zpd,zpe,zpf,zpg,zph,zpi,zpj,zpk,zpl,zpm,zpn,zpo,zpp, k6, k7, k8, c5, c6, e9, Nat.zero_le]; rfl) ?_
    exact Za rfl ⟨r9.setm hnm hm2, by simp [GEnv.get, k0], by simp [GEnv.get, k2], by simp [GEnv.get, k8]⟩
   rintro env hA ⟨rA, k0, k2, k8⟩
   refine Zj rfl (fun env h' => RdM bs h' q4 h.length h6.length (.box [.ptr 0 0 0 0, .int .i64 (T0 + ((t - 1 : Nat) : Int)), .int .u32 ((u1 % 4294967296 : Nat) : Int), .int .u32 ((v1 % 4294967296 : Nat) : Int), .bool (decide (sg = 1)), .bool true, .bool okv]) [.int .i64 (T0 + ((t - 1 : Nat) : Int)), .int .u32 ((u1 % 4294967296 : Nat) : Int), .int .u32 ((v1 % 4294967296 : Nat) : Int), .bool (decide (sg = 1))] ∧ GEnv.get env 0 = .ptr 1 0 0 0 ∧ GEnv.get env 2 = .ptr h.length 0 0 0 ∧ GEnv.get env 8 = .ptr h6.length 0 0 0) ?_ ?_
   ·have bA := rA.bx
    have eA := rA.e
    have hset : ∀ x : GObj, (hA.set 1 x)[1]? = some x := fun x => set_eq (get_lt bA)
    have hss : ∀ x y : GObj, (hA.set 1 x).set 1 y = hA.set 1 y := fun x y => List.set_set ..
    refine Zr rfl (by simp (maxSteps := 2000000) only [gs,zlr,reduceIte,reduceCtorEq,zpa,zpb,zpc,zpd,zpe,zpf,zpg,zph,zpi,zpj,zpk,zpl,zpm,zpn,zpo,zpp, k0, k8, bA, eA, hset, hss]; rfl) ?_
    exact Za rfl ⟨rA.set1 (by omega) hm2, by simp [GEnv.get, k0], by simp [GEnv.get, k2], by simp [GEnv.get, k8]⟩
   rintro env hB ⟨rB, k0, k2, k8⟩
   have eB := rB.e
   have zB := rB.z
   have hzz : ∀ X : GObj, (hB.set h.length X)[h.length]? = some X := fun X => set_eq (get_lt zB)
   refine Zr rfl (by simp (maxSteps := 2000000) only [gs,zlr,reduceIte,reduceCtorEq,zpa,zpb,zpc,zpd,zpe,zpf,zpg,zph,zpi,zpj,zpk,zpl,zpm,zpn,zpo,zpp, k2, k8, eB, zB, Nat.zero_le]; rfl) (Zq rfl ⟨_, (by simp [gres, gload, GEnv.get, k2, hzz, gof, cut, shares, U.share, U.handed]; rfl), _, _, rfl, (T0 + ((t - 1 : Nat) : Int), ((u1 % 4294967296 : Nat) : Int), ((v1 % 4294967296 : Nat) : Int), decide (sg = 1)), q4, (T0 + ((t - 1 : Nat) : Int), ((u1 % 4294967296 : Nat) : Int), ((v1 % 4294967296 : Nat) : Int), decide (sg = 1)), true, okv, rfl, ⟨by rw [set_ne (by omega)]; exact rB.rd, by rw [set_ne (by omega)]; exact rB.bx, s6.le⟩, ⟨by simp only; omega, by simp only; omega⟩, fun h => ⟨rfl, rfl, by simp only; omega, ?_⟩, fun e0 pre post a b c => ?_⟩)
   ·rw [h] at hok
    simp only [Bool.and_eq_true, decide_eq_true_eq] at hok
    exact hok.1
   ·obtain ⟨x1, x2, x3, x4, x5⟩ := COMP2 e0 pre post a b c
    refine ⟨?_, x1, x5⟩
    rw [← hok]
    simp only [Bool.and_eq_true, decide_eq_true_eq]
    omega
 obtain ⟨u, h', h1, e, q, last', any', ok', rfl, h2⟩ := key
 exact ⟨e, q, last', any', ok', h', h1, h2⟩
end Go.Ab
namespace Go.Ab
open Go
open Nat renaming reduceEqDiff → zpa, reduceLT → zpb, reduceAdd → zpc, reduceSub → zpd, reduceLeDiff → zpe, reduceMul → zpf
open Int renaming reduceToNat → zpg, reduceLT → zph, reduceLE → zpi, reduceEq → zpj, reduceNe → zpk, reduceBEq → zpl, reduceBNe → zpm, reduceAdd → zpn, reduceSub → zpo, reduceNeg → zpp
open List renaming replicate → zlr
set_option linter.unusedVariables false
set_option linter.unusedSimpArgs false
set_option maxRecDepth 10000
theorem ecast_inj : ∀ {a b : List Nat}, (a.map fun (n : Nat) => (n : Int)) = b.map (fun (n : Nat) => (n : Int)) → a = b
 | [], [], _ => rfl
 | [], _ :: _, h => by cases h
 | _ :: _, [], h => by cases h
 | x :: a, y :: b, h => by
  simp only [List.map_cons, List.cons.injEq] at h
  rw [ecast_inj h.2, Int.ofNat_inj.1 h.1]
theorem ebeq (a b : List Nat) : ((a.map fun (n : Nat) => (n : Int)) == b.map fun (n : Nat) => (n : Int)) = decide (a = b) := by
 by_cases h : a = b
 ·subst h; simp
 ·rw [decide_eq_false h]
  exact beq_eq_false_iff_ne.2 fun e => h (ecast_inj e)
theorem eequal_G {x y : List Nat} : GF gtab fid_bytes_Equal [.list false 1 (un .u8 x), .list false 1 (un .u8 y)] [] 0 = some (.bool (decide (x = y)), []) := by
 refine fn_bytes_Equal rfl ?_
 simp only [genvOf]
 have h := ebeq x y
 refine Zr rfl (by simp (maxSteps := 2000000) only [gs,zlr,reduceIte,reduceCtorEq,zpa,zpb,zpc,zpd,zpe,zpf,zpg,zph,zpi,zpj,zpk,zpl,zpm,zpn,zpo,zpp]; rfl) ?_
 exact Zr rfl (by simp (maxSteps := 2000000) only [gs,zlr,reduceIte,reduceCtorEq,zpa,zpb,zpc,zpd,zpe,zpf,zpg,zph,zpi,zpj,zpk,zpl,zpm,zpn,zpo,zpp, gbytesOf_un, h]; rfl) (Zq rfl ⟨_, rfl, rfl⟩)
theorem sameEv_G {w1 w2 : U} {A B : List Ev} (h1 : isVa w1 A) (h2 : isVa w2 B) (hl : A.length ≤ 1000) (hl2 : B.length ≤ 1000) : GF gtab fid_archipelagoref8_SameEvents [w1, w2] [] 0 = some (.bool (decide (A = B)), []) := by
 refine fn_archipelagoref8_SameEvents rfl ?_
 simp only [genvOf]
 have zz : ((0 : Int) != 0) = false := rfl
 rcases h1 with rfl | ⟨rfl, rfl⟩
 ·rcases h2 with rfl | ⟨rfl, rfl⟩
  ·by_cases hlen : A.length = B.length
   case neg =>
    have f1 : ((A.length : Int) != (B.length : Int)) = true := by rw [bne_iff_ne]; omega
    rw [show decide (A = B) = false from decide_eq_false (fun h => hlen (by rw [h]))]
    refine Zr rfl (by simp (maxSteps := 2000000) only [gs,zlr,reduceIte,reduceCtorEq,zpa,zpb,zpc,zpd,zpe,zpf,zpg,zph,zpi,zpj,zpk,zpl,zpm,zpn,zpo,zpp]; rfl) ?_
    refine Zr rfl (by simp (maxSteps := 2000000) only [gs,zlr,reduceIte,reduceCtorEq,zpa,zpb,zpc,zpd,zpe,zpf,zpg,zph,zpi,zpj,zpk,zpl,zpm,zpn,zpo,zpp, uvs_length, f1]; rfl) (Zc rfl rfl (fun _ => ?_) (fun h => by cases h))
    exact Zr rfl (by simp (maxSteps := 2000000) only [gs,zlr,reduceIte,reduceCtorEq,zpa,zpb,zpc,zpd,zpe,zpf,zpg,zph,zpi,zpj,zpk,zpl,zpm,zpn,zpo,zpp]; rfl) (Zq rfl ⟨_, rfl, rfl⟩)
   have f1 : ((A.length : Int) != (B.length : Int)) = false := by rw [hlen]; simp
   refine Zr rfl (by simp (maxSteps := 2000000) only [gs,zlr,reduceIte,reduceCtorEq,zpa,zpb,zpc,zpd,zpe,zpf,zpg,zph,zpi,zpj,zpk,zpl,zpm,zpn,zpo,zpp]; rfl) ?_
   refine Zr rfl (by simp (maxSteps := 2000000) only [gs,zlr,reduceIte,reduceCtorEq,zpa,zpb,zpc,zpd,zpe,zpf,zpg,zph,zpi,zpj,zpk,zpl,zpm,zpn,zpo,zpp, uvs_length, f1]; rfl) (Zc rfl rfl (fun h => by cases h) (fun _ => ?_))
   refine Zr rfl (by simp (maxSteps := 2000000) only [gs,zlr,reduceIte,reduceCtorEq,zpa,zpb,zpc,zpd,zpe,zpf,zpg,zph,zpi,zpj,zpk,zpl,zpm,zpn,zpo,zpp]; rfl) ?_
   refine Zw rfl (fun n env h => h = [] ∧ ∃ i : Nat, (∀ j, j < i → A[j]? = B[j]?) ∧ GEnv.get env 0 = .list false 4 (uvs A) ∧ GEnv.get env 1 = .list false 4 (uvs B) ∧ GEnv.get env 5 = .int .i64 (i : Int) ∧ n + i = A.length) A.length ⟨rfl, 0, fun j h => absurd h (by omega), rfl, rfl, rfl, rfl⟩ ?_
   rintro n env h ⟨rfl, i, heq, k0, k1, k5, hn⟩
   simp only [GEnv.keep, k0, k1, k5]
   refine Zr rfl (by simp (maxSteps := 2000000) only [gs,zlr,reduceIte,reduceCtorEq,zpa,zpb,zpc,zpd,zpe,zpf,zpg,zph,zpi,zpj,zpk,zpl,zpm,zpn,zpo,zpp, uvs_length]; rfl) (Zp rfl rfl (fun hi => ?_) (fun hi => ?_))
   ·have gx : A[i]? = some (A[i]'(by omega)) := List.getElem?_eq_getElem _
    have gy : B[i]? = some (B[i]'(by omega)) := List.getElem?_eq_getElem _
    generalize A[i]'(by omega) = d at gx
    generalize B[i]'(by omega) = e at gy
    have n0 : ((0 : Int) ≤ (i : Int)) = True := eq_true (by omega)
    have hinc := up64 (show i < 9223372036854775807 by omega)
    skip
    by_cases hde : d = e
    ·subst hde
     have heq2 : ∀ j, j < i + 1 → A[j]? = B[j]? := fun j hj => by
      by_cases hji : j = i
      ·subst hji; rw [gx, gy]
      ·exact heq j (by omega)
     refine Zd rfl (by simp (maxSteps := 2000000) only [gs,gd,zlr,id,reduceIte,reduceCtorEq,zpa,zpb,zpc,zpd,zpe,zpf,zpg,zph,zpi,zpj,zpk,zpl,zpm,zpn,zpo,zpp, n0, uvs_get gx, uvs_get gy, beq_self_eq_true]; rfl) (Zc rfl rfl (fun h => by cases h) (fun _ => ?_))
     refine Zr rfl (by simp (maxSteps := 2000000) only [gs,zlr,reduceIte,reduceCtorEq,zpa,zpb,zpc,zpd,zpe,zpf,zpg,zph,zpi,zpj,zpk,zpl,zpm,zpn,zpo,zpp, hinc]; rfl) ?_
     exact Za rfl ⟨n - 1, by omega, rfl, i + 1, heq2, rfl, rfl, rfl, by omega⟩
    ·rw [show decide (A = B) = false from decide_eq_false (fun h => hde (by rw [h, gy] at gx; exact (Option.some.inj gx).symm))]
     by_cases x1 : d.1 = e.1
     ·by_cases x2 : d.2.1 = e.2.1
      ·by_cases x3 : d.2.2.1 = e.2.2.1
       ·have x4 : (d.2.2.2 == e.2.2.2) = false := beq_eq_false_iff_ne.2 (fun h => hde (Prod.ext x1 (Prod.ext x2 (Prod.ext x3 h))))
        refine Zd rfl (by simp (maxSteps := 2000000) only [gs,gd,zlr,id,reduceIte,reduceCtorEq,zpa,zpb,zpc,zpd,zpe,zpf,zpg,zph,zpi,zpj,zpk,zpl,zpm,zpn,zpo,zpp, n0, uvs_get gx, uvs_get gy, x1, x2, x3, x4, beq_self_eq_true]; rfl) (Zc rfl rfl (fun _ => ?_) (fun h => by cases h))
        exact Zr rfl (by simp (maxSteps := 2000000) only [gs,zlr,reduceIte,reduceCtorEq,zpa,zpb,zpc,zpd,zpe,zpf,zpg,zph,zpi,zpj,zpk,zpl,zpm,zpn,zpo,zpp]; rfl) (Zq rfl ⟨_, rfl, rfl⟩)
       ·have x3' : (d.2.2.1 == e.2.2.1) = false := beq_eq_false_iff_ne.2 x3
        refine Zd rfl (by simp (maxSteps := 2000000) only [gs,gd,zlr,id,reduceIte,reduceCtorEq,zpa,zpb,zpc,zpd,zpe,zpf,zpg,zph,zpi,zpj,zpk,zpl,zpm,zpn,zpo,zpp, n0, uvs_get gx, uvs_get gy, x1, x2, x3', beq_self_eq_true]; rfl) (Zc rfl rfl (fun _ => ?_) (fun h => by cases h))
        exact Zr rfl (by simp (maxSteps := 2000000) only [gs,zlr,reduceIte,reduceCtorEq,zpa,zpb,zpc,zpd,zpe,zpf,zpg,zph,zpi,zpj,zpk,zpl,zpm,zpn,zpo,zpp]; rfl) (Zq rfl ⟨_, rfl, rfl⟩)
      ·have x2' : (d.2.1 == e.2.1) = false := beq_eq_false_iff_ne.2 x2
       refine Zd rfl (by simp (maxSteps := 2000000) only [gs,gd,zlr,id,reduceIte,reduceCtorEq,zpa,zpb,zpc,zpd,zpe,zpf,zpg,zph,zpi,zpj,zpk,zpl,zpm,zpn,zpo,zpp, n0, uvs_get gx, uvs_get gy, x1, x2', beq_self_eq_true]; rfl) (Zc rfl rfl (fun _ => ?_) (fun h => by cases h))
       exact Zr rfl (by simp (maxSteps := 2000000) only [gs,zlr,reduceIte,reduceCtorEq,zpa,zpb,zpc,zpd,zpe,zpf,zpg,zph,zpi,zpj,zpk,zpl,zpm,zpn,zpo,zpp]; rfl) (Zq rfl ⟨_, rfl, rfl⟩)
     ·have x1' : (d.1 == e.1) = false := beq_eq_false_iff_ne.2 x1
      refine Zd rfl (by simp (maxSteps := 2000000) only [gs,gd,zlr,id,reduceIte,reduceCtorEq,zpa,zpb,zpc,zpd,zpe,zpf,zpg,zph,zpi,zpj,zpk,zpl,zpm,zpn,zpo,zpp, n0, uvs_get gx, uvs_get gy, x1', beq_self_eq_true]; rfl) (Zc rfl rfl (fun _ => ?_) (fun h => by cases h))
      exact Zr rfl (by simp (maxSteps := 2000000) only [gs,zlr,reduceIte,reduceCtorEq,zpa,zpb,zpc,zpd,zpe,zpf,zpg,zph,zpi,zpj,zpk,zpl,zpm,zpn,zpo,zpp]; rfl) (Zq rfl ⟨_, rfl, rfl⟩)
   ·have hiA : i = A.length := by omega
    subst hiA
    have : A = B := List.ext_getElem? fun j => by
     by_cases hj : j < A.length
     ·exact heq j hj
     ·rw [List.getElem?_eq_none (by omega), List.getElem?_eq_none (by omega)]
    rw [show decide (A = B) = true from decide_eq_true this]
    exact Zr rfl (by simp (maxSteps := 2000000) only [gs,zlr,reduceIte,reduceCtorEq,zpa,zpb,zpc,zpd,zpe,zpf,zpg,zph,zpi,zpj,zpk,zpl,zpm,zpn,zpo,zpp]; rfl) (Zq rfl ⟨_, rfl, rfl⟩)
  ·cases A with
   | nil =>
    refine Zr rfl (by simp (maxSteps := 2000000) only [gs,zlr,reduceIte,reduceCtorEq,zpa,zpb,zpc,zpd,zpe,zpf,zpg,zph,zpi,zpj,zpk,zpl,zpm,zpn,zpo,zpp]; rfl) ?_
    refine Zr rfl (by simp (maxSteps := 2000000) only [gs,zlr,reduceIte,reduceCtorEq,zpa,zpb,zpc,zpd,zpe,zpf,zpg,zph,zpi,zpj,zpk,zpl,zpm,zpn,zpo,zpp, uvs_length, List.length_nil, Int.natCast_zero, zz]; rfl) (Zc rfl rfl (fun h => by cases h) (fun _ => ?_))
    refine Zr rfl (by simp (maxSteps := 2000000) only [gs,zlr,reduceIte,reduceCtorEq,zpa,zpb,zpc,zpd,zpe,zpf,zpg,zph,zpi,zpj,zpk,zpl,zpm,zpn,zpo,zpp, uvs_length, List.length_nil, Int.natCast_zero]; rfl) ?_
    refine Zw rfl (fun n env h => h = [] ∧ GEnv.get env 0 = .list false 4 (uvs []) ∧ GEnv.get env 1 = .nils ∧ GEnv.get env 5 = .int .i64 0) 0 ⟨rfl, rfl, rfl, rfl⟩ ?_
    rintro n env h ⟨rfl, k0, k1, k5⟩
    simp only [GEnv.keep, k0, k1, k5]
    refine Zr rfl (by simp (maxSteps := 2000000) only [gs,zlr,reduceIte,reduceCtorEq,zpa,zpb,zpc,zpd,zpe,zpf,zpg,zph,zpi,zpj,zpk,zpl,zpm,zpn,zpo,zpp, uvs_length, List.length_nil, Int.natCast_zero]; rfl) (Zc rfl rfl (fun h => by cases h) (fun _ => ?_))
    exact Zr rfl (by simp (maxSteps := 2000000) only [gs,zlr,reduceIte,reduceCtorEq,zpa,zpb,zpc,zpd,zpe,zpf,zpg,zph,zpi,zpj,zpk,zpl,zpm,zpn,zpo,zpp]; rfl) (Zq rfl ⟨_, rfl, rfl⟩)
   | cons d A =>
    have f1 : (((d :: A).length : Int) != 0) = true := by rw [bne_iff_ne]; simp only [List.length_cons]; omega
    rw [decide_eq_false (by simp)]
    refine Zr rfl (by simp (maxSteps := 2000000) only [gs,zlr,reduceIte,reduceCtorEq,zpa,zpb,zpc,zpd,zpe,zpf,zpg,zph,zpi,zpj,zpk,zpl,zpm,zpn,zpo,zpp]; rfl) ?_
    refine Zr rfl (by simp (maxSteps := 2000000) only [gs,zlr,reduceIte,reduceCtorEq,zpa,zpb,zpc,zpd,zpe,zpf,zpg,zph,zpi,zpj,zpk,zpl,zpm,zpn,zpo,zpp, uvs_length, f1]; rfl) (Zc rfl rfl (fun _ => ?_) (fun h => by cases h))
    exact Zr rfl (by simp (maxSteps := 2000000) only [gs,zlr,reduceIte,reduceCtorEq,zpa,zpb,zpc,zpd,zpe,zpf,zpg,zph,zpi,zpj,zpk,zpl,zpm,zpn,zpo,zpp]; rfl) (Zq rfl ⟨_, rfl, rfl⟩)
 ·rcases h2 with rfl | ⟨rfl, rfl⟩
  ·cases B with
   | nil =>
    refine Zr rfl (by simp (maxSteps := 2000000) only [gs,zlr,reduceIte,reduceCtorEq,zpa,zpb,zpc,zpd,zpe,zpf,zpg,zph,zpi,zpj,zpk,zpl,zpm,zpn,zpo,zpp]; rfl) ?_
    refine Zr rfl (by simp (maxSteps := 2000000) only [gs,zlr,reduceIte,reduceCtorEq,zpa,zpb,zpc,zpd,zpe,zpf,zpg,zph,zpi,zpj,zpk,zpl,zpm,zpn,zpo,zpp, uvs_length, List.length_nil, Int.natCast_zero, zz]; rfl) (Zc rfl rfl (fun h => by cases h) (fun _ => ?_))
    refine Zr rfl (by simp (maxSteps := 2000000) only [gs,zlr,reduceIte,reduceCtorEq,zpa,zpb,zpc,zpd,zpe,zpf,zpg,zph,zpi,zpj,zpk,zpl,zpm,zpn,zpo,zpp]; rfl) ?_
    refine Zw rfl (fun n env h => h = [] ∧ GEnv.get env 0 = .nils ∧ GEnv.get env 1 = .list false 4 (uvs []) ∧ GEnv.get env 5 = .int .i64 0) 0 ⟨rfl, rfl, rfl, rfl⟩ ?_
    rintro n env h ⟨rfl, k0, k1, k5⟩
    simp only [GEnv.keep, k0, k1, k5]
    refine Zr rfl (by simp (maxSteps := 2000000) only [gs,zlr,reduceIte,reduceCtorEq,zpa,zpb,zpc,zpd,zpe,zpf,zpg,zph,zpi,zpj,zpk,zpl,zpm,zpn,zpo,zpp]; rfl) (Zc rfl rfl (fun h => by cases h) (fun _ => ?_))
    exact Zr rfl (by simp (maxSteps := 2000000) only [gs,zlr,reduceIte,reduceCtorEq,zpa,zpb,zpc,zpd,zpe,zpf,zpg,zph,zpi,zpj,zpk,zpl,zpm,zpn,zpo,zpp]; rfl) (Zq rfl ⟨_, rfl, rfl⟩)
   | cons d B =>
    have f1 : ((0 : Int) != ((d :: B).length : Int)) = true := by rw [bne_iff_ne]; simp only [List.length_cons]; omega
    rw [decide_eq_false (by simp)]
    refine Zr rfl (by simp (maxSteps := 2000000) only [gs,zlr,reduceIte,reduceCtorEq,zpa,zpb,zpc,zpd,zpe,zpf,zpg,zph,zpi,zpj,zpk,zpl,zpm,zpn,zpo,zpp]; rfl) ?_
    refine Zr rfl (by simp (maxSteps := 2000000) only [gs,zlr,reduceIte,reduceCtorEq,zpa,zpb,zpc,zpd,zpe,zpf,zpg,zph,zpi,zpj,zpk,zpl,zpm,zpn,zpo,zpp, uvs_length, f1]; rfl) (Zc rfl rfl (fun _ => ?_) (fun h => by cases h))
    exact Zr rfl (by simp (maxSteps := 2000000) only [gs,zlr,reduceIte,reduceCtorEq,zpa,zpb,zpc,zpd,zpe,zpf,zpg,zph,zpi,zpj,zpk,zpl,zpm,zpn,zpo,zpp]; rfl) (Zq rfl ⟨_, rfl, rfl⟩)
  ·refine Zr rfl (by simp (maxSteps := 2000000) only [gs,zlr,reduceIte,reduceCtorEq,zpa,zpb,zpc,zpd,zpe,zpf,zpg,zph,zpi,zpj,zpk,zpl,zpm,zpn,zpo,zpp]; rfl) ?_
   refine Zr rfl (by simp (maxSteps := 2000000) only [gs,zlr,reduceIte,reduceCtorEq,zpa,zpb,zpc,zpd,zpe,zpf,zpg,zph,zpi,zpj,zpk,zpl,zpm,zpn,zpo,zpp]; rfl) (Zc rfl rfl (fun h => by cases h) (fun _ => ?_))
   refine Zr rfl (by simp (maxSteps := 2000000) only [gs,zlr,reduceIte,reduceCtorEq,zpa,zpb,zpc,zpd,zpe,zpf,zpg,zph,zpi,zpj,zpk,zpl,zpm,zpn,zpo,zpp]; rfl) ?_
   refine Zw rfl (fun n env h => h = [] ∧ GEnv.get env 0 = .nils ∧ GEnv.get env 1 = .nils ∧ GEnv.get env 5 = .int .i64 0) 0 ⟨rfl, rfl, rfl, rfl⟩ ?_
   rintro n env h ⟨rfl, k0, k1, k5⟩
   simp only [GEnv.keep, k0, k1, k5]
   refine Zr rfl (by simp (maxSteps := 2000000) only [gs,zlr,reduceIte,reduceCtorEq,zpa,zpb,zpc,zpd,zpe,zpf,zpg,zph,zpi,zpj,zpk,zpl,zpm,zpn,zpo,zpp]; rfl) (Zc rfl rfl (fun h => by cases h) (fun _ => ?_))
   exact Zr rfl (by simp (maxSteps := 2000000) only [gs,zlr,reduceIte,reduceCtorEq,zpa,zpb,zpc,zpd,zpe,zpf,zpg,zph,zpi,zpj,zpk,zpl,zpm,zpn,zpo,zpp]; rfl) (Zq rfl ⟨_, rfl, rfl⟩)
def DIs (first count : Int) (n : Nat) (bs : List Nat) (l : List Ev) : Prop :=
 (0 ≤ count ∧ (0 < count → 0 ≤ first ∧ first ≤ 4611686018427387903) ∧ (l.length : Int) = count) ∧ RightD first l ∧ EvOk l ∧ (∀ e ∈ l, e.2.2.1 < (n : Int)) ∧ Packed bs (db first l)
def ReadD (first count : Int) (n : Nat) (bs : List Nat) (u : U) : Prop := (∃ l v, DIs first count n bs l ∧ isVa v l ∧ u = .tup [v, .int .i64 0]) ∨ ((¬ ∃ l, DIs first count n bs l) ∧ u = .tup [.nils, .int .i64 21])
def isVo (u : U) (l : List Ev) : Prop := (u = .nils ∧ l = []) ∨ u = .own 4 (uvs l)
theorem EvOk.snoc {l : List Ev} {e : Ev} (h : EvOk l) (he : (0 ≤ e.2.1 ∧ e.2.1 ≤ 4294967295) ∧ (0 ≤ e.2.2.1 ∧ e.2.2.1 ≤ 4294967295)) : EvOk (l ++ [e]) := fun x hx => by
 rcases List.mem_append.1 hx with hx | hx
 ·exact h x hx
 ·rw [List.mem_singleton.1 hx]; exact he
set_option maxHeartbeats 4000000 in
theorem dread_R {bs : List Nat} {first count : Int} {n : Nat} (hb : ∀ b ∈ bs, b < 256) (hl : bs.length ≤ 1000000) (hf : -9223372036854775808 ≤ first ∧ first ≤ 9223372036854775807) (hc : -9223372036854775808 ≤ count ∧ count ≤ 1000) (hn : n < 18446744073709551616) :
  ∃ u, ReadD first count n bs u ∧ GF gtab fid_delta_Read [.list false 1 (un .u8 bs), .int .i64 first, .int .i64 count, .int .u64 (n : Int)] [] 0 = some (u, []) := by
 have key : ∃ u h', GF gtab fid_delta_Read [.list false 1 (un .u8 bs), .int .i64 first, .int .i64 count, .int .u64 (n : Int)] [] 0 = some (u, h') ∧ h' = [] ∧ ReadD first count n bs u := by
  have no : (¬ ∃ l, DIs first count n bs l) → ReadD first count n bs (.tup [.nils, .int .i64 21]) := fun h => .inr ⟨h, rfl⟩
  have hN : ∀ lo, GF gtab fid_bits_NewReader [.list false 1 (un .u8 bs)] [] lo = some (.ptr 0 0 0 0, [rdBox bs 0]) := fun lo => newReader_G (h := []) (lo := lo)
  refine fnR_delta_Read rfl ?_
  simp only [genvOf]
  refine Zr rfl (by simp (maxSteps := 2000000) only [gs,zlr,reduceIte,reduceCtorEq,zpa,zpb,zpc,zpd,zpe,zpf,zpg,zph,zpi,zpj,zpk,zpl,zpm,zpn,zpo,zpp]; rfl) ?_
  by_cases hneg : count < 0
  ·have c1 : (count > 0) = False := eq_false (by omega)
   have c2 := eq_true hneg
   refine Zr rfl (by simp (maxSteps := 2000000) only [gs,zlr,reduceIte,reduceCtorEq,zpa,zpb,zpc,zpd,zpe,zpf,zpg,zph,zpi,zpj,zpk,zpl,zpm,zpn,zpo,zpp, c1, c2]; rfl) (Zc rfl rfl (fun _ => ?_) (fun h => by cases h))
   exact Zr rfl (by simp (maxSteps := 2000000) only [gs,zlr,reduceIte,reduceCtorEq,zpa,zpb,zpc,zpd,zpe,zpf,zpg,zph,zpi,zpj,zpk,zpl,zpm,zpn,zpo,zpp]; rfl) (Zq rfl ⟨_, rfl, _, _, rfl, rfl, no fun ⟨l, hl⟩ => by have := hl.1.1; omega⟩)
  have c2 := eq_false hneg
  by_cases hbad : count > 0 ∧ (first < 0 ∨ first > 4611686018427387903)
  ·have c1 : (count > 0) = True := eq_true hbad.1
   have hno : ReadD first count n bs (.tup [.nils, .int .i64 21]) := no fun ⟨l, hl⟩ => by have := hl.1.2.1 hbad.1; have := hbad.2; omega
   by_cases hf0 : first < 0
   ·have c3 := eq_true hf0
    refine Zr rfl (by simp (maxSteps := 2000000) only [gs,zlr,reduceIte,reduceCtorEq,zpa,zpb,zpc,zpd,zpe,zpf,zpg,zph,zpi,zpj,zpk,zpl,zpm,zpn,zpo,zpp, c1, c3, decide_true]; rfl) (Zc rfl rfl (fun _ => ?_) (fun h => by cases h))
    exact Zr rfl (by simp (maxSteps := 2000000) only [gs,zlr,reduceIte,reduceCtorEq,zpa,zpb,zpc,zpd,zpe,zpf,zpg,zph,zpi,zpj,zpk,zpl,zpm,zpn,zpo,zpp]; rfl) (Zq rfl ⟨_, rfl, _, _, rfl, rfl, hno⟩)
   ·have c3 := eq_false hf0
    have c4 : (first > 4611686018427387903) = True := eq_true (by omega)
    refine Zr rfl (by simp (maxSteps := 2000000) only [gs,zlr,reduceIte,reduceCtorEq,zpa,zpb,zpc,zpd,zpe,zpf,zpg,zph,zpi,zpj,zpk,zpl,zpm,zpn,zpo,zpp, c1, c3, c4, decide_true, decide_false]; rfl) (Zc rfl rfl (fun _ => ?_) (fun h => by cases h))
    exact Zr rfl (by simp (maxSteps := 2000000) only [gs,zlr,reduceIte,reduceCtorEq,zpa,zpb,zpc,zpd,zpe,zpf,zpg,zph,zpi,zpj,zpk,zpl,zpm,zpn,zpo,zpp]; rfl) (Zq rfl ⟨_, rfl, _, _, rfl, rfl, hno⟩)
  have hfc : 0 < count → 0 ≤ first ∧ first ≤ 4611686018427387903 := fun h => by omega
  refine Z_nrm 1 (Zj2 (fun env h => h = [] ∧ GEnv.get env 0 = .list false 1 (un .u8 bs) ∧ GEnv.get env 1 = .int .i64 first ∧ GEnv.get env 2 = .int .i64 count ∧ GEnv.get env 3 = .int .u64 (n : Int)) ?_ ?_)
  ·by_cases hp : count > 0
   ·have c1 : (count > 0) = True := eq_true hp
    have c3 : (first < 0) = False := eq_false (by omega)
    have c4 : (first > 4611686018427387903) = False := eq_false (by omega)
    refine Zr rfl (by simp (maxSteps := 2000000) only [gs,zlr,reduceIte,reduceCtorEq,zpa,zpb,zpc,zpd,zpe,zpf,zpg,zph,zpi,zpj,zpk,zpl,zpm,zpn,zpo,zpp, c1, c2, c3, c4, decide_true, decide_false]; rfl) (Zc rfl rfl (fun h => by cases h) (fun _ => ?_))
    exact Za rfl ⟨rfl, rfl, rfl, rfl, rfl⟩
   ·have c1 : (count > 0) = False := eq_false hp
    refine Zr rfl (by simp (maxSteps := 2000000) only [gs,zlr,reduceIte,reduceCtorEq,zpa,zpb,zpc,zpd,zpe,zpf,zpg,zph,zpi,zpj,zpk,zpl,zpm,zpn,zpo,zpp, c1, c2, decide_true, decide_false]; rfl) (Zc rfl rfl (fun h => by cases h) (fun _ => ?_))
    exact Za rfl ⟨rfl, rfl, rfl, rfl, rfl⟩
  rintro env h ⟨rfl, k0, k1, k2, k3⟩
  refine Zr rfl (by simp (maxSteps := 2000000) only [gs,zlr,reduceIte,reduceCtorEq,zpa,zpb,zpc,zpd,zpe,zpf,zpg,zph,zpi,zpj,zpk,zpl,zpm,zpn,zpo,zpp, k0, k1, snapLL_un, gc_bits_NewReader, hN]; rfl) ?_
  refine Zr rfl (by simp (maxSteps := 2000000) only [gs,zlr,reduceIte,reduceCtorEq,zpa,zpb,zpc,zpd,zpe,zpf,zpg,zph,zpi,zpj,zpk,zpl,zpm,zpn,zpo,zpp]; rfl) ?_
  obtain ⟨C, hC⟩ : ∃ C : Nat, count = (C : Int) := ⟨count.toNat, by omega⟩
  refine Z_nrm 1 (Zj2 (fun env h => ∃ (p : Nat) (last : Ev) (any ok : Bool) (out : List Ev), RdS bs h p last any ok ∧ isVo (GEnv.get env 11) out ∧ EvOk out ∧ out.length ≤ 1000 ∧ (ok = true → out.length = C ∧ ∀ e ∈ out, e.2.2.1 < (n : Int)) ∧ (∀ l, DIs first count n bs l → ok = true ∧ l = out) ∧ GEnv.get env 0 = .list false 1 (un .u8 bs) ∧ GEnv.get env 1 = .int .i64 first ∧ GEnv.get env 10 = .ptr 1 0 0 0) ?_ ?_)
  ·refine Zw rfl (fun m env h => ∃ (p : Nat) (last : Ev) (any ok : Bool) (out : List Ev), RdS bs h p last any ok ∧ isVo (GEnv.get env 11) out ∧ EvOk out ∧ m + out.length = C ∧
    (ok = true → (m + out.length ≠ 0 → 0 ≤ last.1 ∧ last.1 ≤ 4611686018427387903) ∧ ((0 ≤ last.2.1 ∧ last.2.1 ≤ 4294967295) ∧ (0 ≤ last.2.2.1 ∧ last.2.2.1 ≤ 4294967295)) ∧ (any = true → last.2.1 < last.2.2.1) ∧ ∀ e ∈ out, e.2.2.1 < (n : Int)) ∧
    (∀ l, DIs first count n bs l → ok = true ∧ ∃ rest B, l = out ++ rest ∧ B ++ dall last any rest = db first l ∧ DCh last any rest ∧ p = B.length) ∧ GEnv.get env 0 = .list false 1 (un .u8 bs) ∧ GEnv.get env 1 = .int .i64 first ∧ GEnv.get env 10 = .ptr 1 0 0 0 ∧ GEnv.get env 2 = .int .i64 (m : Int) ∧ GEnv.get env 3 = .int .u64 (n : Int)) C
    ⟨0, ev0 first, false, true, [], ⟨rfl, rfl, Nat.zero_le _⟩, .inl ⟨rfl, rfl⟩, fun e he => (by cases he), rfl, fun _ => ⟨fun h => by unfold ev0; have := hfc (by simp at h; omega); simpa using this, by unfold ev0; simp only; omega, fun h => (by cases h), fun e he => (by cases he)⟩, fun l hl => ⟨rfl, l, [], rfl, rfl, hl.2.1.chain hl.2.2.1, rfl⟩, by simp [GEnv.get, k0], by simp [GEnv.get, k1], by simp [GEnv.get], by simp [GEnv.get, k2, hC], by simp [GEnv.get, k3]⟩ ?_
   clear k0 k1 k2 k3
   rintro m env h ⟨p, last, any, ok, out, hs, ho, hev, hm, hok, hcom, k0, k1, k10, k2, k3⟩
   simp only [GEnv.keep, k0, k1, k2, k3, k10]
   generalize GEnv.get env 11 = s11 at ho ⊢
   have b1 := hs.bx
   unfold rBox at b1
   cases m with
   | zero =>
    refine Zr rfl (by simp (maxSteps := 2000000) only [gs,zlr,reduceIte,reduceCtorEq,zpa,zpb,zpc,zpd,zpe,zpf,zpg,zph,zpi,zpj,zpk,zpl,zpm,zpn,zpo,zpp]; rfl) (Zc rfl rfl (fun h => by cases h) (fun _ => ?_))
    refine Za rfl ⟨p, last, any, ok, out, hs, ho, hev, by omega, fun h => ⟨by omega, (hok h).2.2.2⟩, fun l hl => ?_, rfl, rfl, rfl⟩
    obtain ⟨a, rest, B, c, d⟩ := hcom l hl
    have h1 := hl.1.2.2
    have h2 := congrArg List.length c
    rw [List.length_append] at h2
    have : rest = [] := List.eq_nil_of_length_eq_zero (by omega)
    rw [this, List.append_nil] at c
    exact ⟨a, c⟩
   | succ m =>
    have g1 : (((m + 1 : Nat) : Int) > 0) = True := eq_true (by omega)
    cases ok with
    | false =>
     refine Zr rfl (by simp (maxSteps := 2000000) only [gs,zlr,reduceIte,reduceCtorEq,zpa,zpb,zpc,zpd,zpe,zpf,zpg,zph,zpi,zpj,zpk,zpl,zpm,zpn,zpo,zpp, g1, b1, decide_true]; rfl) (Zc rfl rfl (fun h => by cases h) (fun _ => ?_))
     exact Za rfl ⟨p, last, any, false, out, hs, ho, hev, by omega, fun h => (by cases h), fun l hl => absurd (hcom l hl).1 (by simp), rfl, rfl, rfl⟩
    | true =>
     obtain ⟨o1, o2, o3, o4⟩ := hok rfl
     obtain ⟨e, q, last', any', ok', h2, E1, s2, eb, e3, e4⟩ := event_G hs hb (by omega) (o1 (by omega)) o2 o3
     have b2 := s2.bx
     unfold rBox at b2
     have hl2 := get_lt b2
     refine Zr rfl (by simp (maxSteps := 2000000) only [gs,zlr,reduceIte,reduceCtorEq,zpa,zpb,zpc,zpd,zpe,zpf,zpg,zph,zpi,zpj,zpk,zpl,zpm,zpn,zpo,zpp, g1, b1, decide_true]; rfl) (Zc rfl rfl (fun _ => ?_) (fun h => by cases h))
     refine Zr rfl (by simp (maxSteps := 2000000) only [gs,zlr,reduceIte,reduceCtorEq,zpa,zpb,zpc,zpd,zpe,zpf,zpg,zph,zpi,zpj,zpk,zpl,zpm,zpn,zpo,zpp, gc_delta_reader_event, E1, dapp_eq, dapp_set, Nat.zero_le]; rfl) ?_
     have b3 : (h2 ++ [GObj.box [.int .i64 e.1, .int .u32 e.2.1, .int .u32 e.2.2.1, .bool e.2.2.2]])[1]? = some (.box [.ptr 0 0 0 0, .int .i64 last'.1, .int .u32 last'.2.1, .int .u32 last'.2.2.1, .bool last'.2.2.2, .bool any', .bool ok']) := by rw [app_lt hl2, b2]
     have RG := right_G (u := e.2.1) (v := e.2.2.1) (n := (n : Int)) ⟨eb.2.1, eb.2.2⟩
     refine Zj rfl (fun env h' => RdS bs h' q last' any' (ok' && (decide (e.2.1 < e.2.2.1) && decide (e.2.2.1 < (n : Int)))) ∧ h'[h2.length]? = some (.box [.int .i64 e.1, .int .u32 e.2.1, .int .u32 e.2.2.1, .bool e.2.2.2]) ∧ GEnv.get env 0 = .list false 1 (un .u8 bs) ∧ GEnv.get env 1 = .int .i64 first ∧ GEnv.get env 10 = .ptr 1 0 0 0 ∧ GEnv.get env 2 = .int .i64 ((m + 1 : Nat) : Int) ∧ GEnv.get env 3 = .int .u64 (n : Int) ∧ GEnv.get env 11 = s11 ∧ GEnv.get env 12 = .ptr h2.length 0 0 0) ?_ ?_
     ·have fin : ∀ x : Bool, x = (ok' && (decide (e.2.1 < e.2.2.1) && decide (e.2.2.1 < (n : Int)))) → RdS bs ((h2 ++ [GObj.box [.int .i64 e.1, .int .u32 e.2.1, .int .u32 e.2.2.1, .bool e.2.2.2]]).set 1 (.box [.ptr 0 0 0 0, .int .i64 last'.1, .int .u32 last'.2.1, .int .u32 last'.2.2.1, .bool last'.2.2.2, .bool any', .bool x])) q last' any' (ok' && (decide (e.2.1 < e.2.2.1) && decide (e.2.2.1 < (n : Int)))) ∧ ((h2 ++ [GObj.box [.int .i64 e.1, .int .u32 e.2.1, .int .u32 e.2.2.1, .bool e.2.2.2]]).set 1 (.box [.ptr 0 0 0 0, .int .i64 last'.1, .int .u32 last'.2.1, .int .u32 last'.2.2.1, .bool last'.2.2.2, .bool any', .bool x]))[h2.length]? = some (.box [.int .i64 e.1, .int .u32 e.2.1, .int .u32 e.2.2.1, .bool e.2.2.2]) := fun x hx =>
       ⟨⟨by rw [set_ne (by omega), app_lt (by omega)]; exact s2.rd, by rw [set_eq (by rw [List.length_append]; omega), hx]; rfl, s2.le⟩, by rw [set_ne (by omega)]; exact dapp_eq⟩
      cases ok' with
      | true =>
       have f := fin (decide (e.2.1 < e.2.2.1) && decide (e.2.2.1 < (n : Int))) (by simp)
       refine Zr rfl (by simp (maxSteps := 2000000) only [gs,zlr,reduceIte,reduceCtorEq,zpa,zpb,zpc,zpd,zpe,zpf,zpg,zph,zpi,zpj,zpk,zpl,zpm,zpn,zpo,zpp, b3, dapp_eq, gc_edge_Right, RG]; rfl) ?_
       exact Za rfl ⟨f.1, f.2, rfl, rfl, rfl, rfl, rfl, rfl, rfl⟩
      | false =>
       have f := fin false (by simp)
       refine Zr rfl (by simp (maxSteps := 2000000) only [gs,zlr,reduceIte,reduceCtorEq,zpa,zpb,zpc,zpd,zpe,zpf,zpg,zph,zpi,zpj,zpk,zpl,zpm,zpn,zpo,zpp, b3]; rfl) ?_
       exact Za rfl ⟨f.1, f.2, rfl, rfl, rfl, rfl, rfl, rfl, rfl⟩
     rintro env h3 ⟨s3, e5, k0, k1, k10, k2, k3, k11, k12⟩
     have hmm : IntKind.i64.wrap (((m + 1 : Nat) : Int) - 1) = ((m : Nat) : Int) := by rw [wrap_i64 (by omega) (by omega)]; omega
     have hr0 : (1 * 24 ≤ room) = True := eq_true (by unfold room; omega)
     have hr1 : ((out.length + 1) * 24 ≤ room) = True := eq_true (by unfold room; omega)
     have hone : ([[U.int .i64 e.1, .int .u32 e.2.1, .int .u32 e.2.2.1, .bool e.2.2.2]] : List (List U)) = uvs [e] := rfl
     have hnew : ∀ okk : Bool, okk = (ok' && (decide (e.2.1 < e.2.2.1) && decide (e.2.2.1 < (n : Int)))) → okk = true → (m + (out ++ [e]).length ≠ 0 → 0 ≤ last'.1 ∧ last'.1 ≤ 4611686018427387903) ∧ ((0 ≤ last'.2.1 ∧ last'.2.1 ≤ 4294967295) ∧ (0 ≤ last'.2.2.1 ∧ last'.2.2.1 ≤ 4294967295)) ∧ (any' = true → last'.2.1 < last'.2.2.1) ∧ ∀ x ∈ out ++ [e], x.2.2.1 < (n : Int) := fun okk h1 h2 => by
      rw [h2] at h1
      have h1 := h1.symm
      simp only [Bool.and_eq_true, decide_eq_true_eq] at h1
      obtain ⟨x1, x2, x3⟩ := e3 h1.1
      subst x1
      refine ⟨fun _ => x3, eb, fun _ => h1.2.1, fun x hx => ?_⟩
      rcases List.mem_append.1 hx with hx | hx
      ·exact o4 x hx
      ·rw [List.mem_singleton.1 hx]; exact h1.2.2
     have hcom2 : ∀ l, DIs first count n bs l → (ok' && (decide (e.2.1 < e.2.2.1) && decide (e.2.2.1 < (n : Int)))) = true ∧ ∃ rest B, l = (out ++ [e]) ++ rest ∧ B ++ dall last' any' rest = db first l ∧ DCh last' any' rest ∧ q = B.length := fun l hl => by
      obtain ⟨_, rest, B, c1, c2, c3, c4⟩ := hcom l hl
      have h1 := hl.1.2.2
      have h2 := congrArg List.length c1
      rw [List.length_append] at h2
      obtain ⟨e0, r, rfl⟩ := List.exists_cons_of_ne_nil (l := rest) (fun h0 => by rw [h0, List.length_nil] at h2; omega)
      have hpk := hl.2.2.2.2
      rw [← c2, dall] at hpk
      obtain ⟨y1, y2, y3⟩ := e4 e0 B (dall e0 true r) c3.1 hpk c4
      obtain ⟨x1, x2, x3⟩ := e3 y1
      subst x1
      subst y2
      have hmem : last' ∈ l := by rw [c1]; simp
      refine ⟨?_, r, B ++ dbits last any last', by rw [c1]; simp, ?_, ?_, y3⟩
      ·simp only [Bool.and_eq_true, decide_eq_true_eq]
       exact ⟨y1, c3.1.2.1.2.1, hl.2.2.2.1 _ hmem⟩
      ·rw [x2, List.append_assoc]; rw [← c2, dall]
      ·rw [x2]; exact c3.2
     generalize hok2 : (ok' && (decide (e.2.1 < e.2.2.1) && decide (e.2.2.1 < (n : Int)))) = okk at s3 hnew hcom2
     rcases ho with ⟨rfl, h0⟩ | rfl
     ·subst h0
      refine Zr rfl (by simp (maxSteps := 2000000) only [gs,zlr,reduceIte,reduceCtorEq,zpa,zpb,zpc,zpd,zpe,zpf,zpg,zph,zpi,zpj,zpk,zpl,zpm,zpn,zpo,zpp, k11, k12, e5, hone, uvs_length, List.length_singleton, hr0]; rfl) ?_
      refine Zr rfl (by simp (maxSteps := 2000000) only [gs,zlr,reduceIte,reduceCtorEq,zpa,zpb,zpc,zpd,zpe,zpf,zpg,zph,zpi,zpj,zpk,zpl,zpm,zpn,zpo,zpp, k2, hmm]; rfl) ?_
      exact Za rfl ⟨m, by omega, q, last', any', okk, [e], s3, .inr (by simp [GEnv.get]), hev.snoc eb, by simp only [List.length_singleton]; simp only [List.length_nil] at hm; omega, hnew okk rfl, hcom2, by simp [GEnv.get, k0], by simp [GEnv.get, k1], by simp [GEnv.get, k10], by simp [GEnv.get], by simp [GEnv.get, k3]⟩
     ·have hap : uvs out ++ [[U.int .i64 e.1, .int .u32 e.2.1, .int .u32 e.2.2.1, .bool e.2.2.2]] = uvs (out ++ [e]) := by rw [hone, uvs_append]
      refine Zr rfl (by simp (maxSteps := 2000000) only [gs,zlr,reduceIte,reduceCtorEq,zpa,zpb,zpc,zpd,zpe,zpf,zpg,zph,zpi,zpj,zpk,zpl,zpm,zpn,zpo,zpp, k11, k12, e5, uvs_length, hr1, hap]; rfl) ?_
      refine Zr rfl (by simp (maxSteps := 2000000) only [gs,zlr,reduceIte,reduceCtorEq,zpa,zpb,zpc,zpd,zpe,zpf,zpg,zph,zpi,zpj,zpk,zpl,zpm,zpn,zpo,zpp, k2, hmm]; rfl) ?_
      exact Za rfl ⟨m, by omega, q, last', any', okk, out ++ [e], s3, .inr (by simp [GEnv.get]), hev.snoc eb, by rw [List.length_append, List.length_singleton]; omega, hnew okk rfl, hcom2, by simp [GEnv.get, k0], by simp [GEnv.get, k1], by simp [GEnv.get, k10], by simp [GEnv.get], by simp [GEnv.get, k3]⟩
  clear k0 k1 k2 k3
  rintro env h ⟨p, last, any, ok, out, hs, ho, hev, hol, hok, hcom, k0, k1, k10⟩
  have b1 := hs.bx
  unfold rBox at b1
  generalize hs11 : GEnv.get env 11 = s11 at ho
  have hno1 : ok = false → ReadD first count n bs (.tup [.nils, .int .i64 21]) := fun h => no fun ⟨l, hl⟩ => absurd ((hcom l hl).1.symm.trans h) (by simp)
  have hno2 : ¬ RightD first out → ReadD first count n bs (.tup [.nils, .int .i64 21]) := fun h => no fun ⟨l, hl⟩ => h (by rw [← (hcom l hl).2]; exact hl.2.1)
  have hno3 : ∀ bs', Packed bs' (db first out) → bs' ≠ bs → ReadD first count n bs (.tup [.nils, .int .i64 21]) := fun bs' h1 h2 => no fun ⟨l, hl⟩ => h2 (by
   have h3 := hl.2.2.2.2
   rw [(hcom l hl).2] at h3
   exact PackedN.unique h1 h3)
  have hyes : ∀ v, ok = true → RightD first out → Packed bs (db first out) → isVa v out → ReadD first count n bs (.tup [v, .int .i64 0]) := fun v h1 h2 h3 h4 => .inl ⟨out, v, ⟨⟨by omega, hfc, by have := (hok h1).1; omega⟩, h2, hev, (hok h1).2, h3⟩, h4, rfl⟩
  have hEq := fun (x : List Nat) => eequal_G (x := x) (y := bs)
  rcases ho with ⟨rfl, h0⟩ | rfl
  ·rcases dput_R (w := .nils) (l := out) (first := first) (.inr ⟨rfl, h0⟩) hol hev with ⟨bs', g1, g2, g3⟩ | ⟨g1, g3⟩
   ·have hq := hEq bs'
    refine Zr rfl (by simp (maxSteps := 2000000) only [gs,zlr,reduceIte,reduceCtorEq,zpa,zpb,zpc,zpd,zpe,zpf,zpg,zph,zpi,zpj,zpk,zpl,zpm,zpn,zpo,zpp, k1, hs11, gc_delta_Put, g3]; rfl) ?_
    cases ok with
    | false =>
     refine Zr rfl (by simp (maxSteps := 2000000) only [gs,zlr,reduceIte,reduceCtorEq,zpa,zpb,zpc,zpd,zpe,zpf,zpg,zph,zpi,zpj,zpk,zpl,zpm,zpn,zpo,zpp, k10, b1]; rfl) (Zc rfl rfl (fun _ => ?_) (fun h => by cases h))
     exact Zr rfl (by simp (maxSteps := 2000000) only [gs,zlr,reduceIte,reduceCtorEq,zpa,zpb,zpc,zpd,zpe,zpf,zpg,zph,zpi,zpj,zpk,zpl,zpm,zpn,zpo,zpp]; rfl) (Zq rfl ⟨_, rfl, _, _, rfl, rfl, hno1 rfl⟩)
    | true =>
     by_cases he : bs' = bs
     ·rw [decide_eq_true he] at hq
      rw [he] at g2
      refine Zr rfl (by simp (maxSteps := 2000000) only [gs,zlr,reduceIte,reduceCtorEq,zpa,zpb,zpc,zpd,zpe,zpf,zpg,zph,zpi,zpj,zpk,zpl,zpm,zpn,zpo,zpp, k0, k10, b1, snapLL_un, gc_bytes_Equal, hq]; rfl) (Zc rfl rfl (fun h => by cases h) (fun _ => ?_))
      exact Zr rfl (by simp (maxSteps := 2000000) only [gs,zlr,reduceIte,reduceCtorEq,zpa,zpb,zpc,zpd,zpe,zpf,zpg,zph,zpi,zpj,zpk,zpl,zpm,zpn,zpo,zpp, hs11]; rfl) (Zq rfl ⟨_, rfl, _, _, rfl, rfl, hyes _ rfl g1 g2 (.inr ⟨rfl, h0⟩)⟩)
     ·rw [decide_eq_false he] at hq
      refine Zr rfl (by simp (maxSteps := 2000000) only [gs,zlr,reduceIte,reduceCtorEq,zpa,zpb,zpc,zpd,zpe,zpf,zpg,zph,zpi,zpj,zpk,zpl,zpm,zpn,zpo,zpp, k0, k10, b1, snapLL_un, gc_bytes_Equal, hq]; rfl) (Zc rfl rfl (fun _ => ?_) (fun h => by cases h))
      exact Zr rfl (by simp (maxSteps := 2000000) only [gs,zlr,reduceIte,reduceCtorEq,zpa,zpb,zpc,zpd,zpe,zpf,zpg,zph,zpi,zpj,zpk,zpl,zpm,zpn,zpo,zpp]; rfl) (Zq rfl ⟨_, rfl, _, _, rfl, rfl, hno3 _ g2 he⟩)
   ·refine Zr rfl (by simp (maxSteps := 2000000) only [gs,zlr,reduceIte,reduceCtorEq,zpa,zpb,zpc,zpd,zpe,zpf,zpg,zph,zpi,zpj,zpk,zpl,zpm,zpn,zpo,zpp, k1, hs11, gc_delta_Put, g3]; rfl) ?_
    cases ok with
    | false =>
     refine Zr rfl (by simp (maxSteps := 2000000) only [gs,zlr,reduceIte,reduceCtorEq,zpa,zpb,zpc,zpd,zpe,zpf,zpg,zph,zpi,zpj,zpk,zpl,zpm,zpn,zpo,zpp, k10, b1]; rfl) (Zc rfl rfl (fun _ => ?_) (fun h => by cases h))
     exact Zr rfl (by simp (maxSteps := 2000000) only [gs,zlr,reduceIte,reduceCtorEq,zpa,zpb,zpc,zpd,zpe,zpf,zpg,zph,zpi,zpj,zpk,zpl,zpm,zpn,zpo,zpp]; rfl) (Zq rfl ⟨_, rfl, _, _, rfl, rfl, hno1 rfl⟩)
    | true =>
     refine Zr rfl (by simp (maxSteps := 2000000) only [gs,zlr,reduceIte,reduceCtorEq,zpa,zpb,zpc,zpd,zpe,zpf,zpg,zph,zpi,zpj,zpk,zpl,zpm,zpn,zpo,zpp, k10, b1]; rfl) (Zc rfl rfl (fun _ => ?_) (fun h => by cases h))
     exact Zr rfl (by simp (maxSteps := 2000000) only [gs,zlr,reduceIte,reduceCtorEq,zpa,zpb,zpc,zpd,zpe,zpf,zpg,zph,zpi,zpj,zpk,zpl,zpm,zpn,zpo,zpp]; rfl) (Zq rfl ⟨_, rfl, _, _, rfl, rfl, hno2 g1⟩)
  ·rcases dput_R (w := .list false 4 (uvs out)) (l := out) (first := first) (.inl rfl) hol hev with ⟨bs', g1, g2, g3⟩ | ⟨g1, g3⟩
   ·have hq := hEq bs'
    refine Zr rfl (by simp (maxSteps := 2000000) only [gs,zlr,reduceIte,reduceCtorEq,zpa,zpb,zpc,zpd,zpe,zpf,zpg,zph,zpi,zpj,zpk,zpl,zpm,zpn,zpo,zpp, k1, hs11, snapLL_uvs, gc_delta_Put, g3]; rfl) ?_
    cases ok with
    | false =>
     refine Zr rfl (by simp (maxSteps := 2000000) only [gs,zlr,reduceIte,reduceCtorEq,zpa,zpb,zpc,zpd,zpe,zpf,zpg,zph,zpi,zpj,zpk,zpl,zpm,zpn,zpo,zpp, k10, b1]; rfl) (Zc rfl rfl (fun _ => ?_) (fun h => by cases h))
     exact Zr rfl (by simp (maxSteps := 2000000) only [gs,zlr,reduceIte,reduceCtorEq,zpa,zpb,zpc,zpd,zpe,zpf,zpg,zph,zpi,zpj,zpk,zpl,zpm,zpn,zpo,zpp]; rfl) (Zq rfl ⟨_, rfl, _, _, rfl, rfl, hno1 rfl⟩)
    | true =>
     by_cases he : bs' = bs
     ·rw [decide_eq_true he] at hq
      rw [he] at g2
      refine Zr rfl (by simp (maxSteps := 2000000) only [gs,zlr,reduceIte,reduceCtorEq,zpa,zpb,zpc,zpd,zpe,zpf,zpg,zph,zpi,zpj,zpk,zpl,zpm,zpn,zpo,zpp, k0, k10, b1, snapLL_un, gc_bytes_Equal, hq]; rfl) (Zc rfl rfl (fun h => by cases h) (fun _ => ?_))
      refine Zr rfl (by simp (maxSteps := 2000000) only [gs,zlr,reduceIte,reduceCtorEq,zpa,zpb,zpc,zpd,zpe,zpf,zpg,zph,zpi,zpj,zpk,zpl,zpm,zpn,zpo,zpp, hs11]; rfl) (Zq rfl ⟨_, rfl, ?_⟩)
      simp only [gfin, outs, U.out, U.handed, U.share, U.rf, GEnv.get, if_true, Nat.reduceEqDiff, if_false, rfLL_uvs, Option.map_some]
      exact ⟨_, _, rfl, rfl, hyes _ rfl g1 g2 (.inl rfl)⟩
     ·rw [decide_eq_false he] at hq
      refine Zr rfl (by simp (maxSteps := 2000000) only [gs,zlr,reduceIte,reduceCtorEq,zpa,zpb,zpc,zpd,zpe,zpf,zpg,zph,zpi,zpj,zpk,zpl,zpm,zpn,zpo,zpp, k0, k10, b1, snapLL_un, gc_bytes_Equal, hq]; rfl) (Zc rfl rfl (fun _ => ?_) (fun h => by cases h))
      exact Zr rfl (by simp (maxSteps := 2000000) only [gs,zlr,reduceIte,reduceCtorEq,zpa,zpb,zpc,zpd,zpe,zpf,zpg,zph,zpi,zpj,zpk,zpl,zpm,zpn,zpo,zpp]; rfl) (Zq rfl ⟨_, rfl, _, _, rfl, rfl, hno3 _ g2 he⟩)
   ·refine Zr rfl (by simp (maxSteps := 2000000) only [gs,zlr,reduceIte,reduceCtorEq,zpa,zpb,zpc,zpd,zpe,zpf,zpg,zph,zpi,zpj,zpk,zpl,zpm,zpn,zpo,zpp, k1, hs11, snapLL_uvs, gc_delta_Put, g3]; rfl) ?_
    cases ok with
    | false =>
     refine Zr rfl (by simp (maxSteps := 2000000) only [gs,zlr,reduceIte,reduceCtorEq,zpa,zpb,zpc,zpd,zpe,zpf,zpg,zph,zpi,zpj,zpk,zpl,zpm,zpn,zpo,zpp, k10, b1]; rfl) (Zc rfl rfl (fun _ => ?_) (fun h => by cases h))
     exact Zr rfl (by simp (maxSteps := 2000000) only [gs,zlr,reduceIte,reduceCtorEq,zpa,zpb,zpc,zpd,zpe,zpf,zpg,zph,zpi,zpj,zpk,zpl,zpm,zpn,zpo,zpp]; rfl) (Zq rfl ⟨_, rfl, _, _, rfl, rfl, hno1 rfl⟩)
    | true =>
     refine Zr rfl (by simp (maxSteps := 2000000) only [gs,zlr,reduceIte,reduceCtorEq,zpa,zpb,zpc,zpd,zpe,zpf,zpg,zph,zpi,zpj,zpk,zpl,zpm,zpn,zpo,zpp, k10, b1]; rfl) (Zc rfl rfl (fun _ => ?_) (fun h => by cases h))
     exact Zr rfl (by simp (maxSteps := 2000000) only [gs,zlr,reduceIte,reduceCtorEq,zpa,zpb,zpc,zpd,zpe,zpf,zpg,zph,zpi,zpj,zpk,zpl,zpm,zpn,zpo,zpp]; rfl) (Zq rfl ⟨_, rfl, _, _, rfl, rfl, hno2 g1⟩)
 obtain ⟨u, h', h1, rfl, h2⟩ := key
 exact ⟨u, h2, h1⟩
end Go.Ab
