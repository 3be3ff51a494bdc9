/- delta: what bytes are, histories later by so much; DeltaShifts, DeltaBack. -/
import Derived.Test.YtbkbelaogegpgaaArgA
import Derived.Test.YtbkbelaogegpgaaDelC
import Derived.Test.YtbkbelaogegpgaaHistR
import Derived.Test.YtbkbelaogegpgaaValN
namespace Go.Ab
open Go
open Nat renaming reduceEqDiff → zpa, reduceLT → zpb, reduceAdd → zpc, reduceSub → zpd, reduceLeDiff → zpe, reduceMul → zpf
open Int renaming reduceToNat → zpg, reduceLT → zph, reduceLE → zpi, reduceEq → zpj, reduceNe → zpk, reduceBEq → zpl, reduceBNe → zpm, reduceAdd → zpn, reduceSub → zpo, reduceNeg → zpp
open List renaming replicate → zlr
set_option linter.unusedVariables false
set_option linter.unusedSimpArgs false
set_option maxRecDepth 10000
theorem gt_zero {bs : List Nat} {p : Nat} (h : ∀ i, p ≤ i → rbit bs i = false) : ∀ f i, gt bs p f i = none
 | 0, _ => rfl
 | f + 1, i => by
  rw [gt]
  split
  ·rw [if_neg (by rw [h (p + i) (by omega)]; simp)]
   exact gt_zero h f (i + 1)
  ·rfl
theorem packed_zero {bs : List Nat} {A C : List Bool} {v : Nat} (h1 : Packed bs A) (h2 : Packed bs (A ++ gbits v ++ C)) (hv : v ≠ 0) (hv2 : v < 18446744073709551616) : False := by
 have a := gt_packed h2 hv hv2
 rw [gt_zero (fun i hi => by rw [Packed.rbit h1 i, List.getD_eq_getElem?_getD, List.getElem?_eq_none hi]; rfl)] at a
 cases a
theorem dec_of {bs : List Nat} {last e0 : Ev} {any : Bool} {pre post : List Bool} (hd : DNext last any e0) (hp : Packed bs (pre ++ (dbits last any e0 ++ post))) :
  gt bs pre.length 64 0 = some (dgap last e0, (pre ++ gbits (dgap last e0)).length) ∧ rbit bs (pre ++ gbits (dgap last e0)).length = e0.2.2.2 ∧
  gt bs (pre ++ gbits (dgap last e0)).length.succ 64 0 = some (du last any e0, (pre ++ gbits (dgap last e0)).length.succ + (gbits (du last any e0)).length) ∧
  ∃ q, gt bs ((pre ++ gbits (dgap last e0)).length.succ + (gbits (du last any e0)).length) 64 0 = some (dv last any e0, q) := by
 have a1 := hd.gap
 have a2 := hd.u
 have a3 := hd.v
 have hp1 : Packed bs (pre ++ gbits (dgap last e0) ++ ([e0.2.2.2] ++ (gbits (du last any e0) ++ gbits (dv last any e0)) ++ post)) := by
  have : pre ++ (dbits last any e0 ++ post) = pre ++ gbits (dgap last e0) ++ ([e0.2.2.2] ++ (gbits (du last any e0) ++ gbits (dv last any e0)) ++ post) := by unfold dbits; simp only [List.append_assoc]
  rw [← this]; exact hp
 have g1 := gt_packed hp1 (by omega) (by omega)
 have hbit := Packed.rbit hp1 (pre ++ gbits (dgap last e0)).length
 rw [List.getD_eq_getElem?_getD, List.getElem?_append_right (Nat.le_refl _), Nat.sub_self] at hbit
 simp only [List.singleton_append, List.cons_append, List.getElem?_cons_zero, Option.getD_some] at hbit
 have hp2 : Packed bs ((pre ++ gbits (dgap last e0) ++ [e0.2.2.2]) ++ gbits (du last any e0) ++ (gbits (dv last any e0) ++ post)) := by
  have : pre ++ (dbits last any e0 ++ post) = (pre ++ gbits (dgap last e0) ++ [e0.2.2.2]) ++ gbits (du last any e0) ++ (gbits (dv last any e0) ++ post) := by unfold dbits; simp only [List.append_assoc]
  rw [← this]; exact hp
 have g2 := gt_packed hp2 (by omega) (by omega)
 have hp3 : Packed bs ((pre ++ gbits (dgap last e0) ++ [e0.2.2.2] ++ gbits (du last any e0)) ++ gbits (dv last any e0) ++ post) := by
  have : pre ++ (dbits last any e0 ++ post) = (pre ++ gbits (dgap last e0) ++ [e0.2.2.2] ++ gbits (du last any e0)) ++ gbits (dv last any e0) ++ post := by unfold dbits; simp only [List.append_assoc]
  rw [← this]; exact hp
 have g3 := gt_packed hp3 (by omega) (by omega)
 have l2 : (pre ++ gbits (dgap last e0) ++ [e0.2.2.2]).length = (pre ++ gbits (dgap last e0)).length.succ := by rw [List.length_append]; rfl
 have l3 : (pre ++ gbits (dgap last e0) ++ [e0.2.2.2] ++ gbits (du last any e0)).length = (pre ++ gbits (dgap last e0)).length.succ + (gbits (du last any e0)).length := by rw [List.length_append, l2]
 rw [l2, l3] at g2
 rw [l3] at g3
 exact ⟨g1, hbit, g2, _, g3⟩
theorem ev_one {bs : List Nat} {last e e' : Ev} {any : Bool} {pre post post' : List Bool} (hd : DNext last any e) (hd' : DNext last any e') (hp : Packed bs (pre ++ (dbits last any e ++ post))) (hp' : Packed bs (pre ++ (dbits last any e' ++ post'))) : e = e' := by
 obtain ⟨a1, a2, a3, q, a4⟩ := dec_of hd hp
 obtain ⟨b1, b2, b3, q', b4⟩ := dec_of hd' hp'
 rw [a1] at b1
 have hg : dgap last e = dgap last e' := congrArg (·.1) (Option.some.inj b1)
 rw [← hg] at b2 b3 b4
 rw [a2] at b2
 rw [a3] at b3
 have hu : du last any e = du last any e' := congrArg (·.1) (Option.some.inj b3)
 rw [← hu, a4] at b4
 have hv : dv last any e = dv last any e' := congrArg (·.1) (Option.some.inj b4)
 obtain ⟨T0, U0, V0, A0⟩ := last
 have h3 := hd.2.2.1
 simp only at h3
 obtain ⟨U0, rfl⟩ : ∃ n : Nat, U0 = (n : Int) := ⟨U0.toNat, by omega⟩
 obtain ⟨V0, rfl⟩ : ∃ n : Nat, V0 = (n : Int) := ⟨V0.toNat, by omega⟩
 have x := (ev_back hd rfl rfl rfl rfl rfl rfl).1
 have y := (ev_back hd' hg hu hv (show e.2.2.2.toNat = e'.2.2.2.toNat by rw [b2]) rfl rfl).1
 rw [← x]; exact y
theorem chain_one {bs : List Nat} : ∀ (l l' : List Ev) (last : Ev) (any : Bool) (pre : List Bool), DCh last any l → DCh last any l' → Packed bs (pre ++ dall last any l) → Packed bs (pre ++ dall last any l') → l = l'
 | [], [], _, _, _, _, _, _, _ => rfl
 | [], e :: r, last, any, pre, _, h2, h3, h4 => by
  simp only [dall, List.append_nil] at h3
  rw [dall] at h4
  have hg := h2.1.gap
  exact (packed_zero (A := pre) (v := dgap last e) (C := [e.2.2.2] ++ (gbits (du last any e) ++ gbits (dv last any e)) ++ dall e true r) h3 (by unfold dbits at h4; simp only [List.append_assoc] at h4 ⊢; exact h4) (by omega) (by omega)).elim
 | e :: r, [], last, any, pre, h1, _, h3, h4 => by
  simp only [dall, List.append_nil] at h4
  rw [dall] at h3
  have hg := h1.1.gap
  exact (packed_zero (A := pre) (v := dgap last e) (C := [e.2.2.2] ++ (gbits (du last any e) ++ gbits (dv last any e)) ++ dall e true r) h4 (by unfold dbits at h3; simp only [List.append_assoc] at h3 ⊢; exact h3) (by omega) (by omega)).elim
 | e :: r, e' :: r', last, any, pre, h1, h2, h3, h4 => by
  rw [dall] at h3 h4
  have he := ev_one h1.1 h2.1 h3 h4
  subst he
  rw [← List.append_assoc] at h3 h4
  rw [chain_one r r' e true _ h1.2 h2.2 h3 h4]
theorem DIs.one {first c c' : Int} {n n' : Nat} {bs : List Nat} {l l' : List Ev} (h : DIs first c n bs l) (h' : DIs first c' n' bs l') : l = l' :=
 chain_one l l' _ _ [] (h.2.1.chain h.2.2.1) (h'.2.1.chain h'.2.2.1) h.2.2.2.2 h'.2.2.2.2
def shE (d : Int) (e : Ev) : Ev := (e.1 + d, e.2.1, e.2.2.1, e.2.2.2)
theorem right_sh {d first : Int} {l : List Ev} (h : RightD first l) (h0 : 0 ≤ d) (hm : ∀ e ∈ l, e.1 + d ≤ 4611686018427387903) : RightD (first + d) (l.map (shE d)) := by
 refine ⟨fun e he => ?_, ?_, fun e r he => ?_⟩
 ·obtain ⟨x, hx, rfl⟩ := List.mem_map.1 he
  have := h.1 x hx
  have := hm x hx
  unfold shE; simp only; omega
 ·refine List.pairwise_map.2 (h.2.1.imp fun {a b} hab => ?_)
  unfold ltV ltE edOf at hab
  unfold ltV ltE edOf shE
  simp only at hab ⊢
  omega
 ·cases l with
  | nil => cases he
  | cons x l =>
   rw [List.map_cons, List.cons.injEq] at he
   rw [← he.1]
   have := h.2.2 x l rfl
   unfold shE; simp only; omega
theorem right_ev {N : Int} {evs : List Ev} (h : RightV N evs) {i : Nat} {e : Ev} (hi : evs[i]? = some e) : (0 ≤ e.1 ∧ e.1 ≤ 4611686018427387903) ∧ (e.2.1 < e.2.2.1 ∧ e.2.2.1 < N) ∧ ∀ d, 0 < i → evs[i - 1]? = some d → ltV d e := by
 have hl := (List.getElem?_eq_some_iff.1 hi).1
 have := h.2 i hl
 unfold evAt at this
 rw [hi] at this
 simp only at this
 split at this
 ·exact absurd this (by decide)
 ·rename_i h1
  split at this
  ·exact absurd this (by decide)
  ·rename_i h2
   split at this
   ·exact absurd this (by decide)
   ·rename_i h3
    refine ⟨by omega, by simpa using h2, fun d h4 h5 => ?_⟩
    by_cases h6 : ltV d e
    ·exact h6
    ·exact absurd ⟨h4, by rw [List.getD_eq_getElem?_getD, h5, Option.getD_some]; exact h6⟩ h3
theorem RightV.rightD {N : Int} {evs : List Ev} (h : RightV N evs) {first : Int} (hf : ∀ e r, evs = e :: r → e.1 = first) : RightD first evs := by
 refine ⟨fun e he => ?_, ris_adj (R := ltV) (fun h k => ltV_trans h k) fun i x y hx hy => ?_, hf⟩
 ·obtain ⟨i, hi⟩ := List.mem_iff_getElem?.1 he
  have := right_ev h hi
  exact ⟨this.1.1, this.1.2, this.2.1.1⟩
 ·exact (right_ev h hy).2.2 x (by omega) (by simpa using hx)
theorem RightV.below {N : Int} {evs : List Ev} (h : RightV N evs) : ∀ e ∈ evs, e.2.2.1 < N := fun e he => by
 obtain ⟨i, hi⟩ := List.mem_iff_getElem?.1 he
 exact (right_ev h hi).2.1.2
def lastT (evs : List Ev) : Int := if evs = [] then -1 else (evs.getD (evs.length - 1) (0, 0, 0, false)).1
def lateV (evs : List Ev) : List Ev := evs.map fun e => (IntKind.i64.wrap (e.1 + IntKind.i64.wrap (4611686018427387903 - lastT evs)), e.2.1, e.2.2.1, e.2.2.2)
theorem lateV_length (evs : List Ev) : (lateV evs).length = evs.length := by simp [lateV]
theorem evOk_late {evs : List Ev} (h : EvOk evs) : EvOk (lateV evs) := fun e he => by
 obtain ⟨d, hd, rfl⟩ := List.mem_map.1 he
 exact h d hd
theorem vapp_eq {h : GH} {x : GObj} : (h ++ [x])[h.length]? = some x := by simp
theorem vapp_set {h : GH} {x y : GObj} : (h ++ [x]).set h.length y = h ++ [y] := by simp
set_option maxHeartbeats 2000000 in
theorem late_R {N : Int} {w : U} {evs : List Ev} (hw : isVa w evs) (hl : evs.length ≤ 200) : ∃ w' : U, GF gtab fid_archipelagoseat_Late [.agg [.int .u64 N, w]] [] 0 = some (.agg [.int .u64 N, w'], []) ∧ isVa w' (lateV evs) := by
 have key : ∃ u h', GF gtab fid_archipelagoseat_Late [.agg [.int .u64 N, w]] [] 0 = some (u, h') ∧ ∃ w' : U, u = .agg [.int .u64 N, w'] ∧ h' = [] ∧ isVa w' (lateV evs) := by
  refine fnR_archipelagoseat_Late rfl ?_
  simp only [genvOf]
  rcases hw with rfl | ⟨rfl, rfl⟩
  case inr =>
   refine Zr rfl (by simp (maxSteps := 2000000) only [gs,zlr,reduceIte,reduceCtorEq,zpa,zpb,zpc,zpd,zpe,zpf,zpg,zph,zpi,zpj,zpk,zpl,zpm,zpn,zpo,zpp]; rfl) ?_
   refine Zr rfl (by simp (maxSteps := 2000000) only [gs,zlr,reduceIte,reduceCtorEq,zpa,zpb,zpc,zpd,zpe,zpf,zpg,zph,zpi,zpj,zpk,zpl,zpm,zpn,zpo,zpp]; rfl) ?_
   refine Zr rfl (by simp (maxSteps := 2000000) only [gs,zlr,reduceIte,reduceCtorEq,zpa,zpb,zpc,zpd,zpe,zpf,zpg,zph,zpi,zpj,zpk,zpl,zpm,zpn,zpo,zpp]; rfl) (Zc rfl rfl (fun _ => ?_) (fun h => by cases h))
   refine Zr rfl (by simp (maxSteps := 2000000) only [gs,zlr,reduceIte,reduceCtorEq,zpa,zpb,zpc,zpd,zpe,zpf,zpg,zph,zpi,zpj,zpk,zpl,zpm,zpn,zpo,zpp]; rfl) (Zq rfl ⟨_, (by simp only [gres, gload, GEnv.get, if_true, if_false, Nat.reduceEqDiff, List.getElem?_cons_zero, List.getElem?_cons_succ, gof, cut, shares, U.share, U.handed, lay]; rfl), _, _, rfl, .nils, rfl, rfl, .inr ⟨rfl, rfl⟩⟩)
  by_cases h0 : evs = []
  ·subst h0
   refine Zr rfl (by simp (maxSteps := 2000000) only [gs,zlr,reduceIte,reduceCtorEq,zpa,zpb,zpc,zpd,zpe,zpf,zpg,zph,zpi,zpj,zpk,zpl,zpm,zpn,zpo,zpp]; rfl) ?_
   refine Zr rfl (by simp (maxSteps := 2000000) only [gs,zlr,reduceIte,reduceCtorEq,zpa,zpb,zpc,zpd,zpe,zpf,zpg,zph,zpi,zpj,zpk,zpl,zpm,zpn,zpo,zpp, uvs_length, List.length_nil, Int.natCast_zero]; rfl) ?_
   refine Zr rfl (by simp (maxSteps := 2000000) only [gs,zlr,reduceIte,reduceCtorEq,zpa,zpb,zpc,zpd,zpe,zpf,zpg,zph,zpi,zpj,zpk,zpl,zpm,zpn,zpo,zpp, beq_self_eq_true]; rfl) (Zc rfl rfl (fun _ => ?_) (fun h => by cases h))
   refine Zr rfl (by simp (maxSteps := 2000000) only [gs,zlr,reduceIte,reduceCtorEq,zpa,zpb,zpc,zpd,zpe,zpf,zpg,zph,zpi,zpj,zpk,zpl,zpm,zpn,zpo,zpp]; rfl) (Zq rfl ⟨_, (by simp only [gres, gload, GEnv.get, if_true, if_false, Nat.reduceEqDiff, List.getElem?_cons_zero, List.getElem?_cons_succ, gof, cut, shares, U.share, U.handed, lay]; rfl), _, _, rfl, .list false 4 (uvs []), rfl, rfl, .inl rfl⟩)
  have hpos : 0 < evs.length := List.length_pos_iff.2 h0
  have f0 : ((evs.length : Int) == 0) = false := beq_eq_false_iff_ne.2 (by omega)
  have gp : evs[evs.length - 1]? = some (evs[evs.length - 1]'(by omega)) := List.getElem?_eq_getElem _
  have hla : lastT evs = (evs[evs.length - 1]'(by omega)).1 := by rw [lastT, if_neg h0, List.getD_eq_getElem?_getD, gp]; rfl
  generalize evs[evs.length - 1]'(by omega) = d at gp hla
  have ws : IntKind.i64.wrap ((evs.length : Int) - 1) = ((evs.length - 1 : Nat) : Int) := by rw [wrap_i64 (by omega) (by omega)]; omega
  have n1 : ((0 : Int) ≤ ((evs.length - 1 : Nat) : Int)) = True := eq_true (by omega)
  refine Zr rfl (by simp (maxSteps := 2000000) only [gs,zlr,reduceIte,reduceCtorEq,zpa,zpb,zpc,zpd,zpe,zpf,zpg,zph,zpi,zpj,zpk,zpl,zpm,zpn,zpo,zpp]; rfl) ?_
  refine Zr rfl (by simp (maxSteps := 2000000) only [gs,zlr,reduceIte,reduceCtorEq,zpa,zpb,zpc,zpd,zpe,zpf,zpg,zph,zpi,zpj,zpk,zpl,zpm,zpn,zpo,zpp, uvs_length]; rfl) ?_
  refine Zr rfl (by simp (maxSteps := 2000000) only [gs,zlr,reduceIte,reduceCtorEq,zpa,zpb,zpc,zpd,zpe,zpf,zpg,zph,zpi,zpj,zpk,zpl,zpm,zpn,zpo,zpp, f0]; rfl) (Zc rfl rfl (fun h => by cases h) (fun _ => ?_))
  refine Zr rfl (by simp (maxSteps := 2000000) only [gs,zlr,reduceIte,reduceCtorEq,zpa,zpb,zpc,zpd,zpe,zpf,zpg,zph,zpi,zpj,zpk,zpl,zpm,zpn,zpo,zpp, ws, n1, uvs_get gp, ← hla]; rfl) ?_
  refine Zr rfl (by simp (maxSteps := 2000000) only [gs,zlr,reduceIte,reduceCtorEq,zpa,zpb,zpc,zpd,zpe,zpf,zpg,zph,zpi,zpj,zpk,zpl,zpm,zpn,zpo,zpp]; rfl) ?_
  refine Zr rfl (by simp (maxSteps := 2000000) only [gs,zlr,reduceIte,reduceCtorEq,zpa,zpb,zpc,zpd,zpe,zpf,zpg,zph,zpi,zpj,zpk,zpl,zpm,zpn,zpo,zpp]; rfl) ?_
  obtain ⟨dd, hdd⟩ : ∃ dd, dd = IntKind.i64.wrap (4611686018427387903 - lastT evs) := ⟨_, rfl⟩
  rw [← hdd]
  refine Zw rfl (fun m env h => ∃ (i : Nat) (W : U) (tail : GH), h = .box [.int .u64 N, .list false 4 (uvs evs)] :: .box [.int .u64 0, .nils] :: .box [.int .u64 N, W] :: tail ∧ ((i = 0 ∧ W = .nils) ∨ W = .own 4 (uvs ((lateV evs).take i))) ∧ GEnv.get env 1 = .ptr 0 0 0 0 ∧ GEnv.get env 2 = .ptr 1 0 0 0 ∧ GEnv.get env 3 = .int .i64 (evs.length : Int) ∧ GEnv.get env 4 = .int .i64 dd ∧ GEnv.get env 5 = .ptr 2 0 0 0 ∧ GEnv.get env 6 = .int .i64 (i : Int) ∧ m + i = evs.length) evs.length ⟨0, .nils, [], rfl, .inl ⟨rfl, rfl⟩, rfl, rfl, rfl, rfl, rfl, rfl, rfl⟩ ?_
  rintro m env h ⟨i, W, tail, rfl, hW, k1, k2, k3, k4, k5, k6, hm⟩
  simp only [GEnv.keep, k1, k2, k3, k4, k5, k6]
  have hll := lateV_length evs
  refine Zr rfl (by simp (maxSteps := 2000000) only [gs,zlr,reduceIte,reduceCtorEq,zpa,zpb,zpc,zpd,zpe,zpf,zpg,zph,zpi,zpj,zpk,zpl,zpm,zpn,zpo,zpp]; rfl) (Zp rfl rfl (fun hi => ?_) (fun hi => ?_))
  ·have hi' : i < evs.length := by omega
   have gx : evs[i]? = some (evs[i]'hi') := List.getElem?_eq_getElem _
   have hsn : (lateV evs).take (i + 1) = (lateV evs).take i ++ [(IntKind.i64.wrap ((evs[i]'hi').1 + dd), (evs[i]'hi').2.1, (evs[i]'hi').2.2.1, (evs[i]'hi').2.2.2)] := by
    rw [List.take_add_one, lateV, List.getElem?_map, gx, hdd]; rfl
   have htl : ((lateV evs).take i).length = i := by rw [List.length_take]; omega
   generalize evs[i]'hi' = e at gx hsn
   have n0 : ((0 : Int) ≤ (i : Int)) = True := eq_true (by omega)
   have hinc := up64 (show i < 9223372036854775807 by omega)
   have one_e : ([[U.int .i64 (IntKind.i64.wrap (e.1 + dd)), .int .u32 e.2.1, .int .u32 e.2.2.1, .bool e.2.2.2]] : List (List U)) = uvs [(IntKind.i64.wrap (e.1 + dd), e.2.1, e.2.2.1, e.2.2.2)] := rfl
   have one1 : ([(IntKind.i64.wrap (e.1 + dd), e.2.1, e.2.2.1, e.2.2.2)] : List Ev).length = 1 := rfl
   have r1 : ((i + 1) * 24 ≤ room) = True := eq_true (by unfold room; omega)
   have r2 : (1 * 24 ≤ room) = True := eq_true (by unfold room; omega)
   refine Zr rfl (by simp (maxSteps := 2000000) only [gs,zlr,reduceIte,reduceCtorEq,zpa,zpb,zpc,zpd,zpe,zpf,zpg,zph,zpi,zpj,zpk,zpl,zpm,zpn,zpo,zpp, n0, uvs_get gx, vapp_eq, vapp_set]; rfl) ?_
   refine Zr rfl (by simp (maxSteps := 2000000) only [gs,zlr,reduceIte,reduceCtorEq,zpa,zpb,zpc,zpd,zpe,zpf,zpg,zph,zpi,zpj,zpk,zpl,zpm,zpn,zpo,zpp, vapp_eq, vapp_set]; rfl) ?_
   rcases hW with ⟨hi0, rfl⟩ | rfl
   ·refine Zr rfl (by simp (maxSteps := 2000000) only [gs,zlr,reduceIte,reduceCtorEq,zpa,zpb,zpc,zpd,zpe,zpf,zpg,zph,zpi,zpj,zpk,zpl,zpm,zpn,zpo,zpp, vapp_eq, vapp_set, one_e, uvs_length, one1, r2]; rfl) ?_
    refine Zr rfl (by simp (maxSteps := 2000000) only [gs,zlr,reduceIte,reduceCtorEq,zpa,zpb,zpc,zpd,zpe,zpf,zpg,zph,zpi,zpj,zpk,zpl,zpm,zpn,zpo,zpp, hinc]; rfl) ?_
    refine Za rfl ⟨m - 1, by omega, i + 1, _, _, rfl, .inr ?_, rfl, rfl, rfl, rfl, rfl, rfl, by omega⟩
    subst hi0
    rw [hsn]; rfl
   ·refine Zr rfl (by simp (maxSteps := 2000000) only [gs,zlr,reduceIte,reduceCtorEq,zpa,zpb,zpc,zpd,zpe,zpf,zpg,zph,zpi,zpj,zpk,zpl,zpm,zpn,zpo,zpp, vapp_eq, vapp_set, one_e, uvs_length, htl, one1, r1, uvs_append, ← hsn]; rfl) ?_
    refine Zr rfl (by simp (maxSteps := 2000000) only [gs,zlr,reduceIte,reduceCtorEq,zpa,zpb,zpc,zpd,zpe,zpf,zpg,zph,zpi,zpj,zpk,zpl,zpm,zpn,zpo,zpp, hinc]; rfl) ?_
    exact Za rfl ⟨m - 1, by omega, i + 1, _, _, rfl, .inr rfl, rfl, rfl, rfl, rfl, rfl, rfl, by omega⟩
  ·have hiL : i = evs.length := by omega
   rcases hW with ⟨hi0, _⟩ | rfl
   ·omega
   have et : (lateV evs).take i = lateV evs := List.take_of_length_le (by omega)
   rw [et]
   refine Zr rfl (by simp (maxSteps := 2000000) only [gs,zlr,reduceIte,reduceCtorEq,zpa,zpb,zpc,zpd,zpe,zpf,zpg,zph,zpi,zpj,zpk,zpl,zpm,zpn,zpo,zpp]; rfl) (Zq rfl ⟨_, (by simp only [gres, gload, GEnv.get, if_true, if_false, Nat.reduceEqDiff, List.getElem?_cons_zero, List.getElem?_cons_succ, gof, cut, shares, U.share, U.handed, lay]; rfl), _, _, (by simp only [gfin, outs, U.out, U.rf, List.drop_zero, List.take_succ_cons, List.take_zero, shares, U.share, rfL, rfLL_uvs, Bool.and_self, Bool.and_true, if_true, Option.map_some]; rfl), .list false 4 (uvs (lateV evs)), rfl, rfl, .inl rfl⟩)
 obtain ⟨u, h', h1, w', rfl, rfl, h2⟩ := key
 exact ⟨w', h1, h2⟩
end Go.Ab
namespace Go.Ab
open Go
open Nat renaming reduceEqDiff → zpa, reduceLT → zpb, reduceAdd → zpc, reduceSub → zpd, reduceLeDiff → zpe, reduceMul → zpf
open Int renaming reduceToNat → zpg, reduceLT → zph, reduceLE → zpi, reduceEq → zpj, reduceNe → zpk, reduceBEq → zpl, reduceBNe → zpm, reduceAdd → zpn, reduceSub → zpo, reduceNeg → zpp
open List renaming replicate → zlr
set_option linter.unusedVariables false
set_option linter.unusedSimpArgs false
set_option maxRecDepth 10000
theorem known16_H : GF gtab fid_archipelagolaw16_known [] [] 0 = some (.bool true, []) := GF_run 300 (by kernel_rfl)
end Go.Ab
namespace Go.Ab
open Go
open Nat renaming reduceEqDiff → zpa, reduceLT → zpb, reduceAdd → zpc, reduceSub → zpd, reduceLeDiff → zpe, reduceMul → zpf
open Int renaming reduceToNat → zpg, reduceLT → zph, reduceLE → zpi, reduceEq → zpj, reduceNe → zpk, reduceBEq → zpl, reduceBNe → zpm, reduceAdd → zpn, reduceSub → zpo, reduceNeg → zpp
open List renaming replicate → zlr
set_option linter.unusedVariables false
set_option linter.unusedSimpArgs false
set_option maxRecDepth 10000
theorem late_sh {N : Int} {evs : List Ev} (h : RightV N evs) (hs : SortT evs) : ∃ d : Int, 0 ≤ d ∧ lateV evs = evs.map (shE d) ∧ ∀ e ∈ evs, e.1 + d ≤ 4611686018427387903 := by
 by_cases h0 : evs = []
 ·subst h0; exact ⟨0, by omega, rfl, fun e he => (by cases he)⟩
 have hpos : 0 < evs.length := List.length_pos_iff.2 h0
 have gp : evs[evs.length - 1]? = some (evs[evs.length - 1]'(by omega)) := List.getElem?_eq_getElem _
 have hla : lastT evs = (evs[evs.length - 1]'(by omega)).1 := by rw [lastT, if_neg h0, List.getD_eq_getElem?_getD, gp]; rfl
 generalize evs[evs.length - 1]'(by omega) = d at gp hla
 have hd := (right_ev h gp).1
 have hle : ∀ e ∈ evs, e.1 ≤ d.1 := fun e he => by
  obtain ⟨i, hi⟩ := List.mem_iff_getElem?.1 he
  have := (List.getElem?_eq_some_iff.1 hi).1
  exact hs i (evs.length - 1) e d (by omega) hi gp
 refine ⟨4611686018427387903 - d.1, by omega, ?_, fun e he => by have := hle e he; omega⟩
 unfold lateV
 rw [hla]
 refine List.map_congr_left fun e he => ?_
 obtain ⟨i, hi⟩ := List.mem_iff_getElem?.1 he
 have h1 := (right_ev h hi).1
 have h2 := hle e he
 rw [wrap_i64 (n := 4611686018427387903 - d.1) (by omega) (by omega), wrap_i64 (by omega) (by omega)]
 rfl
end Go.Ab
