/- IndexTells: which rows may be, their bytes, which one a time falls to, and where each body is. -/
import Derived.Test.YtnikphikjkfooaaIdxE
import Derived.Test.YtnikphikjkfooaaIdxF
import Derived.Test.YtnikphikjkfooaaArgA
import Derived.Test.YtnikphikjkfooaaValN
import Derived.KernelRfl
namespace Go.Ab
open Go
open Nat renaming reduceEqDiff → zpa, reduceLT → zpb, reduceAdd → zpc, reduceSub → zpd, reduceLeDiff → zpe, reduceMul → zpf
open Int renaming reduceToNat → zpg, reduceLT → zph, reduceLE → zpi, reduceEq → zpj, reduceNe → zpk, reduceBEq → zpl, reduceBNe → zpm, reduceAdd → zpn, reduceSub → zpo, reduceNeg → zpp
open List renaming replicate → zlr
set_option linter.unusedVariables false
set_option linter.unusedSimpArgs false
set_option maxRecDepth 10000
theorem index_known2 : GF gtab fid_archipelagolaw19_known [] [] 0 = some (.bool true, []) := GF_run 100 (by kernel_rfl)
theorem Zj1 {T : GTab} {fl : Fl} {lo : Nat} {env : GEnv} {h : GH} {Q : GEnv → GH → Prop} {ic : IC} {ks' : List K} (P : GEnv → GH → Prop) (k1 : Z T fl lo (.c ic :: .again P :: ks') env h Q) (k2 : ∀ env h, P env h → Z T fl lo ks' env h Q) : Z T fl lo (.c ic :: ks') env h Q := by
 unfold Z at k1 k2 ⊢
 simp only [post] at k1 ⊢
 refine k1.mono fun e env' h' m => ?_
 cases e with
 | norm => exact k2 _ _ m
 | exit j => exact m
 | ret => exact m
theorem ur_set3 {l : List Row3} {i : Nat} {x y z : Int} : (ur l).set i [.int .i64 x, .int .i64 y, .int .u32 z] = ur (l.set i (x, y, z)) := by simp [ur, List.map_set]
def isRw (w : U) (R : List Row3) : Prop := w = .list false 3 (ur R) ∨ (w = .nils ∧ R = [])
theorem rrightN_G : GF gtab fid_archipelagoref18_RowsRight [.nils] [] 0 = some (.bool true, []) := GF_run 40 (by kernel_rfl)
theorem rfindN_G (t : Int) : GF gtab fid_archipelagoref18_Find [.nils, .int .i64 t] [] 0 = some (.int .i64 (-1), []) := GF_run 60 (by kernel_rfl)
theorem putN_G : GF gtab fid_index_Put [.nils] [] 0 = some (.tup [.own 1 (un .u8 (rowsS [])), .bool true], []) := GF_run 200 (by kernel_rfl)
theorem rputN_G : GF gtab fid_archipelagoref18_RowsPut [.nils] [] 0 = some (.tup [.own 1 (un .u8 (rowsS [])), .bool true], []) := GF_run 200 (by kernel_rfl)
theorem offsetN_G {i : Int} : GF gtab fid_index_Offset [.nils, .int .i64 i] [] 0 = some (.int .i64 0, []) := by
 refine fn_index_Offset rfl ?_
 simp only [genvOf]
 by_cases h0 : i < 0
 ·have c := eq_true h0
  refine Zr rfl (by simp (maxSteps := 2000000) only [gs,zlr,reduceIte,reduceCtorEq,zpa,zpb,zpc,zpd,zpe,zpf,zpg,zph,zpi,zpj,zpk,zpl,zpm,zpn,zpo,zpp]; rfl) ?_
  refine Zr rfl (by simp (maxSteps := 2000000) only [gs,zlr,reduceIte,reduceCtorEq,zpa,zpb,zpc,zpd,zpe,zpf,zpg,zph,zpi,zpj,zpk,zpl,zpm,zpn,zpo,zpp, c, decide_true]; rfl) (Zc rfl rfl (fun _ => ?_) (fun h => by cases h))
  exact Zr rfl (by simp (maxSteps := 2000000) only [gs,zlr,reduceIte,reduceCtorEq,zpa,zpb,zpc,zpd,zpe,zpf,zpg,zph,zpi,zpj,zpk,zpl,zpm,zpn,zpo,zpp]; rfl) (Zq rfl ⟨_, rfl, rfl⟩)
 ·have c := eq_false h0
  have c2 : (i ≥ 0) = True := eq_true (by omega)
  refine Zr rfl (by simp (maxSteps := 2000000) only [gs,zlr,reduceIte,reduceCtorEq,zpa,zpb,zpc,zpd,zpe,zpf,zpg,zph,zpi,zpj,zpk,zpl,zpm,zpn,zpo,zpp]; rfl) ?_
  refine Zr rfl (by simp (maxSteps := 2000000) only [gs,zlr,reduceIte,reduceCtorEq,zpa,zpb,zpc,zpd,zpe,zpf,zpg,zph,zpi,zpj,zpk,zpl,zpm,zpn,zpo,zpp, c, c2, decide_true, decide_false]; rfl) (Zc rfl rfl (fun _ => ?_) (fun h => by cases h))
  exact Zr rfl (by simp (maxSteps := 2000000) only [gs,zlr,reduceIte,reduceCtorEq,zpa,zpb,zpc,zpd,zpe,zpf,zpg,zph,zpi,zpj,zpk,zpl,zpm,zpn,zpo,zpp]; rfl) (Zq rfl ⟨_, rfl, rfl⟩)
theorem roffsetN_G {i : Int} : GF gtab fid_archipelagoref18_Offset [.nils, .int .i64 i] [] 0 = some (.int .i64 0, []) := by
 refine fn_archipelagoref18_Offset rfl ?_
 simp only [genvOf]
 by_cases h0 : i < 0
 ·have c := eq_true h0
  refine Zr rfl (by simp (maxSteps := 2000000) only [gs,zlr,reduceIte,reduceCtorEq,zpa,zpb,zpc,zpd,zpe,zpf,zpg,zph,zpi,zpj,zpk,zpl,zpm,zpn,zpo,zpp]; rfl) ?_
  refine Zr rfl (by simp (maxSteps := 2000000) only [gs,zlr,reduceIte,reduceCtorEq,zpa,zpb,zpc,zpd,zpe,zpf,zpg,zph,zpi,zpj,zpk,zpl,zpm,zpn,zpo,zpp, c, decide_true]; rfl) (Zc rfl rfl (fun _ => ?_) (fun h => by cases h))
  exact Zr rfl (by simp (maxSteps := 2000000) only [gs,zlr,reduceIte,reduceCtorEq,zpa,zpb,zpc,zpd,zpe,zpf,zpg,zph,zpi,zpj,zpk,zpl,zpm,zpn,zpo,zpp]; rfl) (Zq rfl ⟨_, rfl, rfl⟩)
 ·have c := eq_false h0
  have c2 : (i ≥ 0) = True := eq_true (by omega)
  refine Zr rfl (by simp (maxSteps := 2000000) only [gs,zlr,reduceIte,reduceCtorEq,zpa,zpb,zpc,zpd,zpe,zpf,zpg,zph,zpi,zpj,zpk,zpl,zpm,zpn,zpo,zpp]; rfl) ?_
  refine Zr rfl (by simp (maxSteps := 2000000) only [gs,zlr,reduceIte,reduceCtorEq,zpa,zpb,zpc,zpd,zpe,zpf,zpg,zph,zpi,zpj,zpk,zpl,zpm,zpn,zpo,zpp, c, c2, decide_true, decide_false]; rfl) (Zc rfl rfl (fun _ => ?_) (fun h => by cases h))
  exact Zr rfl (by simp (maxSteps := 2000000) only [gs,zlr,reduceIte,reduceCtorEq,zpa,zpb,zpc,zpd,zpe,zpf,zpg,zph,zpi,zpj,zpk,zpl,zpm,zpn,zpo,zpp]; rfl) (Zq rfl ⟨_, rfl, rfl⟩)
theorem right_w {w : U} {R : List Row3} (hw : isRw w R) (hl : R.length ≤ 1000) : GF gtab fid_index_Right [w] [] 0 = some (.bool (okN R R.length), []) := by
 rcases hw with rfl | ⟨rfl, rfl⟩
 ·exact rightAny_G hl
 ·exact rightN_G
theorem rright_w {w : U} {R : List Row3} (hw : isRw w R) (hl : R.length ≤ 1000) : GF gtab fid_archipelagoref18_RowsRight [w] [] 0 = some (.bool (okN R R.length), []) := by
 rcases hw with rfl | ⟨rfl, rfl⟩
 ·exact rrightAny_G hl
 ·exact rrightN_G
theorem put_w {w : U} {R : List Row3} (hw : isRw w R) (hl : R.length ≤ 1000) (hs : SumsOk R) : GF gtab fid_index_Put [w] [] 0 = some (if okN R R.length = true then .tup [.own 1 (un .u8 (rowsS R)), .bool true] else .tup [.nils, .bool false], []) := by
 rcases hw with rfl | ⟨rfl, rfl⟩
 ·exact iput_G hl hs
 ·rw [if_pos (show okN [] ([] : List Row3).length = true from rfl)]; exact putN_G
theorem rput_w {w : U} {R : List Row3} (hw : isRw w R) (hl : R.length ≤ 1000) (hs : SumsOk R) : GF gtab fid_archipelagoref18_RowsPut [w] [] 0 = some (if okN R R.length = true then .tup [.own 1 (un .u8 (rowsS R)), .bool true] else .tup [.nils, .bool false], []) := by
 rcases hw with rfl | ⟨rfl, rfl⟩
 ·exact rput_G hl hs
 ·rw [if_pos (show okN [] ([] : List Row3).length = true from rfl)]; exact rputN_G
theorem find_w {w : U} {R : List Row3} {t : Int} (hw : isRw w R) (hl : R.length ≤ 1000) : GF gtab fid_index_Find [w, .int .i64 t] [] 0 = some (.int .i64 (findV R t), []) := by
 rcases hw with rfl | ⟨rfl, rfl⟩
 ·exact find_any hl
 ·exact findN_G t
theorem rfind_w {w : U} {R : List Row3} {t : Int} (hw : isRw w R) (hl : R.length ≤ 1000) : GF gtab fid_archipelagoref18_Find [w, .int .i64 t] [] 0 = some (.int .i64 (findV R t), []) := by
 rcases hw with rfl | ⟨rfl, rfl⟩
 ·exact rfind_any hl
 ·exact rfindN_G t
theorem offV_nil (i : Int) : offV [] i = 0 := by
 unfold offV
 split
 ·rfl
 ·rename_i h
  exfalso
  apply h
  by_cases h0 : i < 0
  ·exact .inl h0
  ·exact .inr (.inl (by simp; omega))
theorem offset_w {w : U} {R : List Row3} {i : Int} (hw : isRw w R) (hl : R.length ≤ 1000) : GF gtab fid_index_Offset [w, .int .i64 i] [] 0 = some (.int .i64 (offV R i), []) := by
 rcases hw with rfl | ⟨rfl, rfl⟩
 ·exact offset_any hl
 ·rw [offV_nil]; exact offsetN_G
theorem roffset_w {w : U} {R : List Row3} {i : Int} (hw : isRw w R) (hl : R.length ≤ 1000) : GF gtab fid_archipelagoref18_Offset [w, .int .i64 i] [] 0 = some (.int .i64 (offV R i), []) := by
 rcases hw with rfl | ⟨rfl, rfl⟩
 ·exact roffset_any hl
 ·rw [offV_nil]; exact roffsetN_G
theorem wrap_u32_rng (n : Int) : 0 ≤ IntKind.u32.wrap n ∧ IntKind.u32.wrap n < 4294967296 := by
 have := Int.emod_nonneg n (b := 4294967296) (by omega)
 have := Int.emod_lt_of_pos n (b := 4294967296) (by omega)
 have e : IntKind.u32.wrap n = n % 4294967296 := rfl
 omega
theorem SumsOk.set {R : List Row3} (h : SumsOk R) {k : Nat} {r : Row3} (hr : 0 ≤ r.2.2 ∧ r.2.2 < 4294967296) : SumsOk (R.set k r) := fun x hx => by
 rcases List.mem_or_eq_of_mem_set hx with h1 | rfl
 ·exact h x h1
 ·exact hr
set_option maxHeartbeats 2000000 in
theorem bent_R {w : U} {R : List Row3} {what at' : Nat} {v : Int} (hw : w = .list false 3 (ur R) ∧ R ≠ [] ∨ (w = .nils ∧ R = [])) (hl : R.length ≤ 20) (hs : SumsOk R) (ha : at' < 256) :
  ∃ u R', GF gtab fid_archipelagolaw19_bent [w, .int .u8 what, .int .u8 at', .int .i64 v] [] 0 = some (u, []) ∧ (u = .list false 3 (ur R') ∨ u = .own 3 (ur R')) ∧ R'.length ≤ 20 ∧ SumsOk R' := by
 have key : ∃ u h', GF gtab fid_archipelagolaw19_bent [w, .int .u8 what, .int .u8 at', .int .i64 v] [] 0 = some (u, h') ∧ h' = [] ∧ ∃ R', (u = .list false 3 (ur R') ∨ u = .own 3 (ur R')) ∧ R'.length ≤ 20 ∧ SumsOk R' := by
  refine fnR_archipelagolaw19_bent rfl ?_
  simp only [genvOf]
  rcases hw with ⟨rfl, hne⟩ | ⟨rfl, rfl⟩
  case inr =>
   have e1 : ([[U.int .i64 v, .int .i64 v, .int .u32 0]] : List (List U)) = ur [(v, v, 0)] := rfl
   refine Zr rfl (by simp (maxSteps := 2000000) only [gs,zlr,reduceIte,reduceCtorEq,zpa,zpb,zpc,zpd,zpe,zpf,zpg,zph,zpi,zpj,zpk,zpl,zpm,zpn,zpo,zpp]; rfl) ?_
   refine Zr rfl (by simp (maxSteps := 2000000) only [gs,zlr,reduceIte,reduceCtorEq,zpa,zpb,zpc,zpd,zpe,zpf,zpg,zph,zpi,zpj,zpk,zpl,zpm,zpn,zpo,zpp]; rfl) ?_
   refine Zr rfl (by simp (maxSteps := 2000000) only [gs,zlr,reduceIte,reduceCtorEq,zpa,zpb,zpc,zpd,zpe,zpf,zpg,zph,zpi,zpj,zpk,zpl,zpm,zpn,zpo,zpp, beq_self_eq_true]; rfl) (Zc rfl rfl (fun _ => ?_) (fun h => by cases h))
   refine Zr rfl (by simp (maxSteps := 2000000) only [gs,zlr,reduceIte,reduceCtorEq,zpa,zpb,zpc,zpd,zpe,zpf,zpg,zph,zpi,zpj,zpk,zpl,zpm,zpn,zpo,zpp, e1]; rfl) (Zq rfl ⟨_, rfl, ?_⟩)
   simp only [gfin, outs, U.out, U.handed, U.share, U.rf, els, GEnv.get, if_true, Nat.reduceEqDiff, if_false, rfLL_ur, Option.map_some]
   exact ⟨_, _, rfl, rfl, [(v, v, 0)], .inr rfl, by simp, fun x hx => by rw [List.mem_singleton.1 hx]; simp only; omega⟩
  have hpos := List.length_pos_iff.2 hne
  have hun : (ur R = []) = False := eq_false (by cases R with
   | nil => exact absurd rfl hne
   | cons y ys => simp [ur])
  have hr : (R.length * 24 ≤ room) = True := eq_true (by unfold room; omega)
  have z1 : (((R.length : Nat) : Int) == 0) = false := beq_eq_false_iff_ne.2 (by omega)
  have z2 : (((R.length : Nat) : Int) = 0) = False := eq_false (by omega)
  have wa : IntKind.i64.wrap ((at' : Nat) : Int) = ((at' : Nat) : Int) := wrap_i64_nat (by omega)
  have ma : ((at' : Nat) : Int).tmod ((R.length : Nat) : Int) = ((at' % R.length : Nat) : Int) := rfl
  have hk := Nat.mod_lt at' hpos
  refine Zr rfl (by simp (maxSteps := 2000000) only [gs,zlr,reduceIte,reduceCtorEq,zpa,zpb,zpc,zpd,zpe,zpf,zpg,zph,zpi,zpj,zpk,zpl,zpm,zpn,zpo,zpp]; rfl) ?_
  refine Zr rfl (by simp (maxSteps := 2000000) only [gs,zlr,reduceIte,reduceCtorEq,zpa,zpb,zpc,zpd,zpe,zpf,zpg,zph,zpi,zpj,zpk,zpl,zpm,zpn,zpo,zpp, ur_length, hun, hr]; rfl) ?_
  refine Zr rfl (by simp (maxSteps := 2000000) only [gs,zlr,reduceIte,reduceCtorEq,zpa,zpb,zpc,zpd,zpe,zpf,zpg,zph,zpi,zpj,zpk,zpl,zpm,zpn,zpo,zpp, ur_length, z1]; rfl) (Zc rfl rfl (fun h => by cases h) (fun _ => ?_))
  refine Zr rfl (by simp (maxSteps := 2000000) only [gs,zlr,reduceIte,reduceCtorEq,zpa,zpb,zpc,zpd,zpe,zpf,zpg,zph,zpi,zpj,zpk,zpl,zpm,zpn,zpo,zpp, wa, ma, z2]; rfl) ?_
  generalize at' % R.length = k at hk
  have m4 : ((what : Nat) : Int).tmod 4 = ((what % 4 : Nat) : Int) := rfl
  have n0 : ((0 : Int) ≤ (k : Int)) = True := eq_true (by omega)
  have n1 : ((k : Int) < (R.length : Int)) = True := eq_true (by omega)
  have n2 : ((0 : Int) < (R.length : Int)) = True := eq_true (by omega)
  have gx : R[k]? = some (R[k]'hk) := List.getElem?_eq_getElem _
  have hsx := hs _ (List.mem_of_getElem? gx)
  generalize R[k]'hk = r at gx hsx
  have g0 : R[0]? = some (R[0]'hpos) := List.getElem?_eq_getElem _
  have hs0 := hs _ (List.mem_of_getElem? g0)
  generalize R[0]'hpos = r0 at g0 hs0
  refine Z_nrm 1 (Zj1 (fun env h => ∃ R', R'.length = R.length ∧ SumsOk R' ∧ h = [.arr (ur R') 0 0] ∧ GEnv.get env 9 = .asl none 0 0 0 R.length 3) ?_ ?_)
  ·refine Zr rfl (by simp (maxSteps := 2000000) only [gs,zlr,reduceIte,reduceCtorEq,zpa,zpb,zpc,zpd,zpe,zpf,zpg,zph,zpi,zpj,zpk,zpl,zpm,zpn,zpo,zpp, m4]; rfl) ?_
   generalize what % 4 = q
   have fe : ∀ j : Nat, q = j → (((q : Nat) : Int) == (j : Int)) = true := fun j h => by rw [h]; simp
   have fn : ∀ j : Nat, q ≠ j → (((q : Nat) : Int) == (j : Int)) = false := fun j h => beq_eq_false_iff_ne.2 (by omega)
   by_cases q0 : q = 0
   ·have c0 : (((q : Nat) : Int) == 0) = true := fe 0 q0
    refine Zr rfl (by simp (maxSteps := 2000000) only [gs,zlr,reduceIte,reduceCtorEq,zpa,zpb,zpc,zpd,zpe,zpf,zpg,zph,zpi,zpj,zpk,zpl,zpm,zpn,zpo,zpp, c0]; rfl) (Zc rfl rfl (fun _ => ?_) (fun h => by cases h))
    refine Zr rfl (by simp (maxSteps := 2000000) only [gs,zlr,reduceIte,reduceCtorEq,zpa,zpb,zpc,zpd,zpe,zpf,zpg,zph,zpi,zpj,zpk,zpl,zpm,zpn,zpo,zpp, n0, n1, Nat.zero_add, ur_get gx, ur_set3]; rfl) ?_
    exact Za rfl ⟨_, by simp, hs.set (r := (v, r.2.1, r.2.2)) hsx, rfl, rfl⟩
   have c0 : (((q : Nat) : Int) == 0) = false := fn 0 q0
   by_cases q1 : q = 1
   ·have c1 : (((q : Nat) : Int) == 1) = true := fe 1 q1
    refine Zr rfl (by simp (maxSteps := 2000000) only [gs,zlr,reduceIte,reduceCtorEq,zpa,zpb,zpc,zpd,zpe,zpf,zpg,zph,zpi,zpj,zpk,zpl,zpm,zpn,zpo,zpp, c0]; rfl) (Zc rfl rfl (fun h => by cases h) (fun _ => ?_))
    refine Zr rfl (by simp (maxSteps := 2000000) only [gs,zlr,reduceIte,reduceCtorEq,zpa,zpb,zpc,zpd,zpe,zpf,zpg,zph,zpi,zpj,zpk,zpl,zpm,zpn,zpo,zpp, c1]; rfl) (Zc rfl rfl (fun _ => ?_) (fun h => by cases h))
    refine Zr rfl (by simp (maxSteps := 2000000) only [gs,zlr,reduceIte,reduceCtorEq,zpa,zpb,zpc,zpd,zpe,zpf,zpg,zph,zpi,zpj,zpk,zpl,zpm,zpn,zpo,zpp, n0, n1, Nat.zero_add, ur_get gx, ur_set3]; rfl) ?_
    exact Za rfl ⟨_, by simp, hs.set (r := (r.1, v, r.2.2)) hsx, rfl, rfl⟩
   have c1 : (((q : Nat) : Int) == 1) = false := fn 1 q1
   by_cases q2 : q = 2
   ·have c2 : (((q : Nat) : Int) == 2) = true := fe 2 q2
    refine Zr rfl (by simp (maxSteps := 2000000) only [gs,zlr,reduceIte,reduceCtorEq,zpa,zpb,zpc,zpd,zpe,zpf,zpg,zph,zpi,zpj,zpk,zpl,zpm,zpn,zpo,zpp, c0]; rfl) (Zc rfl rfl (fun h => by cases h) (fun _ => ?_))
    refine Zr rfl (by simp (maxSteps := 2000000) only [gs,zlr,reduceIte,reduceCtorEq,zpa,zpb,zpc,zpd,zpe,zpf,zpg,zph,zpi,zpj,zpk,zpl,zpm,zpn,zpo,zpp, c1]; rfl) (Zc rfl rfl (fun h => by cases h) (fun _ => ?_))
    refine Zr rfl (by simp (maxSteps := 2000000) only [gs,zlr,reduceIte,reduceCtorEq,zpa,zpb,zpc,zpd,zpe,zpf,zpg,zph,zpi,zpj,zpk,zpl,zpm,zpn,zpo,zpp, c2]; rfl) (Zc rfl rfl (fun _ => ?_) (fun h => by cases h))
    refine Zr rfl (by simp (maxSteps := 2000000) only [gs,zlr,reduceIte,reduceCtorEq,zpa,zpb,zpc,zpd,zpe,zpf,zpg,zph,zpi,zpj,zpk,zpl,zpm,zpn,zpo,zpp, n0, n1, Nat.zero_add, ur_get gx, ur_set3]; rfl) ?_
    exact Za rfl ⟨_, by simp, hs.set (r := (r.1, r.2.1, IntKind.u32.wrap v)) (wrap_u32_rng v), rfl, rfl⟩
   have c2 : (((q : Nat) : Int) == 2) = false := fn 2 q2
   have hsetl : (R.set k (r0.1, r0.2.1, r0.2.2)).length = R.length := by simp
   have g1 : (R.set k (r0.1, r0.2.1, r0.2.2))[0]? = some r0 := by
    by_cases hk0 : k = 0
    ·subst hk0; rw [List.getElem?_set_self hpos]
    ·rw [List.getElem?_set_ne hk0, g0]
   refine Zr rfl (by simp (maxSteps := 2000000) only [gs,zlr,reduceIte,reduceCtorEq,zpa,zpb,zpc,zpd,zpe,zpf,zpg,zph,zpi,zpj,zpk,zpl,zpm,zpn,zpo,zpp, c0]; rfl) (Zc rfl rfl (fun h => by cases h) (fun _ => ?_))
   refine Zr rfl (by simp (maxSteps := 2000000) only [gs,zlr,reduceIte,reduceCtorEq,zpa,zpb,zpc,zpd,zpe,zpf,zpg,zph,zpi,zpj,zpk,zpl,zpm,zpn,zpo,zpp, c1]; rfl) (Zc rfl rfl (fun h => by cases h) (fun _ => ?_))
   refine Zr rfl (by simp (maxSteps := 2000000) only [gs,zlr,reduceIte,reduceCtorEq,zpa,zpb,zpc,zpd,zpe,zpf,zpg,zph,zpi,zpj,zpk,zpl,zpm,zpn,zpo,zpp, c2]; rfl) (Zc rfl rfl (fun h => by cases h) (fun _ => ?_))
   refine Zd rfl (by simp (maxSteps := 2000000) only [gs,gd,zlr,id,reduceIte,reduceCtorEq,zpa,zpb,zpc,zpd,zpe,zpf,zpg,zph,zpi,zpj,zpk,zpl,zpm,zpn,zpo,zpp, n0, n1, n2, Nat.zero_add, ur_get gx, ur_get g0, ur_get g1, ur_set3]; rfl) ?_
   exact Za rfl ⟨_, by simp, (hs.set (k := k) (r := (r0.1, r0.2.1, r0.2.2)) hs0).set (k := 0) (r := (r.1, r.2.1, r.2.2)) hsx, rfl, rfl⟩
  rintro env h ⟨R', h1, h2, rfl, k9⟩
  have hcut : cut (ur R') 0 R.length = ur R' := by unfold cut; rw [List.drop_zero, ur_take, List.take_of_length_le (by omega)]
  have hle : (R.length ≤ R'.length) = True := eq_true (by omega)
  refine Zr rfl (by simp (maxSteps := 2000000) only [gs,zlr,reduceIte,reduceCtorEq,zpa,zpb,zpc,zpd,zpe,zpf,zpg,zph,zpi,zpj,zpk,zpl,zpm,zpn,zpo,zpp, k9]; rfl) (Zq rfl ⟨_, rfl, ?_⟩)
  simp only [gfin, outs, U.out, U.handed, U.share, U.rf, els, GEnv.get, if_true, Nat.reduceEqDiff, if_false, rfLL_ur, Option.map_some, List.getElem?_cons_zero, ur_length, hle, Nat.zero_add, hcut, Nat.le_refl, and_self]
  exact ⟨_, _, rfl, rfl, R', .inl rfl, by omega, h2⟩
 obtain ⟨u, h', h1, rfl, R', h2⟩ := key
 exact ⟨u, R', h1, h2⟩
def rowU (xs : List U) : List (List U) := xs.map fun u => [u]
theorem rowU_get {xs : List U} {i : Nat} {x : U} (h : xs[i]? = some x) : (rowU xs)[i]? = some [x] := by simp [rowU, h]
set_option maxHeartbeats 8000000 in
theorem indexTells_G {raw : List Row3} {l : List Nat} {what at' : Nat} {v t i0 : Int} (hraw : SumsOk raw) (hl : ∀ x ∈ l, x < 65536) (ha : at' < 256) :
  GF gtab fid_archipelagolaw19_IndexTells [.list false 3 (ur raw), .list false 1 (un .u16 l), .int .u8 (what : Int), .int .u8 (at' : Int), .int .i64 v, .int .i64 t, .int .i64 i0] [] 0 = some (.bool true, []) := by
 refine fn_archipelagolaw19_IndexTells rfl ?_
 simp only [genvOf]
 refine Zr rfl (by simp (maxSteps := 2000000) only [gs,zlr,reduceIte,reduceCtorEq,zpa,zpb,zpc,zpd,zpe,zpf,zpg,zph,zpi,zpj,zpk,zpl,zpm,zpn,zpo,zpp]; rfl) ?_
 refine Zr rfl (by simp (maxSteps := 2000000) only [gs,zlr,reduceIte,reduceCtorEq,zpa,zpb,zpc,zpd,zpe,zpf,zpg,zph,zpi,zpj,zpk,zpl,zpm,zpn,zpo,zpp, gc_archipelagolaw19_known, index_known2]; rfl) (Zc rfl rfl (fun h => by cases h) (fun _ => ?_))
 by_cases a1 : raw.length ≤ 20
 case neg =>
  have g1 : ((raw.length : Int) > 20) = True := eq_true (by omega)
  refine Zr rfl (by simp (maxSteps := 2000000) only [gs,zlr,reduceIte,reduceCtorEq,zpa,zpb,zpc,zpd,zpe,zpf,zpg,zph,zpi,zpj,zpk,zpl,zpm,zpn,zpo,zpp, ur_length, g1, decide_true]; rfl) (Zc rfl rfl (fun _ => ?_) (fun h => by cases h))
  exact Zr rfl (by simp (maxSteps := 2000000) only [gs,zlr,reduceIte,reduceCtorEq,zpa,zpb,zpc,zpd,zpe,zpf,zpg,zph,zpi,zpj,zpk,zpl,zpm,zpn,zpo,zpp]; rfl) (Zq rfl ⟨_, rfl, rfl⟩)
 have g1 : ((raw.length : Int) > 20) = False := eq_false (by omega)
 by_cases a2 : l.length ≤ 20
 case neg =>
  have g2 : ((l.length : Int) > 20) = True := eq_true (by omega)
  refine Zr rfl (by simp (maxSteps := 2000000) only [gs,zlr,reduceIte,reduceCtorEq,zpa,zpb,zpc,zpd,zpe,zpf,zpg,zph,zpi,zpj,zpk,zpl,zpm,zpn,zpo,zpp, ur_length, g1, un_length, g2, decide_true, decide_false]; rfl) (Zc rfl rfl (fun _ => ?_) (fun h => by cases h))
  exact Zr rfl (by simp (maxSteps := 2000000) only [gs,zlr,reduceIte,reduceCtorEq,zpa,zpb,zpc,zpd,zpe,zpf,zpg,zph,zpi,zpj,zpk,zpl,zpm,zpn,zpo,zpp]; rfl) (Zq rfl ⟨_, rfl, rfl⟩)
 have g2 : ((l.length : Int) > 20) = False := eq_false (by omega)
 have RW := rows_G hl (show l.length ≤ 60 by omega)
 obtain ⟨R, hR⟩ : ∃ R, R = rowsL l l.length := ⟨_, rfl⟩
 rw [← hR] at RW
 have hRl : R.length = l.length := by rw [hR, rowsL_length]
 have hRs : SumsOk R := fun r hr => by
  obtain ⟨i, hi⟩ := List.mem_iff_getElem?.1 hr
  rw [hR] at hi
  rw [(rowsL_get hi).2]
  exact wrap_u32_rng _
 obtain ⟨v31, hv31⟩ : ∃ x, bitsOf .and .i64 v 31 = some x := ⟨_, rfl⟩
 obtain ⟨t31, ht31⟩ : ∃ x, bitsOf .and .i64 t 31 = some x := ⟨_, rfl⟩
 obtain ⟨i15, hi15⟩ : ∃ x, bitsOf .and .i64 i0 15 = some x := ⟨_, rfl⟩
 have four : ∀ {a b c d : U} {la lb lc ld : List Row3}, isRw a la → isRw b lb → isRw c lc → isRw d ld → la.length ≤ 20 → lb.length ≤ 20 → lc.length ≤ 20 → ld.length ≤ 20 → SumsOk la → SumsOk lb → SumsOk lc → SumsOk ld → ∀ (i : Nat) (x : U), [a, b, c, d][i]? = some x → ∃ l, isRw x l ∧ l.length ≤ 20 ∧ SumsOk l := by
  intro a b c d la lb lc ld h1 h2 h3 h4 l1 l2 l3 l4 f1 f2 f3 f4 i x hx
  match i, hx with
  | 0, hx => cases hx; exact ⟨la, h1, l1, f1⟩
  | 1, hx => cases hx; exact ⟨lb, h2, l2, f2⟩
  | 2, hx => cases hx; exact ⟨lc, h3, l3, f3⟩
  | 3, hx => cases hx; exact ⟨ld, h4, l4, f4⟩
  | j + 4, hx => cases hx
 refine Zr rfl (by simp (maxSteps := 2000000) only [gs,zlr,reduceIte,reduceCtorEq,zpa,zpb,zpc,zpd,zpe,zpf,zpg,zph,zpi,zpj,zpk,zpl,zpm,zpn,zpo,zpp, ur_length, g1, un_length, g2, decide_false]; rfl) (Zc rfl rfl (fun h => by cases h) (fun _ => ?_))
 refine Zj rfl (fun env h => h = [] ∧ GEnv.get env 15 = (if l = [] then .nils else .own 3 (ur R)) ∧ GEnv.get env 0 = .list false 3 (ur raw) ∧ GEnv.get env 2 = .int .u8 (what : Int) ∧ GEnv.get env 3 = .int .u8 (at' : Int) ∧ GEnv.get env 4 = .int .i64 v ∧ GEnv.get env 5 = .int .i64 t ∧ GEnv.get env 6 = .int .i64 i0) ?_ ?_
 ·by_cases hl0 : l = []
  ·rw [if_pos hl0] at RW ⊢
   refine Zr rfl (by simp (maxSteps := 2000000) only [gs,zlr,reduceIte,reduceCtorEq,zpa,zpb,zpc,zpd,zpe,zpf,zpg,zph,zpi,zpj,zpk,zpl,zpm,zpn,zpo,zpp, snapLL_un, gc_archipelagolaw19_rows, RW]; rfl) ?_
   exact Za rfl ⟨rfl, rfl, rfl, rfl, rfl, rfl, rfl, rfl⟩
  ·rw [if_neg hl0] at RW ⊢
   refine Zr rfl (by simp (maxSteps := 2000000) only [gs,zlr,reduceIte,reduceCtorEq,zpa,zpb,zpc,zpd,zpe,zpf,zpg,zph,zpi,zpj,zpk,zpl,zpm,zpn,zpo,zpp, snapLL_un, gc_archipelagolaw19_rows, RW]; rfl) ?_
   exact Za rfl ⟨rfl, rfl, rfl, rfl, rfl, rfl, rfl, rfl⟩
 rintro env h ⟨rfl, k15, k0, k2, k3, k4, k5, k6⟩
 refine Zj rfl (fun env h => h = [] ∧ (∃ xs : List U, xs.length = 4 ∧ (∀ (i : Nat) (x : U), xs[i]? = some x → ∃ l, isRw x l ∧ l.length ≤ 20 ∧ SumsOk l) ∧ GEnv.get env 49 = .own 1 (rowU xs)) ∧ GEnv.get env 50 = .int .i64 4 ∧ GEnv.get env 51 = .int .i64 0 ∧ GEnv.get env 5 = .int .i64 t ∧ GEnv.get env 6 = .int .i64 i0) ?_ ?_
 ·by_cases hl0 : l = []
  ·rw [if_pos hl0] at k15
   have hR0 : R = [] := List.eq_nil_of_length_eq_zero (by rw [hRl, hl0]; rfl)
   obtain ⟨u1, R1, B1, hu1, hl1, hs1⟩ := bent_R (what := what) (v := v) (.inr ⟨rfl, hR0⟩) (by omega) hRs ha
   obtain ⟨u2, R2, B2, hu2, hl2, hs2⟩ := bent_R (what := what) (v := v31) (.inr ⟨rfl, hR0⟩) (by omega) hRs ha
   rcases hu1 with rfl | rfl
   all_goals
    rcases hu2 with rfl | rfl
    all_goals
     refine Zr rfl (by simp (maxSteps := 2000000) only [gs,zlr,reduceIte,reduceCtorEq,zpa,zpb,zpc,zpd,zpe,zpf,zpg,zph,zpi,zpj,zpk,zpl,zpm,zpn,zpo,zpp, k0, k2, k3, k4, k15, gc_archipelagolaw19_bent, B1, hv31, B2]; rfl) ?_
     exact Za rfl ⟨rfl, ⟨[.list false 3 (ur raw), .nils, .list false 3 (ur R1), .list false 3 (ur R2)], rfl, four (.inl rfl) (.inr ⟨rfl, hR0⟩) (.inl rfl) (.inl rfl) a1 (by omega) hl1 hl2 hraw hRs hs1 hs2, by simp [GEnv.get, rowU]⟩, by simp [GEnv.get], by simp [GEnv.get], by simp [GEnv.get, k5], by simp [GEnv.get, k6]⟩
  ·rw [if_neg hl0] at k15
   have hR0 : R ≠ [] := fun h => hl0 (List.eq_nil_of_length_eq_zero (by rw [← hRl, h]; rfl))
   obtain ⟨u1, R1, B1, hu1, hl1, hs1⟩ := bent_R (what := what) (v := v) (.inl ⟨rfl, hR0⟩) (by omega) hRs ha
   obtain ⟨u2, R2, B2, hu2, hl2, hs2⟩ := bent_R (what := what) (v := v31) (.inl ⟨rfl, hR0⟩) (by omega) hRs ha
   rcases hu1 with rfl | rfl
   all_goals
    rcases hu2 with rfl | rfl
    all_goals
     refine Zr rfl (by simp (maxSteps := 2000000) only [gs,zlr,reduceIte,reduceCtorEq,zpa,zpb,zpc,zpd,zpe,zpf,zpg,zph,zpi,zpj,zpk,zpl,zpm,zpn,zpo,zpp, k0, k2, k3, k4, k15, snapLL_ur, gc_archipelagolaw19_bent, B1, hv31, B2]; rfl) ?_
     exact Za rfl ⟨rfl, ⟨[.list false 3 (ur raw), .list false 3 (ur R), .list false 3 (ur R1), .list false 3 (ur R2)], rfl, four (.inl rfl) (.inl rfl) (.inl rfl) (.inl rfl) a1 (by omega) hl1 hl2 hraw hRs hs1 hs2, by simp [GEnv.get, rowU]⟩, by simp [GEnv.get], by simp [GEnv.get], by simp [GEnv.get, k5], by simp [GEnv.get, k6]⟩
 clear k15 k0 k2 k3 k4 k5 k6
 rintro env h ⟨rfl, ⟨xs, hx4, hxs, k49⟩, k50, k51, k5, k6⟩
 refine Zw rfl (fun m env h => h = [] ∧ ∃ i : Nat, m + i = 4 ∧ GEnv.get env 49 = .own 1 (rowU xs) ∧ GEnv.get env 50 = .int .i64 4 ∧ GEnv.get env 51 = .int .i64 ((i : Nat) : Int) ∧ GEnv.get env 5 = .int .i64 t ∧ GEnv.get env 6 = .int .i64 i0) 4 ⟨rfl, 0, rfl, k49, k50, k51, k5, k6⟩ ?_
 clear k49 k50 k51 k5 k6
 rintro m env h ⟨rfl, i, hm, k49, k50, k51, k5, k6⟩
 simp only [GEnv.keep, k49, k50, k51, k5, k6]
 refine Zr rfl (by simp (maxSteps := 2000000) only [gs,zlr,reduceIte,reduceCtorEq,zpa,zpb,zpc,zpd,zpe,zpf,zpg,zph,zpi,zpj,zpk,zpl,zpm,zpn,zpo,zpp]; rfl) (Zp rfl rfl (fun hi => ?_) (fun hi => ?_))
 ·have gx : xs[i]? = some (xs[i]'(by omega)) := List.getElem?_eq_getElem _
  generalize xs[i]'(by omega) = x at gx
  obtain ⟨Q, hx, hxl, hxf⟩ := hxs i x gx
  have n0 : ((0 : Int) ≤ (i : Int)) = True := eq_true (by omega)
  have hinc := up64 (show i < 9223372036854775807 by omega)
  have RG := rowU_get gx
  have PU := put_w hx (by omega) hxf
  have RP := rput_w hx (by omega) hxf
  have RI := right_w hx (by omega)
  have RR := rright_w hx (by omega)
  have FI := fun z => find_w (t := z) hx (by omega)
  have RF := fun z => rfind_w (t := z) hx (by omega)
  have OF := fun z => offset_w (i := z) hx (by omega)
  have RO := fun z => roffset_w (i := z) hx (by omega)
  obtain ⟨X, hX⟩ : ∃ X, X = x := ⟨_, rfl⟩
  obtain ⟨zs, hzs⟩ : ∃ zs : List Int, zs = [t, t31, -1, 4611686018427387903] := ⟨_, rfl⟩
  have e4 : [[U.int .i64 t], [U.int .i64 t31], [U.int .i64 (-1)], [U.int .i64 4611686018427387903]] = ui .i64 zs := by rw [hzs]; rfl
  have hzl : zs.length = 4 := by rw [hzs]; rfl
  have en : gbytesOf [] = some [] := rfl
  rcases hx with rfl | ⟨rfl, hx0⟩
  all_goals
   refine Zr rfl (by simp (maxSteps := 2000000) only [gs,zlr,reduceIte,reduceCtorEq,zpa,zpb,zpc,zpd,zpe,zpf,zpg,zph,zpi,zpj,zpk,zpl,zpm,zpn,zpo,zpp, n0, RG]; rfl) ?_
   refine Zj rfl (fun env h => h = [] ∧ GEnv.get env 17 = X ∧ GEnv.get env 18 = (if okN Q Q.length = true then .own 1 (un .u8 (rowsS Q)) else .nils) ∧ GEnv.get env 19 = .bool (okN Q Q.length) ∧ GEnv.get env 49 = .own 1 (rowU xs) ∧ GEnv.get env 50 = .int .i64 4 ∧ GEnv.get env 51 = .int .i64 ((i : Nat) : Int) ∧ GEnv.get env 5 = .int .i64 t ∧ GEnv.get env 6 = .int .i64 i0) ?_ ?_
   ·cases hok : okN Q Q.length with
    | true =>
     rw [hok, if_pos rfl] at PU
     rw [if_pos rfl]
     refine Zr rfl (by simp (maxSteps := 2000000) only [gs,zlr,reduceIte,reduceCtorEq,zpa,zpb,zpc,zpd,zpe,zpf,zpg,zph,zpi,zpj,zpk,zpl,zpm,zpn,zpo,zpp, snapLL_ur, gc_index_Put, PU]; rfl) ?_
     exact Za rfl ⟨rfl, by rw [hX]; rfl, rfl, rfl, rfl, rfl, rfl, rfl, rfl⟩
    | false =>
     rw [hok, if_neg (by simp)] at PU
     rw [if_neg (by simp)]
     refine Zr rfl (by simp (maxSteps := 2000000) only [gs,zlr,reduceIte,reduceCtorEq,zpa,zpb,zpc,zpd,zpe,zpf,zpg,zph,zpi,zpj,zpk,zpl,zpm,zpn,zpo,zpp, snapLL_ur, gc_index_Put, PU]; rfl) ?_
     exact Za rfl ⟨rfl, by rw [hX]; rfl, rfl, rfl, rfl, rfl, rfl, rfl, rfl⟩
   clear k49 k50 k51 k5 k6
   rintro env h ⟨rfl, k17, k18, k19, k49, k50, k51, k5, k6⟩
   rw [hX] at k17
   refine Zj rfl (fun env h => h = [] ∧ GEnv.get env 17 = X ∧ GEnv.get env 18 = (if okN Q Q.length = true then .own 1 (un .u8 (rowsS Q)) else .nils) ∧ GEnv.get env 19 = .bool (okN Q Q.length) ∧ GEnv.get env 20 = (if okN Q Q.length = true then .own 1 (un .u8 (rowsS Q)) else .nils) ∧ GEnv.get env 21 = .bool (okN Q Q.length) ∧ GEnv.get env 49 = .own 1 (rowU xs) ∧ GEnv.get env 50 = .int .i64 4 ∧ GEnv.get env 51 = .int .i64 ((i : Nat) : Int) ∧ GEnv.get env 5 = .int .i64 t ∧ GEnv.get env 6 = .int .i64 i0) ?_ ?_
   ·cases hok : okN Q Q.length with
    | true =>
     rw [hok] at k19
     rw [hok, if_pos rfl] at RP k18
     rw [if_pos rfl]
     refine Zr rfl (by simp (maxSteps := 2000000) only [gs,zlr,reduceIte,reduceCtorEq,zpa,zpb,zpc,zpd,zpe,zpf,zpg,zph,zpi,zpj,zpk,zpl,zpm,zpn,zpo,zpp, k17, snapLL_ur, gc_archipelagoref18_RowsPut, RP]; rfl) ?_
     exact Za rfl ⟨rfl, by rw [hX]; simp [GEnv.get, k17], by simp [GEnv.get, k18], by simp [GEnv.get, k19], by simp [GEnv.get], by simp [GEnv.get], by simp [GEnv.get, k49], by simp [GEnv.get, k50], by simp [GEnv.get, k51], by simp [GEnv.get, k5], by simp [GEnv.get, k6]⟩
    | false =>
     rw [hok] at k19
     rw [hok, if_neg (by simp)] at RP k18
     rw [if_neg (by simp)]
     refine Zr rfl (by simp (maxSteps := 2000000) only [gs,zlr,reduceIte,reduceCtorEq,zpa,zpb,zpc,zpd,zpe,zpf,zpg,zph,zpi,zpj,zpk,zpl,zpm,zpn,zpo,zpp, k17, snapLL_ur, gc_archipelagoref18_RowsPut, RP]; rfl) ?_
     exact Za rfl ⟨rfl, by rw [hX]; simp [GEnv.get, k17], by simp [GEnv.get, k18], by simp [GEnv.get, k19], by simp [GEnv.get], by simp [GEnv.get], by simp [GEnv.get, k49], by simp [GEnv.get, k50], by simp [GEnv.get, k51], by simp [GEnv.get, k5], by simp [GEnv.get, k6]⟩
   clear k17 k18 k19 k49 k50 k51 k5 k6
   rintro env h ⟨rfl, k17, k18, k19, k20, k21, k49, k50, k51, k5, k6⟩
   rw [hX] at k17
   refine Z_nrm 1 (Zj1 (fun env h => h = [] ∧ GEnv.get env 17 = X ∧ GEnv.get env 49 = .own 1 (rowU xs) ∧ GEnv.get env 50 = .int .i64 4 ∧ GEnv.get env 51 = .int .i64 ((i : Nat) : Int) ∧ GEnv.get env 5 = .int .i64 t ∧ GEnv.get env 6 = .int .i64 i0) ?_ ?_)
   ·cases hok : okN Q Q.length with
    | true =>
     rw [hok] at k19 k21 RI RR
     rw [hok, if_pos rfl] at k18 k20
     refine Zr rfl (by simp (maxSteps := 2000000) only [gs,zlr,reduceIte,reduceCtorEq,zpa,zpb,zpc,zpd,zpe,zpf,zpg,zph,zpi,zpj,zpk,zpl,zpm,zpn,zpo,zpp, k17, k18, k19, k20, k21, gbytesOf_un, bne_self_eq_false, snapLL_ur, gc_index_Right, RI, gc_archipelagoref18_RowsRight, RR]; rfl) (Zc rfl rfl (fun h => by cases h) (fun _ => ?_))
     exact Za rfl ⟨rfl, by rw [hX]; simp [GEnv.get, k17], by simp [GEnv.get, k49], by simp [GEnv.get, k50], by simp [GEnv.get, k51], by simp [GEnv.get, k5], by simp [GEnv.get, k6]⟩
    | false =>
     rw [hok] at k19 k21 RI RR
     rw [hok, if_neg (by simp)] at k18 k20
     refine Zr rfl (by simp (maxSteps := 2000000) only [gs,zlr,reduceIte,reduceCtorEq,zpa,zpb,zpc,zpd,zpe,zpf,zpg,zph,zpi,zpj,zpk,zpl,zpm,zpn,zpo,zpp, k17, k18, k19, k20, k21, en, bne_self_eq_false, snapLL_ur, gc_index_Right, RI, gc_archipelagoref18_RowsRight, RR]; rfl) (Zc rfl rfl (fun h => by cases h) (fun _ => ?_))
     exact Za rfl ⟨rfl, by rw [hX]; simp [GEnv.get, k17], by simp [GEnv.get, k49], by simp [GEnv.get, k50], by simp [GEnv.get, k51], by simp [GEnv.get, k5], by simp [GEnv.get, k6]⟩
   clear k17 k18 k19 k20 k21 k49 k50 k51 k5 k6
   rintro env h ⟨rfl, k17, k49, k50, k51, k5, k6⟩
   refine Zr rfl (by simp (maxSteps := 2000000) only [gs,zlr,reduceIte,reduceCtorEq,zpa,zpb,zpc,zpd,zpe,zpf,zpg,zph,zpi,zpj,zpk,zpl,zpm,zpn,zpo,zpp, k5, ht31, e4, ui_length, hzl]; rfl) ?_
   refine Zj1 (fun env h => h = [] ∧ GEnv.get env 17 = X ∧ GEnv.get env 49 = .own 1 (rowU xs) ∧ GEnv.get env 50 = .int .i64 4 ∧ GEnv.get env 51 = .int .i64 ((i : Nat) : Int) ∧ GEnv.get env 5 = .int .i64 t ∧ GEnv.get env 6 = .int .i64 i0) ?_ ?_
   ·refine Zw rfl (fun p env h => h = [] ∧ ∃ j : Nat, p + j = 4 ∧ GEnv.get env 17 = X ∧ GEnv.get env 49 = .own 1 (rowU xs) ∧ GEnv.get env 50 = .int .i64 4 ∧ GEnv.get env 51 = .int .i64 ((i : Nat) : Int) ∧ GEnv.get env 5 = .int .i64 t ∧ GEnv.get env 6 = .int .i64 i0 ∧ GEnv.get env 85 = .own 1 (ui .i64 zs) ∧ GEnv.get env 86 = .int .i64 4 ∧ GEnv.get env 87 = .int .i64 ((j : Nat) : Int)) 4 ⟨rfl, 0, rfl, by simp [GEnv.get, k17], by simp [GEnv.get, k49], by simp [GEnv.get, k50], by simp [GEnv.get, k51], by simp [GEnv.get, k5], by simp [GEnv.get, k6], rfl, rfl, rfl⟩ ?_
    clear k17 k49 k50 k51 k5 k6
    rintro p env h ⟨rfl, j, hp, k17, k49, k50, k51, k5, k6, k85, k86, k87⟩
    rw [hX] at k17
    simp only [GEnv.keep, k17, k49, k50, k51, k5, k6, k85, k86, k87]
    refine Zr rfl (by simp (maxSteps := 2000000) only [gs,zlr,reduceIte,reduceCtorEq,zpa,zpb,zpc,zpd,zpe,zpf,zpg,zph,zpi,zpj,zpk,zpl,zpm,zpn,zpo,zpp]; rfl) (Zp rfl rfl (fun hj => ?_) (fun hj => ?_))
    ·have gy : zs[j]? = some (zs[j]'(by omega)) := List.getElem?_eq_getElem _
     generalize zs[j]'(by omega) = z at gy
     have m0 : ((0 : Int) ≤ (j : Int)) = True := eq_true (by omega)
     have hjnc := up64 (show j < 9223372036854775807 by omega)
     have F1 := FI z
     have F2 := RF z
     refine Zr rfl (by simp (maxSteps := 2000000) only [gs,zlr,reduceIte,reduceCtorEq,zpa,zpb,zpc,zpd,zpe,zpf,zpg,zph,zpi,zpj,zpk,zpl,zpm,zpn,zpo,zpp, m0, ui_get gy]; rfl) ?_
     refine Zr rfl (by simp (maxSteps := 2000000) only [gs,zlr,reduceIte,reduceCtorEq,zpa,zpb,zpc,zpd,zpe,zpf,zpg,zph,zpi,zpj,zpk,zpl,zpm,zpn,zpo,zpp, snapLL_ur, gc_index_Find, F1, gc_archipelagoref18_Find, F2, bne_self_eq_false]; rfl) (Zc rfl rfl (fun h => by cases h) (fun _ => ?_))
     refine Zr rfl (by simp (maxSteps := 2000000) only [gs,zlr,reduceIte,reduceCtorEq,zpa,zpb,zpc,zpd,zpe,zpf,zpg,zph,zpi,zpj,zpk,zpl,zpm,zpn,zpo,zpp, hjnc]; rfl) ?_
     exact Za rfl ⟨p - 1, by omega, rfl, j + 1, by omega, by rw [hX]; rfl, rfl, rfl, rfl, rfl, rfl, rfl, rfl, rfl⟩
    ·exact Za rfl ⟨rfl, by rw [hX]; rfl, rfl, rfl, rfl, rfl, rfl⟩
   clear k17 k49 k50 k51 k5 k6
   rintro env h ⟨rfl, k17, k49, k50, k51, k5, k6⟩
   rw [hX] at k17
   have O1 := OF i0
   have O2 := RO i0
   have O3 := OF i15
   have O4 := RO i15
   refine Zr rfl (by simp (maxSteps := 2000000) only [gs,zlr,reduceIte,reduceCtorEq,zpa,zpb,zpc,zpd,zpe,zpf,zpg,zph,zpi,zpj,zpk,zpl,zpm,zpn,zpo,zpp, k17, k6, hi15, snapLL_ur, gc_index_Offset, O1, O3, gc_archipelagoref18_Offset, O2, O4, bne_self_eq_false]; rfl) (Zc rfl rfl (fun h => by cases h) (fun _ => ?_))
   refine Zr rfl (by simp (maxSteps := 2000000) only [gs,zlr,reduceIte,reduceCtorEq,zpa,zpb,zpc,zpd,zpe,zpf,zpg,zph,zpi,zpj,zpk,zpl,zpm,zpn,zpo,zpp, k51, hinc]; rfl) ?_
   exact Za rfl ⟨m - 1, by omega, rfl, i + 1, by omega, by simp [GEnv.get, k49], by simp [GEnv.get, k50], by simp [GEnv.get], by simp [GEnv.get, k5], by simp [GEnv.get, k6]⟩
 ·exact Zr rfl (by simp (maxSteps := 2000000) only [gs,zlr,reduceIte,reduceCtorEq,zpa,zpb,zpc,zpd,zpe,zpf,zpg,zph,zpi,zpj,zpk,zpl,zpm,zpn,zpo,zpp]; rfl) (Zq rfl ⟨_, rfl, rfl⟩)
theorem rowArg {u : U} (h : (Sh.sl [.int .i64, .int .i64, .int .u32]).fits u) : ∃ l : List Row3, u = .list false 3 (ur l) ∧ SumsOk l := by
 obtain ⟨l, rfl, _, h2⟩ := Sh.ofSlice h (f := fun (e : Row3) => [U.int .i64 e.1, .int .i64 e.2.1, .int .u32 e.2.2]) (q := fun e => 0 ≤ e.2.2 ∧ e.2.2 < 4294967296) fun e he => by
  simp only [Sh.fitsL, Sh.fits] at he
  obtain ⟨_, _, rfl, ⟨a, rfl, _⟩, _, _, rfl, ⟨b, rfl, _⟩, _, _, rfl, ⟨c, rfl, hc⟩, rfl⟩ := he
  exact ⟨(a, b, c), rfl, hc.1, Int.lt_of_le_of_lt hc.2 (by decide)⟩
 exact ⟨l, rfl, h2⟩
theorem indexTells_law (us : List U) (h : Ars [.one (.sl [.int .i64, .int .i64, .int .u32]), .one (.sl [.int .u16]), .one (.int .u8), .one (.int .u8), .one (.int .i64), .one (.int .i64), .one (.int .i64)] us) : GF gtab fid_archipelagolaw19_IndexTells us [] 0 = some (.bool true, []) := by
 obtain ⟨u0, _, rfl, h0, u1, _, rfl, h1, u2, _, rfl, h2, u3, _, rfl, h3, u4, _, rfl, h4, u5, _, rfl, h5, u6, _, rfl, h6, rfl⟩ := h
 obtain ⟨raw, rfl, hraw⟩ := rowArg h0
 obtain ⟨l, rfl, _, hl⟩ := Sh.nums rfl h1
 obtain ⟨w, rfl, hw⟩ := Sh.nat rfl h2
 obtain ⟨a, rfl, ha⟩ := Sh.nat rfl h3
 simp only [Ar.fits, Sh.fits] at h4 h5 h6
 obtain ⟨v, rfl, _⟩ := h4
 obtain ⟨t, rfl, _⟩ := h5
 obtain ⟨i, rfl, _⟩ := h6
 exact indexTells_G hraw (fun x hx => Nat.lt_succ_of_le (Int.ofNat_le.1 (hl x hx))) (Nat.lt_succ_of_le (Int.ofNat_le.1 ha))
end Go.Ab
