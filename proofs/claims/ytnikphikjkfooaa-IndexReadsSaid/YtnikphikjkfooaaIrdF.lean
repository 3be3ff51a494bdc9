/- IdxF, IdxG. -/
import Derived.Test.YtnikphikjkfooaaIrdE
import Derived.Test.YtnikphikjkfooaaArgA
import Derived.Test.YtnikphikjkfooaaValN
import Derived.KernelRfl
namespace Go.Ab
open Go
open Nat renaming reduceEqDiff → zpa, reduceLT → zpb, reduceAdd → zpc, reduceSub → zpd, reduceLeDiff → zpe, reduceMul → zpf
open Int renaming reduceToNat → zpg, reduceLT → zph, reduceLE → zpi, reduceEq → zpj, reduceNe → zpk, reduceBEq → zpl, reduceBNe → zpm, reduceAdd → zpn, reduceSub → zpo, reduceNeg → zpp
open List renaming replicate → zlr
set_option linter.unusedVariables false
set_option linter.unusedSimpArgs false
set_option maxRecDepth 10000
def findK (R : List Row3) (t : Int) : Nat → Int
 | 0 => -1
 | n + 1 => if (R.getD n (0, 0, 0)).2.1 ≤ t then (n : Int) else findK R t n
def findV (R : List Row3) (t : Int) : Int := if okN R R.length = true then findK R t R.length else -1
def offV (R : List Row3) (i : Int) : Int := if i < 0 ∨ (R.length : Int) ≤ i ∨ okN R R.length = false then 0 else offS R i.toNat
theorem index_known2 : GF gtab fid_archipelagolaw19_known [] [] 0 = some (.bool true, []) := GF_run 100 (by kernel_rfl)
theorem Zj1 {T : GTab} {fl : Fl} {lo : Nat} {env : GEnv} {h : GH} {Q : GEnv → GH → Prop} {ic : IC} {ks' : List K} (P : GEnv → GH → Prop) (k1 : Z T fl lo (.c ic :: .again P :: ks') env h Q) (k2 : ∀ env h, P env h → Z T fl lo ks' env h Q) : Z T fl lo (.c ic :: ks') env h Q := by
 unfold Z at k1 k2 ⊢
 simp only [post] at k1 ⊢
 refine k1.mono fun e env' h' m => ?_
 cases e with
 | norm => exact k2 _ _ m
 | exit j => exact m
 | ret => exact m
theorem ur_set3 {l : List Row3} {i : Nat} {x y z : Int} : (ur l).set i [.int .i64 x, .int .i64 y, .int .u32 z] = ur (l.set i (x, y, z)) := by simp [ur, List.map_set]
def isRw (w : U) (R : List Row3) : Prop := w = .list false 3 (ur R) ∨ (w = .nils ∧ R = [])
theorem rrightN_G : GF gtab fid_archipelagoref18_RowsRight [.nils] [] 0 = some (.bool true, []) := GF_run 40 (by kernel_rfl)
theorem rputN_G : GF gtab fid_archipelagoref18_RowsPut [.nils] [] 0 = some (.tup [.own 1 (un .u8 (rowsS [])), .bool true], []) := GF_run 200 (by kernel_rfl)
theorem rput_w {w : U} {R : List Row3} (hw : isRw w R) (hl : R.length ≤ 1000) (hs : SumsOk R) : GF gtab fid_archipelagoref18_RowsPut [w] [] 0 = some (if okN R R.length = true then .tup [.own 1 (un .u8 (rowsS R)), .bool true] else .tup [.nils, .bool false], []) := by
 rcases hw with rfl | ⟨rfl, rfl⟩
 ·exact rput_G hl hs
 ·rw [if_pos (show okN [] ([] : List Row3).length = true from rfl)]; exact rputN_G
theorem wrap_u32_rng (n : Int) : 0 ≤ IntKind.u32.wrap n ∧ IntKind.u32.wrap n < 4294967296 := by
 have := Int.emod_nonneg n (b := 4294967296) (by omega)
 have := Int.emod_lt_of_pos n (b := 4294967296) (by omega)
 have e : IntKind.u32.wrap n = n % 4294967296 := rfl
 omega
theorem SumsOk.set {R : List Row3} (h : SumsOk R) {k : Nat} {r : Row3} (hr : 0 ≤ r.2.2 ∧ r.2.2 < 4294967296) : SumsOk (R.set k r) := fun x hx => by
 rcases List.mem_or_eq_of_mem_set hx with h1 | rfl
 ·exact h x h1
 ·exact hr
set_option maxHeartbeats 2000000 in
theorem bent_R {w : U} {R : List Row3} {what at' : Nat} {v : Int} (hw : w = .list false 3 (ur R) ∧ R ≠ [] ∨ (w = .nils ∧ R = [])) (hl : R.length ≤ 20) (hs : SumsOk R) (ha : at' < 256) :
  ∃ u R', GF gtab fid_archipelagolaw19_bent [w, .int .u8 what, .int .u8 at', .int .i64 v] [] 0 = some (u, []) ∧ (u = .list false 3 (ur R') ∨ u = .own 3 (ur R')) ∧ R'.length ≤ 20 ∧ SumsOk R' := by
 have key : ∃ u h', GF gtab fid_archipelagolaw19_bent [w, .int .u8 what, .int .u8 at', .int .i64 v] [] 0 = some (u, h') ∧ h' = [] ∧ ∃ R', (u = .list false 3 (ur R') ∨ u = .own 3 (ur R')) ∧ R'.length ≤ 20 ∧ SumsOk R' := by
  refine fnR_archipelagolaw19_bent rfl ?_
  simp only [genvOf]
  rcases hw with ⟨rfl, hne⟩ | ⟨rfl, rfl⟩
  case inr =>
   have e1 : ([[U.int .i64 v, .int .i64 v, .int .u32 0]] : List (List U)) = ur [(v, v, 0)] := rfl
   refine Zr rfl (by simp (maxSteps := 2000000) only [gs,zlr,reduceIte,reduceCtorEq,zpa,zpb,zpc,zpd,zpe,zpf,zpg,zph,zpi,zpj,zpk,zpl,zpm,zpn,zpo,zpp]; rfl) ?_
   refine Zr rfl (by simp (maxSteps := 2000000) only [gs,zlr,reduceIte,reduceCtorEq,zpa,zpb,zpc,zpd,zpe,zpf,zpg,zph,zpi,zpj,zpk,zpl,zpm,zpn,zpo,zpp]; rfl) ?_
   refine Zr rfl (by simp (maxSteps := 2000000) only [gs,zlr,reduceIte,reduceCtorEq,zpa,zpb,zpc,zpd,zpe,zpf,zpg,zph,zpi,zpj,zpk,zpl,zpm,zpn,zpo,zpp, beq_self_eq_true]; rfl) (Zc rfl rfl (fun _ => ?_) (fun h => by cases h))
   refine Zr rfl (by simp (maxSteps := 2000000) only [gs,zlr,reduceIte,reduceCtorEq,zpa,zpb,zpc,zpd,zpe,zpf,zpg,zph,zpi,zpj,zpk,zpl,zpm,zpn,zpo,zpp, e1]; rfl) (Zq rfl ⟨_, rfl, ?_⟩)
   simp only [gfin, outs, U.out, U.handed, U.share, U.rf, els, GEnv.get, if_true, Nat.reduceEqDiff, if_false, rfLL_ur, Option.map_some]
   exact ⟨_, _, rfl, rfl, [(v, v, 0)], .inr rfl, by simp, fun x hx => by rw [List.mem_singleton.1 hx]; simp only; omega⟩
  have hpos := List.length_pos_iff.2 hne
  have hun : (ur R = []) = False := eq_false (by cases R with
   | nil => exact absurd rfl hne
   | cons y ys => simp [ur])
  have hr : (R.length * 24 ≤ room) = True := eq_true (by unfold room; omega)
  have z1 : (((R.length : Nat) : Int) == 0) = false := beq_eq_false_iff_ne.2 (by omega)
  have z2 : (((R.length : Nat) : Int) = 0) = False := eq_false (by omega)
  have wa : IntKind.i64.wrap ((at' : Nat) : Int) = ((at' : Nat) : Int) := wrap_i64_nat (by omega)
  have ma : ((at' : Nat) : Int).tmod ((R.length : Nat) : Int) = ((at' % R.length : Nat) : Int) := rfl
  have hk := Nat.mod_lt at' hpos
  refine Zr rfl (by simp (maxSteps := 2000000) only [gs,zlr,reduceIte,reduceCtorEq,zpa,zpb,zpc,zpd,zpe,zpf,zpg,zph,zpi,zpj,zpk,zpl,zpm,zpn,zpo,zpp]; rfl) ?_
  refine Zr rfl (by simp (maxSteps := 2000000) only [gs,zlr,reduceIte,reduceCtorEq,zpa,zpb,zpc,zpd,zpe,zpf,zpg,zph,zpi,zpj,zpk,zpl,zpm,zpn,zpo,zpp, ur_length, hun, hr]; rfl) ?_
  refine Zr rfl (by simp (maxSteps := 2000000) only [gs,zlr,reduceIte,reduceCtorEq,zpa,zpb,zpc,zpd,zpe,zpf,zpg,zph,zpi,zpj,zpk,zpl,zpm,zpn,zpo,zpp, ur_length, z1]; rfl) (Zc rfl rfl (fun h => by cases h) (fun _ => ?_))
  refine Zr rfl (by simp (maxSteps := 2000000) only [gs,zlr,reduceIte,reduceCtorEq,zpa,zpb,zpc,zpd,zpe,zpf,zpg,zph,zpi,zpj,zpk,zpl,zpm,zpn,zpo,zpp, wa, ma, z2]; rfl) ?_
  generalize at' % R.length = k at hk
  have m4 : ((what : Nat) : Int).tmod 4 = ((what % 4 : Nat) : Int) := rfl
  have n0 : ((0 : Int) ≤ (k : Int)) = True := eq_true (by omega)
  have n1 : ((k : Int) < (R.length : Int)) = True := eq_true (by omega)
  have n2 : ((0 : Int) < (R.length : Int)) = True := eq_true (by omega)
  have gx : R[k]? = some (R[k]'hk) := List.getElem?_eq_getElem _
  have hsx := hs _ (List.mem_of_getElem? gx)
  generalize R[k]'hk = r at gx hsx
  have g0 : R[0]? = some (R[0]'hpos) := List.getElem?_eq_getElem _
  have hs0 := hs _ (List.mem_of_getElem? g0)
  generalize R[0]'hpos = r0 at g0 hs0
  refine Z_nrm 1 (Zj1 (fun env h => ∃ R', R'.length = R.length ∧ SumsOk R' ∧ h = [.arr (ur R') 0 0] ∧ GEnv.get env 9 = .asl none 0 0 0 R.length 3) ?_ ?_)
  ·refine Zr rfl (by simp (maxSteps := 2000000) only [gs,zlr,reduceIte,reduceCtorEq,zpa,zpb,zpc,zpd,zpe,zpf,zpg,zph,zpi,zpj,zpk,zpl,zpm,zpn,zpo,zpp, m4]; rfl) ?_
   generalize what % 4 = q
   have fe : ∀ j : Nat, q = j → (((q : Nat) : Int) == (j : Int)) = true := fun j h => by rw [h]; simp
   have fn : ∀ j : Nat, q ≠ j → (((q : Nat) : Int) == (j : Int)) = false := fun j h => beq_eq_false_iff_ne.2 (by omega)
   by_cases q0 : q = 0
   ·have c0 : (((q : Nat) : Int) == 0) = true := fe 0 q0
    refine Zr rfl (by simp (maxSteps := 2000000) only [gs,zlr,reduceIte,reduceCtorEq,zpa,zpb,zpc,zpd,zpe,zpf,zpg,zph,zpi,zpj,zpk,zpl,zpm,zpn,zpo,zpp, c0]; rfl) (Zc rfl rfl (fun _ => ?_) (fun h => by cases h))
    refine Zr rfl (by simp (maxSteps := 2000000) only [gs,zlr,reduceIte,reduceCtorEq,zpa,zpb,zpc,zpd,zpe,zpf,zpg,zph,zpi,zpj,zpk,zpl,zpm,zpn,zpo,zpp, n0, n1, Nat.zero_add, ur_get gx, ur_set3]; rfl) ?_
    exact Za rfl ⟨_, by simp, hs.set (r := (v, r.2.1, r.2.2)) hsx, rfl, rfl⟩
   have c0 : (((q : Nat) : Int) == 0) = false := fn 0 q0
   by_cases q1 : q = 1
   ·have c1 : (((q : Nat) : Int) == 1) = true := fe 1 q1
    refine Zr rfl (by simp (maxSteps := 2000000) only [gs,zlr,reduceIte,reduceCtorEq,zpa,zpb,zpc,zpd,zpe,zpf,zpg,zph,zpi,zpj,zpk,zpl,zpm,zpn,zpo,zpp, c0]; rfl) (Zc rfl rfl (fun h => by cases h) (fun _ => ?_))
    refine Zr rfl (by simp (maxSteps := 2000000) only [gs,zlr,reduceIte,reduceCtorEq,zpa,zpb,zpc,zpd,zpe,zpf,zpg,zph,zpi,zpj,zpk,zpl,zpm,zpn,zpo,zpp, c1]; rfl) (Zc rfl rfl (fun _ => ?_) (fun h => by cases h))
    refine Zr rfl (by simp (maxSteps := 2000000) only [gs,zlr,reduceIte,reduceCtorEq,zpa,zpb,zpc,zpd,zpe,zpf,zpg,zph,zpi,zpj,zpk,zpl,zpm,zpn,zpo,zpp, n0, n1, Nat.zero_add, ur_get gx, ur_set3]; rfl) ?_
    exact Za rfl ⟨_, by simp, hs.set (r := (r.1, v, r.2.2)) hsx, rfl, rfl⟩
   have c1 : (((q : Nat) : Int) == 1) = false := fn 1 q1
   by_cases q2 : q = 2
   ·have c2 : (((q : Nat) : Int) == 2) = true := fe 2 q2
    refine Zr rfl (by simp (maxSteps := 2000000) only [gs,zlr,reduceIte,reduceCtorEq,zpa,zpb,zpc,zpd,zpe,zpf,zpg,zph,zpi,zpj,zpk,zpl,zpm,zpn,zpo,zpp, c0]; rfl) (Zc rfl rfl (fun h => by cases h) (fun _ => ?_))
    refine Zr rfl (by simp (maxSteps := 2000000) only [gs,zlr,reduceIte,reduceCtorEq,zpa,zpb,zpc,zpd,zpe,zpf,zpg,zph,zpi,zpj,zpk,zpl,zpm,zpn,zpo,zpp, c1]; rfl) (Zc rfl rfl (fun h => by cases h) (fun _ => ?_))
    refine Zr rfl (by simp (maxSteps := 2000000) only [gs,zlr,reduceIte,reduceCtorEq,zpa,zpb,zpc,zpd,zpe,zpf,zpg,zph,zpi,zpj,zpk,zpl,zpm,zpn,zpo,zpp, c2]; rfl) (Zc rfl rfl (fun _ => ?_) (fun h => by cases h))
    refine Zr rfl (by simp (maxSteps := 2000000) only [gs,zlr,reduceIte,reduceCtorEq,zpa,zpb,zpc,zpd,zpe,zpf,zpg,zph,zpi,zpj,zpk,zpl,zpm,zpn,zpo,zpp, n0, n1, Nat.zero_add, ur_get gx, ur_set3]; rfl) ?_
    exact Za rfl ⟨_, by simp, hs.set (r := (r.1, r.2.1, IntKind.u32.wrap v)) (wrap_u32_rng v), rfl, rfl⟩
   have c2 : (((q : Nat) : Int) == 2) = false := fn 2 q2
   have hsetl : (R.set k (r0.1, r0.2.1, r0.2.2)).length = R.length := by simp
   have g1 : (R.set k (r0.1, r0.2.1, r0.2.2))[0]? = some r0 := by
    by_cases hk0 : k = 0
    ·subst hk0; rw [List.getElem?_set_self hpos]
    ·rw [List.getElem?_set_ne hk0, g0]
   refine Zr rfl (by simp (maxSteps := 2000000) only [gs,zlr,reduceIte,reduceCtorEq,zpa,zpb,zpc,zpd,zpe,zpf,zpg,zph,zpi,zpj,zpk,zpl,zpm,zpn,zpo,zpp, c0]; rfl) (Zc rfl rfl (fun h => by cases h) (fun _ => ?_))
   refine Zr rfl (by simp (maxSteps := 2000000) only [gs,zlr,reduceIte,reduceCtorEq,zpa,zpb,zpc,zpd,zpe,zpf,zpg,zph,zpi,zpj,zpk,zpl,zpm,zpn,zpo,zpp, c1]; rfl) (Zc rfl rfl (fun h => by cases h) (fun _ => ?_))
   refine Zr rfl (by simp (maxSteps := 2000000) only [gs,zlr,reduceIte,reduceCtorEq,zpa,zpb,zpc,zpd,zpe,zpf,zpg,zph,zpi,zpj,zpk,zpl,zpm,zpn,zpo,zpp, c2]; rfl) (Zc rfl rfl (fun h => by cases h) (fun _ => ?_))
   refine Zd rfl (by simp (maxSteps := 2000000) only [gs,gd,zlr,id,reduceIte,reduceCtorEq,zpa,zpb,zpc,zpd,zpe,zpf,zpg,zph,zpi,zpj,zpk,zpl,zpm,zpn,zpo,zpp, n0, n1, n2, Nat.zero_add, ur_get gx, ur_get g0, ur_get g1, ur_set3]; rfl) ?_
   exact Za rfl ⟨_, by simp, (hs.set (k := k) (r := (r0.1, r0.2.1, r0.2.2)) hs0).set (k := 0) (r := (r.1, r.2.1, r.2.2)) hsx, rfl, rfl⟩
  rintro env h ⟨R', h1, h2, rfl, k9⟩
  have hcut : cut (ur R') 0 R.length = ur R' := by unfold cut; rw [List.drop_zero, ur_take, List.take_of_length_le (by omega)]
  have hle : (R.length ≤ R'.length) = True := eq_true (by omega)
  refine Zr rfl (by simp (maxSteps := 2000000) only [gs,zlr,reduceIte,reduceCtorEq,zpa,zpb,zpc,zpd,zpe,zpf,zpg,zph,zpi,zpj,zpk,zpl,zpm,zpn,zpo,zpp, k9]; rfl) (Zq rfl ⟨_, rfl, ?_⟩)
  simp only [gfin, outs, U.out, U.handed, U.share, U.rf, els, GEnv.get, if_true, Nat.reduceEqDiff, if_false, rfLL_ur, Option.map_some, List.getElem?_cons_zero, ur_length, hle, Nat.zero_add, hcut, Nat.le_refl, and_self]
  exact ⟨_, _, rfl, rfl, R', .inl rfl, by omega, h2⟩
 obtain ⟨u, h', h1, rfl, R', h2⟩ := key
 exact ⟨u, R', h1, h2⟩
def rowU (xs : List U) : List (List U) := xs.map fun u => [u]
theorem rowU_get {xs : List U} {i : Nat} {x : U} (h : xs[i]? = some x) : (rowU xs)[i]? = some [x] := by simp [rowU, h]
end Go.Ab
