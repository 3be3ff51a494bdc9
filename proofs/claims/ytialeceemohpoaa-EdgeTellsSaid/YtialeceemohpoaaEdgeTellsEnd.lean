/- archipelagolaw8.EdgeTells holds: whatever the input, the law returns true, and its arguments read as before. -/
import Derived.Test.YtialeceemohpoaaRows
import Derived.Test.YtialeceemohpoaaEdgeD
import Derived.Test.YtialeceemohpoaaAbsO
import Derived.WalkKit
import Derived.ProofKit
import Derived.OpenShut
import Derived.ShutString
import Derived.ChangeOld
import Derived.Below
import Derived.SizedLaws
namespace Go.Proofs.Ytialeceemohpoaa.edgeTells
open Go.ChangeShapes Go.WideShapes Go.ChangeAt Go.RowKit Go.Ab
set_option linter.unusedVariables false
theorem own : ownKnob Try.prog.godebug = none := by kernel_rfl
theorem laidOut : laidOutB Try.prog = true := by kernel_rfl
set_option maxRecDepth 100000 in
theorem lifted (os : Os) (started : os.Started) (H : Type) (enc : TypeId × Value → H) :
    ReturnsInHanded {} Try.checked os 3 .any (Rows.edgeTellsSpec.pre6 enc Try.prog Try.f3 Rows.edgeTellsRow.domain false) (Rows.edgeTellsSpec.post enc Try.prog Try.f3 false true false false) := by
  refine returnsInHanded_of_change_sized (C := Try.checked) own started (by kernel_rfl) Try.func3
    (ChangeSpec.witness6 (enc := enc) (C := Try.checked) false ⟨#[], #[.int .u32 0, .int .u32 0, .int .u32 0, .int .u32 0, .int .u64 0, .bool false], []⟩ 8 (by kernel_rfl) (by kernel_rfl) (by kernel_rfl) (by kernel_rfl)) ?_
  intro W base args ds gs before hval0 hW hcnd hsz0 _
  have hval : ∀ (j : Nat) t v, Try.f3.params[j]? = some t → args[j]? = some v → Value.okWide Try.prog W .any base t v := hval0
  have hW' := hW
  obtain ⟨p, q, hA0, hV, rfl, hfz, hnd⟩ := hW
  have hA : DataW.TrodAll enc Try.prog W 0 (fun _ => true) true Try.f3.params.toList args.toList ds p := hA0
  rw [Try.params3] at hA hval
  obtain ⟨v0, vs0, d0, ds0, p0, q0, hargs, rfl, rfl, h0, r0⟩ := trodAll_cons hA
  obtain ⟨v1, vs1, d1, ds1, p1, q1, rfl, rfl, rfl, h1, r1⟩ := trodAll_cons r0
  obtain ⟨v2, vs2, d2, ds2, p2, q2, rfl, rfl, rfl, h2, r2⟩ := trodAll_cons r1
  obtain ⟨v3, vs3, d3, ds3, p3, q3, rfl, rfl, rfl, h3, r3⟩ := trodAll_cons r2
  obtain ⟨v4, vs4, d4, ds4, p4, q4, rfl, rfl, rfl, h4, r4⟩ := trodAll_cons r3
  obtain ⟨v5, vs5, d5, ds5, p5, q5, rfl, rfl, rfl, h5, r5⟩ := trodAll_cons r4
  obtain ⟨rfl, rfl, rfl⟩ := trodAll_nil r5
  obtain rfl : args = #[v0, v1, v2, v3, v4, v5] := by cases args; simp_all
  obtain ⟨rfl, rfl⟩ := trodVars_none hV
  have S0 := Start.empty W
  obtain ⟨a0, rfl, rfl, rfl, w0⟩ := open_int Try.underlying22 (hval 0 22 v0 rfl rfl) h0
  have vr0 := VR_lit w0 (φ := fun _ _ => none)
  obtain ⟨n0, rfl, b0⟩ := nat_of (k := .u32) rfl w0
  have b0 : n0 ≤ 4294967295 := Int.ofNat_le.1 b0
  obtain ⟨a1, rfl, rfl, rfl, w1⟩ := open_int Try.underlying22 (hval 1 22 v1 rfl rfl) h1
  have vr1 := VR_lit w1 (φ := fun _ _ => none)
  obtain ⟨n1, rfl, b1⟩ := nat_of (k := .u32) rfl w1
  have b1 : n1 ≤ 4294967295 := Int.ofNat_le.1 b1
  obtain ⟨a2, rfl, rfl, rfl, w2⟩ := open_int Try.underlying22 (hval 2 22 v2 rfl rfl) h2
  have vr2 := VR_lit w2 (φ := fun _ _ => none)
  obtain ⟨n2, rfl, b2⟩ := nat_of (k := .u32) rfl w2
  have b2 : n2 ≤ 4294967295 := Int.ofNat_le.1 b2
  obtain ⟨a3, rfl, rfl, rfl, w3⟩ := open_int Try.underlying22 (hval 3 22 v3 rfl rfl) h3
  have vr3 := VR_lit w3 (φ := fun _ _ => none)
  obtain ⟨n3, rfl, b3⟩ := nat_of (k := .u32) rfl w3
  have b3 : n3 ≤ 4294967295 := Int.ofNat_le.1 b3
  obtain ⟨a4, rfl, rfl, rfl, w4⟩ := open_int Try.underlying23 (hval 4 23 v4 rfl rfl) h4
  have vr4 := VR_lit w4 (φ := fun _ _ => none)
  obtain ⟨n4, rfl, b4⟩ := nat_of (k := .u64) rfl w4
  have b4 : n4 ≤ 18446744073709551615 := Int.ofNat_le.1 b4
  obtain ⟨a5, rfl, rfl, rfl⟩ := open_bool Try.underlying4 (hval 5 4 v5 rfl rfl) h5
  obtain ⟨st', hF⟩ := edgeTells_F S0.low (Nat.lt_succ_of_le b0) (Nat.lt_succ_of_le b1) (Nat.lt_succ_of_le b2) (Nat.lt_succ_of_le b3) (Nat.lt_succ_of_le b4)
  refine (law_true tab_ok tab_mixed S0 hF (by simp only [VRs]; exact ⟨_, _, rfl, VR_lit w0, _, _, rfl, VR_lit w1, _, _, rfl, VR_lit w2, _, _, rfl, VR_lit w3, _, _, rfl, VR_lit w4, _, _, rfl, VR_bool a5, rfl⟩)).mono fun e W' ⟨he, bel⟩ => ?_
  subst he
  exact ⟨_, rfl, _, _, _, [], _, [], hW', trodAll_mk1 (shut_bool Try.underlying4 _), (trodAll_cons_mk (shut_int Try.underlying22 w0) (trodAll_cons_mk (shut_int Try.underlying22 w1) (trodAll_cons_mk (shut_int Try.underlying22 w2) (trodAll_cons_mk (shut_int Try.underlying22 w3) (trodAll_cons_mk (shut_int Try.underlying23 w4) (trodAll_cons_mk (shut_bool Try.underlying4 _) trodAll_mk0)))))), rfl, bel.frame _, fun h => by cases h⟩
theorem over : Rows.edgeTellsRow.holds Try.pinned (OpenSpec.ofChange Rows.edgeTellsSpec) :=
  OpenClaim.holds_of_wide 3 Try.f3 rfl rfl rfl rfl rfl rfl rfl ⟨rfl, rfl, rfl, rfl, rfl⟩ rfl rfl rfl rfl rfl (by kernel_rfl) Try.func3 (by kernel_rfl)
    (of_decide_eq_true (by kernel_rfl)) (by unfold Func.isWrapper; first | (rw [if_pos (by decide +kernel)]; kernel_rfl) | (rw [if_neg (by decide +kernel)]; exact ⟨rfl, rfl⟩))
    (fun os started H enc _ => lifted os started H enc)
end Go.Proofs.Ytialeceemohpoaa.edgeTells
namespace Go.Proofs.Ytialeceemohpoaa
/-- The row, under a short name, for the claim. -/
theorem edgeTells_holds : Rows.EdgeTellsSaid := edgeTells.over
#print axioms edgeTells_holds
end Go.Proofs.Ytialeceemohpoaa
