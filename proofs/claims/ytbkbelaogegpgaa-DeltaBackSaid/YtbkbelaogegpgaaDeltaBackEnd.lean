/- archipelagolaw16.DeltaBack holds: whatever the input, the law returns true, and its arguments read as before. -/
import Derived.Test.YtbkbelaogegpgaaRows
import Derived.Test.YtbkbelaogegpgaaDelH
import Derived.Test.YtbkbelaogegpgaaArgA
import Derived.WalkKit
import Derived.ProofKit
import Derived.OpenShut
import Derived.ShutString
import Derived.ChangeOld
import Derived.Below
import Derived.SizedLaws
namespace Go.Proofs.Ytbkbelaogegpgaa.deltaBack
open Go.ChangeShapes Go.WideShapes Go.ChangeAt Go.RowKit Go.Ab
set_option linter.unusedVariables false
theorem own : ownKnob Try.prog.godebug = none := by kernel_rfl
theorem laidOut : laidOutB Try.prog = true := by kernel_rfl
set_option maxRecDepth 100000 in
theorem lifted (os : Os) (started : os.Started) (H : Type) (enc : TypeId × Value → H) :
    ReturnsInHanded {} Try.checked os 4 .any (Rows.deltaBackSpec.pre6 enc Try.prog Try.f4 Rows.deltaBackRow.domain false) (Rows.deltaBackSpec.post enc Try.prog Try.f4 false true false false) := by
  refine returnsInHanded_of_change_sized (C := Try.checked) own started (by kernel_rfl) Try.func4
    (ChangeSpec.witness6 (enc := enc) (C := Try.checked) false ⟨#[], #[.int .u8 0, .slice none 0 0, .bool false, .int .u8 0], []⟩ 8 (by kernel_rfl) (by kernel_rfl) (by kernel_rfl) (by kernel_rfl)) ?_
  intro W base args ds gs before hval0 hW hcnd hsz0 _
  have hval : ∀ (j : Nat) t v, Try.f4.params.toList[j]? = some t → args.toList[j]? = some v → Value.okWide Try.prog W .any base t v := fun j t v h1 h2 => hval0 j t v (by simpa using h1) (by simpa using h2)
  have hW' := hW
  obtain ⟨p, q, hA0, hV, rfl, hfz, hnd⟩ := hW
  have hA : DataW.TrodAll enc Try.prog W 0 (fun _ => true) true Try.f4.params.toList args.toList ds p := hA0
  obtain ⟨rfl, rfl⟩ := trodVars_none hV
  rw [Try.params4] at hA hval
  have e0 : ds.length = 4 := trodAll_length hA
  obtain ⟨d0, m0, rfl, e1⟩ := len_cons e0
  obtain ⟨d1, m1, rfl, e2⟩ := len_cons e1
  obtain ⟨d2, m2, rfl, e3⟩ := len_cons e2
  obtain ⟨d3, m3, rfl, e4⟩ := len_cons e3
  obtain rfl := List.eq_nil_of_length_eq_zero e4
  refine (law_whole gtab_sim gtab_clone tab_ok tab_mixed (shs := [.one (.int .u8), .one (.sl [(.int .u8)]), .one .bool, .one (.int .u8)]) (by kernel_rfl) deltaBack_law hA hval).mono fun e W' ⟨he, bel⟩ => ?_
  subst he
  exact ⟨_, rfl, _, _, _, [], _, [], hW', trodAll_mk1 (shut_bool Try.underlying4 _), shut_args laidOut bel (by kernel_rfl) hA (trodAll_lt hA), rfl, bel.frame _, fun h => by cases h⟩
theorem over : Rows.deltaBackRow.holds Try.pinned (OpenSpec.ofChange Rows.deltaBackSpec) :=
  OpenClaim.holds_of_wide 4 Try.f4 rfl rfl rfl rfl rfl rfl rfl ⟨rfl, rfl, rfl, rfl, rfl⟩ rfl rfl rfl rfl rfl (by kernel_rfl) Try.func4 (by kernel_rfl)
    (of_decide_eq_true (by kernel_rfl)) (by unfold Func.isWrapper; first | (rw [if_pos (by decide +kernel)]; kernel_rfl) | (rw [if_neg (by decide +kernel)]; exact ⟨rfl, rfl⟩))
    (fun os started H enc _ => lifted os started H enc)
end Go.Proofs.Ytbkbelaogegpgaa.deltaBack
namespace Go.Proofs.Ytbkbelaogegpgaa
/-- The row, under a short name, for the claim. -/
theorem deltaBack_holds : Rows.DeltaBackSaid := deltaBack.over
#print axioms deltaBack_holds
end Go.Proofs.Ytbkbelaogegpgaa
