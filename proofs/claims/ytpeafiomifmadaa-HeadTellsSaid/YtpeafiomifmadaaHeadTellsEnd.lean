/- archipelagolaw18.HeadTells holds: whatever the input, the law returns true, and its arguments read as before. -/
import Derived.Test.YtpeafiomifmadaaRows
import Derived.Test.YtpeafiomifmadaaHeadE
import Derived.Test.YtpeafiomifmadaaArgA
import Derived.WalkKit
import Derived.ProofKit
import Derived.OpenShut
import Derived.ShutString
import Derived.ChangeOld
import Derived.Below
import Derived.SizedLaws
namespace Go.Proofs.Ytpeafiomifmadaa.headTells
open Go.ChangeShapes Go.WideShapes Go.ChangeAt Go.RowKit Go.Ab
set_option linter.unusedVariables false
theorem own : ownKnob Try.prog.godebug = none := by kernel_rfl
theorem laidOut : laidOutB Try.prog = true := by kernel_rfl
set_option maxRecDepth 100000 in
theorem lifted (os : Os) (started : os.Started) (H : Type) (enc : TypeId × Value → H) :
    ReturnsInHanded {} Try.checked os 3 .any (Rows.headTellsSpec.pre6 enc Try.prog Try.f3 Rows.headTellsRow.domain false) (Rows.headTellsSpec.post enc Try.prog Try.f3 false true false false) := by
  refine returnsInHanded_of_change_sized (C := Try.checked) own started (by kernel_rfl) Try.func3
    (ChangeSpec.witness6 (enc := enc) (C := Try.checked) false ⟨#[], #[.agg #[.int .u64 0, .int .i64 0, .int .i64 0], .int .u64 0, .int .i64 0, .int .i64 0, .int .i64 0, .slice none 0 0, .int .u8 0, .int .u8 0, .bool false], []⟩ 8 (by kernel_rfl) (by kernel_rfl) (by kernel_rfl) (by kernel_rfl)) ?_
  intro W base args ds gs before hval0 hW hcnd hsz0 _
  have hval : ∀ (j : Nat) t v, Try.f3.params.toList[j]? = some t → args.toList[j]? = some v → Value.okWide Try.prog W .any base t v := fun j t v h1 h2 => hval0 j t v (by simpa using h1) (by simpa using h2)
  have hW' := hW
  obtain ⟨p, q, hA0, hV, rfl, hfz, hnd⟩ := hW
  have hA : DataW.TrodAll enc Try.prog W 0 (fun _ => true) true Try.f3.params.toList args.toList ds p := hA0
  obtain ⟨rfl, rfl⟩ := trodVars_none hV
  rw [Try.params3] at hA hval
  have e0 : ds.length = 9 := trodAll_length hA
  obtain ⟨d0, m0, rfl, e1⟩ := len_cons e0
  obtain ⟨d1, m1, rfl, e2⟩ := len_cons e1
  obtain ⟨d2, m2, rfl, e3⟩ := len_cons e2
  obtain ⟨d3, m3, rfl, e4⟩ := len_cons e3
  obtain ⟨d4, m4, rfl, e5⟩ := len_cons e4
  obtain ⟨d5, m5, rfl, e6⟩ := len_cons e5
  obtain ⟨d6, m6, rfl, e7⟩ := len_cons e6
  obtain ⟨d7, m7, rfl, e8⟩ := len_cons e7
  obtain ⟨d8, m8, rfl, e9⟩ := len_cons e8
  obtain rfl := List.eq_nil_of_length_eq_zero e9
  refine (law_whole gtab_sim gtab_clone tab_ok tab_mixed (shs := [.agg [(.int .u64), (.int .i64), (.int .i64)], .one (.int .u64), .one (.int .i64), .one (.int .i64), .one (.int .i64), .one (.sl [(.int .u8)]), .one (.int .u8), .one (.int .u8), .one .bool]) (by kernel_rfl) headTells_law hA hval).mono fun e W' ⟨he, bel⟩ => ?_
  subst he
  exact ⟨_, rfl, _, _, _, [], _, [], hW', trodAll_mk1 (shut_bool Try.underlying4 _), shut_args laidOut bel (by kernel_rfl) hA (trodAll_lt hA), rfl, bel.frame _, fun h => by cases h⟩
theorem over : Rows.headTellsRow.holds Try.pinned (OpenSpec.ofChange Rows.headTellsSpec) :=
  OpenClaim.holds_of_wide 3 Try.f3 rfl rfl rfl rfl rfl rfl rfl ⟨rfl, rfl, rfl, rfl, rfl⟩ rfl rfl rfl rfl rfl (by kernel_rfl) Try.func3 (by kernel_rfl)
    (of_decide_eq_true (by kernel_rfl)) (by unfold Func.isWrapper; first | (rw [if_pos (by decide +kernel)]; kernel_rfl) | (rw [if_neg (by decide +kernel)]; exact ⟨rfl, rfl⟩))
    (fun os started H enc _ => lifted os started H enc)
end Go.Proofs.Ytpeafiomifmadaa.headTells
namespace Go.Proofs.Ytpeafiomifmadaa
/-- The row, under a short name, for the claim. -/
theorem headTells_holds : Rows.HeadTellsSaid := headTells.over
#print axioms headTells_holds
end Go.Proofs.Ytpeafiomifmadaa
