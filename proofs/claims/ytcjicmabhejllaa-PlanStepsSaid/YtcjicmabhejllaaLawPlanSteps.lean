/- Of any plan the schedule is the one that is said, and begins with the shorter one. No condition beyond the statement's own: whatever the arguments, the law returns true, and its arguments read as before. -/
import Derived.Test.YtcjicmabhejllaaRows
import Derived.Test.YtcjicmabhejllaaBnB
import Derived.Test.YtcjicmabhejllaaFactsPlanSteps
import Derived.Test.YtcjicmabhejllaaBnG
import Derived.WalkKit
import Derived.SizedLaws
namespace Go.Proofs.Ytcjicmabhejllaa
open Go.ChangeShapes Go.WideShapes Go.ChangeAt Go.RowKit Go.Ev
open Go.ChangeMaps (open_string shut_string)
set_option linter.unusedVariables false
theorem ownPlanSteps : ownKnob Try.prog.godebug = none := by kernel_rfl
theorem laidPlanSteps : laidOutB Try.prog = true := by kernel_rfl
set_option maxRecDepth 100000 in
theorem liftedPlanSteps (os : Os) (started : os.Started) (H : Type) (enc : TypeId × Value → H) :
    ReturnsInHanded {} Try.checked os 7 .any (Rows.planStepsSpec.pre6 enc Try.prog Try.f7 Rows.planStepsRow.domain false) (Rows.planStepsSpec.post enc Try.prog Try.f7 false true false false) := by
  refine returnsInHanded_of_change (C := Try.checked) ownPlanSteps started (by kernel_rfl) Try.func7
    (ChangeSpec.witness6 (enc := enc) (C := Try.checked) false ⟨#[], #[.agg #[.int .u64 0, .int .i64 0, .int .i64 0, .int .i64 0, .int .i64 0, .int .i64 0, .int .i64 0, .int .i64 0, .int .i64 0, .int .i64 0, .int .i64 0, .int .i64 0, .int .i64 0], .int .i64 0, .int .i64 0], []⟩ 8 (by kernel_rfl) (by kernel_rfl) (by kernel_rfl) (by kernel_rfl)) ?_
  intro W base args ds gs before hval0 hW hcnd _
  have hval : ∀ (j : Nat) t v, Try.f7.params[j]? = some t → args[j]? = some v → Value.okWide Try.prog W .any base t v := hval0
  have hW' := hW
  obtain ⟨p, q, hA0, hV, rfl, hfz, hnd⟩ := hW
  have hA : DataW.TrodAll enc Try.prog W 0 (fun _ => true) true Try.f7.params.toList args.toList ds p := hA0
  rw [Try.params7] at hA hval
  have hA1 := hA
  obtain ⟨v0, vs0, d0, ds0, p0, q0, hargs, rfl, rfl, h0, r0⟩ := trodAll_cons hA
  obtain ⟨v1, vs1, d1, ds1, p1, q1, rfl, rfl, rfl, h1, r1⟩ := trodAll_cons r0
  obtain ⟨v2, vs2, d2, ds2, p2, q2, rfl, rfl, rfl, h2, r2⟩ := trodAll_cons r1
  obtain ⟨rfl, rfl, rfl⟩ := trodAll_nil r2
  obtain rfl : args = #[v0, v1, v2] := by cases args; simp_all
  obtain ⟨rfl, rfl⟩ := trodVars_none hV
  obtain ⟨cs0, rfl, _⟩ : ∃ cs, v0 = .agg cs ∧ True := by
    have h := hval 0 46 v0 rfl rfl
    unfold Value.okWide at h
    rw [Try.underlying46] at h
    exact ⟨h.choose, h.choose_spec.1, trivial⟩
  obtain ⟨_, _, e0, ⟨c0_0, rfl, c0_0w⟩, _, _, rfl, ⟨c0_1, rfl, c0_1w⟩, _, _, rfl, ⟨c0_2, rfl, c0_2w⟩, _, _, rfl, ⟨c0_3, rfl, c0_3w⟩, _, _, rfl, ⟨c0_4, rfl, c0_4w⟩, _, _, rfl, ⟨c0_5, rfl, c0_5w⟩, _, _, rfl, ⟨c0_6, rfl, c0_6w⟩, _, _, rfl, ⟨c0_7, rfl, c0_7w⟩, _, _, rfl, ⟨c0_8, rfl, c0_8w⟩, _, _, rfl, ⟨c0_9, rfl, c0_9w⟩, _, _, rfl, ⟨c0_10, rfl, c0_10w⟩, _, _, rfl, ⟨c0_11, rfl, c0_11w⟩, _, _, rfl, ⟨c0_12, rfl, c0_12w⟩, rfl⟩ := trod_fits (ks := [.int .u64, .int .i64, .int .i64, .int .i64, .int .i64, .int .i64, .int .i64, .int .i64, .int .i64, .int .i64, .int .i64, .int .i64, .int .i64]) 20 h0 (by kernel_rfl)
  obtain rfl : cs0 = #[.int .u64 c0_0, .int .i64 c0_1, .int .i64 c0_2, .int .i64 c0_3, .int .i64 c0_4, .int .i64 c0_5, .int .i64 c0_6, .int .i64 c0_7, .int .i64 c0_8, .int .i64 c0_9, .int .i64 c0_10, .int .i64 c0_11, .int .i64 c0_12] := by apply Array.toList_inj.1; exact e0
  obtain ⟨a1, rfl, rfl, rfl, w1⟩ := open_int Try.underlying3 (hval 1 3 v1 rfl rfl) h1
  obtain ⟨a2, rfl, rfl, rfl, w2⟩ := open_int Try.underlying3 (hval 2 3 v2 rfl rfl) h2
  clear hA0 hval0
  refine (walk c0_0 c0_1 c0_2 c0_3 c0_4 c0_5 c0_6 c0_7 c0_8 c0_9 c0_10 c0_11 c0_12 c0_0w a1 a2 W).mono fun e W' ⟨he, bel⟩ => ?_
  subst he
  exact ⟨_, rfl, _, _, _, [], _, [], hW', trodAll_mk1 (shut_bool Try.underlying4 _), trodAll_below laidPlanSteps bel [46, 3, 3] _ _ _ (by kernel_rfl) hA1 (fun x hx => hW'.lt x (by first | (simp at hx; done) | (simp at hx ⊢; simp [hx]))), rfl, bel.frame _, fun h => by cases h⟩
theorem planSteps_holds : Rows.PlanStepsSaid :=
  OpenClaim.holds_of_wide 7 Try.f7 rfl rfl rfl rfl rfl rfl rfl ⟨rfl, rfl, rfl, rfl, rfl⟩ rfl rfl rfl rfl rfl (by kernel_rfl) Try.func7 closedPlanSteps
    (of_decide_eq_true (by kernel_rfl)) (by unfold Func.isWrapper; first | (rw [if_pos (by decide +kernel)]; kernel_rfl) | (rw [if_neg (by decide +kernel)]; exact ⟨rfl, rfl⟩))
    (fun os started H enc _ => liftedPlanSteps os started H enc)
end Go.Proofs.Ytcjicmabhejllaa
