/- Of any steps it is told how many there are of each kind and whether all sessions move, and no kind without a weight comes of a plan. No condition beyond the statement's own: whatever the arguments, the law returns true, and its arguments read as before. -/
import Derived.Test.YtcjicmabhejllaaRows
import Derived.Test.YtcjicmabhejllaaBnB
import Derived.Test.YtcjicmabhejllaaFactsPlanSpreads
import Derived.Test.YtcjicmabhejllaaBnG
import Derived.WalkKit
import Derived.SizedLaws
namespace Go.Proofs.Ytcjicmabhejllaa
open Go.ChangeShapes Go.WideShapes Go.ChangeAt Go.RowKit Go.Ev
open Go.ChangeMaps (open_string shut_string)
set_option linter.unusedVariables false
theorem ownPlanSpreads : ownKnob Try.prog.godebug = none := by kernel_rfl
theorem laidPlanSpreads : laidOutB Try.prog = true := by kernel_rfl
set_option maxRecDepth 100000 in
theorem liftedPlanSpreads (os : Os) (started : os.Started) (H : Type) (enc : TypeId × Value → H) :
    ReturnsInHanded {} Try.checked os 8 .any (Rows.planSpreadsSpec.pre6 enc Try.prog Try.f8 Rows.planSpreadsRow.domain false) (Rows.planSpreadsSpec.post enc Try.prog Try.f8 false true false false) := by
  refine returnsInHanded_of_change (C := Try.checked) ownPlanSpreads started (by kernel_rfl) Try.func8
    (ChangeSpec.witness6 (enc := enc) (C := Try.checked) false ⟨#[], #[.slice none 0 0, .int .i64 0, .int .i64 0, .agg #[.int .u64 0, .int .i64 0, .int .i64 0, .int .i64 0, .int .i64 0, .int .i64 0, .int .i64 0, .int .i64 0, .int .i64 0, .int .i64 0, .int .i64 0, .int .i64 0, .int .i64 0]], []⟩ 8 (by kernel_rfl) (by kernel_rfl) (by kernel_rfl) (by kernel_rfl)) ?_
  intro W base args ds gs before hval0 hW hcnd _
  have hval : ∀ (j : Nat) t v, Try.f8.params[j]? = some t → args[j]? = some v → Value.okWide Try.prog W .any base t v := hval0
  have hW' := hW
  obtain ⟨p, q, hA0, hV, rfl, hfz, hnd⟩ := hW
  have hA : DataW.TrodAll enc Try.prog W 0 (fun _ => true) true Try.f8.params.toList args.toList ds p := hA0
  rw [Try.params8] at hA hval
  have hA1 := hA
  obtain ⟨v0, vs0, d0, ds0, p0, q0, hargs, rfl, rfl, h0, r0⟩ := trodAll_cons hA
  obtain ⟨v1, vs1, d1, ds1, p1, q1, rfl, rfl, rfl, h1, r1⟩ := trodAll_cons r0
  obtain ⟨v2, vs2, d2, ds2, p2, q2, rfl, rfl, rfl, h2, r2⟩ := trodAll_cons r1
  obtain ⟨v3, vs3, d3, ds3, p3, q3, rfl, rfl, rfl, h3, r3⟩ := trodAll_cons r2
  obtain ⟨rfl, rfl, rfl⟩ := trodAll_nil r3
  obtain rfl : args = #[v0, v1, v2, v3] := by cases args; simp_all
  obtain ⟨rfl, rfl⟩ := trodVars_none hV
  obtain ⟨a0p, a0n, a0c, rfl⟩ := Go.WideShapes.okWide_slice Try.underlying33 (hval 0 33 v0 rfl rfl)
  obtain ⟨a1, rfl, rfl, rfl, w1⟩ := open_int Try.underlying3 (hval 1 3 v1 rfl rfl) h1
  obtain ⟨a2, rfl, rfl, rfl, w2⟩ := open_int Try.underlying3 (hval 2 3 v2 rfl rfl) h2
  obtain ⟨cs3, rfl, _⟩ : ∃ cs, v3 = .agg cs ∧ True := by
    have h := hval 3 46 v3 rfl rfl
    unfold Value.okWide at h
    rw [Try.underlying46] at h
    exact ⟨h.choose, h.choose_spec.1, trivial⟩
  obtain ⟨_, _, e3, ⟨c3_0, rfl, c3_0w⟩, _, _, rfl, ⟨c3_1, rfl, c3_1w⟩, _, _, rfl, ⟨c3_2, rfl, c3_2w⟩, _, _, rfl, ⟨c3_3, rfl, c3_3w⟩, _, _, rfl, ⟨c3_4, rfl, c3_4w⟩, _, _, rfl, ⟨c3_5, rfl, c3_5w⟩, _, _, rfl, ⟨c3_6, rfl, c3_6w⟩, _, _, rfl, ⟨c3_7, rfl, c3_7w⟩, _, _, rfl, ⟨c3_8, rfl, c3_8w⟩, _, _, rfl, ⟨c3_9, rfl, c3_9w⟩, _, _, rfl, ⟨c3_10, rfl, c3_10w⟩, _, _, rfl, ⟨c3_11, rfl, c3_11w⟩, _, _, rfl, ⟨c3_12, rfl, c3_12w⟩, rfl⟩ := trod_fits (ks := [.int .u64, .int .i64, .int .i64, .int .i64, .int .i64, .int .i64, .int .i64, .int .i64, .int .i64, .int .i64, .int .i64, .int .i64, .int .i64]) 20 h3 (by kernel_rfl)
  obtain rfl : cs3 = #[.int .u64 c3_0, .int .i64 c3_1, .int .i64 c3_2, .int .i64 c3_3, .int .i64 c3_4, .int .i64 c3_5, .int .i64 c3_6, .int .i64 c3_7, .int .i64 c3_8, .int .i64 c3_9, .int .i64 c3_10, .int .i64 c3_11, .int .i64 c3_12] := by apply Array.toList_inj.1; exact e3
  clear hA0 hval0
  refine (walk h0 a1 a2 w2 c3_0 c3_1 c3_2 c3_3 c3_4 c3_5 c3_6 c3_7 c3_8 c3_9 c3_10 c3_11 c3_12 c3_0w).mono fun e W' ⟨he, bel⟩ => ?_
  subst he
  exact ⟨_, rfl, _, _, _, [], _, [], hW', trodAll_mk1 (shut_bool Try.underlying4 _), trodAll_below laidPlanSpreads bel [33, 3, 3, 46] _ _ _ (by kernel_rfl) hA1 (fun x hx => hW'.lt x (by first | (simp at hx; done) | (simp at hx ⊢; simp [hx]))), rfl, bel.frame _, fun h => by cases h⟩
theorem planSpreads_holds : Rows.PlanSpreadsSaid :=
  OpenClaim.holds_of_wide 8 Try.f8 rfl rfl rfl rfl rfl rfl rfl ⟨rfl, rfl, rfl, rfl, rfl⟩ rfl rfl rfl rfl rfl (by kernel_rfl) Try.func8 closedPlanSpreads
    (of_decide_eq_true (by kernel_rfl)) (by unfold Func.isWrapper; first | (rw [if_pos (by decide +kernel)]; kernel_rfl) | (rw [if_neg (by decide +kernel)]; exact ⟨rfl, rfl⟩))
    (fun os started H enc _ => liftedPlanSpreads os started H enc)
end Go.Proofs.Ytcjicmabhejllaa
