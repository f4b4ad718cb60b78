/- Of any uses the sums, the worst page, the rate and the poor ones are as they should be. No condition beyond the statement's own: whatever the arguments, the law returns true, and its arguments read as before. -/
import Derived.Test.YtonakeopionkkaaGreatRows
import Derived.Test.YtonakeopionkkaaGreatEvO
import Derived.Test.YtonakeopionkkaaGreatFactsOccupyTotals
import Derived.Test.YtonakeopionkkaaGreatOcE
import Derived.WalkKit
import Derived.SizedLaws
namespace Go.Proofs.YtonakeopionkkaaGreat
open Go.ChangeShapes Go.WideShapes Go.ChangeAt Go.RowKit Go.Ev
open Go.ChangeMaps (open_string shut_string)
set_option linter.unusedVariables false
theorem ownOccupyTotals : ownKnob Tryz.prog.godebug = none := by kernel_rfl
theorem laidOccupyTotals : laidOutB Tryz.prog = true := by kernel_rfl
set_option maxRecDepth 100000 in
theorem liftedOccupyTotals (os : Os) (started : os.Started) (H : Type) (enc : TypeId × Value → H) :
    ReturnsInHanded {} Tryz.checked os 4 .any (Rows.occupyTotalsSpec.pre6 enc Tryz.prog Tryz.f4 Rows.occupyTotalsRow.domain false) (Rows.occupyTotalsSpec.post enc Tryz.prog Tryz.f4 false true false false) := by
  refine returnsInHanded_of_change (C := Tryz.checked) ownOccupyTotals started (by kernel_rfl) Tryz.func4
    (ChangeSpec.witness6 (enc := enc) (C := Tryz.checked) false ⟨#[], #[.slice none 0 0, .int .i64 0], []⟩ 8 (by kernel_rfl) (by kernel_rfl) (by kernel_rfl) (by kernel_rfl)) ?_
  intro W base args ds gs before hval0 hW hcnd _
  have hval : ∀ (j : Nat) t v, Tryz.f4.params[j]? = some t → args[j]? = some v → Value.okWide Tryz.prog W .any base t v := hval0
  have hW' := hW
  obtain ⟨p, q, hA0, hV, rfl, hfz, hnd⟩ := hW
  have hA : DataW.TrodAll enc Tryz.prog W 0 (fun _ => true) true Tryz.f4.params.toList args.toList ds p := hA0
  rw [Tryz.params4] at hA hval
  have hA1 := hA
  obtain ⟨v0, vs0, d0, ds0, p0, q0, hargs, rfl, rfl, h0, r0⟩ := trodAll_cons hA
  obtain ⟨v1, vs1, d1, ds1, p1, q1, rfl, rfl, rfl, h1, r1⟩ := trodAll_cons r0
  obtain ⟨rfl, rfl, rfl⟩ := trodAll_nil r1
  obtain rfl : args = #[v0, v1] := by cases args; simp_all
  obtain ⟨rfl, rfl⟩ := trodVars_none hV
  obtain ⟨a0p, a0n, a0c, rfl⟩ := Go.WideShapes.okWide_slice Tryz.underlying23 (hval 0 23 v0 rfl rfl)
  obtain ⟨a1, rfl, rfl, rfl, w1⟩ := open_int Tryz.underlying3 (hval 1 3 v1 rfl rfl) h1
  clear hA0 hval0
  refine (walk h0 a1).mono fun e W' ⟨he, bel⟩ => ?_
  subst he
  exact ⟨_, rfl, _, _, _, [], _, [], hW', trodAll_mk1 (shut_bool Tryz.underlying4 _), trodAll_below laidOccupyTotals bel [23, 3] _ _ _ (by kernel_rfl) hA1 (fun x hx => hW'.lt x (by first | (simp at hx; done) | (simp at hx ⊢; simp [hx]))), rfl, bel.frame _, fun h => by cases h⟩
theorem occupyTotals_holds : Rows.OccupyTotalsSaid :=
  OpenClaim.holds_of_wide 4 Tryz.f4 rfl rfl rfl rfl rfl rfl rfl ⟨rfl, rfl, rfl, rfl, rfl⟩ rfl rfl rfl rfl rfl (by kernel_rfl) Tryz.func4 closedOccupyTotals
    (of_decide_eq_true (by kernel_rfl)) (by unfold Func.isWrapper; first | (rw [if_pos (by decide +kernel)]; kernel_rfl) | (rw [if_neg (by decide +kernel)]; exact ⟨rfl, rfl⟩))
    (fun os started H enc _ => liftedOccupyTotals os started H enc)
end Go.Proofs.YtonakeopionkkaaGreat
