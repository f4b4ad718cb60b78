/- What any operation does to what a key has is what the reference says. No condition beyond the statement's own: whatever the arguments, the law returns true, and its arguments read as before. -/
import Derived.Test.YtkmohjddojpdjaaRows
import Derived.Test.YtkmohjddojpdjaaBnB
import Derived.Test.YtkmohjddojpdjaaFactsHistoryApplies
import Derived.Test.YtkmohjddojpdjaaBnF
import Derived.WalkKit
import Derived.SizedLaws
namespace Go.Proofs.Ytkmohjddojpdjaa
open Go.ChangeShapes Go.WideShapes Go.ChangeAt Go.RowKit Go.Ev
open Go.ChangeMaps (open_string shut_string)
set_option linter.unusedVariables false
theorem ownHistoryApplies : ownKnob Try.prog.godebug = none := by kernel_rfl
theorem laidHistoryApplies : laidOutB Try.prog = true := by kernel_rfl
set_option maxRecDepth 100000 in
theorem liftedHistoryApplies (os : Os) (started : os.Started) (H : Type) (enc : TypeId × Value → H) :
    ReturnsInHanded {} Try.checked os 6 .any (Rows.historyAppliesSpec.pre6 enc Try.prog Try.f6 Rows.historyAppliesRow.domain false) (Rows.historyAppliesSpec.post enc Try.prog Try.f6 false true false false) := by
  refine returnsInHanded_of_change (C := Try.checked) ownHistoryApplies started (by kernel_rfl) Try.func6
    (ChangeSpec.witness6 (enc := enc) (C := Try.checked) false ⟨#[], #[.string .empty, .bool false, .agg #[.int .i64 0, .string .empty, .string .empty, .int .u64 0]], []⟩ 8 (by kernel_rfl) (by kernel_rfl) (by kernel_rfl) (by kernel_rfl)) ?_
  intro W base args ds gs before hval0 hW hcnd _
  have hval : ∀ (j : Nat) t v, Try.f6.params[j]? = some t → args[j]? = some v → Value.okWide Try.prog W .any base t v := hval0
  have hW' := hW
  obtain ⟨p, q, hA0, hV, rfl, hfz, hnd⟩ := hW
  have hA : DataW.TrodAll enc Try.prog W 0 (fun _ => true) true Try.f6.params.toList args.toList ds p := hA0
  rw [Try.params6] at hA hval
  have hA1 := hA
  obtain ⟨v0, vs0, d0, ds0, p0, q0, hargs, rfl, rfl, h0, r0⟩ := trodAll_cons hA
  obtain ⟨v1, vs1, d1, ds1, p1, q1, rfl, rfl, rfl, h1, r1⟩ := trodAll_cons r0
  obtain ⟨v2, vs2, d2, ds2, p2, q2, rfl, rfl, rfl, h2, r2⟩ := trodAll_cons r1
  obtain ⟨rfl, rfl, rfl⟩ := trodAll_nil r2
  obtain rfl : args = #[v0, v1, v2] := by cases args; simp_all
  obtain ⟨rfl, rfl⟩ := trodVars_none hV
  obtain ⟨a0, rfl, rfl, rfl, w0⟩ := open_string Try.underlying9 (hval 0 9 v0 rfl rfl) h0
  obtain ⟨a1, rfl, rfl, rfl⟩ := open_bool Try.underlying4 (hval 1 4 v1 rfl rfl) h1
  obtain ⟨cs2, rfl, _⟩ : ∃ cs, v2 = .agg cs ∧ True := by
    have h := hval 2 51 v2 rfl rfl
    unfold Value.okWide at h
    rw [Try.underlying51] at h
    exact ⟨h.choose, h.choose_spec.1, trivial⟩
  obtain ⟨_, _, e2, ⟨c2_0, rfl, c2_0w⟩, _, _, rfl, ⟨c2_1, rfl, c2_1w⟩, _, _, rfl, ⟨c2_2, rfl, c2_2w⟩, _, _, rfl, ⟨c2_3, rfl, c2_3w⟩, rfl⟩ := trod_fits (ks := [.int .i64, .str, .str, .int .u64]) 20 h2 (by kernel_rfl)
  obtain rfl : cs2 = #[.int .i64 c2_0, .string c2_1, .string c2_2, .int .u64 c2_3] := by apply Array.toList_inj.1; exact e2
  clear hA0 hval0
  refine (walk a0 a1 c2_0 c2_1 c2_2 c2_3 W).mono fun e W' ⟨he, bel⟩ => ?_
  subst he
  exact ⟨_, rfl, _, _, _, [], _, [], hW', trodAll_mk1 (shut_bool Try.underlying4 _), trodAll_below laidHistoryApplies bel [9, 4, 51] _ _ _ (by kernel_rfl) hA1 (fun x hx => hW'.lt x (by first | (simp at hx; done) | (simp at hx ⊢; simp [hx]))), rfl, bel.frame _, fun h => by cases h⟩
theorem historyApplies_holds : Rows.HistoryAppliesSaid :=
  OpenClaim.holds_of_wide 6 Try.f6 rfl rfl rfl rfl rfl rfl rfl ⟨rfl, rfl, rfl, rfl, rfl⟩ rfl rfl rfl rfl rfl (by kernel_rfl) Try.func6 closedHistoryApplies
    (of_decide_eq_true (by kernel_rfl)) (by unfold Func.isWrapper; first | (rw [if_pos (by decide +kernel)]; kernel_rfl) | (rw [if_neg (by decide +kernel)]; exact ⟨rfl, rfl⟩))
    (fun os started H enc _ => liftedHistoryApplies os started H enc)
end Go.Proofs.Ytkmohjddojpdjaa
