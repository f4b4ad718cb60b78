/- A store that is not there does nothing; nor is there one without a device, or on one that is off. No condition beyond the statement's own: whatever the arguments, the law returns true, and its arguments read as before. -/
import Derived.Test.YtkolhhmgmakekaaGreatRows
import Derived.Test.YtkolhhmgmakekaaGreatEvO
import Derived.Test.YtkolhhmgmakekaaGreatFactsStoreNil
import Derived.Test.YtkolhhmgmakekaaGreatWalkStoreNil
import Derived.WalkKit
import Derived.SizedLaws
namespace Go.Proofs.YtkolhhmgmakekaaGreat
open Go.ChangeShapes Go.WideShapes Go.ChangeAt Go.RowKit Go.Ev
open Go.ChangeMaps (open_string shut_string)
set_option linter.unusedVariables false
theorem ownStoreNil : ownKnob Tryz.prog.godebug = none := by kernel_rfl
theorem laidStoreNil : laidOutB Tryz.prog = true := by kernel_rfl
set_option maxRecDepth 100000 in
theorem liftedStoreNil (os : Os) (started : os.Started) (H : Type) (enc : TypeId × Value → H) :
    ReturnsInHanded {} Tryz.checked os 3 .any (Rows.storeNilSpec.pre6 enc Tryz.prog Tryz.f3 Rows.storeNilRow.domain false) (Rows.storeNilSpec.post enc Tryz.prog Tryz.f3 false true false false) := by
  refine returnsInHanded_of_change (C := Tryz.checked) ownStoreNil started (by kernel_rfl) Tryz.func3
    (ChangeSpec.witness6 (enc := enc) (C := Tryz.checked) false ⟨#[], #[.agg #[.int .i64 0, .int .i64 0, .int .i64 0, .int .i64 0, .int .i64 0, .int .i64 0], .agg #[.int .i64 0, .int .i64 0, .int .i64 0, .int .i64 0, .string .empty, .string .empty, .int .u64 0, .slice none 0 0]], []⟩ 8 (by kernel_rfl) (by kernel_rfl) (by kernel_rfl) (by kernel_rfl)) ?_
  intro W base args ds gs before hval0 hW hcnd _
  have hval : ∀ (j : Nat) t v, Tryz.f3.params[j]? = some t → args[j]? = some v → Value.okWide Tryz.prog W .any base t v := hval0
  have hW' := hW
  obtain ⟨p, q, hA0, hV, rfl, hfz, hnd⟩ := hW
  have hA : DataW.TrodAll enc Tryz.prog W 0 (fun _ => true) true Tryz.f3.params.toList args.toList ds p := hA0
  rw [Tryz.params3] at hA hval
  have hA1 := hA
  obtain ⟨v0, vs0, d0, ds0, p0, q0, hargs, rfl, rfl, h0, r0⟩ := trodAll_cons hA
  obtain ⟨v1, vs1, d1, ds1, p1, q1, rfl, rfl, rfl, h1, r1⟩ := trodAll_cons r0
  obtain ⟨rfl, rfl, rfl⟩ := trodAll_nil r1
  obtain rfl : args = #[v0, v1] := by cases args; simp_all
  obtain ⟨rfl, rfl⟩ := trodVars_none hV
  obtain ⟨cs0, rfl, _⟩ : ∃ cs, v0 = .agg cs ∧ True := by
    have h := hval 0 23 v0 rfl rfl
    unfold Value.okWide at h
    rw [Tryz.underlying23] at h
    exact ⟨h.choose, h.choose_spec.1, trivial⟩
  obtain ⟨_, _, e0, ⟨c0_0, rfl, c0_0w⟩, _, _, rfl, ⟨c0_1, rfl, c0_1w⟩, _, _, rfl, ⟨c0_2, rfl, c0_2w⟩, _, _, rfl, ⟨c0_3, rfl, c0_3w⟩, _, _, rfl, ⟨c0_4, rfl, c0_4w⟩, _, _, rfl, ⟨c0_5, rfl, c0_5w⟩, rfl⟩ := trod_fits (ks := [.int .i64, .int .i64, .int .i64, .int .i64, .int .i64, .int .i64]) 20 h0 (by kernel_rfl)
  obtain rfl : cs0 = #[.int .i64 c0_0, .int .i64 c0_1, .int .i64 c0_2, .int .i64 c0_3, .int .i64 c0_4, .int .i64 c0_5] := by apply Array.toList_inj.1; exact e0
  obtain ⟨cs1, rfl, _⟩ : ∃ cs, v1 = .agg cs ∧ True := by
    have h := hval 1 29 v1 rfl rfl
    unfold Value.okWide at h
    rw [Tryz.underlying29] at h
    exact ⟨h.choose, h.choose_spec.1, trivial⟩
  obtain ⟨_, _, e1, ⟨c1_0, rfl, c1_0w⟩, _, _, rfl, ⟨c1_1, rfl, c1_1w⟩, _, _, rfl, ⟨c1_2, rfl, c1_2w⟩, _, _, rfl, ⟨c1_3, rfl, c1_3w⟩, _, _, rfl, ⟨c1_4, rfl, c1_4w⟩, _, _, rfl, ⟨c1_5, rfl, c1_5w⟩, _, _, rfl, ⟨c1_6, rfl, c1_6w⟩, _, _, rfl, ⟨c1_7p, c1_7n, c1_7c, rfl⟩, rfl⟩ := trod_fits (ks := [.int .i64, .int .i64, .int .i64, .int .i64, .str, .str, .int .u64, .sl]) 20 h1 (by kernel_rfl)
  obtain rfl : cs1 = #[.int .i64 c1_0, .int .i64 c1_1, .int .i64 c1_2, .int .i64 c1_3, .string c1_4, .string c1_5, .int .u64 c1_6, .slice c1_7p c1_7n c1_7c] := by apply Array.toList_inj.1; exact e1
  clear hA0 hval0
  refine (walk c0_0 c0_1 c0_2 c0_3 c0_4 c0_5 c1_0 c1_1 c1_2 c1_3 c1_4 c1_5 c1_6 c1_7p c1_7n c1_7c W).mono fun e W' ⟨he, bel⟩ => ?_
  subst he
  exact ⟨_, rfl, _, _, _, [], _, [], hW', trodAll_mk1 (shut_bool Tryz.underlying4 _), trodAll_below laidStoreNil bel [23, 29] _ _ _ (by kernel_rfl) hA1 (fun x hx => hW'.lt x (by first | (simp at hx; done) | (simp at hx ⊢; simp [hx]))), rfl, bel.frame _, fun h => by cases h⟩
theorem storeNil_holds : Rows.StoreNilSaid :=
  OpenClaim.holds_of_wide 3 Tryz.f3 rfl rfl rfl rfl rfl rfl rfl ⟨rfl, rfl, rfl, rfl, rfl⟩ rfl rfl rfl rfl rfl (by kernel_rfl) Tryz.func3 closedStoreNil
    (of_decide_eq_true (by kernel_rfl)) (by unfold Func.isWrapper; first | (rw [if_pos (by decide +kernel)]; kernel_rfl) | (rw [if_neg (by decide +kernel)]; exact ⟨rfl, rfl⟩))
    (fun os started H enc _ => liftedStoreNil os started H enc)
end Go.Proofs.YtkolhhmgmakekaaGreat
