/- Of more than sixteen events of a key it is not told. No condition beyond the statement's own: whatever the arguments, the law returns true, and its arguments read as before. -/
import Derived.Test.YtkmohjddojpdjabRows
import Derived.Test.YtkmohjddojpdjabBnB
import Derived.Test.YtkmohjddojpdjabFactsHistoryLong
import Derived.Test.YtkmohjddojpdjabBnG
import Derived.WalkKit
import Derived.SizedLaws
namespace Go.Proofs.Ytkmohjddojpdjab
open Go.ChangeShapes Go.WideShapes Go.ChangeAt Go.RowKit Go.Ev
open Go.ChangeMaps (open_string shut_string)
set_option linter.unusedVariables false
theorem ownHistoryLong : ownKnob Try.prog.godebug = none := by kernel_rfl
theorem laidHistoryLong : laidOutB Try.prog = true := by kernel_rfl
set_option maxRecDepth 100000 in
theorem liftedHistoryLong (os : Os) (started : os.Started) (H : Type) (enc : TypeId × Value → H) :
    ReturnsInHanded {} Try.checked os 3 .any (Rows.historyLongSpec.pre6 enc Try.prog Try.f3 Rows.historyLongRow.domain false) (Rows.historyLongSpec.post enc Try.prog Try.f3 false true false false) := by
  refine returnsInHanded_of_change (C := Try.checked) ownHistoryLong started (by kernel_rfl) Try.func3
    (ChangeSpec.witness6 (enc := enc) (C := Try.checked) false ⟨#[], #[.agg #[.int .i64 0, .string .empty, .string .empty, .int .u64 0], .int .u8 0], []⟩ 8 (by kernel_rfl) (by kernel_rfl) (by kernel_rfl) (by kernel_rfl)) ?_
  intro W base args ds gs before hval0 hW hcnd _
  have hval : ∀ (j : Nat) t v, Try.f3.params[j]? = some t → args[j]? = some v → Value.okWide Try.prog W .any base t v := hval0
  have hW' := hW
  obtain ⟨p, q, hA0, hV, rfl, hfz, hnd⟩ := hW
  have hA : DataW.TrodAll enc Try.prog W 0 (fun _ => true) true Try.f3.params.toList args.toList ds p := hA0
  rw [Try.params3] at hA hval
  have hA1 := hA
  obtain ⟨v0, vs0, d0, ds0, p0, q0, hargs, rfl, rfl, h0, r0⟩ := trodAll_cons hA
  obtain ⟨v1, vs1, d1, ds1, p1, q1, rfl, rfl, rfl, h1, r1⟩ := trodAll_cons r0
  obtain ⟨rfl, rfl, rfl⟩ := trodAll_nil r1
  obtain rfl : args = #[v0, v1] := by cases args; simp_all
  obtain ⟨rfl, rfl⟩ := trodVars_none hV
  obtain ⟨cs0, rfl, _⟩ : ∃ cs, v0 = .agg cs ∧ True := by
    have h := hval 0 24 v0 rfl rfl
    unfold Value.okWide at h
    rw [Try.underlying24] at h
    exact ⟨h.choose, h.choose_spec.1, trivial⟩
  obtain ⟨_, _, e0, ⟨c0_0, rfl, c0_0w⟩, _, _, rfl, ⟨c0_1, rfl, c0_1w⟩, _, _, rfl, ⟨c0_2, rfl, c0_2w⟩, _, _, rfl, ⟨c0_3, rfl, c0_3w⟩, rfl⟩ := trod_fits (ks := [.int .i64, .str, .str, .int .u64]) 20 h0 (by kernel_rfl)
  obtain rfl : cs0 = #[.int .i64 c0_0, .string c0_1, .string c0_2, .int .u64 c0_3] := by apply Array.toList_inj.1; exact e0
  obtain ⟨a1, rfl, rfl, rfl, w1⟩ := open_int Try.underlying5 (hval 1 5 v1 rfl rfl) h1
  clear hA0 hval0
  refine (walk c0_0 c0_1 c0_2 c0_3 a1 W).mono fun e W' ⟨he, bel⟩ => ?_
  subst he
  exact ⟨_, rfl, _, _, _, [], _, [], hW', trodAll_mk1 (shut_bool Try.underlying4 _), trodAll_below laidHistoryLong bel [24, 5] _ _ _ (by kernel_rfl) hA1 (fun x hx => hW'.lt x (by first | (simp at hx; done) | (simp at hx ⊢; simp [hx]))), rfl, bel.frame _, fun h => by cases h⟩
theorem historyLong_holds : Rows.HistoryLongSaid :=
  OpenClaim.holds_of_wide 3 Try.f3 rfl rfl rfl rfl rfl rfl rfl ⟨rfl, rfl, rfl, rfl, rfl⟩ rfl rfl rfl rfl rfl (by kernel_rfl) Try.func3 closedHistoryLong
    (of_decide_eq_true (by kernel_rfl)) (by unfold Func.isWrapper; first | (rw [if_pos (by decide +kernel)]; kernel_rfl) | (rw [if_neg (by decide +kernel)]; exact ⟨rfl, rfl⟩))
    (fun os started H enc _ => liftedHistoryLong os started H enc)
end Go.Proofs.Ytkmohjddojpdjab
