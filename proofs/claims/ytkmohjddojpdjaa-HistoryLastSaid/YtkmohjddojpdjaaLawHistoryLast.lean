/- All values that a key may have at last are told, and whether it may have nothing. No condition beyond the statement's own: whatever the arguments, the law returns true, and its arguments read as before. -/
import Derived.Test.YtkmohjddojpdjaaRows
import Derived.Test.YtkmohjddojpdjaaBnB
import Derived.Test.YtkmohjddojpdjaaFactsHistoryLast
import Derived.Test.YtkmohjddojpdjaaBnG
import Derived.WalkKit
import Derived.SizedLaws
namespace Go.Proofs.Ytkmohjddojpdjaa
open Go.ChangeShapes Go.WideShapes Go.ChangeAt Go.RowKit Go.Ev
open Go.ChangeMaps (open_string shut_string)
set_option linter.unusedVariables false
theorem ownHistoryLast : ownKnob Try.prog.godebug = none := by kernel_rfl
theorem laidHistoryLast : laidOutB Try.prog = true := by kernel_rfl
set_option maxRecDepth 100000 in
theorem liftedHistoryLast (os : Os) (started : os.Started) (H : Type) (enc : TypeId × Value → H) :
    ReturnsInHanded {} Try.checked os 7 .any (Rows.historyLastSpec.pre6 enc Try.prog Try.f7 Rows.historyLastRow.domain false) (Rows.historyLastSpec.post enc Try.prog Try.f7 false true false false) := by
  refine returnsInHanded_of_change (C := Try.checked) ownHistoryLast started (by kernel_rfl) Try.func7
    (ChangeSpec.witness6 (enc := enc) (C := Try.checked) false ⟨#[], #[.slice none 0 0, .string .empty], []⟩ 8 (by kernel_rfl) (by kernel_rfl) (by kernel_rfl) (by kernel_rfl)) ?_
  intro W base args ds gs before hval0 hW hcnd _
  have hval : ∀ (j : Nat) t v, Try.f7.params[j]? = some t → args[j]? = some v → Value.okWide Try.prog W .any base t v := hval0
  have hW' := hW
  obtain ⟨p, q, hA0, hV, rfl, hfz, hnd⟩ := hW
  have hA : DataW.TrodAll enc Try.prog W 0 (fun _ => true) true Try.f7.params.toList args.toList ds p := hA0
  rw [Try.params7] at hA hval
  have hA1 := hA
  obtain ⟨v0, vs0, d0, ds0, p0, q0, hargs, rfl, rfl, h0, r0⟩ := trodAll_cons hA
  obtain ⟨v1, vs1, d1, ds1, p1, q1, rfl, rfl, rfl, h1, r1⟩ := trodAll_cons r0
  obtain ⟨rfl, rfl, rfl⟩ := trodAll_nil r1
  obtain rfl : args = #[v0, v1] := by cases args; simp_all
  obtain ⟨rfl, rfl⟩ := trodVars_none hV
  obtain ⟨a0p, a0n, a0c, rfl⟩ := Go.WideShapes.okWide_slice Try.underlying33 (hval 0 33 v0 rfl rfl)
  obtain ⟨a1, rfl, rfl, rfl, w1⟩ := open_string Try.underlying9 (hval 1 9 v1 rfl rfl) h1
  clear hA0 hval0
  refine (walk h0 a1).mono fun e W' ⟨he, bel⟩ => ?_
  subst he
  exact ⟨_, rfl, _, _, _, [], _, [], hW', trodAll_mk1 (shut_bool Try.underlying4 _), trodAll_below laidHistoryLast bel [33, 9] _ _ _ (by kernel_rfl) hA1 (fun x hx => hW'.lt x (by first | (simp at hx; done) | (simp at hx ⊢; simp [hx]))), rfl, bel.frame _, fun h => by cases h⟩
theorem historyLast_holds : Rows.HistoryLastSaid :=
  OpenClaim.holds_of_wide 7 Try.f7 rfl rfl rfl rfl rfl rfl rfl ⟨rfl, rfl, rfl, rfl, rfl⟩ rfl rfl rfl rfl rfl (by kernel_rfl) Try.func7 closedHistoryLast
    (of_decide_eq_true (by kernel_rfl)) (by unfold Func.isWrapper; first | (rw [if_pos (by decide +kernel)]; kernel_rfl) | (rw [if_neg (by decide +kernel)]; exact ⟨rfl, rfl⟩))
    (fun os started H enc _ => liftedHistoryLast os started H enc)
end Go.Proofs.Ytkmohjddojpdjaa
