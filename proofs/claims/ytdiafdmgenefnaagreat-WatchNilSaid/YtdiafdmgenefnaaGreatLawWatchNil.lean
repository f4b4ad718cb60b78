/- A watch that is not there sees nothing; nor is there one of no store. No condition beyond the statement's own: whatever the arguments, the law returns true, and its arguments read as before. -/
import Derived.Test.YtdiafdmgenefnaaGreatRows
import Derived.Test.YtdiafdmgenefnaaGreatEvO
import Derived.Test.YtdiafdmgenefnaaGreatFactsWatchNil
import Derived.Test.YtdiafdmgenefnaaGreatRunWatchNil
import Derived.WalkKit
import Derived.SizedLaws
namespace Go.Proofs.YtdiafdmgenefnaaGreat
open Go.ChangeShapes Go.WideShapes Go.ChangeAt Go.RowKit Go.Ev
open Go.ChangeMaps (open_string shut_string)
set_option linter.unusedVariables false
theorem ownWatchNil : ownKnob Tryz.prog.godebug = none := by kernel_rfl
theorem laidWatchNil : laidOutB Tryz.prog = true := by kernel_rfl
set_option maxRecDepth 100000 in
theorem liftedWatchNil (os : Os) (started : os.Started) (H : Type) (enc : TypeId × Value → H) :
    ReturnsInHanded {} Tryz.checked os 3 .any (Rows.watchNilSpec.pre6 enc Tryz.prog Tryz.f3 Rows.watchNilRow.domain false) (Rows.watchNilSpec.post enc Tryz.prog Tryz.f3 false true false false) := by
  refine returnsInHanded_of_change (C := Tryz.checked) ownWatchNil started (by kernel_rfl) Tryz.func3
    (ChangeSpec.witness6 (enc := enc) (C := Tryz.checked) false ⟨#[], #[.agg #[.int .i64 0, .int .i64 0, .int .i64 0, .int .i64 0, .string .empty, .string .empty, .int .u64 0, .slice none 0 0]], []⟩ 8 (by kernel_rfl) (by kernel_rfl) (by kernel_rfl) (by kernel_rfl)) ?_
  intro W base args ds gs before hval0 hW hcnd _
  have hval : ∀ (j : Nat) t v, Tryz.f3.params[j]? = some t → args[j]? = some v → Value.okWide Tryz.prog W .any base t v := hval0
  have hW' := hW
  obtain ⟨p, q, hA0, hV, rfl, hfz, hnd⟩ := hW
  have hA : DataW.TrodAll enc Tryz.prog W 0 (fun _ => true) true Tryz.f3.params.toList args.toList ds p := hA0
  rw [Tryz.params3] at hA hval
  have hA1 := hA
  obtain ⟨v0, vs0, d0, ds0, p0, q0, hargs, rfl, rfl, h0, r0⟩ := trodAll_cons hA
  obtain ⟨rfl, rfl, rfl⟩ := trodAll_nil r0
  obtain rfl : args = #[v0] := by cases args; simp_all
  obtain ⟨rfl, rfl⟩ := trodVars_none hV
  obtain ⟨cs0, rfl, _⟩ : ∃ cs, v0 = .agg cs ∧ True := by
    have h := hval 0 27 v0 rfl rfl
    unfold Value.okWide at h
    rw [Tryz.underlying27] at h
    exact ⟨h.choose, h.choose_spec.1, trivial⟩
  obtain ⟨_, _, e0, ⟨c0_0, rfl, c0_0w⟩, _, _, rfl, ⟨c0_1, rfl, c0_1w⟩, _, _, rfl, ⟨c0_2, rfl, c0_2w⟩, _, _, rfl, ⟨c0_3, rfl, c0_3w⟩, _, _, rfl, ⟨c0_4, rfl, c0_4w⟩, _, _, rfl, ⟨c0_5, rfl, c0_5w⟩, _, _, rfl, ⟨c0_6, rfl, c0_6w⟩, _, _, rfl, ⟨c0_7p, c0_7n, c0_7c, rfl⟩, rfl⟩ := trod_fits (ks := [.int .i64, .int .i64, .int .i64, .int .i64, .str, .str, .int .u64, .sl]) 20 h0 (by kernel_rfl)
  obtain rfl : cs0 = #[.int .i64 c0_0, .int .i64 c0_1, .int .i64 c0_2, .int .i64 c0_3, .string c0_4, .string c0_5, .int .u64 c0_6, .slice c0_7p c0_7n c0_7c] := by apply Array.toList_inj.1; exact e0
  clear hA0 hval0
  refine (walk c0_0 c0_1 c0_2 c0_3 c0_4 c0_5 c0_6 c0_7p c0_7n c0_7c W).mono fun e W' ⟨he, bel⟩ => ?_
  subst he
  exact ⟨_, rfl, _, _, _, [], _, [], hW', trodAll_mk1 (shut_bool Tryz.underlying4 _), trodAll_below laidWatchNil bel [27] _ _ _ (by kernel_rfl) hA1 (fun x hx => hW'.lt x (by first | (simp at hx; done) | (simp at hx ⊢; simp [hx]))), rfl, bel.frame _, fun h => by cases h⟩
theorem watchNil_holds : Rows.WatchNilSaid :=
  OpenClaim.holds_of_wide 3 Tryz.f3 rfl rfl rfl rfl rfl rfl rfl ⟨rfl, rfl, rfl, rfl, rfl⟩ rfl rfl rfl rfl rfl (by kernel_rfl) Tryz.func3 closedWatchNil
    (of_decide_eq_true (by kernel_rfl)) (by unfold Func.isWrapper; first | (rw [if_pos (by decide +kernel)]; kernel_rfl) | (rw [if_neg (by decide +kernel)]; exact ⟨rfl, rfl⟩))
    (fun os started H enc _ => liftedWatchNil os started H enc)
end Go.Proofs.YtdiafdmgenefnaaGreat
