/- Any steps have their lines, and are read from them as they were, or may not be told (up to 60 steps with texts of up to 200 bytes and up to 50 picks). Condition: the listed package-level variables start as listed; the card ties that to the text of the program (a pruned copy of the project: it says nothing of the packages left out). Whatever the arguments, the law returns true, and its arguments read as before. -/
import Derived.Test.YtnkeebchblfbgaaDoorRows
import Derived.Test.YtnkeebchblfbgaaDoorBnB
import Derived.Test.YtnkeebchblfbgaaDoorFactsScriptPrints
import Derived.Test.YtnkeebchblfbgaaDoorBnG
import Derived.Test.YtnkeebchblfbgaaDoorTie
import Derived.Test.YtnkeebchblfbgaaDoorCards
import Derived.SevenTiedAt
import Derived.Handed
import Derived.LaidLaws
import Derived.WalkKit
import Derived.SizedLaws
namespace Go.Proofs.YtnkeebchblfbgaaDoor
open Go.ChangeShapes Go.WideShapes Go.ChangeAt Go.RowKit Go.Ev
open Go.ChangeMaps (open_string shut_string)
set_option linter.unusedVariables false
theorem ownScriptPrints : ownKnob Tryd.prog.godebug = none := by kernel_rfl
theorem laidScriptPrints : laidOutB Tryd.prog = true := by kernel_rfl
set_option maxRecDepth 100000 in
theorem liftedScriptPrints (os : Os) (started : os.Started) (H : Type) (enc : TypeId × Value → H) :
    ReturnsInHanded {} Tryd.checked os 5 .any (fun w args => (Rows.scriptPrintsSpec.pre enc Tryd.prog Tryd.f5 Rows.scriptPrintsRow.domain false w args ∧ laidMet Tryd.prog Rows.scriptPrintsRow.laid w) ∧ sizedMet enc Tryd.prog Tryd.f5 (OpenSpec.ofChange Rows.scriptPrintsSpec) false w args) (Rows.scriptPrintsSpec.post enc Tryd.prog Tryd.f5 false true false false) := by
  refine returnsInHanded_of_change_and (C := Tryd.checked) (X := fun w _ => laidMet Tryd.prog Rows.scriptPrintsRow.laid w) (fun _ _ _ hh h => h.of_heap hh) ownScriptPrints started (by kernel_rfl) Tryd.func5
    (ChangeSpec.witness_at (enc := enc) (C := Tryd.checked) (os := os) (X := fun w _ => laidMet Tryd.prog Rows.scriptPrintsRow.laid w) false (laidWorld os) #[.slice none 0 0] 8 rfl (by kernel_rfl) (by kernel_rfl) (by kernel_rfl) (by kernel_rfl) (by kernel_rfl) (laid_met os _)) ?_
  intro W base args ds gs before hval0 hW hcnd _ hL _
  have hval : ∀ (j : Nat) t v, Tryd.f5.params[j]? = some t → args[j]? = some v → Value.okWide Tryd.prog W .any base t v := hval0
  have hW' := hW
  obtain ⟨p, q, hA0, hV, rfl, hfz, hnd⟩ := hW
  have hA : DataW.TrodAll enc Tryd.prog W 0 (fun _ => true) true Tryd.f5.params.toList args.toList ds p := hA0
  rw [Tryd.params5] at hA hval
  have hA1 := hA
  obtain ⟨v0, vs0, d0, ds0, p0, q0, hargs, rfl, rfl, h0, r0⟩ := trodAll_cons hA
  obtain ⟨rfl, rfl, rfl⟩ := trodAll_nil r0
  obtain rfl : args = #[v0] := by cases args; simp_all
  obtain ⟨rfl, rfl⟩ := trodVars_none hV
  obtain ⟨a0p, a0n, a0c, rfl⟩ := Go.WideShapes.okWide_slice Tryd.underlying23 (hval 0 23 v0 rfl rfl)
  clear hA0 hval0
  refine (walkP hL h0).mono fun e W' ⟨he, bel⟩ => ?_
  subst he
  exact ⟨_, rfl, _, _, _, [], _, [], hW', trodAll_mk1 (shut_bool Tryd.underlying4 _), trodAll_below laidScriptPrints bel [23] _ _ _ (by kernel_rfl) hA1 (fun x hx => hW'.lt x (by first | (simp at hx; done) | (simp at hx ⊢; simp [hx]))), rfl, bel.frame _, fun h => by cases h⟩
theorem scriptPrints_holds : Rows.ScriptPrintsSaid :=
  OpenClaim.holds_of_wide 5 Tryd.f5 rfl rfl rfl rfl rfl rfl rfl ⟨rfl, rfl, rfl, rfl, rfl⟩ rfl rfl rfl rfl rfl (by kernel_rfl) Tryd.func5 closedScriptPrints
    (of_decide_eq_true (by kernel_rfl)) (by unfold Func.isWrapper; first | (rw [if_pos (by decide +kernel)]; kernel_rfl) | (rw [if_neg (by decide +kernel)]; exact ⟨rfl, rfl⟩))
    (fun os started H enc _ => liftedScriptPrints os started H enc)
theorem scriptPrintsCard_holds : Rows.ScriptPrintsCardSaid :=
  Claim7.holds_tied_plain_at .later [] [.data, .data, .data, .data, .sentinel, .sentinel, .widerDeep, .widerDeep, .pinned] true (true, "bec98e890642780de51c5e1ac6c2363468cee559753c1b20c972730f749e24eb") true
    scriptPrints_holds (fun _ h => by cases h) (by kernel_rfl) (fun _ h => by cases h) scriptPrints_row_tie rfl ⟨rfl, rfl⟩ (by kernel_rfl) rfl
    (fun f fn hf hfn => by
      obtain rfl : f = 5 := Option.some.inj ((show Tryd.prog.funcNamed Rows.scriptPrintsRow.func = some 5 by kernel_rfl).symm.trans hf) |>.symm
      obtain rfl : fn = Tryd.f5 := (Option.some.inj (Tryd.func5.symm.trans hfn)).symm
      exact ⟨by kernel_rfl, fun j t ht => by
        rw [Tryd.params5] at ht
        have hm : t ∈ [23] := by
          have := Array.mem_of_getElem? ht
          simpa using this
        have hs : ([23] : List TypeId).all (fun t => Tryd.prog.wantsStandIn t == false) = true := by kernel_rfl
        exact eq_of_beq (List.all_eq_true.1 hs t hm)⟩)
    (by kernel_rfl)
end Go.Proofs.YtnkeebchblfbgaaDoor
