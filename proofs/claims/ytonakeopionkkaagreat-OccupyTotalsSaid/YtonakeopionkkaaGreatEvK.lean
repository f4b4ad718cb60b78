/- EvK: a run of the evaluator from nothing is a call of the program. -/
import Derived.Test.YtonakeopionkkaaGreatEvF
set_option linter.unusedVariables false
set_option linter.unusedSimpArgs false
namespace Go.Ev
open Go.RowKit
def Gh.nil : Gh := ⟨fun _ => none, fun _ => 0⟩
theorem Rel.nil (P : Program) (w : World) : Rel P w Gh.nil Heap.nil w :=
  ⟨Below.refl _ w, fun l b hl => absurd hl (Nat.not_lt_zero _), fun l l' b hl => absurd hl (Nat.not_lt_zero _)⟩
/-- A run from nothing that returns true: the call returns true, whatever the world; what was there stays. -/
theorem calls_of_run {C : Ctx} {k : Nat} {f : FuncId} {fn : Func} {c : Code} {args : List AV} {vs : List Value} {H1 : Heap} {w : World} (hρ : ∀ a, C.ρ a = none) (hm : C.P.follows .mixedOrders = true) (hx : ExtOK C) (hf : C.P.funcs[f]? = some fn) (hb : fn.body = some c)
    (h : evCall C k 0 f args Heap.nil = some (.bool true, H1)) (hv : RVs Gh.nil Heap.nil args vs) :
    Calls C.P f vs.toArray w fun e w' => e = .returned (.bool true) ∧ Below w.heap.size w w' := by
  have hρ' : Reads C w := fun a v e => by rw [hρ a] at e; cases e
  rcases evCall_sound hρ' hm hx k 0 f args Heap.nil (.bool true) H1 h Gh.nil w vs (Rel.nil _ _) hv with ⟨x, w', Γ', hrun, _⟩ | ⟨_, hC⟩
  · simp [hasBody, hf, hb] at hrun
  · refine Calls.mono hC fun e w' ⟨x, Γ', he, hx, hR, _⟩ => ?_
    simp only [RV] at hx
    subst hx
    exact ⟨he, hR.below⟩
end Go.Ev
