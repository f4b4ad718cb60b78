/- EvKR: a run over what is in memory already is a call of the program. -/
import Derived.Test.YtonakeopionkkaaGreatEvK
set_option linter.unusedVariables false
namespace Go.Ev
open Go.RowKit
theorem calls_of_run_reads {C : Ctx} {k : Nat} {f : FuncId} {fn : Func} {c : Code} {args : List AV} {vs : List Value} {H1 : Heap} {w : World} (hρ : Reads C w) (hm : C.P.follows .mixedOrders = true) (hx : ExtOK C) (hf : C.P.funcs[f]? = some fn) (hb : fn.body = some c)
    (h : evCall C k 0 f args Heap.nil = some (.bool true, H1)) (hv : RVs Gh.nil Heap.nil args vs) :
    Calls C.P f vs.toArray w fun e w' => e = .returned (.bool true) ∧ Below w.heap.size w w' := by
  rcases evCall_sound hρ hm hx k 0 f args Heap.nil (.bool true) H1 h Gh.nil w vs (Rel.nil _ _) hv with ⟨x, w', Γ', hrun, _⟩ | ⟨_, hC⟩
  · simp [hasBody, hf, hb] at hrun
  · refine Calls.mono hC fun e w' ⟨x, Γ', he, hx, hR, _⟩ => ?_
    simp only [RV] at hx
    subst hx
    exact ⟨he, hR.below⟩
end Go.Ev
