/- The closed facts of the row PlanSteps, one by one: what the row's cells say of the program is what the program forces. -/
import Derived.Test.YtcjicmabhejllaaRows
import Derived.WalkKit
import Derived.ProofKit
namespace Go.Proofs.Ytcjicmabhejllaa
open Go.ChangeShapes Go.WideShapes Go.ChangeAt Go.RowKit
set_option maxRecDepth 100000
theorem band {a b : Bool} (h : a = true) (g : b = true) : (a && b) = true := by rw [h, g]; rfl
theorem k0PlanSteps : (Rows.planStepsRow.wf (OpenSpec.ofChange Rows.planStepsSpec)) = true := by kernel_rfl
theorem k1PlanSteps : (laidOutB Try.prog) = true := by kernel_rfl
theorem k2PlanSteps : (mapsRowed Try.prog) = true := by kernel_rfl
theorem k3PlanSteps : (Try.f7.params.all (Try.prog.readableRec ·)) = true := by kernel_rfl
theorem k4PlanSteps : (namedTie Try.prog Rows.planStepsRow.named Rows.planStepsSpec.vars) = true := by kernel_rfl
theorem k5PlanSteps : ((Rows.planStepsRow.stops == [])) = true := by kernel_rfl
theorem k6PlanSteps : ((Try.prog.stops == [])) = true := by kernel_rfl
theorem k7PlanSteps : ((Rows.planStepsRow.knobs == [])) = true := by kernel_rfl
theorem k8PlanSteps : ((Try.prog.stopKnobs == [])) = true := by kernel_rfl
theorem k9PlanSteps : ((Rows.planStepsRow.inPlace == Try.prog.inPlace 7)) = true := by kernel_rfl
theorem k10PlanSteps : ((Rows.planStepsRow.unfollowed == Try.prog.unfollowed 7)) = true := by kernel_rfl
theorem k11PlanSteps : ((Rows.planStepsRow.recurses == Try.prog.recurses 7)) = true := by kernel_rfl
theorem k12PlanSteps : ((Rows.planStepsRow.named == Try.prog.varsNamed 7)) = true := by kernel_rfl
theorem k13PlanSteps : ((Rows.planStepsRow.maps == (Try.f7.params.toList ++ Rows.planStepsSpec.plain.varTypes Try.prog).any (Try.prog.mapsRec ·))) = true := by kernel_rfl
theorem k14PlanSteps : ((Rows.planStepsRow.ifaces == (Try.f7.params.toList ++ Rows.planStepsSpec.plain.varTypes Try.prog).any (Try.prog.ifacesRec ·))) = true := by kernel_rfl
theorem k15PlanSteps : ((Rows.planStepsRow.mapsOut == Try.prog.mapsAmong Try.f7.resultTypes.toList)) = true := by kernel_rfl
theorem k16PlanSteps : ((Rows.planStepsRow.loops == (Try.f7.params.toList ++ Rows.planStepsSpec.plain.varTypes Try.prog).any (Try.prog.loopsFrom ·))) = true := by kernel_rfl
theorem k17PlanSteps : ((Rows.planStepsRow.wideKeys == (Try.f7.params.toList ++ Rows.planStepsSpec.plain.varTypes Try.prog ++ Try.f7.resultTypes.toList).any (Try.prog.wideKeysFrom ·))) = true := by kernel_rfl
theorem k18PlanSteps : (Rows.planStepsSpec.vars.all (Try.prog.varReadable ·)) = true := by kernel_rfl
theorem k19PlanSteps : (Try.f7.resultTypes.all (fun t => Try.prog.readableRec t && decide (t < Try.prog.types.size))) = true := by kernel_rfl
theorem k20PlanSteps : ((Rows.planStepsRow.ifacesOut == Try.f7.resultTypes.toList.any (Try.prog.ifacesRec ·))) = true := by kernel_rfl
theorem k21PlanSteps : ((Rows.planStepsRow.loopsOut == Try.f7.resultTypes.toList.any (Try.prog.loopsFrom ·))) = true := by kernel_rfl
theorem k22PlanSteps : ((Rows.planStepsRow.plainKeys == Try.prog.plainKeys)) = true := by kernel_rfl
theorem k23PlanSteps : (Rows.planStepsRow.shortTexts.isNone) = true := by kernel_rfl
theorem k24PlanSteps : (Try.prog.stopsHeard) = true := by kernel_rfl
theorem k25PlanSteps : (Try.prog.mayEnter) = true := by kernel_rfl
theorem k26PlanSteps : ((Rows.planStepsRow.lifted == Try.prog.liftsFinal)) = true := by kernel_rfl
theorem k27PlanSteps : ((Try.prog.make == some Rows.planStepsRow.make)) = true := by kernel_rfl
theorem k28PlanSteps : ((Rows.planStepsRow.kinds == (if Rows.planStepsRow.domain.isEmpty then [] else Try.f7.params.toList.map fun t => match Try.prog.underlying t with | some (.int k) => some k | _ => none))) = true := by kernel_rfl
theorem k29PlanSteps : ((Rows.planStepsRow.pinned == Rows.planStepsRow.pinnedBy)) = true := by kernel_rfl
theorem k30PlanSteps : ((Rows.planStepsRow.veiled == (Try.f7.params.toList ++ Rows.planStepsSpec.plain.varTypes Try.prog ++ Try.f7.resultTypes.toList).any (Try.prog.veiledRec ·))) = true := by kernel_rfl
theorem k31PlanSteps : (Rows.planStepsRow.veiledFits Try.prog Try.f7.params.toList (Try.f7.params.toList ++ Rows.planStepsSpec.plain.varTypes Try.prog ++ Try.f7.resultTypes.toList)) = true := by kernel_rfl
theorem closedPlanSteps : joinedFacts Try.prog 7 Try.f7 Rows.planStepsSpec Rows.planStepsRow = true := band (band (band (band (band (band (band (band (band (band (band (band (band (band (band (band (band (band (band (band (band (band (band (band (band (band (band (band (band (band (band (k0PlanSteps) k1PlanSteps) k2PlanSteps) k3PlanSteps) k4PlanSteps) k5PlanSteps) k6PlanSteps) k7PlanSteps) k8PlanSteps) k9PlanSteps) k10PlanSteps) k11PlanSteps) k12PlanSteps) k13PlanSteps) k14PlanSteps) k15PlanSteps) k16PlanSteps) k17PlanSteps) k18PlanSteps) k19PlanSteps) k20PlanSteps) k21PlanSteps) k22PlanSteps) k23PlanSteps) k24PlanSteps) k25PlanSteps) k26PlanSteps) k27PlanSteps) k28PlanSteps) k29PlanSteps) k30PlanSteps) k31PlanSteps
end Go.Proofs.Ytcjicmabhejllaa
