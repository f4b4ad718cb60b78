/- The closed facts of the row PlanSpreads, one by one: what the row's cells say of the program is what the program forces. -/
import Derived.Test.YtcjicmabhejllaaRows
import Derived.WalkKit
import Derived.ProofKit
namespace Go.Proofs.Ytcjicmabhejllaa
open Go.ChangeShapes Go.WideShapes Go.ChangeAt Go.RowKit
set_option maxRecDepth 100000
theorem band {a b : Bool} (h : a = true) (g : b = true) : (a && b) = true := by rw [h, g]; rfl
theorem k0PlanSpreads : (Rows.planSpreadsRow.wf (OpenSpec.ofChange Rows.planSpreadsSpec)) = true := by kernel_rfl
theorem k1PlanSpreads : (laidOutB Try.prog) = true := by kernel_rfl
theorem k2PlanSpreads : (mapsRowed Try.prog) = true := by kernel_rfl
theorem k3PlanSpreads : (Try.f8.params.all (Try.prog.readableRec ·)) = true := by kernel_rfl
theorem k4PlanSpreads : (namedTie Try.prog Rows.planSpreadsRow.named Rows.planSpreadsSpec.vars) = true := by kernel_rfl
theorem k5PlanSpreads : ((Rows.planSpreadsRow.stops == [])) = true := by kernel_rfl
theorem k6PlanSpreads : ((Try.prog.stops == [])) = true := by kernel_rfl
theorem k7PlanSpreads : ((Rows.planSpreadsRow.knobs == [])) = true := by kernel_rfl
theorem k8PlanSpreads : ((Try.prog.stopKnobs == [])) = true := by kernel_rfl
theorem k9PlanSpreads : ((Rows.planSpreadsRow.inPlace == Try.prog.inPlace 8)) = true := by kernel_rfl
theorem k10PlanSpreads : ((Rows.planSpreadsRow.unfollowed == Try.prog.unfollowed 8)) = true := by kernel_rfl
theorem k11PlanSpreads : ((Rows.planSpreadsRow.recurses == Try.prog.recurses 8)) = true := by kernel_rfl
theorem k12PlanSpreads : ((Rows.planSpreadsRow.named == Try.prog.varsNamed 8)) = true := by kernel_rfl
theorem k13PlanSpreads : ((Rows.planSpreadsRow.maps == (Try.f8.params.toList ++ Rows.planSpreadsSpec.plain.varTypes Try.prog).any (Try.prog.mapsRec ·))) = true := by kernel_rfl
theorem k14PlanSpreads : ((Rows.planSpreadsRow.ifaces == (Try.f8.params.toList ++ Rows.planSpreadsSpec.plain.varTypes Try.prog).any (Try.prog.ifacesRec ·))) = true := by kernel_rfl
theorem k15PlanSpreads : ((Rows.planSpreadsRow.mapsOut == Try.prog.mapsAmong Try.f8.resultTypes.toList)) = true := by kernel_rfl
theorem k16PlanSpreads : ((Rows.planSpreadsRow.loops == (Try.f8.params.toList ++ Rows.planSpreadsSpec.plain.varTypes Try.prog).any (Try.prog.loopsFrom ·))) = true := by kernel_rfl
theorem k17PlanSpreads : ((Rows.planSpreadsRow.wideKeys == (Try.f8.params.toList ++ Rows.planSpreadsSpec.plain.varTypes Try.prog ++ Try.f8.resultTypes.toList).any (Try.prog.wideKeysFrom ·))) = true := by kernel_rfl
theorem k18PlanSpreads : (Rows.planSpreadsSpec.vars.all (Try.prog.varReadable ·)) = true := by kernel_rfl
theorem k19PlanSpreads : (Try.f8.resultTypes.all (fun t => Try.prog.readableRec t && decide (t < Try.prog.types.size))) = true := by kernel_rfl
theorem k20PlanSpreads : ((Rows.planSpreadsRow.ifacesOut == Try.f8.resultTypes.toList.any (Try.prog.ifacesRec ·))) = true := by kernel_rfl
theorem k21PlanSpreads : ((Rows.planSpreadsRow.loopsOut == Try.f8.resultTypes.toList.any (Try.prog.loopsFrom ·))) = true := by kernel_rfl
theorem k22PlanSpreads : ((Rows.planSpreadsRow.plainKeys == Try.prog.plainKeys)) = true := by kernel_rfl
theorem k23PlanSpreads : (Rows.planSpreadsRow.shortTexts.isNone) = true := by kernel_rfl
theorem k24PlanSpreads : (Try.prog.stopsHeard) = true := by kernel_rfl
theorem k25PlanSpreads : (Try.prog.mayEnter) = true := by kernel_rfl
theorem k26PlanSpreads : ((Rows.planSpreadsRow.lifted == Try.prog.liftsFinal)) = true := by kernel_rfl
theorem k27PlanSpreads : ((Try.prog.make == some Rows.planSpreadsRow.make)) = true := by kernel_rfl
theorem k28PlanSpreads : ((Rows.planSpreadsRow.kinds == (if Rows.planSpreadsRow.domain.isEmpty then [] else Try.f8.params.toList.map fun t => match Try.prog.underlying t with | some (.int k) => some k | _ => none))) = true := by kernel_rfl
theorem k29PlanSpreads : ((Rows.planSpreadsRow.pinned == Rows.planSpreadsRow.pinnedBy)) = true := by kernel_rfl
theorem k30PlanSpreads : ((Rows.planSpreadsRow.veiled == (Try.f8.params.toList ++ Rows.planSpreadsSpec.plain.varTypes Try.prog ++ Try.f8.resultTypes.toList).any (Try.prog.veiledRec ·))) = true := by kernel_rfl
theorem k31PlanSpreads : (Rows.planSpreadsRow.veiledFits Try.prog Try.f8.params.toList (Try.f8.params.toList ++ Rows.planSpreadsSpec.plain.varTypes Try.prog ++ Try.f8.resultTypes.toList)) = true := by kernel_rfl
theorem closedPlanSpreads : joinedFacts Try.prog 8 Try.f8 Rows.planSpreadsSpec Rows.planSpreadsRow = true := band (band (band (band (band (band (band (band (band (band (band (band (band (band (band (band (band (band (band (band (band (band (band (band (band (band (band (band (band (band (band (k0PlanSpreads) k1PlanSpreads) k2PlanSpreads) k3PlanSpreads) k4PlanSpreads) k5PlanSpreads) k6PlanSpreads) k7PlanSpreads) k8PlanSpreads) k9PlanSpreads) k10PlanSpreads) k11PlanSpreads) k12PlanSpreads) k13PlanSpreads) k14PlanSpreads) k15PlanSpreads) k16PlanSpreads) k17PlanSpreads) k18PlanSpreads) k19PlanSpreads) k20PlanSpreads) k21PlanSpreads) k22PlanSpreads) k23PlanSpreads) k24PlanSpreads) k25PlanSpreads) k26PlanSpreads) k27PlanSpreads) k28PlanSpreads) k29PlanSpreads) k30PlanSpreads) k31PlanSpreads
end Go.Proofs.Ytcjicmabhejllaa
