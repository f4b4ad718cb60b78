/- The closed facts of the row PlanRounds, one by one: what the row's cells say of the program is what the program forces. -/
import Derived.Test.YtcjicmabhejllaaRows
import Derived.WalkKit
import Derived.ProofKit
namespace Go.Proofs.Ytcjicmabhejllaa
open Go.ChangeShapes Go.WideShapes Go.ChangeAt Go.RowKit
set_option maxRecDepth 100000
theorem band {a b : Bool} (h : a = true) (g : b = true) : (a && b) = true := by rw [h, g]; rfl
theorem k0PlanRounds : (Rows.planRoundsRow.wf (OpenSpec.ofChange Rows.planRoundsSpec)) = true := by kernel_rfl
theorem k1PlanRounds : (laidOutB Try.prog) = true := by kernel_rfl
theorem k2PlanRounds : (mapsRowed Try.prog) = true := by kernel_rfl
theorem k3PlanRounds : (Try.f6.params.all (Try.prog.readableRec ·)) = true := by kernel_rfl
theorem k4PlanRounds : (namedTie Try.prog Rows.planRoundsRow.named Rows.planRoundsSpec.vars) = true := by kernel_rfl
theorem k5PlanRounds : ((Rows.planRoundsRow.stops == [])) = true := by kernel_rfl
theorem k6PlanRounds : ((Try.prog.stops == [])) = true := by kernel_rfl
theorem k7PlanRounds : ((Rows.planRoundsRow.knobs == [])) = true := by kernel_rfl
theorem k8PlanRounds : ((Try.prog.stopKnobs == [])) = true := by kernel_rfl
theorem k9PlanRounds : ((Rows.planRoundsRow.inPlace == Try.prog.inPlace 6)) = true := by kernel_rfl
theorem k10PlanRounds : ((Rows.planRoundsRow.unfollowed == Try.prog.unfollowed 6)) = true := by kernel_rfl
theorem k11PlanRounds : ((Rows.planRoundsRow.recurses == Try.prog.recurses 6)) = true := by kernel_rfl
theorem k12PlanRounds : ((Rows.planRoundsRow.named == Try.prog.varsNamed 6)) = true := by kernel_rfl
theorem k13PlanRounds : ((Rows.planRoundsRow.maps == (Try.f6.params.toList ++ Rows.planRoundsSpec.plain.varTypes Try.prog).any (Try.prog.mapsRec ·))) = true := by kernel_rfl
theorem k14PlanRounds : ((Rows.planRoundsRow.ifaces == (Try.f6.params.toList ++ Rows.planRoundsSpec.plain.varTypes Try.prog).any (Try.prog.ifacesRec ·))) = true := by kernel_rfl
theorem k15PlanRounds : ((Rows.planRoundsRow.mapsOut == Try.prog.mapsAmong Try.f6.resultTypes.toList)) = true := by kernel_rfl
theorem k16PlanRounds : ((Rows.planRoundsRow.loops == (Try.f6.params.toList ++ Rows.planRoundsSpec.plain.varTypes Try.prog).any (Try.prog.loopsFrom ·))) = true := by kernel_rfl
theorem k17PlanRounds : ((Rows.planRoundsRow.wideKeys == (Try.f6.params.toList ++ Rows.planRoundsSpec.plain.varTypes Try.prog ++ Try.f6.resultTypes.toList).any (Try.prog.wideKeysFrom ·))) = true := by kernel_rfl
theorem k18PlanRounds : (Rows.planRoundsSpec.vars.all (Try.prog.varReadable ·)) = true := by kernel_rfl
theorem k19PlanRounds : (Try.f6.resultTypes.all (fun t => Try.prog.readableRec t && decide (t < Try.prog.types.size))) = true := by kernel_rfl
theorem k20PlanRounds : ((Rows.planRoundsRow.ifacesOut == Try.f6.resultTypes.toList.any (Try.prog.ifacesRec ·))) = true := by kernel_rfl
theorem k21PlanRounds : ((Rows.planRoundsRow.loopsOut == Try.f6.resultTypes.toList.any (Try.prog.loopsFrom ·))) = true := by kernel_rfl
theorem k22PlanRounds : ((Rows.planRoundsRow.plainKeys == Try.prog.plainKeys)) = true := by kernel_rfl
theorem k23PlanRounds : (Rows.planRoundsRow.shortTexts.isNone) = true := by kernel_rfl
theorem k24PlanRounds : (Try.prog.stopsHeard) = true := by kernel_rfl
theorem k25PlanRounds : (Try.prog.mayEnter) = true := by kernel_rfl
theorem k26PlanRounds : ((Rows.planRoundsRow.lifted == Try.prog.liftsFinal)) = true := by kernel_rfl
theorem k27PlanRounds : ((Try.prog.make == some Rows.planRoundsRow.make)) = true := by kernel_rfl
theorem k28PlanRounds : ((Rows.planRoundsRow.kinds == (if Rows.planRoundsRow.domain.isEmpty then [] else Try.f6.params.toList.map fun t => match Try.prog.underlying t with | some (.int k) => some k | _ => none))) = true := by kernel_rfl
theorem k29PlanRounds : ((Rows.planRoundsRow.pinned == Rows.planRoundsRow.pinnedBy)) = true := by kernel_rfl
theorem k30PlanRounds : ((Rows.planRoundsRow.veiled == (Try.f6.params.toList ++ Rows.planRoundsSpec.plain.varTypes Try.prog ++ Try.f6.resultTypes.toList).any (Try.prog.veiledRec ·))) = true := by kernel_rfl
theorem k31PlanRounds : (Rows.planRoundsRow.veiledFits Try.prog Try.f6.params.toList (Try.f6.params.toList ++ Rows.planRoundsSpec.plain.varTypes Try.prog ++ Try.f6.resultTypes.toList)) = true := by kernel_rfl
theorem closedPlanRounds : joinedFacts Try.prog 6 Try.f6 Rows.planRoundsSpec Rows.planRoundsRow = true := band (band (band (band (band (band (band (band (band (band (band (band (band (band (band (band (band (band (band (band (band (band (band (band (band (band (band (band (band (band (band (k0PlanRounds) k1PlanRounds) k2PlanRounds) k3PlanRounds) k4PlanRounds) k5PlanRounds) k6PlanRounds) k7PlanRounds) k8PlanRounds) k9PlanRounds) k10PlanRounds) k11PlanRounds) k12PlanRounds) k13PlanRounds) k14PlanRounds) k15PlanRounds) k16PlanRounds) k17PlanRounds) k18PlanRounds) k19PlanRounds) k20PlanRounds) k21PlanRounds) k22PlanRounds) k23PlanRounds) k24PlanRounds) k25PlanRounds) k26PlanRounds) k27PlanRounds) k28PlanRounds) k29PlanRounds) k30PlanRounds) k31PlanRounds
end Go.Proofs.Ytcjicmabhejllaa
