/- The closed facts of the row OccupyTotals, one by one: what the row's cells say of the program is what the program forces. -/
import Derived.Test.YtonakeopionkkaaGreatRows
import Derived.WalkKit
import Derived.ProofKit
namespace Go.Proofs.YtonakeopionkkaaGreat
open Go.ChangeShapes Go.WideShapes Go.ChangeAt Go.RowKit
set_option maxRecDepth 100000
theorem band {a b : Bool} (h : a = true) (g : b = true) : (a && b) = true := by rw [h, g]; rfl
theorem k0OccupyTotals : (Rows.occupyTotalsRow.wf (OpenSpec.ofChange Rows.occupyTotalsSpec)) = true := by kernel_rfl
theorem k1OccupyTotals : (laidOutB Tryz.prog) = true := by kernel_rfl
theorem k2OccupyTotals : (mapsRowed Tryz.prog) = true := by kernel_rfl
theorem k3OccupyTotals : (Tryz.f4.params.all (Tryz.prog.readableRec ·)) = true := by kernel_rfl
theorem k4OccupyTotals : (namedTie Tryz.prog Rows.occupyTotalsRow.named Rows.occupyTotalsSpec.vars) = true := by kernel_rfl
theorem k5OccupyTotals : ((Rows.occupyTotalsRow.stops == [])) = true := by kernel_rfl
theorem k6OccupyTotals : ((Tryz.prog.stops == [])) = true := by kernel_rfl
theorem k7OccupyTotals : ((Rows.occupyTotalsRow.knobs == [])) = true := by kernel_rfl
theorem k8OccupyTotals : ((Tryz.prog.stopKnobs == [])) = true := by kernel_rfl
theorem k9OccupyTotals : ((Rows.occupyTotalsRow.inPlace == Tryz.prog.inPlace 4)) = true := by kernel_rfl
theorem k10OccupyTotals : ((Rows.occupyTotalsRow.unfollowed == Tryz.prog.unfollowed 4)) = true := by kernel_rfl
theorem k11OccupyTotals : ((Rows.occupyTotalsRow.recurses == Tryz.prog.recurses 4)) = true := by kernel_rfl
theorem k12OccupyTotals : ((Rows.occupyTotalsRow.named == Tryz.prog.varsNamed 4)) = true := by kernel_rfl
theorem k13OccupyTotals : ((Rows.occupyTotalsRow.maps == (Tryz.f4.params.toList ++ Rows.occupyTotalsSpec.plain.varTypes Tryz.prog).any (Tryz.prog.mapsRec ·))) = true := by kernel_rfl
theorem k14OccupyTotals : ((Rows.occupyTotalsRow.ifaces == (Tryz.f4.params.toList ++ Rows.occupyTotalsSpec.plain.varTypes Tryz.prog).any (Tryz.prog.ifacesRec ·))) = true := by kernel_rfl
theorem k15OccupyTotals : ((Rows.occupyTotalsRow.mapsOut == Tryz.prog.mapsAmong Tryz.f4.resultTypes.toList)) = true := by kernel_rfl
theorem k16OccupyTotals : ((Rows.occupyTotalsRow.loops == (Tryz.f4.params.toList ++ Rows.occupyTotalsSpec.plain.varTypes Tryz.prog).any (Tryz.prog.loopsFrom ·))) = true := by kernel_rfl
theorem k17OccupyTotals : ((Rows.occupyTotalsRow.wideKeys == (Tryz.f4.params.toList ++ Rows.occupyTotalsSpec.plain.varTypes Tryz.prog ++ Tryz.f4.resultTypes.toList).any (Tryz.prog.wideKeysFrom ·))) = true := by kernel_rfl
theorem k18OccupyTotals : (Rows.occupyTotalsSpec.vars.all (Tryz.prog.varReadable ·)) = true := by kernel_rfl
theorem k19OccupyTotals : (Tryz.f4.resultTypes.all (fun t => Tryz.prog.readableRec t && decide (t < Tryz.prog.types.size))) = true := by kernel_rfl
theorem k20OccupyTotals : ((Rows.occupyTotalsRow.ifacesOut == Tryz.f4.resultTypes.toList.any (Tryz.prog.ifacesRec ·))) = true := by kernel_rfl
theorem k21OccupyTotals : ((Rows.occupyTotalsRow.loopsOut == Tryz.f4.resultTypes.toList.any (Tryz.prog.loopsFrom ·))) = true := by kernel_rfl
theorem k22OccupyTotals : ((Rows.occupyTotalsRow.plainKeys == Tryz.prog.plainKeys)) = true := by kernel_rfl
theorem k23OccupyTotals : (Rows.occupyTotalsRow.shortTexts.isNone) = true := by kernel_rfl
theorem k24OccupyTotals : (Tryz.prog.stopsHeard) = true := by kernel_rfl
theorem k25OccupyTotals : (Tryz.prog.mayEnter) = true := by kernel_rfl
theorem k26OccupyTotals : ((Rows.occupyTotalsRow.lifted == Tryz.prog.liftsFinal)) = true := by kernel_rfl
theorem k27OccupyTotals : ((Tryz.prog.make == some Rows.occupyTotalsRow.make)) = true := by kernel_rfl
theorem k28OccupyTotals : ((Rows.occupyTotalsRow.kinds == (if Rows.occupyTotalsRow.domain.isEmpty then [] else Tryz.f4.params.toList.map fun t => match Tryz.prog.underlying t with | some (.int k) => some k | _ => none))) = true := by kernel_rfl
theorem k29OccupyTotals : ((Rows.occupyTotalsRow.pinned == Rows.occupyTotalsRow.pinnedBy)) = true := by kernel_rfl
theorem k30OccupyTotals : ((Rows.occupyTotalsRow.veiled == (Tryz.f4.params.toList ++ Rows.occupyTotalsSpec.plain.varTypes Tryz.prog ++ Tryz.f4.resultTypes.toList).any (Tryz.prog.veiledRec ·))) = true := by kernel_rfl
theorem k31OccupyTotals : (Rows.occupyTotalsRow.veiledFits Tryz.prog Tryz.f4.params.toList (Tryz.f4.params.toList ++ Rows.occupyTotalsSpec.plain.varTypes Tryz.prog ++ Tryz.f4.resultTypes.toList)) = true := by kernel_rfl
theorem closedOccupyTotals : joinedFacts Tryz.prog 4 Tryz.f4 Rows.occupyTotalsSpec Rows.occupyTotalsRow = true := band (band (band (band (band (band (band (band (band (band (band (band (band (band (band (band (band (band (band (band (band (band (band (band (band (band (band (band (band (band (band (k0OccupyTotals) k1OccupyTotals) k2OccupyTotals) k3OccupyTotals) k4OccupyTotals) k5OccupyTotals) k6OccupyTotals) k7OccupyTotals) k8OccupyTotals) k9OccupyTotals) k10OccupyTotals) k11OccupyTotals) k12OccupyTotals) k13OccupyTotals) k14OccupyTotals) k15OccupyTotals) k16OccupyTotals) k17OccupyTotals) k18OccupyTotals) k19OccupyTotals) k20OccupyTotals) k21OccupyTotals) k22OccupyTotals) k23OccupyTotals) k24OccupyTotals) k25OccupyTotals) k26OccupyTotals) k27OccupyTotals) k28OccupyTotals) k29OccupyTotals) k30OccupyTotals) k31OccupyTotals
end Go.Proofs.YtonakeopionkkaaGreat
