/- The closed facts of the row TaskNil, one by one: what the row's cells say of the program is what the program forces. -/
import Derived.Test.YtahfgahnkacobaaGreatRows
import Derived.WalkKit
import Derived.ProofKit
namespace Go.Proofs.YtahfgahnkacobaaGreat
open Go.ChangeShapes Go.WideShapes Go.ChangeAt Go.RowKit
set_option maxRecDepth 100000
theorem band {a b : Bool} (h : a = true) (g : b = true) : (a && b) = true := by rw [h, g]; rfl
theorem k0TaskNil : (Rows.taskNilRow.wf (OpenSpec.ofChange Rows.taskNilSpec)) = true := by kernel_rfl
theorem k1TaskNil : (laidOutB Tryz.prog) = true := by kernel_rfl
theorem k2TaskNil : (mapsRowed Tryz.prog) = true := by kernel_rfl
theorem k3TaskNil : (Tryz.f3.params.all (Tryz.prog.readableRec ·)) = true := by kernel_rfl
theorem k4TaskNil : (namedTie Tryz.prog Rows.taskNilRow.named Rows.taskNilSpec.vars) = true := by kernel_rfl
theorem k5TaskNil : ((Rows.taskNilRow.stops == [])) = true := by kernel_rfl
theorem k6TaskNil : ((Tryz.prog.stops == [])) = true := by kernel_rfl
theorem k7TaskNil : ((Rows.taskNilRow.knobs == [])) = true := by kernel_rfl
theorem k8TaskNil : ((Tryz.prog.stopKnobs == [])) = true := by kernel_rfl
theorem k9TaskNil : ((Rows.taskNilRow.inPlace == Tryz.prog.inPlace 3)) = true := by kernel_rfl
theorem k10TaskNil : ((Rows.taskNilRow.unfollowed == Tryz.prog.unfollowed 3)) = true := by kernel_rfl
theorem k11TaskNil : ((Rows.taskNilRow.recurses == Tryz.prog.recurses 3)) = true := by kernel_rfl
theorem k12TaskNil : ((Rows.taskNilRow.named == Tryz.prog.varsNamed 3)) = true := by kernel_rfl
theorem k13TaskNil : ((Rows.taskNilRow.maps == (Tryz.f3.params.toList ++ Rows.taskNilSpec.plain.varTypes Tryz.prog).any (Tryz.prog.mapsRec ·))) = true := by kernel_rfl
theorem k14TaskNil : ((Rows.taskNilRow.ifaces == (Tryz.f3.params.toList ++ Rows.taskNilSpec.plain.varTypes Tryz.prog).any (Tryz.prog.ifacesRec ·))) = true := by kernel_rfl
theorem k15TaskNil : ((Rows.taskNilRow.mapsOut == Tryz.prog.mapsAmong Tryz.f3.resultTypes.toList)) = true := by kernel_rfl
theorem k16TaskNil : ((Rows.taskNilRow.loops == (Tryz.f3.params.toList ++ Rows.taskNilSpec.plain.varTypes Tryz.prog).any (Tryz.prog.loopsFrom ·))) = true := by kernel_rfl
theorem k17TaskNil : ((Rows.taskNilRow.wideKeys == (Tryz.f3.params.toList ++ Rows.taskNilSpec.plain.varTypes Tryz.prog ++ Tryz.f3.resultTypes.toList).any (Tryz.prog.wideKeysFrom ·))) = true := by kernel_rfl
theorem k18TaskNil : (Rows.taskNilSpec.vars.all (Tryz.prog.varReadable ·)) = true := by kernel_rfl
theorem k19TaskNil : (Tryz.f3.resultTypes.all (fun t => Tryz.prog.readableRec t && decide (t < Tryz.prog.types.size))) = true := by kernel_rfl
theorem k20TaskNil : ((Rows.taskNilRow.ifacesOut == Tryz.f3.resultTypes.toList.any (Tryz.prog.ifacesRec ·))) = true := by kernel_rfl
theorem k21TaskNil : ((Rows.taskNilRow.loopsOut == Tryz.f3.resultTypes.toList.any (Tryz.prog.loopsFrom ·))) = true := by kernel_rfl
theorem k22TaskNil : ((Rows.taskNilRow.plainKeys == Tryz.prog.plainKeys)) = true := by kernel_rfl
theorem k23TaskNil : (Rows.taskNilRow.shortTexts.isNone) = true := by kernel_rfl
theorem k24TaskNil : (Tryz.prog.stopsHeard) = true := by kernel_rfl
theorem k25TaskNil : (Tryz.prog.mayEnter) = true := by kernel_rfl
theorem k26TaskNil : ((Rows.taskNilRow.lifted == Tryz.prog.liftsFinal)) = true := by kernel_rfl
theorem k27TaskNil : ((Tryz.prog.make == some Rows.taskNilRow.make)) = true := by kernel_rfl
theorem k28TaskNil : ((Rows.taskNilRow.kinds == (if Rows.taskNilRow.domain.isEmpty then [] else Tryz.f3.params.toList.map fun t => match Tryz.prog.underlying t with | some (.int k) => some k | _ => none))) = true := by kernel_rfl
theorem k29TaskNil : ((Rows.taskNilRow.pinned == Rows.taskNilRow.pinnedBy)) = true := by kernel_rfl
theorem k30TaskNil : ((Rows.taskNilRow.veiled == (Tryz.f3.params.toList ++ Rows.taskNilSpec.plain.varTypes Tryz.prog ++ Tryz.f3.resultTypes.toList).any (Tryz.prog.veiledRec ·))) = true := by kernel_rfl
theorem k31TaskNil : (Rows.taskNilRow.veiledFits Tryz.prog Tryz.f3.params.toList (Tryz.f3.params.toList ++ Rows.taskNilSpec.plain.varTypes Tryz.prog ++ Tryz.f3.resultTypes.toList)) = true := by kernel_rfl
theorem closedTaskNil : joinedFacts Tryz.prog 3 Tryz.f3 Rows.taskNilSpec Rows.taskNilRow = true := band (band (band (band (band (band (band (band (band (band (band (band (band (band (band (band (band (band (band (band (band (band (band (band (band (band (band (band (band (band (band (k0TaskNil) k1TaskNil) k2TaskNil) k3TaskNil) k4TaskNil) k5TaskNil) k6TaskNil) k7TaskNil) k8TaskNil) k9TaskNil) k10TaskNil) k11TaskNil) k12TaskNil) k13TaskNil) k14TaskNil) k15TaskNil) k16TaskNil) k17TaskNil) k18TaskNil) k19TaskNil) k20TaskNil) k21TaskNil) k22TaskNil) k23TaskNil) k24TaskNil) k25TaskNil) k26TaskNil) k27TaskNil) k28TaskNil) k29TaskNil) k30TaskNil) k31TaskNil
end Go.Proofs.YtahfgahnkacobaaGreat
