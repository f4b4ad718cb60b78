/- The closed facts of the row WatchNil, one by one: what the row's cells say of the program is what the program forces. -/
import Derived.Test.YtdiafdmgenefnaaGreatRows
import Derived.WalkKit
import Derived.ProofKit
namespace Go.Proofs.YtdiafdmgenefnaaGreat
open Go.ChangeShapes Go.WideShapes Go.ChangeAt Go.RowKit
set_option maxRecDepth 100000
theorem band {a b : Bool} (h : a = true) (g : b = true) : (a && b) = true := by rw [h, g]; rfl
theorem k0WatchNil : (Rows.watchNilRow.wf (OpenSpec.ofChange Rows.watchNilSpec)) = true := by kernel_rfl
theorem k1WatchNil : (laidOutB Tryz.prog) = true := by kernel_rfl
theorem k2WatchNil : (mapsRowed Tryz.prog) = true := by kernel_rfl
theorem k3WatchNil : (Tryz.f3.params.all (Tryz.prog.readableRec ·)) = true := by kernel_rfl
theorem k4WatchNil : (namedTie Tryz.prog Rows.watchNilRow.named Rows.watchNilSpec.vars) = true := by kernel_rfl
theorem k5WatchNil : ((Rows.watchNilRow.stops == [])) = true := by kernel_rfl
theorem k6WatchNil : ((Tryz.prog.stops == [])) = true := by kernel_rfl
theorem k7WatchNil : ((Rows.watchNilRow.knobs == [])) = true := by kernel_rfl
theorem k8WatchNil : ((Tryz.prog.stopKnobs == [])) = true := by kernel_rfl
theorem k9WatchNil : ((Rows.watchNilRow.inPlace == Tryz.prog.inPlace 3)) = true := by kernel_rfl
theorem k10WatchNil : ((Rows.watchNilRow.unfollowed == Tryz.prog.unfollowed 3)) = true := by kernel_rfl
theorem k11WatchNil : ((Rows.watchNilRow.recurses == Tryz.prog.recurses 3)) = true := by kernel_rfl
theorem k12WatchNil : ((Rows.watchNilRow.named == Tryz.prog.varsNamed 3)) = true := by kernel_rfl
theorem k13WatchNil : ((Rows.watchNilRow.maps == (Tryz.f3.params.toList ++ Rows.watchNilSpec.plain.varTypes Tryz.prog).any (Tryz.prog.mapsRec ·))) = true := by kernel_rfl
theorem k14WatchNil : ((Rows.watchNilRow.ifaces == (Tryz.f3.params.toList ++ Rows.watchNilSpec.plain.varTypes Tryz.prog).any (Tryz.prog.ifacesRec ·))) = true := by kernel_rfl
theorem k15WatchNil : ((Rows.watchNilRow.mapsOut == Tryz.prog.mapsAmong Tryz.f3.resultTypes.toList)) = true := by kernel_rfl
theorem k16WatchNil : ((Rows.watchNilRow.loops == (Tryz.f3.params.toList ++ Rows.watchNilSpec.plain.varTypes Tryz.prog).any (Tryz.prog.loopsFrom ·))) = true := by kernel_rfl
theorem k17WatchNil : ((Rows.watchNilRow.wideKeys == (Tryz.f3.params.toList ++ Rows.watchNilSpec.plain.varTypes Tryz.prog ++ Tryz.f3.resultTypes.toList).any (Tryz.prog.wideKeysFrom ·))) = true := by kernel_rfl
theorem k18WatchNil : (Rows.watchNilSpec.vars.all (Tryz.prog.varReadable ·)) = true := by kernel_rfl
theorem k19WatchNil : (Tryz.f3.resultTypes.all (fun t => Tryz.prog.readableRec t && decide (t < Tryz.prog.types.size))) = true := by kernel_rfl
theorem k20WatchNil : ((Rows.watchNilRow.ifacesOut == Tryz.f3.resultTypes.toList.any (Tryz.prog.ifacesRec ·))) = true := by kernel_rfl
theorem k21WatchNil : ((Rows.watchNilRow.loopsOut == Tryz.f3.resultTypes.toList.any (Tryz.prog.loopsFrom ·))) = true := by kernel_rfl
theorem k22WatchNil : ((Rows.watchNilRow.plainKeys == Tryz.prog.plainKeys)) = true := by kernel_rfl
theorem k23WatchNil : (Rows.watchNilRow.shortTexts.isNone) = true := by kernel_rfl
theorem k24WatchNil : (Tryz.prog.stopsHeard) = true := by kernel_rfl
theorem k25WatchNil : (Tryz.prog.mayEnter) = true := by kernel_rfl
theorem k26WatchNil : ((Rows.watchNilRow.lifted == Tryz.prog.liftsFinal)) = true := by kernel_rfl
theorem k27WatchNil : ((Tryz.prog.make == some Rows.watchNilRow.make)) = true := by kernel_rfl
theorem k28WatchNil : ((Rows.watchNilRow.kinds == (if Rows.watchNilRow.domain.isEmpty then [] else Tryz.f3.params.toList.map fun t => match Tryz.prog.underlying t with | some (.int k) => some k | _ => none))) = true := by kernel_rfl
theorem k29WatchNil : ((Rows.watchNilRow.pinned == Rows.watchNilRow.pinnedBy)) = true := by kernel_rfl
theorem k30WatchNil : ((Rows.watchNilRow.veiled == (Tryz.f3.params.toList ++ Rows.watchNilSpec.plain.varTypes Tryz.prog ++ Tryz.f3.resultTypes.toList).any (Tryz.prog.veiledRec ·))) = true := by kernel_rfl
theorem k31WatchNil : (Rows.watchNilRow.veiledFits Tryz.prog Tryz.f3.params.toList (Tryz.f3.params.toList ++ Rows.watchNilSpec.plain.varTypes Tryz.prog ++ Tryz.f3.resultTypes.toList)) = true := by kernel_rfl
theorem closedWatchNil : joinedFacts Tryz.prog 3 Tryz.f3 Rows.watchNilSpec Rows.watchNilRow = true := band (band (band (band (band (band (band (band (band (band (band (band (band (band (band (band (band (band (band (band (band (band (band (band (band (band (band (band (band (band (band (k0WatchNil) k1WatchNil) k2WatchNil) k3WatchNil) k4WatchNil) k5WatchNil) k6WatchNil) k7WatchNil) k8WatchNil) k9WatchNil) k10WatchNil) k11WatchNil) k12WatchNil) k13WatchNil) k14WatchNil) k15WatchNil) k16WatchNil) k17WatchNil) k18WatchNil) k19WatchNil) k20WatchNil) k21WatchNil) k22WatchNil) k23WatchNil) k24WatchNil) k25WatchNil) k26WatchNil) k27WatchNil) k28WatchNil) k29WatchNil) k30WatchNil) k31WatchNil
end Go.Proofs.YtdiafdmgenefnaaGreat
