/- The closed facts of the row DumpNil, one by one: what the row's cells say of the program is what the program forces. -/
import Derived.Test.YtkhldbhheacnoaaGreatRows
import Derived.WalkKit
import Derived.ProofKit
namespace Go.Proofs.YtkhldbhheacnoaaGreat
open Go.ChangeShapes Go.WideShapes Go.ChangeAt Go.RowKit
set_option maxRecDepth 100000
theorem band {a b : Bool} (h : a = true) (g : b = true) : (a && b) = true := by rw [h, g]; rfl
theorem k0DumpNil : (Rows.dumpNilRow.wf (OpenSpec.ofChange Rows.dumpNilSpec)) = true := by kernel_rfl
theorem k1DumpNil : (laidOutB Tryz.prog) = true := by kernel_rfl
theorem k2DumpNil : (mapsRowed Tryz.prog) = true := by kernel_rfl
theorem k3DumpNil : (Tryz.f3.params.all (Tryz.prog.readableRec ·)) = true := by kernel_rfl
theorem k4DumpNil : (namedTie Tryz.prog Rows.dumpNilRow.named Rows.dumpNilSpec.vars) = true := by kernel_rfl
theorem k5DumpNil : ((Rows.dumpNilRow.stops == [])) = true := by kernel_rfl
theorem k6DumpNil : ((Tryz.prog.stops == [])) = true := by kernel_rfl
theorem k7DumpNil : ((Rows.dumpNilRow.knobs == [])) = true := by kernel_rfl
theorem k8DumpNil : ((Tryz.prog.stopKnobs == [])) = true := by kernel_rfl
theorem k9DumpNil : ((Rows.dumpNilRow.inPlace == Tryz.prog.inPlace 3)) = true := by kernel_rfl
theorem k10DumpNil : ((Rows.dumpNilRow.unfollowed == Tryz.prog.unfollowed 3)) = true := by kernel_rfl
theorem k11DumpNil : ((Rows.dumpNilRow.recurses == Tryz.prog.recurses 3)) = true := by kernel_rfl
theorem k12DumpNil : ((Rows.dumpNilRow.named == Tryz.prog.varsNamed 3)) = true := by kernel_rfl
theorem k13DumpNil : ((Rows.dumpNilRow.maps == (Tryz.f3.params.toList ++ Rows.dumpNilSpec.plain.varTypes Tryz.prog).any (Tryz.prog.mapsRec ·))) = true := by kernel_rfl
theorem k14DumpNil : ((Rows.dumpNilRow.ifaces == (Tryz.f3.params.toList ++ Rows.dumpNilSpec.plain.varTypes Tryz.prog).any (Tryz.prog.ifacesRec ·))) = true := by kernel_rfl
theorem k15DumpNil : ((Rows.dumpNilRow.mapsOut == Tryz.prog.mapsAmong Tryz.f3.resultTypes.toList)) = true := by kernel_rfl
theorem k16DumpNil : ((Rows.dumpNilRow.loops == (Tryz.f3.params.toList ++ Rows.dumpNilSpec.plain.varTypes Tryz.prog).any (Tryz.prog.loopsFrom ·))) = true := by kernel_rfl
theorem k17DumpNil : ((Rows.dumpNilRow.wideKeys == (Tryz.f3.params.toList ++ Rows.dumpNilSpec.plain.varTypes Tryz.prog ++ Tryz.f3.resultTypes.toList).any (Tryz.prog.wideKeysFrom ·))) = true := by kernel_rfl
theorem k18DumpNil : (Rows.dumpNilSpec.vars.all (Tryz.prog.varReadable ·)) = true := by kernel_rfl
theorem k19DumpNil : (Tryz.f3.resultTypes.all (fun t => Tryz.prog.readableRec t && decide (t < Tryz.prog.types.size))) = true := by kernel_rfl
theorem k20DumpNil : ((Rows.dumpNilRow.ifacesOut == Tryz.f3.resultTypes.toList.any (Tryz.prog.ifacesRec ·))) = true := by kernel_rfl
theorem k21DumpNil : ((Rows.dumpNilRow.loopsOut == Tryz.f3.resultTypes.toList.any (Tryz.prog.loopsFrom ·))) = true := by kernel_rfl
theorem k22DumpNil : ((Rows.dumpNilRow.plainKeys == Tryz.prog.plainKeys)) = true := by kernel_rfl
theorem k23DumpNil : (Rows.dumpNilRow.shortTexts.isNone) = true := by kernel_rfl
theorem k24DumpNil : (Tryz.prog.stopsHeard) = true := by kernel_rfl
theorem k25DumpNil : (Tryz.prog.mayEnter) = true := by kernel_rfl
theorem k26DumpNil : ((Rows.dumpNilRow.lifted == Tryz.prog.liftsFinal)) = true := by kernel_rfl
theorem k27DumpNil : ((Tryz.prog.make == some Rows.dumpNilRow.make)) = true := by kernel_rfl
theorem k28DumpNil : ((Rows.dumpNilRow.kinds == (if Rows.dumpNilRow.domain.isEmpty then [] else Tryz.f3.params.toList.map fun t => match Tryz.prog.underlying t with | some (.int k) => some k | _ => none))) = true := by kernel_rfl
theorem k29DumpNil : ((Rows.dumpNilRow.pinned == Rows.dumpNilRow.pinnedBy)) = true := by kernel_rfl
theorem k30DumpNil : ((Rows.dumpNilRow.veiled == (Tryz.f3.params.toList ++ Rows.dumpNilSpec.plain.varTypes Tryz.prog ++ Tryz.f3.resultTypes.toList).any (Tryz.prog.veiledRec ·))) = true := by kernel_rfl
theorem k31DumpNil : (Rows.dumpNilRow.veiledFits Tryz.prog Tryz.f3.params.toList (Tryz.f3.params.toList ++ Rows.dumpNilSpec.plain.varTypes Tryz.prog ++ Tryz.f3.resultTypes.toList)) = true := by kernel_rfl
theorem closedDumpNil : joinedFacts Tryz.prog 3 Tryz.f3 Rows.dumpNilSpec Rows.dumpNilRow = true := band (band (band (band (band (band (band (band (band (band (band (band (band (band (band (band (band (band (band (band (band (band (band (band (band (band (band (band (band (band (band (k0DumpNil) k1DumpNil) k2DumpNil) k3DumpNil) k4DumpNil) k5DumpNil) k6DumpNil) k7DumpNil) k8DumpNil) k9DumpNil) k10DumpNil) k11DumpNil) k12DumpNil) k13DumpNil) k14DumpNil) k15DumpNil) k16DumpNil) k17DumpNil) k18DumpNil) k19DumpNil) k20DumpNil) k21DumpNil) k22DumpNil) k23DumpNil) k24DumpNil) k25DumpNil) k26DumpNil) k27DumpNil) k28DumpNil) k29DumpNil) k30DumpNil) k31DumpNil
end Go.Proofs.YtkhldbhheacnoaaGreat
