/- The closed facts of the row DumpReads, one by one: what the row's cells say of the program is what the program forces. -/
import Derived.Test.YtkmohjddojpdjaaRows
import Derived.WalkKit
import Derived.ProofKit
namespace Go.Proofs.Ytkmohjddojpdjaa
open Go.ChangeShapes Go.WideShapes Go.ChangeAt Go.RowKit
set_option maxRecDepth 100000
theorem band {a b : Bool} (h : a = true) (g : b = true) : (a && b) = true := by rw [h, g]; rfl
theorem k0DumpReads : (Rows.dumpReadsRow.wf (OpenSpec.ofChange Rows.dumpReadsSpec)) = true := by kernel_rfl
theorem k1DumpReads : (laidOutB Try.prog) = true := by kernel_rfl
theorem k2DumpReads : (mapsRowed Try.prog) = true := by kernel_rfl
theorem k3DumpReads : (Try.f4.params.all (Try.prog.readableRec ·)) = true := by kernel_rfl
theorem k4DumpReads : (namedTie Try.prog Rows.dumpReadsRow.named Rows.dumpReadsSpec.vars) = true := by kernel_rfl
theorem k5DumpReads : ((Rows.dumpReadsRow.stops == [])) = true := by kernel_rfl
theorem k6DumpReads : ((Try.prog.stops == [])) = true := by kernel_rfl
theorem k7DumpReads : ((Rows.dumpReadsRow.knobs == [])) = true := by kernel_rfl
theorem k8DumpReads : ((Try.prog.stopKnobs == [])) = true := by kernel_rfl
theorem k9DumpReads : ((Rows.dumpReadsRow.inPlace == Try.prog.inPlace 4)) = true := by kernel_rfl
theorem k10DumpReads : ((Rows.dumpReadsRow.unfollowed == Try.prog.unfollowed 4)) = true := by kernel_rfl
theorem k11DumpReads : ((Rows.dumpReadsRow.recurses == Try.prog.recurses 4)) = true := by kernel_rfl
theorem k12DumpReads : ((Rows.dumpReadsRow.named == Try.prog.varsNamed 4)) = true := by kernel_rfl
theorem k13DumpReads : ((Rows.dumpReadsRow.maps == (Try.f4.params.toList ++ Rows.dumpReadsSpec.plain.varTypes Try.prog).any (Try.prog.mapsRec ·))) = true := by kernel_rfl
theorem k14DumpReads : ((Rows.dumpReadsRow.ifaces == (Try.f4.params.toList ++ Rows.dumpReadsSpec.plain.varTypes Try.prog).any (Try.prog.ifacesRec ·))) = true := by kernel_rfl
theorem k15DumpReads : ((Rows.dumpReadsRow.mapsOut == Try.prog.mapsAmong Try.f4.resultTypes.toList)) = true := by kernel_rfl
theorem k16DumpReads : ((Rows.dumpReadsRow.loops == (Try.f4.params.toList ++ Rows.dumpReadsSpec.plain.varTypes Try.prog).any (Try.prog.loopsFrom ·))) = true := by kernel_rfl
theorem k17DumpReads : ((Rows.dumpReadsRow.wideKeys == (Try.f4.params.toList ++ Rows.dumpReadsSpec.plain.varTypes Try.prog ++ Try.f4.resultTypes.toList).any (Try.prog.wideKeysFrom ·))) = true := by kernel_rfl
theorem k18DumpReads : (Rows.dumpReadsSpec.vars.all (Try.prog.varReadable ·)) = true := by kernel_rfl
theorem k19DumpReads : (Try.f4.resultTypes.all (fun t => Try.prog.readableRec t && decide (t < Try.prog.types.size))) = true := by kernel_rfl
theorem k20DumpReads : ((Rows.dumpReadsRow.ifacesOut == Try.f4.resultTypes.toList.any (Try.prog.ifacesRec ·))) = true := by kernel_rfl
theorem k21DumpReads : ((Rows.dumpReadsRow.loopsOut == Try.f4.resultTypes.toList.any (Try.prog.loopsFrom ·))) = true := by kernel_rfl
theorem k22DumpReads : ((Rows.dumpReadsRow.plainKeys == Try.prog.plainKeys)) = true := by kernel_rfl
theorem k23DumpReads : (Rows.dumpReadsRow.shortTexts.isNone) = true := by kernel_rfl
theorem k24DumpReads : (Try.prog.stopsHeard) = true := by kernel_rfl
theorem k25DumpReads : (Try.prog.mayEnter) = true := by kernel_rfl
theorem k26DumpReads : ((Rows.dumpReadsRow.lifted == Try.prog.liftsFinal)) = true := by kernel_rfl
theorem k27DumpReads : ((Try.prog.make == some Rows.dumpReadsRow.make)) = true := by kernel_rfl
theorem k28DumpReads : ((Rows.dumpReadsRow.kinds == (if Rows.dumpReadsRow.domain.isEmpty then [] else Try.f4.params.toList.map fun t => match Try.prog.underlying t with | some (.int k) => some k | _ => none))) = true := by kernel_rfl
theorem k29DumpReads : ((Rows.dumpReadsRow.pinned == Rows.dumpReadsRow.pinnedBy)) = true := by kernel_rfl
theorem k30DumpReads : ((Rows.dumpReadsRow.veiled == (Try.f4.params.toList ++ Rows.dumpReadsSpec.plain.varTypes Try.prog ++ Try.f4.resultTypes.toList).any (Try.prog.veiledRec ·))) = true := by kernel_rfl
theorem k31DumpReads : (Rows.dumpReadsRow.veiledFits Try.prog Try.f4.params.toList (Try.f4.params.toList ++ Rows.dumpReadsSpec.plain.varTypes Try.prog ++ Try.f4.resultTypes.toList)) = true := by kernel_rfl
theorem closedDumpReads : joinedFacts Try.prog 4 Try.f4 Rows.dumpReadsSpec Rows.dumpReadsRow = true := band (band (band (band (band (band (band (band (band (band (band (band (band (band (band (band (band (band (band (band (band (band (band (band (band (band (band (band (band (band (band (k0DumpReads) k1DumpReads) k2DumpReads) k3DumpReads) k4DumpReads) k5DumpReads) k6DumpReads) k7DumpReads) k8DumpReads) k9DumpReads) k10DumpReads) k11DumpReads) k12DumpReads) k13DumpReads) k14DumpReads) k15DumpReads) k16DumpReads) k17DumpReads) k18DumpReads) k19DumpReads) k20DumpReads) k21DumpReads) k22DumpReads) k23DumpReads) k24DumpReads) k25DumpReads) k26DumpReads) k27DumpReads) k28DumpReads) k29DumpReads) k30DumpReads) k31DumpReads
end Go.Proofs.Ytkmohjddojpdjaa
