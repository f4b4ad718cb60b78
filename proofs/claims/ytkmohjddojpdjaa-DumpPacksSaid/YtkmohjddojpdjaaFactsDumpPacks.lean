/- The closed facts of the row DumpPacks, one by one: what the row's cells say of the program is what the program forces. -/
import Derived.Test.YtkmohjddojpdjaaRows
import Derived.WalkKit
import Derived.ProofKit
namespace Go.Proofs.Ytkmohjddojpdjaa
open Go.ChangeShapes Go.WideShapes Go.ChangeAt Go.RowKit
set_option maxRecDepth 100000
theorem band {a b : Bool} (h : a = true) (g : b = true) : (a && b) = true := by rw [h, g]; rfl
theorem k0DumpPacks : (Rows.dumpPacksRow.wf (OpenSpec.ofChange Rows.dumpPacksSpec)) = true := by kernel_rfl
theorem k1DumpPacks : (laidOutB Try.prog) = true := by kernel_rfl
theorem k2DumpPacks : (mapsRowed Try.prog) = true := by kernel_rfl
theorem k3DumpPacks : (Try.f3.params.all (Try.prog.readableRec ·)) = true := by kernel_rfl
theorem k4DumpPacks : (namedTie Try.prog Rows.dumpPacksRow.named Rows.dumpPacksSpec.vars) = true := by kernel_rfl
theorem k5DumpPacks : ((Rows.dumpPacksRow.stops == [])) = true := by kernel_rfl
theorem k6DumpPacks : ((Try.prog.stops == [])) = true := by kernel_rfl
theorem k7DumpPacks : ((Rows.dumpPacksRow.knobs == [])) = true := by kernel_rfl
theorem k8DumpPacks : ((Try.prog.stopKnobs == [])) = true := by kernel_rfl
theorem k9DumpPacks : ((Rows.dumpPacksRow.inPlace == Try.prog.inPlace 3)) = true := by kernel_rfl
theorem k10DumpPacks : ((Rows.dumpPacksRow.unfollowed == Try.prog.unfollowed 3)) = true := by kernel_rfl
theorem k11DumpPacks : ((Rows.dumpPacksRow.recurses == Try.prog.recurses 3)) = true := by kernel_rfl
theorem k12DumpPacks : ((Rows.dumpPacksRow.named == Try.prog.varsNamed 3)) = true := by kernel_rfl
theorem k13DumpPacks : ((Rows.dumpPacksRow.maps == (Try.f3.params.toList ++ Rows.dumpPacksSpec.plain.varTypes Try.prog).any (Try.prog.mapsRec ·))) = true := by kernel_rfl
theorem k14DumpPacks : ((Rows.dumpPacksRow.ifaces == (Try.f3.params.toList ++ Rows.dumpPacksSpec.plain.varTypes Try.prog).any (Try.prog.ifacesRec ·))) = true := by kernel_rfl
theorem k15DumpPacks : ((Rows.dumpPacksRow.mapsOut == Try.prog.mapsAmong Try.f3.resultTypes.toList)) = true := by kernel_rfl
theorem k16DumpPacks : ((Rows.dumpPacksRow.loops == (Try.f3.params.toList ++ Rows.dumpPacksSpec.plain.varTypes Try.prog).any (Try.prog.loopsFrom ·))) = true := by kernel_rfl
theorem k17DumpPacks : ((Rows.dumpPacksRow.wideKeys == (Try.f3.params.toList ++ Rows.dumpPacksSpec.plain.varTypes Try.prog ++ Try.f3.resultTypes.toList).any (Try.prog.wideKeysFrom ·))) = true := by kernel_rfl
theorem k18DumpPacks : (Rows.dumpPacksSpec.vars.all (Try.prog.varReadable ·)) = true := by kernel_rfl
theorem k19DumpPacks : (Try.f3.resultTypes.all (fun t => Try.prog.readableRec t && decide (t < Try.prog.types.size))) = true := by kernel_rfl
theorem k20DumpPacks : ((Rows.dumpPacksRow.ifacesOut == Try.f3.resultTypes.toList.any (Try.prog.ifacesRec ·))) = true := by kernel_rfl
theorem k21DumpPacks : ((Rows.dumpPacksRow.loopsOut == Try.f3.resultTypes.toList.any (Try.prog.loopsFrom ·))) = true := by kernel_rfl
theorem k22DumpPacks : ((Rows.dumpPacksRow.plainKeys == Try.prog.plainKeys)) = true := by kernel_rfl
theorem k23DumpPacks : (Rows.dumpPacksRow.shortTexts.isNone) = true := by kernel_rfl
theorem k24DumpPacks : (Try.prog.stopsHeard) = true := by kernel_rfl
theorem k25DumpPacks : (Try.prog.mayEnter) = true := by kernel_rfl
theorem k26DumpPacks : ((Rows.dumpPacksRow.lifted == Try.prog.liftsFinal)) = true := by kernel_rfl
theorem k27DumpPacks : ((Try.prog.make == some Rows.dumpPacksRow.make)) = true := by kernel_rfl
theorem k28DumpPacks : ((Rows.dumpPacksRow.kinds == (if Rows.dumpPacksRow.domain.isEmpty then [] else Try.f3.params.toList.map fun t => match Try.prog.underlying t with | some (.int k) => some k | _ => none))) = true := by kernel_rfl
theorem k29DumpPacks : ((Rows.dumpPacksRow.pinned == Rows.dumpPacksRow.pinnedBy)) = true := by kernel_rfl
theorem k30DumpPacks : ((Rows.dumpPacksRow.veiled == (Try.f3.params.toList ++ Rows.dumpPacksSpec.plain.varTypes Try.prog ++ Try.f3.resultTypes.toList).any (Try.prog.veiledRec ·))) = true := by kernel_rfl
theorem k31DumpPacks : (Rows.dumpPacksRow.veiledFits Try.prog Try.f3.params.toList (Try.f3.params.toList ++ Rows.dumpPacksSpec.plain.varTypes Try.prog ++ Try.f3.resultTypes.toList)) = true := by kernel_rfl
theorem closedDumpPacks : joinedFacts Try.prog 3 Try.f3 Rows.dumpPacksSpec Rows.dumpPacksRow = true := band (band (band (band (band (band (band (band (band (band (band (band (band (band (band (band (band (band (band (band (band (band (band (band (band (band (band (band (band (band (band (k0DumpPacks) k1DumpPacks) k2DumpPacks) k3DumpPacks) k4DumpPacks) k5DumpPacks) k6DumpPacks) k7DumpPacks) k8DumpPacks) k9DumpPacks) k10DumpPacks) k11DumpPacks) k12DumpPacks) k13DumpPacks) k14DumpPacks) k15DumpPacks) k16DumpPacks) k17DumpPacks) k18DumpPacks) k19DumpPacks) k20DumpPacks) k21DumpPacks) k22DumpPacks) k23DumpPacks) k24DumpPacks) k25DumpPacks) k26DumpPacks) k27DumpPacks) k28DumpPacks) k29DumpPacks) k30DumpPacks) k31DumpPacks
end Go.Proofs.Ytkmohjddojpdjaa
