/- The closed facts of the row HistoryLong, one by one: what the row's cells say of the program is what the program forces. -/
import Derived.Test.YtkmohjddojpdjabRows
import Derived.WalkKit
import Derived.ProofKit
namespace Go.Proofs.Ytkmohjddojpdjab
open Go.ChangeShapes Go.WideShapes Go.ChangeAt Go.RowKit
set_option maxRecDepth 100000
theorem band {a b : Bool} (h : a = true) (g : b = true) : (a && b) = true := by rw [h, g]; rfl
theorem k0HistoryLong : (Rows.historyLongRow.wf (OpenSpec.ofChange Rows.historyLongSpec)) = true := by kernel_rfl
theorem k1HistoryLong : (laidOutB Try.prog) = true := by kernel_rfl
theorem k2HistoryLong : (mapsRowed Try.prog) = true := by kernel_rfl
theorem k3HistoryLong : (Try.f3.params.all (Try.prog.readableRec ·)) = true := by kernel_rfl
theorem k4HistoryLong : (namedTie Try.prog Rows.historyLongRow.named Rows.historyLongSpec.vars) = true := by kernel_rfl
theorem k5HistoryLong : ((Rows.historyLongRow.stops == [])) = true := by kernel_rfl
theorem k6HistoryLong : ((Try.prog.stops == [])) = true := by kernel_rfl
theorem k7HistoryLong : ((Rows.historyLongRow.knobs == [])) = true := by kernel_rfl
theorem k8HistoryLong : ((Try.prog.stopKnobs == [])) = true := by kernel_rfl
theorem k9HistoryLong : ((Rows.historyLongRow.inPlace == Try.prog.inPlace 3)) = true := by kernel_rfl
theorem k10HistoryLong : ((Rows.historyLongRow.unfollowed == Try.prog.unfollowed 3)) = true := by kernel_rfl
theorem k11HistoryLong : ((Rows.historyLongRow.recurses == Try.prog.recurses 3)) = true := by kernel_rfl
theorem k12HistoryLong : ((Rows.historyLongRow.named == Try.prog.varsNamed 3)) = true := by kernel_rfl
theorem k13HistoryLong : ((Rows.historyLongRow.maps == (Try.f3.params.toList ++ Rows.historyLongSpec.plain.varTypes Try.prog).any (Try.prog.mapsRec ·))) = true := by kernel_rfl
theorem k14HistoryLong : ((Rows.historyLongRow.ifaces == (Try.f3.params.toList ++ Rows.historyLongSpec.plain.varTypes Try.prog).any (Try.prog.ifacesRec ·))) = true := by kernel_rfl
theorem k15HistoryLong : ((Rows.historyLongRow.mapsOut == Try.prog.mapsAmong Try.f3.resultTypes.toList)) = true := by kernel_rfl
theorem k16HistoryLong : ((Rows.historyLongRow.loops == (Try.f3.params.toList ++ Rows.historyLongSpec.plain.varTypes Try.prog).any (Try.prog.loopsFrom ·))) = true := by kernel_rfl
theorem k17HistoryLong : ((Rows.historyLongRow.wideKeys == (Try.f3.params.toList ++ Rows.historyLongSpec.plain.varTypes Try.prog ++ Try.f3.resultTypes.toList).any (Try.prog.wideKeysFrom ·))) = true := by kernel_rfl
theorem k18HistoryLong : (Rows.historyLongSpec.vars.all (Try.prog.varReadable ·)) = true := by kernel_rfl
theorem k19HistoryLong : (Try.f3.resultTypes.all (fun t => Try.prog.readableRec t && decide (t < Try.prog.types.size))) = true := by kernel_rfl
theorem k20HistoryLong : ((Rows.historyLongRow.ifacesOut == Try.f3.resultTypes.toList.any (Try.prog.ifacesRec ·))) = true := by kernel_rfl
theorem k21HistoryLong : ((Rows.historyLongRow.loopsOut == Try.f3.resultTypes.toList.any (Try.prog.loopsFrom ·))) = true := by kernel_rfl
theorem k22HistoryLong : ((Rows.historyLongRow.plainKeys == Try.prog.plainKeys)) = true := by kernel_rfl
theorem k23HistoryLong : (Rows.historyLongRow.shortTexts.isNone) = true := by kernel_rfl
theorem k24HistoryLong : (Try.prog.stopsHeard) = true := by kernel_rfl
theorem k25HistoryLong : (Try.prog.mayEnter) = true := by kernel_rfl
theorem k26HistoryLong : ((Rows.historyLongRow.lifted == Try.prog.liftsFinal)) = true := by kernel_rfl
theorem k27HistoryLong : ((Try.prog.make == some Rows.historyLongRow.make)) = true := by kernel_rfl
theorem k28HistoryLong : ((Rows.historyLongRow.kinds == (if Rows.historyLongRow.domain.isEmpty then [] else Try.f3.params.toList.map fun t => match Try.prog.underlying t with | some (.int k) => some k | _ => none))) = true := by kernel_rfl
theorem k29HistoryLong : ((Rows.historyLongRow.pinned == Rows.historyLongRow.pinnedBy)) = true := by kernel_rfl
theorem k30HistoryLong : ((Rows.historyLongRow.veiled == (Try.f3.params.toList ++ Rows.historyLongSpec.plain.varTypes Try.prog ++ Try.f3.resultTypes.toList).any (Try.prog.veiledRec ·))) = true := by kernel_rfl
theorem k31HistoryLong : (Rows.historyLongRow.veiledFits Try.prog Try.f3.params.toList (Try.f3.params.toList ++ Rows.historyLongSpec.plain.varTypes Try.prog ++ Try.f3.resultTypes.toList)) = true := by kernel_rfl
theorem closedHistoryLong : joinedFacts Try.prog 3 Try.f3 Rows.historyLongSpec Rows.historyLongRow = true := band (band (band (band (band (band (band (band (band (band (band (band (band (band (band (band (band (band (band (band (band (band (band (band (band (band (band (band (band (band (band (k0HistoryLong) k1HistoryLong) k2HistoryLong) k3HistoryLong) k4HistoryLong) k5HistoryLong) k6HistoryLong) k7HistoryLong) k8HistoryLong) k9HistoryLong) k10HistoryLong) k11HistoryLong) k12HistoryLong) k13HistoryLong) k14HistoryLong) k15HistoryLong) k16HistoryLong) k17HistoryLong) k18HistoryLong) k19HistoryLong) k20HistoryLong) k21HistoryLong) k22HistoryLong) k23HistoryLong) k24HistoryLong) k25HistoryLong) k26HistoryLong) k27HistoryLong) k28HistoryLong) k29HistoryLong) k30HistoryLong) k31HistoryLong
end Go.Proofs.Ytkmohjddojpdjab
