/- The closed facts of the row HistoryLast, one by one: what the row's cells say of the program is what the program forces. -/
import Derived.Test.YtkmohjddojpdjaaRows
import Derived.WalkKit
import Derived.ProofKit
namespace Go.Proofs.Ytkmohjddojpdjaa
open Go.ChangeShapes Go.WideShapes Go.ChangeAt Go.RowKit
set_option maxRecDepth 100000
theorem band {a b : Bool} (h : a = true) (g : b = true) : (a && b) = true := by rw [h, g]; rfl
theorem k0HistoryLast : (Rows.historyLastRow.wf (OpenSpec.ofChange Rows.historyLastSpec)) = true := by kernel_rfl
theorem k1HistoryLast : (laidOutB Try.prog) = true := by kernel_rfl
theorem k2HistoryLast : (mapsRowed Try.prog) = true := by kernel_rfl
theorem k3HistoryLast : (Try.f7.params.all (Try.prog.readableRec ·)) = true := by kernel_rfl
theorem k4HistoryLast : (namedTie Try.prog Rows.historyLastRow.named Rows.historyLastSpec.vars) = true := by kernel_rfl
theorem k5HistoryLast : ((Rows.historyLastRow.stops == [])) = true := by kernel_rfl
theorem k6HistoryLast : ((Try.prog.stops == [])) = true := by kernel_rfl
theorem k7HistoryLast : ((Rows.historyLastRow.knobs == [])) = true := by kernel_rfl
theorem k8HistoryLast : ((Try.prog.stopKnobs == [])) = true := by kernel_rfl
theorem k9HistoryLast : ((Rows.historyLastRow.inPlace == Try.prog.inPlace 7)) = true := by kernel_rfl
theorem k10HistoryLast : ((Rows.historyLastRow.unfollowed == Try.prog.unfollowed 7)) = true := by kernel_rfl
theorem k11HistoryLast : ((Rows.historyLastRow.recurses == Try.prog.recurses 7)) = true := by kernel_rfl
theorem k12HistoryLast : ((Rows.historyLastRow.named == Try.prog.varsNamed 7)) = true := by kernel_rfl
theorem k13HistoryLast : ((Rows.historyLastRow.maps == (Try.f7.params.toList ++ Rows.historyLastSpec.plain.varTypes Try.prog).any (Try.prog.mapsRec ·))) = true := by kernel_rfl
theorem k14HistoryLast : ((Rows.historyLastRow.ifaces == (Try.f7.params.toList ++ Rows.historyLastSpec.plain.varTypes Try.prog).any (Try.prog.ifacesRec ·))) = true := by kernel_rfl
theorem k15HistoryLast : ((Rows.historyLastRow.mapsOut == Try.prog.mapsAmong Try.f7.resultTypes.toList)) = true := by kernel_rfl
theorem k16HistoryLast : ((Rows.historyLastRow.loops == (Try.f7.params.toList ++ Rows.historyLastSpec.plain.varTypes Try.prog).any (Try.prog.loopsFrom ·))) = true := by kernel_rfl
theorem k17HistoryLast : ((Rows.historyLastRow.wideKeys == (Try.f7.params.toList ++ Rows.historyLastSpec.plain.varTypes Try.prog ++ Try.f7.resultTypes.toList).any (Try.prog.wideKeysFrom ·))) = true := by kernel_rfl
theorem k18HistoryLast : (Rows.historyLastSpec.vars.all (Try.prog.varReadable ·)) = true := by kernel_rfl
theorem k19HistoryLast : (Try.f7.resultTypes.all (fun t => Try.prog.readableRec t && decide (t < Try.prog.types.size))) = true := by kernel_rfl
theorem k20HistoryLast : ((Rows.historyLastRow.ifacesOut == Try.f7.resultTypes.toList.any (Try.prog.ifacesRec ·))) = true := by kernel_rfl
theorem k21HistoryLast : ((Rows.historyLastRow.loopsOut == Try.f7.resultTypes.toList.any (Try.prog.loopsFrom ·))) = true := by kernel_rfl
theorem k22HistoryLast : ((Rows.historyLastRow.plainKeys == Try.prog.plainKeys)) = true := by kernel_rfl
theorem k23HistoryLast : (Rows.historyLastRow.shortTexts.isNone) = true := by kernel_rfl
theorem k24HistoryLast : (Try.prog.stopsHeard) = true := by kernel_rfl
theorem k25HistoryLast : (Try.prog.mayEnter) = true := by kernel_rfl
theorem k26HistoryLast : ((Rows.historyLastRow.lifted == Try.prog.liftsFinal)) = true := by kernel_rfl
theorem k27HistoryLast : ((Try.prog.make == some Rows.historyLastRow.make)) = true := by kernel_rfl
theorem k28HistoryLast : ((Rows.historyLastRow.kinds == (if Rows.historyLastRow.domain.isEmpty then [] else Try.f7.params.toList.map fun t => match Try.prog.underlying t with | some (.int k) => some k | _ => none))) = true := by kernel_rfl
theorem k29HistoryLast : ((Rows.historyLastRow.pinned == Rows.historyLastRow.pinnedBy)) = true := by kernel_rfl
theorem k30HistoryLast : ((Rows.historyLastRow.veiled == (Try.f7.params.toList ++ Rows.historyLastSpec.plain.varTypes Try.prog ++ Try.f7.resultTypes.toList).any (Try.prog.veiledRec ·))) = true := by kernel_rfl
theorem k31HistoryLast : (Rows.historyLastRow.veiledFits Try.prog Try.f7.params.toList (Try.f7.params.toList ++ Rows.historyLastSpec.plain.varTypes Try.prog ++ Try.f7.resultTypes.toList)) = true := by kernel_rfl
theorem closedHistoryLast : joinedFacts Try.prog 7 Try.f7 Rows.historyLastSpec Rows.historyLastRow = true := band (band (band (band (band (band (band (band (band (band (band (band (band (band (band (band (band (band (band (band (band (band (band (band (band (band (band (band (band (band (band (k0HistoryLast) k1HistoryLast) k2HistoryLast) k3HistoryLast) k4HistoryLast) k5HistoryLast) k6HistoryLast) k7HistoryLast) k8HistoryLast) k9HistoryLast) k10HistoryLast) k11HistoryLast) k12HistoryLast) k13HistoryLast) k14HistoryLast) k15HistoryLast) k16HistoryLast) k17HistoryLast) k18HistoryLast) k19HistoryLast) k20HistoryLast) k21HistoryLast) k22HistoryLast) k23HistoryLast) k24HistoryLast) k25HistoryLast) k26HistoryLast) k27HistoryLast) k28HistoryLast) k29HistoryLast) k30HistoryLast) k31HistoryLast
end Go.Proofs.Ytkmohjddojpdjaa
