/- The closed facts of the row HistoryApplies, one by one: what the row's cells say of the program is what the program forces. -/
import Derived.Test.YtkmohjddojpdjaaRows
import Derived.WalkKit
import Derived.ProofKit
namespace Go.Proofs.Ytkmohjddojpdjaa
open Go.ChangeShapes Go.WideShapes Go.ChangeAt Go.RowKit
set_option maxRecDepth 100000
theorem band {a b : Bool} (h : a = true) (g : b = true) : (a && b) = true := by rw [h, g]; rfl
theorem k0HistoryApplies : (Rows.historyAppliesRow.wf (OpenSpec.ofChange Rows.historyAppliesSpec)) = true := by kernel_rfl
theorem k1HistoryApplies : (laidOutB Try.prog) = true := by kernel_rfl
theorem k2HistoryApplies : (mapsRowed Try.prog) = true := by kernel_rfl
theorem k3HistoryApplies : (Try.f6.params.all (Try.prog.readableRec ·)) = true := by kernel_rfl
theorem k4HistoryApplies : (namedTie Try.prog Rows.historyAppliesRow.named Rows.historyAppliesSpec.vars) = true := by kernel_rfl
theorem k5HistoryApplies : ((Rows.historyAppliesRow.stops == [])) = true := by kernel_rfl
theorem k6HistoryApplies : ((Try.prog.stops == [])) = true := by kernel_rfl
theorem k7HistoryApplies : ((Rows.historyAppliesRow.knobs == [])) = true := by kernel_rfl
theorem k8HistoryApplies : ((Try.prog.stopKnobs == [])) = true := by kernel_rfl
theorem k9HistoryApplies : ((Rows.historyAppliesRow.inPlace == Try.prog.inPlace 6)) = true := by kernel_rfl
theorem k10HistoryApplies : ((Rows.historyAppliesRow.unfollowed == Try.prog.unfollowed 6)) = true := by kernel_rfl
theorem k11HistoryApplies : ((Rows.historyAppliesRow.recurses == Try.prog.recurses 6)) = true := by kernel_rfl
theorem k12HistoryApplies : ((Rows.historyAppliesRow.named == Try.prog.varsNamed 6)) = true := by kernel_rfl
theorem k13HistoryApplies : ((Rows.historyAppliesRow.maps == (Try.f6.params.toList ++ Rows.historyAppliesSpec.plain.varTypes Try.prog).any (Try.prog.mapsRec ·))) = true := by kernel_rfl
theorem k14HistoryApplies : ((Rows.historyAppliesRow.ifaces == (Try.f6.params.toList ++ Rows.historyAppliesSpec.plain.varTypes Try.prog).any (Try.prog.ifacesRec ·))) = true := by kernel_rfl
theorem k15HistoryApplies : ((Rows.historyAppliesRow.mapsOut == Try.prog.mapsAmong Try.f6.resultTypes.toList)) = true := by kernel_rfl
theorem k16HistoryApplies : ((Rows.historyAppliesRow.loops == (Try.f6.params.toList ++ Rows.historyAppliesSpec.plain.varTypes Try.prog).any (Try.prog.loopsFrom ·))) = true := by kernel_rfl
theorem k17HistoryApplies : ((Rows.historyAppliesRow.wideKeys == (Try.f6.params.toList ++ Rows.historyAppliesSpec.plain.varTypes Try.prog ++ Try.f6.resultTypes.toList).any (Try.prog.wideKeysFrom ·))) = true := by kernel_rfl
theorem k18HistoryApplies : (Rows.historyAppliesSpec.vars.all (Try.prog.varReadable ·)) = true := by kernel_rfl
theorem k19HistoryApplies : (Try.f6.resultTypes.all (fun t => Try.prog.readableRec t && decide (t < Try.prog.types.size))) = true := by kernel_rfl
theorem k20HistoryApplies : ((Rows.historyAppliesRow.ifacesOut == Try.f6.resultTypes.toList.any (Try.prog.ifacesRec ·))) = true := by kernel_rfl
theorem k21HistoryApplies : ((Rows.historyAppliesRow.loopsOut == Try.f6.resultTypes.toList.any (Try.prog.loopsFrom ·))) = true := by kernel_rfl
theorem k22HistoryApplies : ((Rows.historyAppliesRow.plainKeys == Try.prog.plainKeys)) = true := by kernel_rfl
theorem k23HistoryApplies : (Rows.historyAppliesRow.shortTexts.isNone) = true := by kernel_rfl
theorem k24HistoryApplies : (Try.prog.stopsHeard) = true := by kernel_rfl
theorem k25HistoryApplies : (Try.prog.mayEnter) = true := by kernel_rfl
theorem k26HistoryApplies : ((Rows.historyAppliesRow.lifted == Try.prog.liftsFinal)) = true := by kernel_rfl
theorem k27HistoryApplies : ((Try.prog.make == some Rows.historyAppliesRow.make)) = true := by kernel_rfl
theorem k28HistoryApplies : ((Rows.historyAppliesRow.kinds == (if Rows.historyAppliesRow.domain.isEmpty then [] else Try.f6.params.toList.map fun t => match Try.prog.underlying t with | some (.int k) => some k | _ => none))) = true := by kernel_rfl
theorem k29HistoryApplies : ((Rows.historyAppliesRow.pinned == Rows.historyAppliesRow.pinnedBy)) = true := by kernel_rfl
theorem k30HistoryApplies : ((Rows.historyAppliesRow.veiled == (Try.f6.params.toList ++ Rows.historyAppliesSpec.plain.varTypes Try.prog ++ Try.f6.resultTypes.toList).any (Try.prog.veiledRec ·))) = true := by kernel_rfl
theorem k31HistoryApplies : (Rows.historyAppliesRow.veiledFits Try.prog Try.f6.params.toList (Try.f6.params.toList ++ Rows.historyAppliesSpec.plain.varTypes Try.prog ++ Try.f6.resultTypes.toList)) = true := by kernel_rfl
theorem closedHistoryApplies : joinedFacts Try.prog 6 Try.f6 Rows.historyAppliesSpec Rows.historyAppliesRow = true := band (band (band (band (band (band (band (band (band (band (band (band (band (band (band (band (band (band (band (band (band (band (band (band (band (band (band (band (band (band (band (k0HistoryApplies) k1HistoryApplies) k2HistoryApplies) k3HistoryApplies) k4HistoryApplies) k5HistoryApplies) k6HistoryApplies) k7HistoryApplies) k8HistoryApplies) k9HistoryApplies) k10HistoryApplies) k11HistoryApplies) k12HistoryApplies) k13HistoryApplies) k14HistoryApplies) k15HistoryApplies) k16HistoryApplies) k17HistoryApplies) k18HistoryApplies) k19HistoryApplies) k20HistoryApplies) k21HistoryApplies) k22HistoryApplies) k23HistoryApplies) k24HistoryApplies) k25HistoryApplies) k26HistoryApplies) k27HistoryApplies) k28HistoryApplies) k29HistoryApplies) k30HistoryApplies) k31HistoryApplies
end Go.Proofs.Ytkmohjddojpdjaa
