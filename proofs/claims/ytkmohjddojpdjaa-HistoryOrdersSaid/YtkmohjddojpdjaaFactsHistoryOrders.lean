/- The closed facts of the row HistoryOrders, one by one: what the row's cells say of the program is what the program forces. -/
import Derived.Test.YtkmohjddojpdjaaRows
import Derived.WalkKit
import Derived.ProofKit
namespace Go.Proofs.Ytkmohjddojpdjaa
open Go.ChangeShapes Go.WideShapes Go.ChangeAt Go.RowKit
set_option maxRecDepth 100000
theorem band {a b : Bool} (h : a = true) (g : b = true) : (a && b) = true := by rw [h, g]; rfl
theorem k0HistoryOrders : (Rows.historyOrdersRow.wf (OpenSpec.ofChange Rows.historyOrdersSpec)) = true := by kernel_rfl
theorem k1HistoryOrders : (laidOutB Try.prog) = true := by kernel_rfl
theorem k2HistoryOrders : (mapsRowed Try.prog) = true := by kernel_rfl
theorem k3HistoryOrders : (Try.f5.params.all (Try.prog.readableRec ·)) = true := by kernel_rfl
theorem k4HistoryOrders : (namedTie Try.prog Rows.historyOrdersRow.named Rows.historyOrdersSpec.vars) = true := by kernel_rfl
theorem k5HistoryOrders : ((Rows.historyOrdersRow.stops == [])) = true := by kernel_rfl
theorem k6HistoryOrders : ((Try.prog.stops == [])) = true := by kernel_rfl
theorem k7HistoryOrders : ((Rows.historyOrdersRow.knobs == [])) = true := by kernel_rfl
theorem k8HistoryOrders : ((Try.prog.stopKnobs == [])) = true := by kernel_rfl
theorem k9HistoryOrders : ((Rows.historyOrdersRow.inPlace == Try.prog.inPlace 5)) = true := by kernel_rfl
theorem k10HistoryOrders : ((Rows.historyOrdersRow.unfollowed == Try.prog.unfollowed 5)) = true := by kernel_rfl
theorem k11HistoryOrders : ((Rows.historyOrdersRow.recurses == Try.prog.recurses 5)) = true := by kernel_rfl
theorem k12HistoryOrders : ((Rows.historyOrdersRow.named == Try.prog.varsNamed 5)) = true := by kernel_rfl
theorem k13HistoryOrders : ((Rows.historyOrdersRow.maps == (Try.f5.params.toList ++ Rows.historyOrdersSpec.plain.varTypes Try.prog).any (Try.prog.mapsRec ·))) = true := by kernel_rfl
theorem k14HistoryOrders : ((Rows.historyOrdersRow.ifaces == (Try.f5.params.toList ++ Rows.historyOrdersSpec.plain.varTypes Try.prog).any (Try.prog.ifacesRec ·))) = true := by kernel_rfl
theorem k15HistoryOrders : ((Rows.historyOrdersRow.mapsOut == Try.prog.mapsAmong Try.f5.resultTypes.toList)) = true := by kernel_rfl
theorem k16HistoryOrders : ((Rows.historyOrdersRow.loops == (Try.f5.params.toList ++ Rows.historyOrdersSpec.plain.varTypes Try.prog).any (Try.prog.loopsFrom ·))) = true := by kernel_rfl
theorem k17HistoryOrders : ((Rows.historyOrdersRow.wideKeys == (Try.f5.params.toList ++ Rows.historyOrdersSpec.plain.varTypes Try.prog ++ Try.f5.resultTypes.toList).any (Try.prog.wideKeysFrom ·))) = true := by kernel_rfl
theorem k18HistoryOrders : (Rows.historyOrdersSpec.vars.all (Try.prog.varReadable ·)) = true := by kernel_rfl
theorem k19HistoryOrders : (Try.f5.resultTypes.all (fun t => Try.prog.readableRec t && decide (t < Try.prog.types.size))) = true := by kernel_rfl
theorem k20HistoryOrders : ((Rows.historyOrdersRow.ifacesOut == Try.f5.resultTypes.toList.any (Try.prog.ifacesRec ·))) = true := by kernel_rfl
theorem k21HistoryOrders : ((Rows.historyOrdersRow.loopsOut == Try.f5.resultTypes.toList.any (Try.prog.loopsFrom ·))) = true := by kernel_rfl
theorem k22HistoryOrders : ((Rows.historyOrdersRow.plainKeys == Try.prog.plainKeys)) = true := by kernel_rfl
theorem k23HistoryOrders : (Rows.historyOrdersRow.shortTexts.isNone) = true := by kernel_rfl
theorem k24HistoryOrders : (Try.prog.stopsHeard) = true := by kernel_rfl
theorem k25HistoryOrders : (Try.prog.mayEnter) = true := by kernel_rfl
theorem k26HistoryOrders : ((Rows.historyOrdersRow.lifted == Try.prog.liftsFinal)) = true := by kernel_rfl
theorem k27HistoryOrders : ((Try.prog.make == some Rows.historyOrdersRow.make)) = true := by kernel_rfl
theorem k28HistoryOrders : ((Rows.historyOrdersRow.kinds == (if Rows.historyOrdersRow.domain.isEmpty then [] else Try.f5.params.toList.map fun t => match Try.prog.underlying t with | some (.int k) => some k | _ => none))) = true := by kernel_rfl
theorem k29HistoryOrders : ((Rows.historyOrdersRow.pinned == Rows.historyOrdersRow.pinnedBy)) = true := by kernel_rfl
theorem k30HistoryOrders : ((Rows.historyOrdersRow.veiled == (Try.f5.params.toList ++ Rows.historyOrdersSpec.plain.varTypes Try.prog ++ Try.f5.resultTypes.toList).any (Try.prog.veiledRec ·))) = true := by kernel_rfl
theorem k31HistoryOrders : (Rows.historyOrdersRow.veiledFits Try.prog Try.f5.params.toList (Try.f5.params.toList ++ Rows.historyOrdersSpec.plain.varTypes Try.prog ++ Try.f5.resultTypes.toList)) = true := by kernel_rfl
theorem closedHistoryOrders : joinedFacts Try.prog 5 Try.f5 Rows.historyOrdersSpec Rows.historyOrdersRow = true := band (band (band (band (band (band (band (band (band (band (band (band (band (band (band (band (band (band (band (band (band (band (band (band (band (band (band (band (band (band (band (k0HistoryOrders) k1HistoryOrders) k2HistoryOrders) k3HistoryOrders) k4HistoryOrders) k5HistoryOrders) k6HistoryOrders) k7HistoryOrders) k8HistoryOrders) k9HistoryOrders) k10HistoryOrders) k11HistoryOrders) k12HistoryOrders) k13HistoryOrders) k14HistoryOrders) k15HistoryOrders) k16HistoryOrders) k17HistoryOrders) k18HistoryOrders) k19HistoryOrders) k20HistoryOrders) k21HistoryOrders) k22HistoryOrders) k23HistoryOrders) k24HistoryOrders) k25HistoryOrders) k26HistoryOrders) k27HistoryOrders) k28HistoryOrders) k29HistoryOrders) k30HistoryOrders) k31HistoryOrders
end Go.Proofs.Ytkmohjddojpdjaa
