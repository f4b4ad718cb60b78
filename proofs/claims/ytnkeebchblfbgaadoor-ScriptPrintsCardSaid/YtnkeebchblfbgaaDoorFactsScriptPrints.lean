/- The closed facts of the row ScriptPrints, one by one: what the row's cells say of the program is what the program forces. -/
import Derived.Test.YtnkeebchblfbgaaDoorRows
import Derived.WalkKit
import Derived.ProofKit
namespace Go.Proofs.YtnkeebchblfbgaaDoor
open Go.ChangeShapes Go.WideShapes Go.ChangeAt Go.RowKit
set_option maxRecDepth 100000
theorem band {a b : Bool} (h : a = true) (g : b = true) : (a && b) = true := by rw [h, g]; rfl
theorem k0ScriptPrints : (Rows.scriptPrintsRow.wf (OpenSpec.ofChange Rows.scriptPrintsSpec)) = true := by kernel_rfl
theorem k1ScriptPrints : (laidOutB Tryd.prog) = true := by kernel_rfl
theorem k2ScriptPrints : (mapsRowed Tryd.prog) = true := by kernel_rfl
theorem k3ScriptPrints : (Tryd.f5.params.all (Tryd.prog.readableRec ·)) = true := by kernel_rfl
theorem k4ScriptPrints : (namedTie Tryd.prog Rows.scriptPrintsRow.named Rows.scriptPrintsSpec.vars) = true := by kernel_rfl
theorem k5ScriptPrints : ((Rows.scriptPrintsRow.stops == [])) = true := by kernel_rfl
theorem k6ScriptPrints : ((Tryd.prog.stops == [])) = true := by kernel_rfl
theorem k7ScriptPrints : ((Rows.scriptPrintsRow.knobs == [])) = true := by kernel_rfl
theorem k8ScriptPrints : ((Tryd.prog.stopKnobs == [])) = true := by kernel_rfl
theorem k9ScriptPrints : ((Rows.scriptPrintsRow.inPlace == Tryd.prog.inPlace 5)) = true := by kernel_rfl
theorem k10ScriptPrints : ((Rows.scriptPrintsRow.unfollowed == Tryd.prog.unfollowed 5)) = true := by kernel_rfl
theorem k11ScriptPrints : ((Rows.scriptPrintsRow.recurses == Tryd.prog.recurses 5)) = true := by kernel_rfl
theorem k12ScriptPrints : ((Rows.scriptPrintsRow.named == Tryd.prog.varsNamed 5)) = true := by kernel_rfl
theorem k13ScriptPrints : ((Rows.scriptPrintsRow.maps == (Tryd.f5.params.toList ++ Rows.scriptPrintsSpec.plain.varTypes Tryd.prog).any (Tryd.prog.mapsRec ·))) = true := by kernel_rfl
theorem k14ScriptPrints : ((Rows.scriptPrintsRow.ifaces == (Tryd.f5.params.toList ++ Rows.scriptPrintsSpec.plain.varTypes Tryd.prog).any (Tryd.prog.ifacesRec ·))) = true := by kernel_rfl
theorem k15ScriptPrints : ((Rows.scriptPrintsRow.mapsOut == Tryd.prog.mapsAmong Tryd.f5.resultTypes.toList)) = true := by kernel_rfl
theorem k16ScriptPrints : ((Rows.scriptPrintsRow.loops == (Tryd.f5.params.toList ++ Rows.scriptPrintsSpec.plain.varTypes Tryd.prog).any (Tryd.prog.loopsFrom ·))) = true := by kernel_rfl
theorem k17ScriptPrints : ((Rows.scriptPrintsRow.wideKeys == (Tryd.f5.params.toList ++ Rows.scriptPrintsSpec.plain.varTypes Tryd.prog ++ Tryd.f5.resultTypes.toList).any (Tryd.prog.wideKeysFrom ·))) = true := by kernel_rfl
theorem k18ScriptPrints : (Rows.scriptPrintsSpec.vars.all (Tryd.prog.varReadable ·)) = true := by kernel_rfl
theorem k19ScriptPrints : (Tryd.f5.resultTypes.all (fun t => Tryd.prog.readableRec t && decide (t < Tryd.prog.types.size))) = true := by kernel_rfl
theorem k20ScriptPrints : ((Rows.scriptPrintsRow.ifacesOut == Tryd.f5.resultTypes.toList.any (Tryd.prog.ifacesRec ·))) = true := by kernel_rfl
theorem k21ScriptPrints : ((Rows.scriptPrintsRow.loopsOut == Tryd.f5.resultTypes.toList.any (Tryd.prog.loopsFrom ·))) = true := by kernel_rfl
theorem k22ScriptPrints : ((Rows.scriptPrintsRow.plainKeys == Tryd.prog.plainKeys)) = true := by kernel_rfl
theorem k23ScriptPrints : (Rows.scriptPrintsRow.shortTexts.isNone) = true := by kernel_rfl
theorem k24ScriptPrints : (Tryd.prog.stopsHeard) = true := by kernel_rfl
theorem k25ScriptPrints : (Tryd.prog.mayEnter) = true := by kernel_rfl
theorem k26ScriptPrints : ((Rows.scriptPrintsRow.lifted == Tryd.prog.liftsFinal)) = true := by kernel_rfl
theorem k27ScriptPrints : ((Tryd.prog.make == some Rows.scriptPrintsRow.make)) = true := by kernel_rfl
theorem k28ScriptPrints : ((Rows.scriptPrintsRow.kinds == (if Rows.scriptPrintsRow.domain.isEmpty then [] else Tryd.f5.params.toList.map fun t => match Tryd.prog.underlying t with | some (.int k) => some k | _ => none))) = true := by kernel_rfl
theorem k29ScriptPrints : ((Rows.scriptPrintsRow.pinned == Rows.scriptPrintsRow.pinnedBy)) = true := by kernel_rfl
theorem k30ScriptPrints : ((Rows.scriptPrintsRow.veiled == (Tryd.f5.params.toList ++ Rows.scriptPrintsSpec.plain.varTypes Tryd.prog ++ Tryd.f5.resultTypes.toList).any (Tryd.prog.veiledRec ·))) = true := by kernel_rfl
theorem k31ScriptPrints : (Rows.scriptPrintsRow.veiledFits Tryd.prog Tryd.f5.params.toList (Tryd.f5.params.toList ++ Rows.scriptPrintsSpec.plain.varTypes Tryd.prog ++ Tryd.f5.resultTypes.toList)) = true := by kernel_rfl
theorem closedScriptPrints : joinedFacts Tryd.prog 5 Tryd.f5 Rows.scriptPrintsSpec Rows.scriptPrintsRow = true := band (band (band (band (band (band (band (band (band (band (band (band (band (band (band (band (band (band (band (band (band (band (band (band (band (band (band (band (band (band (band (k0ScriptPrints) k1ScriptPrints) k2ScriptPrints) k3ScriptPrints) k4ScriptPrints) k5ScriptPrints) k6ScriptPrints) k7ScriptPrints) k8ScriptPrints) k9ScriptPrints) k10ScriptPrints) k11ScriptPrints) k12ScriptPrints) k13ScriptPrints) k14ScriptPrints) k15ScriptPrints) k16ScriptPrints) k17ScriptPrints) k18ScriptPrints) k19ScriptPrints) k20ScriptPrints) k21ScriptPrints) k22ScriptPrints) k23ScriptPrints) k24ScriptPrints) k25ScriptPrints) k26ScriptPrints) k27ScriptPrints) k28ScriptPrints) k29ScriptPrints) k30ScriptPrints) k31ScriptPrints
end Go.Proofs.YtnkeebchblfbgaaDoor
