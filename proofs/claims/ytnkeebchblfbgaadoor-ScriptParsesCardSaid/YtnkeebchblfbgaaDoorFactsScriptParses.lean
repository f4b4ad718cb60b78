/- The closed facts of the row ScriptParses, one by one: what the row's cells say of the program is what the program forces. -/
import Derived.Test.YtnkeebchblfbgaaDoorRows
import Derived.WalkKit
import Derived.ProofKit
namespace Go.Proofs.YtnkeebchblfbgaaDoor
open Go.ChangeShapes Go.WideShapes Go.ChangeAt Go.RowKit
set_option maxRecDepth 100000
theorem band {a b : Bool} (h : a = true) (g : b = true) : (a && b) = true := by rw [h, g]; rfl
theorem k0ScriptParses : (Rows.scriptParsesRow.wf (OpenSpec.ofChange Rows.scriptParsesSpec)) = true := by kernel_rfl
theorem k1ScriptParses : (laidOutB Tryd.prog) = true := by kernel_rfl
theorem k2ScriptParses : (mapsRowed Tryd.prog) = true := by kernel_rfl
theorem k3ScriptParses : (Tryd.f3.params.all (Tryd.prog.readableRec ·)) = true := by kernel_rfl
theorem k4ScriptParses : (namedTie Tryd.prog Rows.scriptParsesRow.named Rows.scriptParsesSpec.vars) = true := by kernel_rfl
theorem k5ScriptParses : ((Rows.scriptParsesRow.stops == [])) = true := by kernel_rfl
theorem k6ScriptParses : ((Tryd.prog.stops == [])) = true := by kernel_rfl
theorem k7ScriptParses : ((Rows.scriptParsesRow.knobs == [])) = true := by kernel_rfl
theorem k8ScriptParses : ((Tryd.prog.stopKnobs == [])) = true := by kernel_rfl
theorem k9ScriptParses : ((Rows.scriptParsesRow.inPlace == Tryd.prog.inPlace 3)) = true := by kernel_rfl
theorem k10ScriptParses : ((Rows.scriptParsesRow.unfollowed == Tryd.prog.unfollowed 3)) = true := by kernel_rfl
theorem k11ScriptParses : ((Rows.scriptParsesRow.recurses == Tryd.prog.recurses 3)) = true := by kernel_rfl
theorem k12ScriptParses : ((Rows.scriptParsesRow.named == Tryd.prog.varsNamed 3)) = true := by kernel_rfl
theorem k13ScriptParses : ((Rows.scriptParsesRow.maps == (Tryd.f3.params.toList ++ Rows.scriptParsesSpec.plain.varTypes Tryd.prog).any (Tryd.prog.mapsRec ·))) = true := by kernel_rfl
theorem k14ScriptParses : ((Rows.scriptParsesRow.ifaces == (Tryd.f3.params.toList ++ Rows.scriptParsesSpec.plain.varTypes Tryd.prog).any (Tryd.prog.ifacesRec ·))) = true := by kernel_rfl
theorem k15ScriptParses : ((Rows.scriptParsesRow.mapsOut == Tryd.prog.mapsAmong Tryd.f3.resultTypes.toList)) = true := by kernel_rfl
theorem k16ScriptParses : ((Rows.scriptParsesRow.loops == (Tryd.f3.params.toList ++ Rows.scriptParsesSpec.plain.varTypes Tryd.prog).any (Tryd.prog.loopsFrom ·))) = true := by kernel_rfl
theorem k17ScriptParses : ((Rows.scriptParsesRow.wideKeys == (Tryd.f3.params.toList ++ Rows.scriptParsesSpec.plain.varTypes Tryd.prog ++ Tryd.f3.resultTypes.toList).any (Tryd.prog.wideKeysFrom ·))) = true := by kernel_rfl
theorem k18ScriptParses : (Rows.scriptParsesSpec.vars.all (Tryd.prog.varReadable ·)) = true := by kernel_rfl
theorem k19ScriptParses : (Tryd.f3.resultTypes.all (fun t => Tryd.prog.readableRec t && decide (t < Tryd.prog.types.size))) = true := by kernel_rfl
theorem k20ScriptParses : ((Rows.scriptParsesRow.ifacesOut == Tryd.f3.resultTypes.toList.any (Tryd.prog.ifacesRec ·))) = true := by kernel_rfl
theorem k21ScriptParses : ((Rows.scriptParsesRow.loopsOut == Tryd.f3.resultTypes.toList.any (Tryd.prog.loopsFrom ·))) = true := by kernel_rfl
theorem k22ScriptParses : ((Rows.scriptParsesRow.plainKeys == Tryd.prog.plainKeys)) = true := by kernel_rfl
theorem k23ScriptParses : (Rows.scriptParsesRow.shortTexts.isNone) = true := by kernel_rfl
theorem k24ScriptParses : (Tryd.prog.stopsHeard) = true := by kernel_rfl
theorem k25ScriptParses : (Tryd.prog.mayEnter) = true := by kernel_rfl
theorem k26ScriptParses : ((Rows.scriptParsesRow.lifted == Tryd.prog.liftsFinal)) = true := by kernel_rfl
theorem k27ScriptParses : ((Tryd.prog.make == some Rows.scriptParsesRow.make)) = true := by kernel_rfl
theorem k28ScriptParses : ((Rows.scriptParsesRow.kinds == (if Rows.scriptParsesRow.domain.isEmpty then [] else Tryd.f3.params.toList.map fun t => match Tryd.prog.underlying t with | some (.int k) => some k | _ => none))) = true := by kernel_rfl
theorem k29ScriptParses : ((Rows.scriptParsesRow.pinned == Rows.scriptParsesRow.pinnedBy)) = true := by kernel_rfl
theorem k30ScriptParses : ((Rows.scriptParsesRow.veiled == (Tryd.f3.params.toList ++ Rows.scriptParsesSpec.plain.varTypes Tryd.prog ++ Tryd.f3.resultTypes.toList).any (Tryd.prog.veiledRec ·))) = true := by kernel_rfl
theorem k31ScriptParses : (Rows.scriptParsesRow.veiledFits Tryd.prog Tryd.f3.params.toList (Tryd.f3.params.toList ++ Rows.scriptParsesSpec.plain.varTypes Tryd.prog ++ Tryd.f3.resultTypes.toList)) = true := by kernel_rfl
theorem closedScriptParses : joinedFacts Tryd.prog 3 Tryd.f3 Rows.scriptParsesSpec Rows.scriptParsesRow = true := band (band (band (band (band (band (band (band (band (band (band (band (band (band (band (band (band (band (band (band (band (band (band (band (band (band (band (band (band (band (band (k0ScriptParses) k1ScriptParses) k2ScriptParses) k3ScriptParses) k4ScriptParses) k5ScriptParses) k6ScriptParses) k7ScriptParses) k8ScriptParses) k9ScriptParses) k10ScriptParses) k11ScriptParses) k12ScriptParses) k13ScriptParses) k14ScriptParses) k15ScriptParses) k16ScriptParses) k17ScriptParses) k18ScriptParses) k19ScriptParses) k20ScriptParses) k21ScriptParses) k22ScriptParses) k23ScriptParses) k24ScriptParses) k25ScriptParses) k26ScriptParses) k27ScriptParses) k28ScriptParses) k29ScriptParses) k30ScriptParses) k31ScriptParses
end Go.Proofs.YtnkeebchblfbgaaDoor
