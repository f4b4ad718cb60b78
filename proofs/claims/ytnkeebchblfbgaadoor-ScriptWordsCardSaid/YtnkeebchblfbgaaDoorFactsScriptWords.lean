/- The closed facts of the row ScriptWords, one by one: what the row's cells say of the program is what the program forces. -/
import Derived.Test.YtnkeebchblfbgaaDoorRows
import Derived.WalkKit
import Derived.ProofKit
namespace Go.Proofs.YtnkeebchblfbgaaDoor
open Go.ChangeShapes Go.WideShapes Go.ChangeAt Go.RowKit
set_option maxRecDepth 100000
theorem band {a b : Bool} (h : a = true) (g : b = true) : (a && b) = true := by rw [h, g]; rfl
theorem k0ScriptWords : (Rows.scriptWordsRow.wf (OpenSpec.ofChange Rows.scriptWordsSpec)) = true := by kernel_rfl
theorem k1ScriptWords : (laidOutB Tryd.prog) = true := by kernel_rfl
theorem k2ScriptWords : (mapsRowed Tryd.prog) = true := by kernel_rfl
theorem k3ScriptWords : (Tryd.f4.params.all (Tryd.prog.readableRec ·)) = true := by kernel_rfl
theorem k4ScriptWords : (namedTie Tryd.prog Rows.scriptWordsRow.named Rows.scriptWordsSpec.vars) = true := by kernel_rfl
theorem k5ScriptWords : ((Rows.scriptWordsRow.stops == [])) = true := by kernel_rfl
theorem k6ScriptWords : ((Tryd.prog.stops == [])) = true := by kernel_rfl
theorem k7ScriptWords : ((Rows.scriptWordsRow.knobs == [])) = true := by kernel_rfl
theorem k8ScriptWords : ((Tryd.prog.stopKnobs == [])) = true := by kernel_rfl
theorem k9ScriptWords : ((Rows.scriptWordsRow.inPlace == Tryd.prog.inPlace 4)) = true := by kernel_rfl
theorem k10ScriptWords : ((Rows.scriptWordsRow.unfollowed == Tryd.prog.unfollowed 4)) = true := by kernel_rfl
theorem k11ScriptWords : ((Rows.scriptWordsRow.recurses == Tryd.prog.recurses 4)) = true := by kernel_rfl
theorem k12ScriptWords : ((Rows.scriptWordsRow.named == Tryd.prog.varsNamed 4)) = true := by kernel_rfl
theorem k13ScriptWords : ((Rows.scriptWordsRow.maps == (Tryd.f4.params.toList ++ Rows.scriptWordsSpec.plain.varTypes Tryd.prog).any (Tryd.prog.mapsRec ·))) = true := by kernel_rfl
theorem k14ScriptWords : ((Rows.scriptWordsRow.ifaces == (Tryd.f4.params.toList ++ Rows.scriptWordsSpec.plain.varTypes Tryd.prog).any (Tryd.prog.ifacesRec ·))) = true := by kernel_rfl
theorem k15ScriptWords : ((Rows.scriptWordsRow.mapsOut == Tryd.prog.mapsAmong Tryd.f4.resultTypes.toList)) = true := by kernel_rfl
theorem k16ScriptWords : ((Rows.scriptWordsRow.loops == (Tryd.f4.params.toList ++ Rows.scriptWordsSpec.plain.varTypes Tryd.prog).any (Tryd.prog.loopsFrom ·))) = true := by kernel_rfl
theorem k17ScriptWords : ((Rows.scriptWordsRow.wideKeys == (Tryd.f4.params.toList ++ Rows.scriptWordsSpec.plain.varTypes Tryd.prog ++ Tryd.f4.resultTypes.toList).any (Tryd.prog.wideKeysFrom ·))) = true := by kernel_rfl
theorem k18ScriptWords : (Rows.scriptWordsSpec.vars.all (Tryd.prog.varReadable ·)) = true := by kernel_rfl
theorem k19ScriptWords : (Tryd.f4.resultTypes.all (fun t => Tryd.prog.readableRec t && decide (t < Tryd.prog.types.size))) = true := by kernel_rfl
theorem k20ScriptWords : ((Rows.scriptWordsRow.ifacesOut == Tryd.f4.resultTypes.toList.any (Tryd.prog.ifacesRec ·))) = true := by kernel_rfl
theorem k21ScriptWords : ((Rows.scriptWordsRow.loopsOut == Tryd.f4.resultTypes.toList.any (Tryd.prog.loopsFrom ·))) = true := by kernel_rfl
theorem k22ScriptWords : ((Rows.scriptWordsRow.plainKeys == Tryd.prog.plainKeys)) = true := by kernel_rfl
theorem k23ScriptWords : (Rows.scriptWordsRow.shortTexts.isNone) = true := by kernel_rfl
theorem k24ScriptWords : (Tryd.prog.stopsHeard) = true := by kernel_rfl
theorem k25ScriptWords : (Tryd.prog.mayEnter) = true := by kernel_rfl
theorem k26ScriptWords : ((Rows.scriptWordsRow.lifted == Tryd.prog.liftsFinal)) = true := by kernel_rfl
theorem k27ScriptWords : ((Tryd.prog.make == some Rows.scriptWordsRow.make)) = true := by kernel_rfl
theorem k28ScriptWords : ((Rows.scriptWordsRow.kinds == (if Rows.scriptWordsRow.domain.isEmpty then [] else Tryd.f4.params.toList.map fun t => match Tryd.prog.underlying t with | some (.int k) => some k | _ => none))) = true := by kernel_rfl
theorem k29ScriptWords : ((Rows.scriptWordsRow.pinned == Rows.scriptWordsRow.pinnedBy)) = true := by kernel_rfl
theorem k30ScriptWords : ((Rows.scriptWordsRow.veiled == (Tryd.f4.params.toList ++ Rows.scriptWordsSpec.plain.varTypes Tryd.prog ++ Tryd.f4.resultTypes.toList).any (Tryd.prog.veiledRec ·))) = true := by kernel_rfl
theorem k31ScriptWords : (Rows.scriptWordsRow.veiledFits Tryd.prog Tryd.f4.params.toList (Tryd.f4.params.toList ++ Rows.scriptWordsSpec.plain.varTypes Tryd.prog ++ Tryd.f4.resultTypes.toList)) = true := by kernel_rfl
theorem closedScriptWords : joinedFacts Tryd.prog 4 Tryd.f4 Rows.scriptWordsSpec Rows.scriptWordsRow = true := band (band (band (band (band (band (band (band (band (band (band (band (band (band (band (band (band (band (band (band (band (band (band (band (band (band (band (band (band (band (band (k0ScriptWords) k1ScriptWords) k2ScriptWords) k3ScriptWords) k4ScriptWords) k5ScriptWords) k6ScriptWords) k7ScriptWords) k8ScriptWords) k9ScriptWords) k10ScriptWords) k11ScriptWords) k12ScriptWords) k13ScriptWords) k14ScriptWords) k15ScriptWords) k16ScriptWords) k17ScriptWords) k18ScriptWords) k19ScriptWords) k20ScriptWords) k21ScriptWords) k22ScriptWords) k23ScriptWords) k24ScriptWords) k25ScriptWords) k26ScriptWords) k27ScriptWords) k28ScriptWords) k29ScriptWords) k30ScriptWords) k31ScriptWords
end Go.Proofs.YtnkeebchblfbgaaDoor
