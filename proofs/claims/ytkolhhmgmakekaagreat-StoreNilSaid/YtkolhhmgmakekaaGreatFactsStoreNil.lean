/- The closed facts of the row StoreNil, one by one: what the row's cells say of the program is what the program forces. -/
import Derived.Test.YtkolhhmgmakekaaGreatRows
import Derived.WalkKit
import Derived.ProofKit
namespace Go.Proofs.YtkolhhmgmakekaaGreat
open Go.ChangeShapes Go.WideShapes Go.ChangeAt Go.RowKit
set_option maxRecDepth 100000
theorem band {a b : Bool} (h : a = true) (g : b = true) : (a && b) = true := by rw [h, g]; rfl
theorem k0StoreNil : (Rows.storeNilRow.wf (OpenSpec.ofChange Rows.storeNilSpec)) = true := by kernel_rfl
theorem k1StoreNil : (laidOutB Tryz.prog) = true := by kernel_rfl
theorem k2StoreNil : (mapsRowed Tryz.prog) = true := by kernel_rfl
theorem k3StoreNil : (Tryz.f3.params.all (Tryz.prog.readableRec ·)) = true := by kernel_rfl
theorem k4StoreNil : (namedTie Tryz.prog Rows.storeNilRow.named Rows.storeNilSpec.vars) = true := by kernel_rfl
theorem k5StoreNil : ((Rows.storeNilRow.stops == [])) = true := by kernel_rfl
theorem k6StoreNil : ((Tryz.prog.stops == [])) = true := by kernel_rfl
theorem k7StoreNil : ((Rows.storeNilRow.knobs == [])) = true := by kernel_rfl
theorem k8StoreNil : ((Tryz.prog.stopKnobs == [])) = true := by kernel_rfl
theorem k9StoreNil : ((Rows.storeNilRow.inPlace == Tryz.prog.inPlace 3)) = true := by kernel_rfl
theorem k10StoreNil : ((Rows.storeNilRow.unfollowed == Tryz.prog.unfollowed 3)) = true := by kernel_rfl
theorem k11StoreNil : ((Rows.storeNilRow.recurses == Tryz.prog.recurses 3)) = true := by kernel_rfl
theorem k12StoreNil : ((Rows.storeNilRow.named == Tryz.prog.varsNamed 3)) = true := by kernel_rfl
theorem k13StoreNil : ((Rows.storeNilRow.maps == (Tryz.f3.params.toList ++ Rows.storeNilSpec.plain.varTypes Tryz.prog).any (Tryz.prog.mapsRec ·))) = true := by kernel_rfl
theorem k14StoreNil : ((Rows.storeNilRow.ifaces == (Tryz.f3.params.toList ++ Rows.storeNilSpec.plain.varTypes Tryz.prog).any (Tryz.prog.ifacesRec ·))) = true := by kernel_rfl
theorem k15StoreNil : ((Rows.storeNilRow.mapsOut == Tryz.prog.mapsAmong Tryz.f3.resultTypes.toList)) = true := by kernel_rfl
theorem k16StoreNil : ((Rows.storeNilRow.loops == (Tryz.f3.params.toList ++ Rows.storeNilSpec.plain.varTypes Tryz.prog).any (Tryz.prog.loopsFrom ·))) = true := by kernel_rfl
theorem k17StoreNil : ((Rows.storeNilRow.wideKeys == (Tryz.f3.params.toList ++ Rows.storeNilSpec.plain.varTypes Tryz.prog ++ Tryz.f3.resultTypes.toList).any (Tryz.prog.wideKeysFrom ·))) = true := by kernel_rfl
theorem k18StoreNil : (Rows.storeNilSpec.vars.all (Tryz.prog.varReadable ·)) = true := by kernel_rfl
theorem k19StoreNil : (Tryz.f3.resultTypes.all (fun t => Tryz.prog.readableRec t && decide (t < Tryz.prog.types.size))) = true := by kernel_rfl
theorem k20StoreNil : ((Rows.storeNilRow.ifacesOut == Tryz.f3.resultTypes.toList.any (Tryz.prog.ifacesRec ·))) = true := by kernel_rfl
theorem k21StoreNil : ((Rows.storeNilRow.loopsOut == Tryz.f3.resultTypes.toList.any (Tryz.prog.loopsFrom ·))) = true := by kernel_rfl
theorem k22StoreNil : ((Rows.storeNilRow.plainKeys == Tryz.prog.plainKeys)) = true := by kernel_rfl
theorem k23StoreNil : (Rows.storeNilRow.shortTexts.isNone) = true := by kernel_rfl
theorem k24StoreNil : (Tryz.prog.stopsHeard) = true := by kernel_rfl
theorem k25StoreNil : (Tryz.prog.mayEnter) = true := by kernel_rfl
theorem k26StoreNil : ((Rows.storeNilRow.lifted == Tryz.prog.liftsFinal)) = true := by kernel_rfl
theorem k27StoreNil : ((Tryz.prog.make == some Rows.storeNilRow.make)) = true := by kernel_rfl
theorem k28StoreNil : ((Rows.storeNilRow.kinds == (if Rows.storeNilRow.domain.isEmpty then [] else Tryz.f3.params.toList.map fun t => match Tryz.prog.underlying t with | some (.int k) => some k | _ => none))) = true := by kernel_rfl
theorem k29StoreNil : ((Rows.storeNilRow.pinned == Rows.storeNilRow.pinnedBy)) = true := by kernel_rfl
theorem k30StoreNil : ((Rows.storeNilRow.veiled == (Tryz.f3.params.toList ++ Rows.storeNilSpec.plain.varTypes Tryz.prog ++ Tryz.f3.resultTypes.toList).any (Tryz.prog.veiledRec ·))) = true := by kernel_rfl
theorem k31StoreNil : (Rows.storeNilRow.veiledFits Tryz.prog Tryz.f3.params.toList (Tryz.f3.params.toList ++ Rows.storeNilSpec.plain.varTypes Tryz.prog ++ Tryz.f3.resultTypes.toList)) = true := by kernel_rfl
theorem closedStoreNil : joinedFacts Tryz.prog 3 Tryz.f3 Rows.storeNilSpec Rows.storeNilRow = true := band (band (band (band (band (band (band (band (band (band (band (band (band (band (band (band (band (band (band (band (band (band (band (band (band (band (band (band (band (band (band (k0StoreNil) k1StoreNil) k2StoreNil) k3StoreNil) k4StoreNil) k5StoreNil) k6StoreNil) k7StoreNil) k8StoreNil) k9StoreNil) k10StoreNil) k11StoreNil) k12StoreNil) k13StoreNil) k14StoreNil) k15StoreNil) k16StoreNil) k17StoreNil) k18StoreNil) k19StoreNil) k20StoreNil) k21StoreNil) k22StoreNil) k23StoreNil) k24StoreNil) k25StoreNil) k26StoreNil) k27StoreNil) k28StoreNil) k29StoreNil) k30StoreNil) k31StoreNil
end Go.Proofs.YtkolhhmgmakekaaGreat
