/- The closed facts of the row SessionNil, one by one: what the row's cells say of the program is what the program forces. -/
import Derived.Test.YtipjgmjmfkhcnaaGreatRows
import Derived.WalkKit
import Derived.ProofKit
namespace Go.Proofs.YtipjgmjmfkhcnaaGreat
open Go.ChangeShapes Go.WideShapes Go.ChangeAt Go.RowKit
set_option maxRecDepth 100000
theorem band {a b : Bool} (h : a = true) (g : b = true) : (a && b) = true := by rw [h, g]; rfl
theorem k0SessionNil : (Rows.sessionNilRow.wf (OpenSpec.ofChange Rows.sessionNilSpec)) = true := by kernel_rfl
theorem k1SessionNil : (laidOutB Tryz.prog) = true := by kernel_rfl
theorem k2SessionNil : (mapsRowed Tryz.prog) = true := by kernel_rfl
theorem k3SessionNil : (Tryz.f3.params.all (Tryz.prog.readableRec ·)) = true := by kernel_rfl
theorem k4SessionNil : (namedTie Tryz.prog Rows.sessionNilRow.named Rows.sessionNilSpec.vars) = true := by kernel_rfl
theorem k5SessionNil : ((Rows.sessionNilRow.stops == [])) = true := by kernel_rfl
theorem k6SessionNil : ((Tryz.prog.stops == [])) = true := by kernel_rfl
theorem k7SessionNil : ((Rows.sessionNilRow.knobs == [])) = true := by kernel_rfl
theorem k8SessionNil : ((Tryz.prog.stopKnobs == [])) = true := by kernel_rfl
theorem k9SessionNil : ((Rows.sessionNilRow.inPlace == Tryz.prog.inPlace 3)) = true := by kernel_rfl
theorem k10SessionNil : ((Rows.sessionNilRow.unfollowed == Tryz.prog.unfollowed 3)) = true := by kernel_rfl
theorem k11SessionNil : ((Rows.sessionNilRow.recurses == Tryz.prog.recurses 3)) = true := by kernel_rfl
theorem k12SessionNil : ((Rows.sessionNilRow.named == Tryz.prog.varsNamed 3)) = true := by kernel_rfl
theorem k13SessionNil : ((Rows.sessionNilRow.maps == (Tryz.f3.params.toList ++ Rows.sessionNilSpec.plain.varTypes Tryz.prog).any (Tryz.prog.mapsRec ·))) = true := by kernel_rfl
theorem k14SessionNil : ((Rows.sessionNilRow.ifaces == (Tryz.f3.params.toList ++ Rows.sessionNilSpec.plain.varTypes Tryz.prog).any (Tryz.prog.ifacesRec ·))) = true := by kernel_rfl
theorem k15SessionNil : ((Rows.sessionNilRow.mapsOut == Tryz.prog.mapsAmong Tryz.f3.resultTypes.toList)) = true := by kernel_rfl
theorem k16SessionNil : ((Rows.sessionNilRow.loops == (Tryz.f3.params.toList ++ Rows.sessionNilSpec.plain.varTypes Tryz.prog).any (Tryz.prog.loopsFrom ·))) = true := by kernel_rfl
theorem k17SessionNil : ((Rows.sessionNilRow.wideKeys == (Tryz.f3.params.toList ++ Rows.sessionNilSpec.plain.varTypes Tryz.prog ++ Tryz.f3.resultTypes.toList).any (Tryz.prog.wideKeysFrom ·))) = true := by kernel_rfl
theorem k18SessionNil : (Rows.sessionNilSpec.vars.all (Tryz.prog.varReadable ·)) = true := by kernel_rfl
theorem k19SessionNil : (Tryz.f3.resultTypes.all (fun t => Tryz.prog.readableRec t && decide (t < Tryz.prog.types.size))) = true := by kernel_rfl
theorem k20SessionNil : ((Rows.sessionNilRow.ifacesOut == Tryz.f3.resultTypes.toList.any (Tryz.prog.ifacesRec ·))) = true := by kernel_rfl
theorem k21SessionNil : ((Rows.sessionNilRow.loopsOut == Tryz.f3.resultTypes.toList.any (Tryz.prog.loopsFrom ·))) = true := by kernel_rfl
theorem k22SessionNil : ((Rows.sessionNilRow.plainKeys == Tryz.prog.plainKeys)) = true := by kernel_rfl
theorem k23SessionNil : (Rows.sessionNilRow.shortTexts.isNone) = true := by kernel_rfl
theorem k24SessionNil : (Tryz.prog.stopsHeard) = true := by kernel_rfl
theorem k25SessionNil : (Tryz.prog.mayEnter) = true := by kernel_rfl
theorem k26SessionNil : ((Rows.sessionNilRow.lifted == Tryz.prog.liftsFinal)) = true := by kernel_rfl
theorem k27SessionNil : ((Tryz.prog.make == some Rows.sessionNilRow.make)) = true := by kernel_rfl
theorem k28SessionNil : ((Rows.sessionNilRow.kinds == (if Rows.sessionNilRow.domain.isEmpty then [] else Tryz.f3.params.toList.map fun t => match Tryz.prog.underlying t with | some (.int k) => some k | _ => none))) = true := by kernel_rfl
theorem k29SessionNil : ((Rows.sessionNilRow.pinned == Rows.sessionNilRow.pinnedBy)) = true := by kernel_rfl
theorem k30SessionNil : ((Rows.sessionNilRow.veiled == (Tryz.f3.params.toList ++ Rows.sessionNilSpec.plain.varTypes Tryz.prog ++ Tryz.f3.resultTypes.toList).any (Tryz.prog.veiledRec ·))) = true := by kernel_rfl
theorem k31SessionNil : (Rows.sessionNilRow.veiledFits Tryz.prog Tryz.f3.params.toList (Tryz.f3.params.toList ++ Rows.sessionNilSpec.plain.varTypes Tryz.prog ++ Tryz.f3.resultTypes.toList)) = true := by kernel_rfl
theorem closedSessionNil : joinedFacts Tryz.prog 3 Tryz.f3 Rows.sessionNilSpec Rows.sessionNilRow = true := band (band (band (band (band (band (band (band (band (band (band (band (band (band (band (band (band (band (band (band (band (band (band (band (band (band (band (band (band (band (band (k0SessionNil) k1SessionNil) k2SessionNil) k3SessionNil) k4SessionNil) k5SessionNil) k6SessionNil) k7SessionNil) k8SessionNil) k9SessionNil) k10SessionNil) k11SessionNil) k12SessionNil) k13SessionNil) k14SessionNil) k15SessionNil) k16SessionNil) k17SessionNil) k18SessionNil) k19SessionNil) k20SessionNil) k21SessionNil) k22SessionNil) k23SessionNil) k24SessionNil) k25SessionNil) k26SessionNil) k27SessionNil) k28SessionNil) k29SessionNil) k30SessionNil) k31SessionNil
end Go.Proofs.YtipjgmjmfkhcnaaGreat
