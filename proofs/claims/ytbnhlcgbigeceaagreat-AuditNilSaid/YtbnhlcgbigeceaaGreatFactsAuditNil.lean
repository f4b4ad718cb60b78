/- The closed facts of the row AuditNil, one by one: what the row's cells say of the program is what the program forces. -/
import Derived.Test.YtbnhlcgbigeceaaGreatRows
import Derived.WalkKit
import Derived.ProofKit
namespace Go.Proofs.YtbnhlcgbigeceaaGreat
open Go.ChangeShapes Go.WideShapes Go.ChangeAt Go.RowKit
set_option maxRecDepth 100000
theorem band {a b : Bool} (h : a = true) (g : b = true) : (a && b) = true := by rw [h, g]; rfl
theorem k0AuditNil : (Rows.auditNilRow.wf (OpenSpec.ofChange Rows.auditNilSpec)) = true := by kernel_rfl
theorem k1AuditNil : (laidOutB Tryz.prog) = true := by kernel_rfl
theorem k2AuditNil : (mapsRowed Tryz.prog) = true := by kernel_rfl
theorem k3AuditNil : (Tryz.f3.params.all (Tryz.prog.readableRec ·)) = true := by kernel_rfl
theorem k4AuditNil : (namedTie Tryz.prog Rows.auditNilRow.named Rows.auditNilSpec.vars) = true := by kernel_rfl
theorem k5AuditNil : ((Rows.auditNilRow.stops == [])) = true := by kernel_rfl
theorem k6AuditNil : ((Tryz.prog.stops == [])) = true := by kernel_rfl
theorem k7AuditNil : ((Rows.auditNilRow.knobs == [])) = true := by kernel_rfl
theorem k8AuditNil : ((Tryz.prog.stopKnobs == [])) = true := by kernel_rfl
theorem k9AuditNil : ((Rows.auditNilRow.inPlace == Tryz.prog.inPlace 3)) = true := by kernel_rfl
theorem k10AuditNil : ((Rows.auditNilRow.unfollowed == Tryz.prog.unfollowed 3)) = true := by kernel_rfl
theorem k11AuditNil : ((Rows.auditNilRow.recurses == Tryz.prog.recurses 3)) = true := by kernel_rfl
theorem k12AuditNil : ((Rows.auditNilRow.named == Tryz.prog.varsNamed 3)) = true := by kernel_rfl
theorem k13AuditNil : ((Rows.auditNilRow.maps == (Tryz.f3.params.toList ++ Rows.auditNilSpec.plain.varTypes Tryz.prog).any (Tryz.prog.mapsRec ·))) = true := by kernel_rfl
theorem k14AuditNil : ((Rows.auditNilRow.ifaces == (Tryz.f3.params.toList ++ Rows.auditNilSpec.plain.varTypes Tryz.prog).any (Tryz.prog.ifacesRec ·))) = true := by kernel_rfl
theorem k15AuditNil : ((Rows.auditNilRow.mapsOut == Tryz.prog.mapsAmong Tryz.f3.resultTypes.toList)) = true := by kernel_rfl
theorem k16AuditNil : ((Rows.auditNilRow.loops == (Tryz.f3.params.toList ++ Rows.auditNilSpec.plain.varTypes Tryz.prog).any (Tryz.prog.loopsFrom ·))) = true := by kernel_rfl
theorem k17AuditNil : ((Rows.auditNilRow.wideKeys == (Tryz.f3.params.toList ++ Rows.auditNilSpec.plain.varTypes Tryz.prog ++ Tryz.f3.resultTypes.toList).any (Tryz.prog.wideKeysFrom ·))) = true := by kernel_rfl
theorem k18AuditNil : (Rows.auditNilSpec.vars.all (Tryz.prog.varReadable ·)) = true := by kernel_rfl
theorem k19AuditNil : (Tryz.f3.resultTypes.all (fun t => Tryz.prog.readableRec t && decide (t < Tryz.prog.types.size))) = true := by kernel_rfl
theorem k20AuditNil : ((Rows.auditNilRow.ifacesOut == Tryz.f3.resultTypes.toList.any (Tryz.prog.ifacesRec ·))) = true := by kernel_rfl
theorem k21AuditNil : ((Rows.auditNilRow.loopsOut == Tryz.f3.resultTypes.toList.any (Tryz.prog.loopsFrom ·))) = true := by kernel_rfl
theorem k22AuditNil : ((Rows.auditNilRow.plainKeys == Tryz.prog.plainKeys)) = true := by kernel_rfl
theorem k23AuditNil : (Rows.auditNilRow.shortTexts.isNone) = true := by kernel_rfl
theorem k24AuditNil : (Tryz.prog.stopsHeard) = true := by kernel_rfl
theorem k25AuditNil : (Tryz.prog.mayEnter) = true := by kernel_rfl
theorem k26AuditNil : ((Rows.auditNilRow.lifted == Tryz.prog.liftsFinal)) = true := by kernel_rfl
theorem k27AuditNil : ((Tryz.prog.make == some Rows.auditNilRow.make)) = true := by kernel_rfl
theorem k28AuditNil : ((Rows.auditNilRow.kinds == (if Rows.auditNilRow.domain.isEmpty then [] else Tryz.f3.params.toList.map fun t => match Tryz.prog.underlying t with | some (.int k) => some k | _ => none))) = true := by kernel_rfl
theorem k29AuditNil : ((Rows.auditNilRow.pinned == Rows.auditNilRow.pinnedBy)) = true := by kernel_rfl
theorem k30AuditNil : ((Rows.auditNilRow.veiled == (Tryz.f3.params.toList ++ Rows.auditNilSpec.plain.varTypes Tryz.prog ++ Tryz.f3.resultTypes.toList).any (Tryz.prog.veiledRec ·))) = true := by kernel_rfl
theorem k31AuditNil : (Rows.auditNilRow.veiledFits Tryz.prog Tryz.f3.params.toList (Tryz.f3.params.toList ++ Rows.auditNilSpec.plain.varTypes Tryz.prog ++ Tryz.f3.resultTypes.toList)) = true := by kernel_rfl
theorem closedAuditNil : joinedFacts Tryz.prog 3 Tryz.f3 Rows.auditNilSpec Rows.auditNilRow = true := band (band (band (band (band (band (band (band (band (band (band (band (band (band (band (band (band (band (band (band (band (band (band (band (band (band (band (band (band (band (band (k0AuditNil) k1AuditNil) k2AuditNil) k3AuditNil) k4AuditNil) k5AuditNil) k6AuditNil) k7AuditNil) k8AuditNil) k9AuditNil) k10AuditNil) k11AuditNil) k12AuditNil) k13AuditNil) k14AuditNil) k15AuditNil) k16AuditNil) k17AuditNil) k18AuditNil) k19AuditNil) k20AuditNil) k21AuditNil) k22AuditNil) k23AuditNil) k24AuditNil) k25AuditNil) k26AuditNil) k27AuditNil) k28AuditNil) k29AuditNil) k30AuditNil) k31AuditNil
end Go.Proofs.YtbnhlcgbigeceaaGreat
