/- The law AuditNil, called with any arguments, comes to its end and tells true: the run, by the functions as they are lifted. -/
import Derived.Test.YtbnhlcgbigeceaaGreatEvK
import Derived.Test.YtbnhlcgbigeceaaGreatLf
import Derived.KernelRfl
namespace Go.Proofs.YtbnhlcgbigeceaaGreat
open Go.Ev Go.RowKit
set_option maxRecDepth 1000000 in
theorem cx_ext : ExtOK (cx fun _ => none) := by
  intro f k h
  unfold cx xk at h
  simp only at h
  split at h <;> first | (cases h; done) | (obtain rfl := Option.some.inj h; exact ⟨_, rfl, by kernel_rfl, by kernel_rfl, by kernel_rfl, by kernel_rfl⟩)
def tells : Res → Bool
  | some (.bool b, _) => b
  | _ => false
theorem of_tells : ∀ {r : Res}, tells r = true → ∃ H, r = some (.bool true, H)
  | some (.bool true, H), _ => ⟨H, rfl⟩
set_option maxRecDepth 1000000 in
theorem run (a0 : Int) (a1 : ByteArray) : tells (fast (fun _ => none) 100 0 3 [.ext (.int .u64 a0), .ext (.string a1)] Heap.nil) = true := by kernel_rfl
theorem walk (a0 : Int) (a1 : ByteArray) (w : World) : Calls Tryz.prog 3 #[.int .u64 a0, .string a1] w fun e w' => e = .returned (.bool true) ∧ Below w.heap.size w w' := by
  obtain ⟨H1, h⟩ := of_tells (run a0 a1)
  rw [fast_eq] at h
  exact calls_of_run (C := cx fun _ => none) (vs := [.int .u64 a0, .string a1]) (fun _ => rfl) (by kernel_rfl) cx_ext Tryz.func3 rfl h (⟨_, _, rfl, rfl, ⟨_, _, rfl, rfl, rfl⟩⟩)
end Go.Proofs.YtbnhlcgbigeceaaGreat
