/- The law WatchNil, called with any arguments, comes to its end and tells true: the run, by the functions as they are lifted. -/
import Derived.Test.YtdiafdmgenefnaaGreatEvK
import Derived.Test.YtdiafdmgenefnaaGreatLf
import Derived.KernelRfl
namespace Go.Proofs.YtdiafdmgenefnaaGreat
open Go.Ev Go.RowKit
set_option maxRecDepth 1000000 in
theorem cx_ext : ExtOK (cx fun _ => none) := by
  intro f k h
  unfold cx xk at h
  simp only at h
  split at h <;> first | (cases h; done) | (obtain rfl := Option.some.inj h; exact ⟨_, rfl, by kernel_rfl, by kernel_rfl, by kernel_rfl, by kernel_rfl⟩)
def tells : Res → Bool
  | some (.bool b, _) => b
  | _ => false
theorem of_tells : ∀ {r : Res}, tells r = true → ∃ H, r = some (.bool true, H)
  | some (.bool true, H), _ => ⟨H, rfl⟩
set_option maxRecDepth 1000000 in
theorem run (c0_0 : Int) (c0_1 : Int) (c0_2 : Int) (c0_3 : Int) (c0_4 : ByteArray) (c0_5 : ByteArray) (c0_6 : Int) (c0_7p : Option Addr) (c0_7n : Nat) (c0_7c : Nat) : tells (fast (fun _ => none) 100 0 3 [.agg [.ext (.int .i64 c0_0), .ext (.int .i64 c0_1), .ext (.int .i64 c0_2), .ext (.int .i64 c0_3), .ext (.string c0_4), .ext (.string c0_5), .ext (.int .u64 c0_6), .ext (.slice c0_7p c0_7n c0_7c)]] Heap.nil) = true := by kernel_rfl
theorem walk (c0_0 : Int) (c0_1 : Int) (c0_2 : Int) (c0_3 : Int) (c0_4 : ByteArray) (c0_5 : ByteArray) (c0_6 : Int) (c0_7p : Option Addr) (c0_7n : Nat) (c0_7c : Nat) (w : World) : Calls Tryz.prog 3 #[.agg #[.int .i64 c0_0, .int .i64 c0_1, .int .i64 c0_2, .int .i64 c0_3, .string c0_4, .string c0_5, .int .u64 c0_6, .slice c0_7p c0_7n c0_7c]] w fun e w' => e = .returned (.bool true) ∧ Below w.heap.size w w' := by
  obtain ⟨H1, h⟩ := of_tells (run c0_0 c0_1 c0_2 c0_3 c0_4 c0_5 c0_6 c0_7p c0_7n c0_7c)
  rw [fast_eq] at h
  exact calls_of_run (C := cx fun _ => none) (vs := [.agg #[.int .i64 c0_0, .int .i64 c0_1, .int .i64 c0_2, .int .i64 c0_3, .string c0_4, .string c0_5, .int .u64 c0_6, .slice c0_7p c0_7n c0_7c]]) (fun _ => rfl) (by kernel_rfl) cx_ext Tryz.func3 rfl h (⟨_, _, rfl, ⟨_, rfl, ⟨_, _, rfl, rfl, ⟨_, _, rfl, rfl, ⟨_, _, rfl, rfl, ⟨_, _, rfl, rfl, ⟨_, _, rfl, rfl, ⟨_, _, rfl, rfl, ⟨_, _, rfl, rfl, ⟨_, _, rfl, rfl, rfl⟩⟩⟩⟩⟩⟩⟩⟩⟩, rfl⟩)
end Go.Proofs.YtdiafdmgenefnaaGreat
