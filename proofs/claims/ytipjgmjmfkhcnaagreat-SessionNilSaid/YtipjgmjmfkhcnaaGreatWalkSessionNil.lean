/- The law SessionNil, called with any arguments, comes to its end and tells true. -/
import Derived.Test.YtipjgmjmfkhcnaaGreatExtSessionNil
import Derived.Test.YtipjgmjmfkhcnaaGreatSessionNil
namespace Go.Proofs.YtipjgmjmfkhcnaaGreat
open Go.Ev Go.RowKit
theorem walk (c0_0 : Int) (c0_1 : ByteArray) (c0_2 : ByteArray) (c0_3 : Int) (a1 : Int) (w : World) : Calls Tryz.prog 3 #[.agg #[.int .i64 c0_0, .string c0_1, .string c0_2, .int .u64 c0_3], .int .i64 a1] w fun e w' => e = .returned (.bool true) ∧ Below w.heap.size w w' := by
  obtain ⟨H1, h⟩ := law_run c0_0 c0_3 c0_1 c0_2 a1
  exact calls_of_run_reads (C := cx ρ0) (vs := [.agg #[.int .i64 c0_0, .string c0_1, .string c0_2, .int .u64 c0_3], .int .i64 a1]) (fun a v e => by cases e) (by kernel_rfl) (cx_ext _) Tryz.func3 rfl h (⟨_, _, rfl, ⟨_, rfl, ⟨_, _, rfl, rfl, ⟨_, _, rfl, rfl, ⟨_, _, rfl, rfl, ⟨_, _, rfl, rfl, rfl⟩⟩⟩⟩⟩, ⟨_, _, rfl, rfl, rfl⟩⟩)
end Go.Proofs.YtipjgmjmfkhcnaaGreat
