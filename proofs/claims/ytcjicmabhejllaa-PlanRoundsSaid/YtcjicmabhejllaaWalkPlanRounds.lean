/- The law PlanRounds, called with any arguments, comes to its end and tells true. -/
import Derived.Test.YtcjicmabhejllaaExtPlanRounds
import Derived.Test.YtcjicmabhejllaaPlF
namespace Go.Proofs.Ytcjicmabhejllaa
open Go.Ev Go.RowKit
theorem walk (a0 : Int) (a1 : Int) (a2 : Int) (w : World) : Calls Try.prog 6 #[.int .i64 a0, .int .i64 a1, .int .i64 a2] w fun e w' => e = .returned (.bool true) ∧ Below w.heap.size w w' := by
  obtain ⟨H1, h⟩ := law_run a0 a1 a2
  exact calls_of_run_reads (C := cx ρ0) (vs := [.int .i64 a0, .int .i64 a1, .int .i64 a2]) (fun a v e => by cases e) (by kernel_rfl) (cx_ext _) Try.func6 rfl h (⟨_, _, rfl, rfl, ⟨_, _, rfl, rfl, ⟨_, _, rfl, rfl, rfl⟩⟩⟩)
end Go.Proofs.Ytcjicmabhejllaa
