/- The law ProbeNil, called with any arguments, comes to its end and tells true: the run, by the evaluator. -/
import Derived.Test.YtfmalgadefikoaaGreatEvK
import Derived.Test.YtfmalgadefikoaaGreatProg
import Derived.KernelRfl
namespace Go.Proofs.YtfmalgadefikoaaGreat
open Go.Ev Go.RowKit
def dr : FuncId → Nat → Option (List (Nat × Bool))
  | 28, 1 => some [(0, true), (1, true), (2, true), (3, true), (5, true), (6, true), (7, true), (8, true), (4, false), (9, false), (10, true), (11, false), (12, true)]
  | 53, 4 => some [(0, true), (1, true), (2, true), (5, true), (6, true), (7, true), (3, false), (4, false), (8, true), (9, true)]
  | 122, 3 => some [(9, true), (0, true), (1, true), (2, true), (3, true), (5, true), (6, true), (4, false), (7, false), (8, true), (10, false), (11, true), (12, true), (13, true), (14, true)]
  | 134, 5 => some [(0, true), (1, true), (3, true), (6, true), (7, true), (8, true), (2, false), (4, true), (5, true), (9, true), (10, true), (11, true)]
  | _, _ => none
def xk : FuncId → Option XK
  | _ => none
noncomputable def cx : Ctx := { P := Tryz.prog, ext := xk, ρ := fun _ => none, live := fun _ _ => none, draw := dr, pur := fun _ => false, strict := true }
theorem cx_ext : ExtOK cx := by
  intro f k h
  exact absurd h (by simp [cx, xk])
def tells : Res → Bool
  | some (.bool b, _) => b
  | _ => false
theorem of_tells : ∀ {r : Res}, tells r = true → ∃ H, r = some (.bool true, H)
  | some (.bool true, H), _ => ⟨H, rfl⟩
theorem run (a0 : Int) (a1 : Int) : tells (evCall cx 100 0 3 [.ext (.int .i64 a0), .ext (.int .i64 a1)] Heap.nil) = true := by kernel_rfl
theorem walk (a0 : Int) (a1 : Int) (w : World) : Calls Tryz.prog 3 #[.int .i64 a0, .int .i64 a1] w fun e w' => e = .returned (.bool true) ∧ Below w.heap.size w w' := by
  obtain ⟨H1, h⟩ := of_tells (run a0 a1)
  exact calls_of_run (C := cx) (vs := [.int .i64 a0, .int .i64 a1]) (fun _ => rfl) (by kernel_rfl) cx_ext Tryz.func3 rfl h (⟨_, _, rfl, rfl, ⟨_, _, rfl, rfl, rfl⟩⟩)
end Go.Proofs.YtfmalgadefikoaaGreat
