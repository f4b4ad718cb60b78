/- The law OccupyNil, called with any arguments, comes to its end and tells true: the run, by the evaluator. -/
import Derived.Test.YtonakeopionkkaaGreatEvK
import Derived.Test.YtonakeopionkkaaGreatProg
import Derived.KernelRfl
namespace Go.Proofs.YtonakeopionkkaaGreat
open Go.Ev Go.RowKit
def dr : FuncId → Nat → Option (List (Nat × Bool))
  | 4, 29 => some [(0, true), (2, true), (1, false), (3, true), (4, true), (5, true), (6, true), (7, true), (8, true), (9, true), (10, true), (11, true), (12, true), (13, true), (14, true), (15, true), (16, true), (17, true), (19, true), (18, false), (20, false), (21, true), (22, true)]
  | 97, 6 => some [(0, true), (1, true), (2, true), (3, true), (4, true), (5, true), (7, true), (9, true), (6, false), (8, true), (10, false), (11, true), (12, true), (13, true), (14, true)]
  | 98, 3 => some [(0, true), (1, true), (2, true), (3, true), (4, true), (5, true), (6, true), (7, true), (9, true), (11, true), (12, true), (13, true), (14, true), (8, false), (10, false), (15, false), (16, false), (17, true)]
  | 111, 4 => some [(0, true), (1, true), (2, true), (5, true), (6, true), (7, true), (3, false), (4, false), (8, true), (9, true)]
  | 115, 3 => some [(0, true), (1, true), (2, true), (3, true), (4, true), (7, true), (5, false), (6, false), (8, false), (9, true), (10, true), (11, true)]
  | 124, 1 => some [(0, true), (1, true), (2, true), (3, true), (4, true), (5, true), (6, true), (7, true), (8, true), (9, true), (10, true), (11, true), (12, true), (15, true), (13, false), (14, false), (16, false), (17, true), (18, true), (19, true)]
  | 133, 3 => some [(9, true), (0, true), (1, true), (2, true), (3, true), (5, true), (6, true), (4, false), (7, false), (8, true), (10, false), (11, true), (12, true), (13, true), (14, true)]
  | 135, 5 => some [(0, true), (1, true), (3, true), (6, true), (7, true), (8, true), (2, false), (4, true), (5, true), (9, true), (10, true), (11, true)]
  | _, _ => none
def xk : FuncId → Option XK
  | 68 => some (.load .u64)
  | 158 => some (.store)
  | 159 => some (.cas .u64)
  | 160 => some (.add .i64)
  | _ => none
noncomputable def cx : Ctx := { P := Tryz.prog, ext := xk, ρ := fun _ => none, live := fun _ _ => none, draw := dr, pur := fun _ => false, strict := true }
set_option maxRecDepth 1000000 in
theorem cx_ext : ExtOK cx := by
  intro f k h
  unfold cx xk at h
  simp only at h
  split at h <;> first | (cases h; done) | (obtain rfl := Option.some.inj h; exact ⟨_, rfl, by kernel_rfl, by kernel_rfl, by kernel_rfl, by kernel_rfl⟩)
def tells : Res → Bool
  | some (.bool b, _) => b
  | _ => false
theorem of_tells : ∀ {r : Res}, tells r = true → ∃ H, r = some (.bool true, H)
  | some (.bool true, H), _ => ⟨H, rfl⟩
set_option maxRecDepth 1000000 in
theorem run (a0 : Int) : tells (evCall cx 100 0 3 [.ext (.int .i64 a0)] Heap.nil) = true := by kernel_rfl
theorem walk (a0 : Int) (w : World) : Calls Tryz.prog 3 #[.int .i64 a0] w fun e w' => e = .returned (.bool true) ∧ Below w.heap.size w w' := by
  obtain ⟨H1, h⟩ := of_tells (run a0)
  exact calls_of_run (C := cx) (vs := [.int .i64 a0]) (fun _ => rfl) (by kernel_rfl) cx_ext Tryz.func3 rfl h (⟨_, _, rfl, rfl, rfl⟩)
end Go.Proofs.YtonakeopionkkaaGreat
