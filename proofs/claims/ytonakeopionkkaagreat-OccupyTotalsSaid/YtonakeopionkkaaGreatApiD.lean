/- ApiD: the program's plain data, as lists of cells. -/
import Derived.Test.YtonakeopionkkaaGreatEvSl
set_option linter.unusedVariables false
namespace Go.Ev
open Go.RowKit
structure OpD where
  kind : Int
  key : ByteArray
  val : ByteArray
  n : Int
deriving DecidableEq
def OpD.cells (d : OpD) : List AV := [.int .i64 d.kind, .str d.key, .str d.val, .int .u64 d.n]
/-- A step: its picks as they are handed on. -/
structure StepD where
  kind : Int
  s : Int
  n : Int
  op : OpD
  picks : AV
def StepD.cells (d : StepD) : List AV := [.int .i64 d.kind, .int .i64 d.s, .int .i64 d.n, .int .i64 d.op.kind, .str d.op.key, .str d.op.val, .int .u64 d.op.n, d.picks]
theorem StepD.solid {d : StepD} (h : scal d.picks = true) : d.cells.all AV.solid = true := by
  simp only [StepD.cells, List.all_cons, List.all_nil, sol_int, sol_str, scal_solid h, Bool.and_self]
theorem any_idx {α : Type} (ds : List α) (f : α → Bool) (p : Nat → Bool) (hp : ∀ i (h : i < ds.length), p i = f ds[i]) : (∃ j, j < ds.length ∧ p j = true) ↔ ds.any f = true := by
  rw [List.any_eq_true]
  constructor
  · rintro ⟨j, hj, h⟩; exact ⟨ds[j], List.getElem_mem hj, by rw [← hp j hj]; exact h⟩
  · rintro ⟨x, hx, h⟩
    obtain ⟨j, hj, rfl⟩ := List.mem_iff_getElem.1 hx
    exact ⟨j, hj, by rw [hp j hj]; exact h⟩
end Go.Ev
