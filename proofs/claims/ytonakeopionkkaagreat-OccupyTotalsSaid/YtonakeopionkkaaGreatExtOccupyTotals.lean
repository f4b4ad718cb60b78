/- The functions without a Go body are the ones that the evaluator knows. -/
import Derived.Test.YtonakeopionkkaaGreatEvKR
import Derived.Test.YtonakeopionkkaaGreatLf
import Derived.KernelRfl
namespace Go.Proofs.YtonakeopionkkaaGreat
open Go.Ev Go.RowKit
set_option maxRecDepth 1000000 in
theorem cx_ext (ρ : Addr → Option Value) : ExtOK (cx ρ) := by
  intro f k h
  unfold cx xk at h
  simp only at h
  split at h <;> first | (cases h; done) | (obtain rfl := Option.some.inj h; exact ⟨_, rfl, by kernel_rfl, by kernel_rfl, by kernel_rfl, by kernel_rfl⟩)
end Go.Proofs.YtonakeopionkkaaGreat
