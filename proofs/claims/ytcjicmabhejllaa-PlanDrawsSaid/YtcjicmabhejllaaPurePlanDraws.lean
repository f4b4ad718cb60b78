/- PlanDraws: of any state the one behind a draw, and what is drawn, are the chapter's. Condition: the argument is a uint64. -/
import Derived.Test.YtcjicmabhejllaaPPlanDrawsx1
import Derived.Test.YtcjicmabhejllaaBits
namespace Go.Proofs.Ytcjicmabhejllaa.Pure
open Go.RowKit Go.Proofs.Ytcjicmabhejllaa.PPlanDraws Go.Proofs.YtcjicmabhejllaaW.PrintWords Go.Proofs.YtcjicmabhejllaaW.PrintLast Go.Proofs.YtcjicmabhejllaaBits

theorem next_ne {a : Int} (a0 : 0 < a) (a1 : a < 18446744073709551616) :
    let x := Go.bits .xor .u64 a (a / 4096)
    let y := Go.bits .xor .u64 x (IntKind.u64.wrap (x * 33554432))
    Go.bits .xor .u64 y (y / 134217728) ≠ 0 := by
  intro x y h
  have rx := xor_range a (a / 4096)
  have ry := xor_range x (IntKind.u64.wrap (x * 33554432))
  have h1 : y = y / 134217728 := xor_zero ry.1 ry.2 (by omega) (by omega) h
  have y0 : y = 0 := by omega
  have h2 : x = IntKind.u64.wrap (x * 33554432) := xor_zero rx.1 rx.2 (by rw [u64w]; omega) (by rw [u64w]; omega) y0
  rw [u64w] at h2
  have x0 : x = 0 := by
    have : 0 ≤ x := rx.1
    have : x < 18446744073709551616 := rx.2
    clear_value x
    omega
  have h3 : a = a / 4096 := xor_zero (by omega) a1 (by omega) (by omega) x0
  omega

theorem turn_f (a b : Int) : haycroftref03_Turn.f a b = some (Go.bits .xor .u64 a b) := by
  unfold haycroftref03_Turn.f; rw [turn_xor]

theorem next_f (a : Int) (a0 : 0 < a) (a1 : a < 18446744073709551616) :
    haycroftref32_Next.f a = some (
      let x := Go.bits .xor .u64 a (a / 4096)
      let y := Go.bits .xor .u64 x (IntKind.u64.wrap (x * 33554432))
      Go.bits .xor .u64 y (y / 134217728)) := by
  unfold haycroftref32_Next.f
  rw [if_neg (by omega)]
  simp only [turn_f, Option.bind_some]
  rw [shr_tdiv a (by omega) a1 _ (by omega)]
  have ry := xor_range (Go.bits .xor .u64 a (a / 4096)) (IntKind.u64.wrap (Go.bits .xor .u64 a (a / 4096) * 33554432))
  rw [shr_tdiv _ ry.1 ry.2 _ (by omega)]

theorem next_zero : haycroftref32_Next.f 0 = haycroftref32_Next.f 1 := by decide +kernel
theorem draw_zero : plan_Draw.f 0 = plan_Draw.f 1 := by decide +kernel
theorem awake_f : haycroftlaw32_awake.f = some true := by decide +kernel

theorem law_pos (a : Int) (a0 : 0 < a) (a1 : a < 18446744073709551616) : haycroftlaw32_PlanDraws.f a = some true := by
  unfold haycroftlaw32_PlanDraws.f
  rw [awake_f]
  simp only [Option.bind_some, if_true]
  unfold plan_Draw.f
  rw [if_neg (by omega)]
  rw [next_f a a0 a1]
  have hn := next_ne a0 a1
  simp only [Option.bind_some]
  simp only at hn
  simpa using hn

theorem PlanDraws : haycroftlaw32_PlanDraws.Pure := by
  intro a h
  simp only [Lit.wf, IntKind.min, IntKind.max, IntKind.signed, IntKind.bits, Bool.and_eq_true] at h
  by_cases h0 : a = 0
  · subst h0
    have := law_pos 1 (by omega) (by omega)
    unfold haycroftlaw32_PlanDraws.f at this ⊢
    rw [next_zero, draw_zero]; exact this
  · exact law_pos a (by simp at h; omega) (by simp at h; omega)

end Go.Proofs.Ytcjicmabhejllaa.Pure
