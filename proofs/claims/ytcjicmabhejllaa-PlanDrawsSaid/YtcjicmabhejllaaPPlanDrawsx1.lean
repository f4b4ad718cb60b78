-- PRINTED BY print.sh 35421559b90ae4d0a3588c463048766b98c2df88dd9212a6774a882060cdf62d: not written by this session
import Derived.Test.YtcjicmabhejllaaPPlanDrawsx0
namespace Go.Proofs.Ytcjicmabhejllaa.PPlanDraws
open Go.RowKit Go.Proofs.YtcjicmabhejllaaW.PrintWords Go.Proofs.YtcjicmabhejllaaW.PrintLast Go.Proofs.YtcjicmabhejllaaW.PrintMore
attribute [local go_sem] max2_int min2_int max_two min_two max_three min_three max_four min_four   -- for this text's walks alone
set_option linter.unusedVariables false
set_option linter.unusedSimpArgs false

/-! ### plan_Draw: function 10 -/
def plan_Draw.f (a0 : Int) : Option (Int × Int) := if a0 = 0 then (some (Go.bits .xor .u64 (Go.bits .xor .u64 (Go.bits .xor .u64 1 (1 / 4096)) (IntKind.u64.wrap ((Go.bits .xor .u64 1 (1 / 4096)) * 33554432))) ((Go.bits .xor .u64 (Go.bits .xor .u64 1 (1 / 4096)) (IntKind.u64.wrap ((Go.bits .xor .u64 1 (1 / 4096)) * 33554432))) / 134217728), IntKind.u64.wrap ((Go.bits .xor .u64 (Go.bits .xor .u64 (Go.bits .xor .u64 1 (1 / 4096)) (IntKind.u64.wrap ((Go.bits .xor .u64 1 (1 / 4096)) * 33554432))) ((Go.bits .xor .u64 (Go.bits .xor .u64 1 (1 / 4096)) (IntKind.u64.wrap ((Go.bits .xor .u64 1 (1 / 4096)) * 33554432))) / 134217728)) * 2685821657736338717))) else (some (Go.bits .xor .u64 (Go.bits .xor .u64 (Go.bits .xor .u64 a0 (a0 / 4096)) (IntKind.u64.wrap ((Go.bits .xor .u64 a0 (a0 / 4096)) * 33554432))) ((Go.bits .xor .u64 (Go.bits .xor .u64 a0 (a0 / 4096)) (IntKind.u64.wrap ((Go.bits .xor .u64 a0 (a0 / 4096)) * 33554432))) / 134217728), IntKind.u64.wrap ((Go.bits .xor .u64 (Go.bits .xor .u64 (Go.bits .xor .u64 a0 (a0 / 4096)) (IntKind.u64.wrap ((Go.bits .xor .u64 a0 (a0 / 4096)) * 33554432))) ((Go.bits .xor .u64 (Go.bits .xor .u64 a0 (a0 / 4096)) (IntKind.u64.wrap ((Go.bits .xor .u64 a0 (a0 / 4096)) * 33554432))) / 134217728)) * 2685821657736338717)))
set_option maxHeartbeats 8000000 in
set_option maxRecDepth 100000 in
theorem plan_Draw.calls (a0 : Int) (r1 : Int) (r2 : Int) (w : World) (h : plan_Draw.f a0 = some (r1, r2)) :
    Calls Try.prog 10 #[.int .u64 a0] w fun e w' => e = .returned (.tuple #[.int .u64 r1, .int .u64 r2]) ∧ Drawn0 w w' := by
  have H : (if a0 = 0 then (some (Go.bits .xor .u64 (Go.bits .xor .u64 (Go.bits .xor .u64 1 (1 / 4096)) (IntKind.u64.wrap ((Go.bits .xor .u64 1 (1 / 4096)) * 33554432))) ((Go.bits .xor .u64 (Go.bits .xor .u64 1 (1 / 4096)) (IntKind.u64.wrap ((Go.bits .xor .u64 1 (1 / 4096)) * 33554432))) / 134217728), IntKind.u64.wrap ((Go.bits .xor .u64 (Go.bits .xor .u64 (Go.bits .xor .u64 1 (1 / 4096)) (IntKind.u64.wrap ((Go.bits .xor .u64 1 (1 / 4096)) * 33554432))) ((Go.bits .xor .u64 (Go.bits .xor .u64 1 (1 / 4096)) (IntKind.u64.wrap ((Go.bits .xor .u64 1 (1 / 4096)) * 33554432))) / 134217728)) * 2685821657736338717))) else (some (Go.bits .xor .u64 (Go.bits .xor .u64 (Go.bits .xor .u64 a0 (a0 / 4096)) (IntKind.u64.wrap ((Go.bits .xor .u64 a0 (a0 / 4096)) * 33554432))) ((Go.bits .xor .u64 (Go.bits .xor .u64 a0 (a0 / 4096)) (IntKind.u64.wrap ((Go.bits .xor .u64 a0 (a0 / 4096)) * 33554432))) / 134217728), IntKind.u64.wrap ((Go.bits .xor .u64 (Go.bits .xor .u64 (Go.bits .xor .u64 a0 (a0 / 4096)) (IntKind.u64.wrap ((Go.bits .xor .u64 a0 (a0 / 4096)) * 33554432))) ((Go.bits .xor .u64 (Go.bits .xor .u64 a0 (a0 / 4096)) (IntKind.u64.wrap ((Go.bits .xor .u64 a0 (a0 / 4096)) * 33554432))) / 134217728)) * 2685821657736338717)))) = some (r1, r2) := h
  clear h
  by_cases c2 : a0 = 0
  · rw [if_pos c2] at H
    have c2b0 : (a0 == 0) = true := beq_iff_eq.mpr c2
    have c2b1 : (a0 != 0) = false := bne_eq_false_iff_eq.mpr c2
    clear c2
    simp only [Option.some.injEq, Prod.mk.injEq] at H
    obtain ⟨rfl, rfl⟩ := H
    go_enter Try.func10, Try.ntmps10
    go_wp2
    go_ret2
    exact ⟨by first | rfl | (simp; done) | (simp [*]; done), by repeat (first | exact Drawn0.refl _ | apply Drawn0.step)⟩
  · rw [if_neg c2] at H
    have c2b0 : (a0 == 0) = false := beq_eq_false_iff_ne.mpr c2
    have c2b1 : (a0 != 0) = true := bne_iff_ne.mpr c2
    simp only [Option.some.injEq, Prod.mk.injEq] at H
    obtain ⟨rfl, rfl⟩ := H
    go_enter Try.func10, Try.ntmps10
    go_wp2
    go_ret2
    exact ⟨by first | rfl | (simp; done) | (simp [*]; done), by repeat (first | exact Drawn0.refl _ | apply Drawn0.step)⟩

/-! ### haycroftlaw32_awake: function 9 -/
def haycroftlaw32_awake.f  : Option (Bool) := (plan_Draw.f 1).bind fun bt101 => (some (bt101.1 == 33554433))
set_option maxHeartbeats 8000000 in
set_option maxRecDepth 100000 in
theorem haycroftlaw32_awake.calls  (r : Bool) (w : World) (h : haycroftlaw32_awake.f  = some r) :
    Calls Try.prog 9 #[] w fun e w' => e = .returned (.bool r) ∧ Drawn0 w w' := by
  have H : ((plan_Draw.f 1).bind fun bt101 => (some (bt101.1 == 33554433))) = some r := h
  clear h
  replace H := Option.bind_eq_some_iff.mp H
  obtain ⟨⟨t101, t102⟩, A10, H⟩ := H
  replace H : (some (t101 == 33554433)) = some r := H
  have A1 := Aside0.mk A10
  clear A10
  obtain rfl := Option.some.inj H
  go_enter Try.func9, Try.ntmps9
  go_wp2_with (first | ((with_reducible refine gate_callee (f := 10) rfl ?_); refine goesL_ (some 4) rfl rfl Try.func10 (by kernel_rfl) rfl #[.int .u64 1] rfl (by (try simp only [List.map_toArray, List.map_cons, List.map_nil]); first | done | rfl | (simp only [List.length_drop, List.length_take]; rfl)) ?_; (with_reducible refine (plan_Draw.calls 1 t101 t102 _ A1.out).mono ?_); rintro e w' ⟨rfl, ⟨nd, rfl⟩⟩; refine ⟨_, rfl, ?_⟩))
  go_ret
  exact ⟨by first | rfl | (simp; done) | (simp [*]; done), by repeat (first | exact Drawn0.refl _ | apply Drawn0.step)⟩

/-! ### haycroftref03_Turn: function 32 -/
def haycroftref03_Turn.f (a0 : Int) (a1 : Int) : Option (Int) := some (IntKind.u64.wrap ((Go.bits .or .u64 a0 a1) - (Go.bits .and .u64 a0 a1)))
set_option maxHeartbeats 8000000 in
set_option maxRecDepth 100000 in
theorem haycroftref03_Turn.calls (a0 : Int) (a1 : Int) (r : Int) (w : World) (h : haycroftref03_Turn.f a0 a1 = some r) :
    Calls Try.prog 32 #[.int .u64 a0, .int .u64 a1] w fun e w' => e = .returned (.int .u64 r) ∧ Drawn0 w w' := by
  have H : (some (IntKind.u64.wrap ((Go.bits .or .u64 a0 a1) - (Go.bits .and .u64 a0 a1)))) = some r := h
  clear h
  obtain rfl := Option.some.inj H
  go_enter Try.func32, Try.ntmps32
  go_wp2
  go_ret
  exact ⟨by first | rfl | (simp; done) | (simp [*]; done), by repeat (first | exact Drawn0.refl _ | apply Drawn0.step)⟩

/-! ### haycroftref32_Next: function 11 -/
def haycroftref32_Next.f (a0 : Int) : Option (Int) := if a0 = 0 then ((haycroftref03_Turn.f 1 ((1 : Int) / 4096)).bind fun t103 => ((haycroftref03_Turn.f t103 (IntKind.u64.wrap (t103 * 33554432))).bind fun t104 => ((haycroftref03_Turn.f t104 (IntKind.u64.wrap (Int.tdiv t104 134217728))).bind fun t105 => (some t105)))) else ((haycroftref03_Turn.f a0 (IntKind.u64.wrap (Int.tdiv a0 4096))).bind fun t106 => ((haycroftref03_Turn.f t106 (IntKind.u64.wrap (t106 * 33554432))).bind fun t107 => ((haycroftref03_Turn.f t107 (IntKind.u64.wrap (Int.tdiv t107 134217728))).bind fun t108 => (some t108))))
set_option maxHeartbeats 8000000 in
set_option maxRecDepth 100000 in
theorem haycroftref32_Next.calls (a0 : Int) (r : Int) (w : World) (h : haycroftref32_Next.f a0 = some r) :
    Calls Try.prog 11 #[.int .u64 a0] w fun e w' => e = .returned (.int .u64 r) ∧ Drawn0 w w' := by
  have H : (if a0 = 0 then ((haycroftref03_Turn.f 1 ((1 : Int) / 4096)).bind fun t103 => ((haycroftref03_Turn.f t103 (IntKind.u64.wrap (t103 * 33554432))).bind fun t104 => ((haycroftref03_Turn.f t104 (IntKind.u64.wrap (Int.tdiv t104 134217728))).bind fun t105 => (some t105)))) else ((haycroftref03_Turn.f a0 (IntKind.u64.wrap (Int.tdiv a0 4096))).bind fun t106 => ((haycroftref03_Turn.f t106 (IntKind.u64.wrap (t106 * 33554432))).bind fun t107 => ((haycroftref03_Turn.f t107 (IntKind.u64.wrap (Int.tdiv t107 134217728))).bind fun t108 => (some t108))))) = some r := h
  clear h
  by_cases c2 : a0 = 0
  · rw [if_pos c2] at H
    have c2b0 : (a0 == 0) = true := beq_iff_eq.mpr c2
    have c2b1 : (a0 != 0) = false := bne_eq_false_iff_eq.mpr c2
    clear c2
    replace H := Option.bind_eq_some_iff.mp H
    obtain ⟨t103, A30, H⟩ := H
    replace H : ((haycroftref03_Turn.f t103 (IntKind.u64.wrap (t103 * 33554432))).bind fun t104 => ((haycroftref03_Turn.f t104 (IntKind.u64.wrap (Int.tdiv t104 134217728))).bind fun t105 => (some t105))) = some r := H
    have A3 := Aside0.mk A30
    clear A30
    replace H := Option.bind_eq_some_iff.mp H
    obtain ⟨t104, A40, H⟩ := H
    replace H : ((haycroftref03_Turn.f t104 (IntKind.u64.wrap (Int.tdiv t104 134217728))).bind fun t105 => (some t105)) = some r := H
    have A4 := Aside0.mk A40
    clear A40
    replace H := Option.bind_eq_some_iff.mp H
    obtain ⟨t105, A50, H⟩ := H
    replace H : (some t105) = some r := H
    have A5 := Aside0.mk A50
    clear A50
    obtain rfl := Option.some.inj H
    go_enter Try.func11, Try.ntmps11
    go_wp2_with (first | ((with_reducible refine gate_callee (f := 32) rfl ?_); refine goesL_ (some 8) rfl rfl Try.func32 (by kernel_rfl) rfl #[.int .u64 1, .int .u64 ((1 : Int) / 4096)] rfl (by (try simp only [List.map_toArray, List.map_cons, List.map_nil]); first | done | rfl | (simp only [List.length_drop, List.length_take]; rfl)) ?_; (with_reducible refine (haycroftref03_Turn.calls 1 ((1 : Int) / 4096) t103 _ A3.out).mono ?_); rintro e w' ⟨rfl, ⟨nd, rfl⟩⟩; refine ⟨_, rfl, ?_⟩) | ((with_reducible refine gate_callee (f := 32) rfl ?_); refine goesL_ (some 12) rfl rfl Try.func32 (by kernel_rfl) rfl #[.int .u64 t103, .int .u64 (IntKind.u64.wrap (t103 * 33554432))] rfl (by (try simp only [List.map_toArray, List.map_cons, List.map_nil]); first | done | rfl | (simp only [List.length_drop, List.length_take]; rfl)) ?_; (with_reducible refine (haycroftref03_Turn.calls t103 (IntKind.u64.wrap (t103 * 33554432)) t104 _ A4.out).mono ?_); rintro e w' ⟨rfl, ⟨nd, rfl⟩⟩; refine ⟨_, rfl, ?_⟩) | ((with_reducible refine gate_callee (f := 32) rfl ?_); refine goesL_ (some 16) rfl rfl Try.func32 (by kernel_rfl) rfl #[.int .u64 t104, .int .u64 (IntKind.u64.wrap (Int.tdiv t104 134217728))] rfl (by (try simp only [List.map_toArray, List.map_cons, List.map_nil]); first | done | rfl | (simp only [List.length_drop, List.length_take]; rfl)) ?_; (with_reducible refine (haycroftref03_Turn.calls t104 (IntKind.u64.wrap (Int.tdiv t104 134217728)) t105 _ A5.out).mono ?_); rintro e w' ⟨rfl, ⟨nd, rfl⟩⟩; refine ⟨_, rfl, ?_⟩))
    go_ret
    exact ⟨by first | rfl | (simp; done) | (simp [*]; done), by repeat (first | exact Drawn0.refl _ | apply Drawn0.step)⟩
  · rw [if_neg c2] at H
    have c2b0 : (a0 == 0) = false := beq_eq_false_iff_ne.mpr c2
    have c2b1 : (a0 != 0) = true := bne_iff_ne.mpr c2
    replace H := Option.bind_eq_some_iff.mp H
    obtain ⟨t106, A60, H⟩ := H
    replace H : ((haycroftref03_Turn.f t106 (IntKind.u64.wrap (t106 * 33554432))).bind fun t107 => ((haycroftref03_Turn.f t107 (IntKind.u64.wrap (Int.tdiv t107 134217728))).bind fun t108 => (some t108))) = some r := H
    have A6 := Aside0.mk A60
    clear A60
    replace H := Option.bind_eq_some_iff.mp H
    obtain ⟨t107, A70, H⟩ := H
    replace H : ((haycroftref03_Turn.f t107 (IntKind.u64.wrap (Int.tdiv t107 134217728))).bind fun t108 => (some t108)) = some r := H
    have A7 := Aside0.mk A70
    clear A70
    replace H := Option.bind_eq_some_iff.mp H
    obtain ⟨t108, A80, H⟩ := H
    replace H : (some t108) = some r := H
    have A8 := Aside0.mk A80
    clear A80
    obtain rfl := Option.some.inj H
    go_enter Try.func11, Try.ntmps11
    go_wp2_with (first | ((with_reducible refine gate_callee (f := 32) rfl ?_); refine goesL_ (some 8) rfl rfl Try.func32 (by kernel_rfl) rfl #[.int .u64 a0, .int .u64 (IntKind.u64.wrap (Int.tdiv a0 4096))] rfl (by (try simp only [List.map_toArray, List.map_cons, List.map_nil]); first | done | rfl | (simp only [List.length_drop, List.length_take]; rfl)) ?_; (with_reducible refine (haycroftref03_Turn.calls a0 (IntKind.u64.wrap (Int.tdiv a0 4096)) t106 _ A6.out).mono ?_); rintro e w' ⟨rfl, ⟨nd, rfl⟩⟩; refine ⟨_, rfl, ?_⟩) | ((with_reducible refine gate_callee (f := 32) rfl ?_); refine goesL_ (some 12) rfl rfl Try.func32 (by kernel_rfl) rfl #[.int .u64 t106, .int .u64 (IntKind.u64.wrap (t106 * 33554432))] rfl (by (try simp only [List.map_toArray, List.map_cons, List.map_nil]); first | done | rfl | (simp only [List.length_drop, List.length_take]; rfl)) ?_; (with_reducible refine (haycroftref03_Turn.calls t106 (IntKind.u64.wrap (t106 * 33554432)) t107 _ A7.out).mono ?_); rintro e w' ⟨rfl, ⟨nd, rfl⟩⟩; refine ⟨_, rfl, ?_⟩) | ((with_reducible refine gate_callee (f := 32) rfl ?_); refine goesL_ (some 16) rfl rfl Try.func32 (by kernel_rfl) rfl #[.int .u64 t107, .int .u64 (IntKind.u64.wrap (Int.tdiv t107 134217728))] rfl (by (try simp only [List.map_toArray, List.map_cons, List.map_nil]); first | done | rfl | (simp only [List.length_drop, List.length_take]; rfl)) ?_; (with_reducible refine (haycroftref03_Turn.calls t107 (IntKind.u64.wrap (Int.tdiv t107 134217728)) t108 _ A8.out).mono ?_); rintro e w' ⟨rfl, ⟨nd, rfl⟩⟩; refine ⟨_, rfl, ?_⟩))
    go_ret
    exact ⟨by first | rfl | (simp; done) | (simp [*]; done), by repeat (first | exact Drawn0.refl _ | apply Drawn0.step)⟩

/-! ### haycroftlaw32_PlanDraws: function 3 -/
def haycroftlaw32_PlanDraws.f (a0 : Int) : Option (Bool) := (haycroftlaw32_awake.f).bind fun t109 => (if t109 = true then ((plan_Draw.f a0).bind fun bt110 => ((haycroftref32_Next.f a0).bind fun t112 => (if bt110.1 = t112 then (if bt110.2 = (IntKind.u64.wrap (t112 * 2685821657736338717)) then (some (bt110.1 != 0)) else (some false)) else (some false)))) else (some false))
set_option maxHeartbeats 8000000 in
set_option maxRecDepth 100000 in
theorem haycroftlaw32_PlanDraws.calls (a0 : Int) (r : Bool) (w : World) (h : haycroftlaw32_PlanDraws.f a0 = some r) :
    Calls Try.prog 3 #[.int .u64 a0] w fun e w' => e = .returned (.bool r) ∧ Drawn0 w w' := by
  have H : ((haycroftlaw32_awake.f).bind fun t109 => (if t109 = true then ((plan_Draw.f a0).bind fun bt110 => ((haycroftref32_Next.f a0).bind fun t112 => (if bt110.1 = t112 then (if bt110.2 = (IntKind.u64.wrap (t112 * 2685821657736338717)) then (some (bt110.1 != 0)) else (some false)) else (some false)))) else (some false))) = some r := h
  clear h
  replace H := Option.bind_eq_some_iff.mp H
  obtain ⟨t109, A20, H⟩ := H
  replace H : (if t109 = true then ((plan_Draw.f a0).bind fun bt110 => ((haycroftref32_Next.f a0).bind fun t112 => (if bt110.1 = t112 then (if bt110.2 = (IntKind.u64.wrap (t112 * 2685821657736338717)) then (some (bt110.1 != 0)) else (some false)) else (some false)))) else (some false)) = some r := H
  have A2 := Aside0.mk A20
  clear A20
  by_cases c3 : t109 = true
  · subst c3
    have H1 : ((plan_Draw.f a0).bind fun bt110 => ((haycroftref32_Next.f a0).bind fun t112 => (if bt110.1 = t112 then (if bt110.2 = (IntKind.u64.wrap (t112 * 2685821657736338717)) then (some (bt110.1 != 0)) else (some false)) else (some false)))) = some r := by rw [if_pos rfl] at H; exact H
    clear H
    have H := H1
    clear H1
    replace H := Option.bind_eq_some_iff.mp H
    obtain ⟨⟨t110, t111⟩, A40, H⟩ := H
    replace H : ((haycroftref32_Next.f a0).bind fun t112 => (if t110 = t112 then (if t111 = (IntKind.u64.wrap (t112 * 2685821657736338717)) then (some (t110 != 0)) else (some false)) else (some false))) = some r := H
    have A4 := Aside0.mk A40
    clear A40
    replace H := Option.bind_eq_some_iff.mp H
    obtain ⟨t112, A50, H⟩ := H
    replace H : (if t110 = t112 then (if t111 = (IntKind.u64.wrap (t112 * 2685821657736338717)) then (some (t110 != 0)) else (some false)) else (some false)) = some r := H
    have A5 := Aside0.mk A50
    clear A50
    by_cases c6 : t110 = t112
    · rw [if_pos c6] at H
      have c6b0 : (t110 == t112) = true := beq_iff_eq.mpr c6
      have c6b1 : (t110 != t112) = false := bne_eq_false_iff_eq.mpr c6
      clear c6
      by_cases c7 : t111 = (IntKind.u64.wrap (t112 * 2685821657736338717))
      · rw [if_pos c7] at H
        have c7b0 : (t111 == (IntKind.u64.wrap (t112 * 2685821657736338717))) = true := beq_iff_eq.mpr c7
        have c7b1 : (t111 != (IntKind.u64.wrap (t112 * 2685821657736338717))) = false := bne_eq_false_iff_eq.mpr c7
        clear c7
        obtain rfl := Option.some.inj H
        go_enter Try.func3, Try.ntmps3
        go_wp2_with (first | ((with_reducible refine gate_callee (f := 9) rfl ?_); refine goesL_ (some 6) rfl rfl Try.func9 (by kernel_rfl) rfl #[] rfl (by (try simp only [List.map_toArray, List.map_cons, List.map_nil]); first | done | rfl | (simp only [List.length_drop, List.length_take]; rfl)) ?_; (with_reducible refine (haycroftlaw32_awake.calls  true _ A2.out).mono ?_); rintro e w' ⟨rfl, ⟨nd, rfl⟩⟩; refine ⟨_, rfl, ?_⟩) | ((with_reducible refine gate_callee (f := 10) rfl ?_); refine goesL_ (some 10) rfl rfl Try.func10 (by kernel_rfl) rfl #[.int .u64 a0] rfl (by (try simp only [List.map_toArray, List.map_cons, List.map_nil]); first | done | rfl | (simp only [List.length_drop, List.length_take]; rfl)) ?_; (with_reducible refine (plan_Draw.calls a0 t110 t111 _ A4.out).mono ?_); rintro e w' ⟨rfl, ⟨nd, rfl⟩⟩; refine ⟨_, rfl, ?_⟩) | ((with_reducible refine gate_callee (f := 11) rfl ?_); refine goesL_ (some 14) rfl rfl Try.func11 (by kernel_rfl) rfl #[.int .u64 a0] rfl (by (try simp only [List.map_toArray, List.map_cons, List.map_nil]); first | done | rfl | (simp only [List.length_drop, List.length_take]; rfl)) ?_; (with_reducible refine (haycroftref32_Next.calls a0 t112 _ A5.out).mono ?_); rintro e w' ⟨rfl, ⟨nd, rfl⟩⟩; refine ⟨_, rfl, ?_⟩))
        go_ret
        exact ⟨by first | rfl | (simp; done) | (simp [*]; done), by repeat (first | exact Drawn0.refl _ | apply Drawn0.step)⟩
      · rw [if_neg c7] at H
        have c7b0 : (t111 == (IntKind.u64.wrap (t112 * 2685821657736338717))) = false := beq_eq_false_iff_ne.mpr c7
        have c7b1 : (t111 != (IntKind.u64.wrap (t112 * 2685821657736338717))) = true := bne_iff_ne.mpr c7
        obtain rfl := Option.some.inj H
        go_enter Try.func3, Try.ntmps3
        go_wp2_with (first | ((with_reducible refine gate_callee (f := 9) rfl ?_); refine goesL_ (some 6) rfl rfl Try.func9 (by kernel_rfl) rfl #[] rfl (by (try simp only [List.map_toArray, List.map_cons, List.map_nil]); first | done | rfl | (simp only [List.length_drop, List.length_take]; rfl)) ?_; (with_reducible refine (haycroftlaw32_awake.calls  true _ A2.out).mono ?_); rintro e w' ⟨rfl, ⟨nd, rfl⟩⟩; refine ⟨_, rfl, ?_⟩) | ((with_reducible refine gate_callee (f := 10) rfl ?_); refine goesL_ (some 10) rfl rfl Try.func10 (by kernel_rfl) rfl #[.int .u64 a0] rfl (by (try simp only [List.map_toArray, List.map_cons, List.map_nil]); first | done | rfl | (simp only [List.length_drop, List.length_take]; rfl)) ?_; (with_reducible refine (plan_Draw.calls a0 t110 t111 _ A4.out).mono ?_); rintro e w' ⟨rfl, ⟨nd, rfl⟩⟩; refine ⟨_, rfl, ?_⟩) | ((with_reducible refine gate_callee (f := 11) rfl ?_); refine goesL_ (some 14) rfl rfl Try.func11 (by kernel_rfl) rfl #[.int .u64 a0] rfl (by (try simp only [List.map_toArray, List.map_cons, List.map_nil]); first | done | rfl | (simp only [List.length_drop, List.length_take]; rfl)) ?_; (with_reducible refine (haycroftref32_Next.calls a0 t112 _ A5.out).mono ?_); rintro e w' ⟨rfl, ⟨nd, rfl⟩⟩; refine ⟨_, rfl, ?_⟩))
        go_ret
        exact ⟨by first | rfl | (simp; done) | (simp [*]; done), by repeat (first | exact Drawn0.refl _ | apply Drawn0.step)⟩
    · rw [if_neg c6] at H
      have c6b0 : (t110 == t112) = false := beq_eq_false_iff_ne.mpr c6
      have c6b1 : (t110 != t112) = true := bne_iff_ne.mpr c6
      obtain rfl := Option.some.inj H
      go_enter Try.func3, Try.ntmps3
      go_wp2_with (first | ((with_reducible refine gate_callee (f := 9) rfl ?_); refine goesL_ (some 6) rfl rfl Try.func9 (by kernel_rfl) rfl #[] rfl (by (try simp only [List.map_toArray, List.map_cons, List.map_nil]); first | done | rfl | (simp only [List.length_drop, List.length_take]; rfl)) ?_; (with_reducible refine (haycroftlaw32_awake.calls  true _ A2.out).mono ?_); rintro e w' ⟨rfl, ⟨nd, rfl⟩⟩; refine ⟨_, rfl, ?_⟩) | ((with_reducible refine gate_callee (f := 10) rfl ?_); refine goesL_ (some 10) rfl rfl Try.func10 (by kernel_rfl) rfl #[.int .u64 a0] rfl (by (try simp only [List.map_toArray, List.map_cons, List.map_nil]); first | done | rfl | (simp only [List.length_drop, List.length_take]; rfl)) ?_; (with_reducible refine (plan_Draw.calls a0 t110 t111 _ A4.out).mono ?_); rintro e w' ⟨rfl, ⟨nd, rfl⟩⟩; refine ⟨_, rfl, ?_⟩) | ((with_reducible refine gate_callee (f := 11) rfl ?_); refine goesL_ (some 14) rfl rfl Try.func11 (by kernel_rfl) rfl #[.int .u64 a0] rfl (by (try simp only [List.map_toArray, List.map_cons, List.map_nil]); first | done | rfl | (simp only [List.length_drop, List.length_take]; rfl)) ?_; (with_reducible refine (haycroftref32_Next.calls a0 t112 _ A5.out).mono ?_); rintro e w' ⟨rfl, ⟨nd, rfl⟩⟩; refine ⟨_, rfl, ?_⟩))
      go_ret
      exact ⟨by first | rfl | (simp; done) | (simp [*]; done), by repeat (first | exact Drawn0.refl _ | apply Drawn0.step)⟩
  · replace c3 := Bool.eq_false_iff.mpr c3
    subst c3
    have H1 : (some false) = some r := by rw [if_neg (show ¬ (false = true) by decide)] at H; exact H
    clear H
    have H := H1
    clear H1
    obtain rfl := Option.some.inj H
    go_enter Try.func3, Try.ntmps3
    go_wp2_with (first | ((with_reducible refine gate_callee (f := 9) rfl ?_); refine goesL_ (some 6) rfl rfl Try.func9 (by kernel_rfl) rfl #[] rfl (by (try simp only [List.map_toArray, List.map_cons, List.map_nil]); first | done | rfl | (simp only [List.length_drop, List.length_take]; rfl)) ?_; (with_reducible refine (haycroftlaw32_awake.calls  false _ A2.out).mono ?_); rintro e w' ⟨rfl, ⟨nd, rfl⟩⟩; refine ⟨_, rfl, ?_⟩))
    go_ret
    exact ⟨by first | rfl | (simp; done) | (simp [*]; done), by repeat (first | exact Drawn0.refl _ | apply Drawn0.step)⟩

/-- THE ONE PURE STATEMENT of haycroftlaw32_PlanDraws: yours. -/
def haycroftlaw32_PlanDraws.Pure : Prop := ∀ (a0 : Int), (Lit.int .u64 a0).wf = true → haycroftlaw32_PlanDraws.f a0 = some true
theorem haycroftlaw32_PlanDraws.walk (P : haycroftlaw32_PlanDraws.Pure) (a0 : Int) (w : World) (w0 : (Lit.int .u64 a0).wf = true) :
    Calls Try.prog 3 #[.int .u64 a0] w fun e w' => e = .returned (.bool true) ∧ Below w.heap.size w w' := by
  have h := P a0 w0
  refine (haycroftlaw32_PlanDraws.calls a0 true w h).mono ?_
  rintro e w' ⟨rfl, hd⟩
  exact ⟨rfl, hd.below⟩

end Go.Proofs.Ytcjicmabhejllaa.PPlanDraws
