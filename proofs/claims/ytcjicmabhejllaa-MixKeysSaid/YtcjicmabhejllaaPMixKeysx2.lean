-- PRINTED BY print.sh 35421559b90ae4d0a3588c463048766b98c2df88dd9212a6774a882060cdf62d: not written by this session
import Derived.Test.YtcjicmabhejllaaPMixKeysx0
import Derived.Test.YtcjicmabhejllaaPMixKeysx1
namespace Go.Proofs.Ytcjicmabhejllaa.PMixKeys
open Go.RowKit Go.Proofs.YtcjicmabhejllaaW.PrintWords Go.Proofs.YtcjicmabhejllaaW.PrintLast Go.Proofs.YtcjicmabhejllaaW.PrintMore
attribute [local go_sem] max2_int min2_int max_two min_two max_three min_three max_four min_four   -- for this text's walks alone
set_option linter.unusedVariables false
set_option linter.unusedSimpArgs false

/-! ### haycroftlaw03_MixKeys: function 4 -/
def haycroftlaw03_MixKeys.f (k : Nat) (a0 : ByteArray) (a1 : Int) : Option (Bool) := (haycroftlaw03_awake.f k).bind fun t114 => (if t114 = true then (if (a0.size : Int) > 2000 then (some true) else ((mix_Key.f k a0).bind fun t115 => ((haycroftref03_Key.f k a0).bind fun t116 => (if t115 = t116 then ((mix_May.f a1).bind fun t117 => ((haycroftref03_May.f k a1).bind fun t118 => (if (t117 == t118) = true then ((mix_Bucket.f t115 a1).bind fun t119 => ((haycroftref03_Bucket.f k t115 a1).bind fun t120 => (if t119 = t120 then ((mix_Tag.f t115).bind fun t121 => ((haycroftref03_Tag.f t115).bind fun t122 => (some (t121 == t122)))) else (some false)))) else (some false)))) else (some false))))) else (some false))
theorem haycroftlaw03_MixKeys.mono : ∀ a0 a1 k, LeO (haycroftlaw03_MixKeys.f k a0 a1) (haycroftlaw03_MixKeys.f (k + 1) a0 a1) := by
  intro a0 a1 k
  unfold haycroftlaw03_MixKeys.f
  repeat' first
      | (with_reducible exact haycroftlaw03_awake.mono _)
      | (with_reducible exact haycroftref03_Bucket.mono _ _ _)
      | (with_reducible exact haycroftref03_Key.mono _ _)
      | (with_reducible exact haycroftref03_May.mono _ _)
      | (with_reducible exact mix_Key.mono _ _)
      | (with_reducible exact LeO.refl _)
      | (with_reducible exact LeO.none _)
      | (with_reducible refine LeO.ite ?_ ?_)
      | (with_reducible refine LeO.bind ?_ (fun _ => ?_))
      | exact haycroftlaw03_awake.mono _
      | exact haycroftref03_Bucket.mono _ _ _
      | exact haycroftref03_Key.mono _ _
      | exact haycroftref03_May.mono _ _
      | exact mix_Key.mono _ _
      | exact LeO.none _
      | refine LeO.ite ?_ ?_
      | refine LeO.bind ?_ (fun _ => ?_)
set_option maxHeartbeats 8000000 in
set_option maxRecDepth 100000 in
theorem haycroftlaw03_MixKeys.calls (k : Nat) (a0 : ByteArray) (a1 : Int) (r : Bool) (w : World) (h : haycroftlaw03_MixKeys.f k a0 a1 = some r) :
    Calls Try.prog 4 #[.string a0, .int .i64 a1] w fun e w' => e = .returned (.bool r) ∧ Drawn0 w w' := by
  have H : ((haycroftlaw03_awake.f k).bind fun t114 => (if t114 = true then (if (a0.size : Int) > 2000 then (some true) else ((mix_Key.f k a0).bind fun t115 => ((haycroftref03_Key.f k a0).bind fun t116 => (if t115 = t116 then ((mix_May.f a1).bind fun t117 => ((haycroftref03_May.f k a1).bind fun t118 => (if (t117 == t118) = true then ((mix_Bucket.f t115 a1).bind fun t119 => ((haycroftref03_Bucket.f k t115 a1).bind fun t120 => (if t119 = t120 then ((mix_Tag.f t115).bind fun t121 => ((haycroftref03_Tag.f t115).bind fun t122 => (some (t121 == t122)))) else (some false)))) else (some false)))) else (some false))))) else (some false))) = some r := h
  clear h
  replace H := Option.bind_eq_some_iff.mp H
  obtain ⟨t114, A30, H⟩ := H
  replace H : (if t114 = true then (if (a0.size : Int) > 2000 then (some true) else ((mix_Key.f k a0).bind fun t115 => ((haycroftref03_Key.f k a0).bind fun t116 => (if t115 = t116 then ((mix_May.f a1).bind fun t117 => ((haycroftref03_May.f k a1).bind fun t118 => (if (t117 == t118) = true then ((mix_Bucket.f t115 a1).bind fun t119 => ((haycroftref03_Bucket.f k t115 a1).bind fun t120 => (if t119 = t120 then ((mix_Tag.f t115).bind fun t121 => ((haycroftref03_Tag.f t115).bind fun t122 => (some (t121 == t122)))) else (some false)))) else (some false)))) else (some false))))) else (some false)) = some r := H
  have A3 := Aside0.mk A30
  clear A30
  by_cases c4 : t114 = true
  · subst c4
    have H1 : (if (a0.size : Int) > 2000 then (some true) else ((mix_Key.f k a0).bind fun t115 => ((haycroftref03_Key.f k a0).bind fun t116 => (if t115 = t116 then ((mix_May.f a1).bind fun t117 => ((haycroftref03_May.f k a1).bind fun t118 => (if (t117 == t118) = true then ((mix_Bucket.f t115 a1).bind fun t119 => ((haycroftref03_Bucket.f k t115 a1).bind fun t120 => (if t119 = t120 then ((mix_Tag.f t115).bind fun t121 => ((haycroftref03_Tag.f t115).bind fun t122 => (some (t121 == t122)))) else (some false)))) else (some false)))) else (some false))))) = some r := by rw [if_pos rfl] at H; exact H
    clear H
    have H := H1
    clear H1
    by_cases c5 : (a0.size : Int) > 2000
    · rw [if_pos c5] at H
      have c5b0 : decide (2000 < (a0.size : Int)) = true := decide_eq_true c5
      have c5b1 : decide (2000 < a0.size) = true := decide_eq_true (by omega)
      clear c5
      obtain rfl := Option.some.inj H
      go_enter Try.func4, Try.ntmps4
      go_wp2_with (first | ((with_reducible refine gate_callee (f := 12) rfl ?_); refine goesL_ (some 6) rfl rfl Try.func12 (by kernel_rfl) rfl #[] rfl (by (try simp only [List.map_toArray, List.map_cons, List.map_nil]); first | done | rfl | (simp only [List.length_drop, List.length_take]; rfl)) ?_; (with_reducible refine (haycroftlaw03_awake.calls k  true _ A3.out).mono ?_); rintro e w' ⟨rfl, ⟨nd, rfl⟩⟩; refine ⟨_, rfl, ?_⟩))
      go_ret
      exact ⟨by first | rfl | (simp; done) | (simp [*]; done), by repeat (first | exact Drawn0.refl _ | apply Drawn0.step)⟩
    · rw [if_neg c5] at H
      have c5b0 : decide (2000 < (a0.size : Int)) = false := decide_eq_false c5
      have c5b1 : decide (2000 < a0.size) = false := decide_eq_false (by omega)
      clear c5
      replace H := Option.bind_eq_some_iff.mp H
      obtain ⟨t115, A60, H⟩ := H
      replace H : ((haycroftref03_Key.f k a0).bind fun t116 => (if t115 = t116 then ((mix_May.f a1).bind fun t117 => ((haycroftref03_May.f k a1).bind fun t118 => (if (t117 == t118) = true then ((mix_Bucket.f t115 a1).bind fun t119 => ((haycroftref03_Bucket.f k t115 a1).bind fun t120 => (if t119 = t120 then ((mix_Tag.f t115).bind fun t121 => ((haycroftref03_Tag.f t115).bind fun t122 => (some (t121 == t122)))) else (some false)))) else (some false)))) else (some false))) = some r := H
      have A6 := Aside0.mk A60
      clear A60
      replace H := Option.bind_eq_some_iff.mp H
      obtain ⟨t116, A70, H⟩ := H
      replace H : (if t115 = t116 then ((mix_May.f a1).bind fun t117 => ((haycroftref03_May.f k a1).bind fun t118 => (if (t117 == t118) = true then ((mix_Bucket.f t115 a1).bind fun t119 => ((haycroftref03_Bucket.f k t115 a1).bind fun t120 => (if t119 = t120 then ((mix_Tag.f t115).bind fun t121 => ((haycroftref03_Tag.f t115).bind fun t122 => (some (t121 == t122)))) else (some false)))) else (some false)))) else (some false)) = some r := H
      have A7 := Aside0.mk A70
      clear A70
      by_cases c8 : t115 = t116
      · rw [if_pos c8] at H
        have c8b0 : (t115 == t116) = true := beq_iff_eq.mpr c8
        have c8b1 : (t115 != t116) = false := bne_eq_false_iff_eq.mpr c8
        clear c8
        replace H := Option.bind_eq_some_iff.mp H
        obtain ⟨t117, A90, H⟩ := H
        replace H : ((haycroftref03_May.f k a1).bind fun t118 => (if (t117 == t118) = true then ((mix_Bucket.f t115 a1).bind fun t119 => ((haycroftref03_Bucket.f k t115 a1).bind fun t120 => (if t119 = t120 then ((mix_Tag.f t115).bind fun t121 => ((haycroftref03_Tag.f t115).bind fun t122 => (some (t121 == t122)))) else (some false)))) else (some false))) = some r := H
        have A9 := Aside0.mk A90
        clear A90
        replace H := Option.bind_eq_some_iff.mp H
        obtain ⟨t118, A100, H⟩ := H
        replace H : (if (t117 == t118) = true then ((mix_Bucket.f t115 a1).bind fun t119 => ((haycroftref03_Bucket.f k t115 a1).bind fun t120 => (if t119 = t120 then ((mix_Tag.f t115).bind fun t121 => ((haycroftref03_Tag.f t115).bind fun t122 => (some (t121 == t122)))) else (some false)))) else (some false)) = some r := H
        have A10 := Aside0.mk A100
        clear A100
        by_cases c11 : (t117 == t118) = true
        · rw [if_pos c11] at H
          have c11b0 : (t117 == t118) = true := c11
          (try (have c11b1 : decide (t117 = t118) = true := by simpa using c11))
          (try (have c11b2 : (t117 == t118) = true := by simpa using c11))
          clear c11
          replace H := Option.bind_eq_some_iff.mp H
          obtain ⟨t119, A120, H⟩ := H
          replace H : ((haycroftref03_Bucket.f k t115 a1).bind fun t120 => (if t119 = t120 then ((mix_Tag.f t115).bind fun t121 => ((haycroftref03_Tag.f t115).bind fun t122 => (some (t121 == t122)))) else (some false))) = some r := H
          have A12 := Aside0.mk A120
          clear A120
          replace H := Option.bind_eq_some_iff.mp H
          obtain ⟨t120, A130, H⟩ := H
          replace H : (if t119 = t120 then ((mix_Tag.f t115).bind fun t121 => ((haycroftref03_Tag.f t115).bind fun t122 => (some (t121 == t122)))) else (some false)) = some r := H
          have A13 := Aside0.mk A130
          clear A130
          by_cases c14 : t119 = t120
          · rw [if_pos c14] at H
            have c14b0 : (t119 == t120) = true := beq_iff_eq.mpr c14
            have c14b1 : (t119 != t120) = false := bne_eq_false_iff_eq.mpr c14
            clear c14
            replace H := Option.bind_eq_some_iff.mp H
            obtain ⟨t121, A150, H⟩ := H
            replace H : ((haycroftref03_Tag.f t115).bind fun t122 => (some (t121 == t122))) = some r := H
            have A15 := Aside0.mk A150
            clear A150
            replace H := Option.bind_eq_some_iff.mp H
            obtain ⟨t122, A160, H⟩ := H
            replace H : (some (t121 == t122)) = some r := H
            have A16 := Aside0.mk A160
            clear A160
            obtain rfl := Option.some.inj H
            go_enter Try.func4, Try.ntmps4
            go_wp2_with (first | ((with_reducible refine gate_callee (f := 12) rfl ?_); refine goesL_ (some 6) rfl rfl Try.func12 (by kernel_rfl) rfl #[] rfl (by (try simp only [List.map_toArray, List.map_cons, List.map_nil]); first | done | rfl | (simp only [List.length_drop, List.length_take]; rfl)) ?_; (with_reducible refine (haycroftlaw03_awake.calls k  true _ A3.out).mono ?_); rintro e w' ⟨rfl, ⟨nd, rfl⟩⟩; refine ⟨_, rfl, ?_⟩) | ((with_reducible refine gate_callee (f := 13) rfl ?_); refine goesL_ (some 12) rfl rfl Try.func13 (by kernel_rfl) rfl #[.string a0] rfl (by (try simp only [List.map_toArray, List.map_cons, List.map_nil]); first | done | rfl | (simp only [List.length_drop, List.length_take]; rfl)) ?_; (with_reducible refine (mix_Key.calls k a0 t115 _ A6.out).mono ?_); rintro e w' ⟨rfl, ⟨nd, rfl⟩⟩; refine ⟨_, rfl, ?_⟩) | ((with_reducible refine gate_callee (f := 14) rfl ?_); refine goesL_ (some 15) rfl rfl Try.func14 (by kernel_rfl) rfl #[.string a0] rfl (by (try simp only [List.map_toArray, List.map_cons, List.map_nil]); first | done | rfl | (simp only [List.length_drop, List.length_take]; rfl)) ?_; (with_reducible refine (haycroftref03_Key.calls k a0 t116 _ A7.out).mono ?_); rintro e w' ⟨rfl, ⟨nd, rfl⟩⟩; refine ⟨_, rfl, ?_⟩) | (go_at_call 15; (with_reducible refine (mix_May.calls a1 t117 _ A9.out).mono ?_); rintro e w' ⟨rfl, ⟨nd, rfl⟩⟩) | (go_at_call 16; (with_reducible refine (haycroftref03_May.calls k a1 t118 _ A10.out).mono ?_); rintro e w' ⟨rfl, ⟨nd, rfl⟩⟩) | (go_at_call 17; (with_reducible refine (mix_Bucket.calls t115 a1 t119 _ A12.out).mono ?_); rintro e w' ⟨rfl, ⟨nd, rfl⟩⟩) | (go_at_call 18; (with_reducible refine (haycroftref03_Bucket.calls k t115 a1 t120 _ A13.out).mono ?_); rintro e w' ⟨rfl, ⟨nd, rfl⟩⟩) | (go_at_call 19; (with_reducible refine (mix_Tag.calls t115 t121 _ A15.out).mono ?_); rintro e w' ⟨rfl, ⟨nd, rfl⟩⟩) | (go_at_call 20; (with_reducible refine (haycroftref03_Tag.calls t115 t122 _ A16.out).mono ?_); rintro e w' ⟨rfl, ⟨nd, rfl⟩⟩))
            go_ret
            exact ⟨by first | rfl | (simp; done) | (simp [*]; done), by repeat (first | exact Drawn0.refl _ | apply Drawn0.step)⟩
          · rw [if_neg c14] at H
            have c14b0 : (t119 == t120) = false := beq_eq_false_iff_ne.mpr c14
            have c14b1 : (t119 != t120) = true := bne_iff_ne.mpr c14
            obtain rfl := Option.some.inj H
            go_enter Try.func4, Try.ntmps4
            go_wp2_with (first | ((with_reducible refine gate_callee (f := 12) rfl ?_); refine goesL_ (some 6) rfl rfl Try.func12 (by kernel_rfl) rfl #[] rfl (by (try simp only [List.map_toArray, List.map_cons, List.map_nil]); first | done | rfl | (simp only [List.length_drop, List.length_take]; rfl)) ?_; (with_reducible refine (haycroftlaw03_awake.calls k  true _ A3.out).mono ?_); rintro e w' ⟨rfl, ⟨nd, rfl⟩⟩; refine ⟨_, rfl, ?_⟩) | ((with_reducible refine gate_callee (f := 13) rfl ?_); refine goesL_ (some 12) rfl rfl Try.func13 (by kernel_rfl) rfl #[.string a0] rfl (by (try simp only [List.map_toArray, List.map_cons, List.map_nil]); first | done | rfl | (simp only [List.length_drop, List.length_take]; rfl)) ?_; (with_reducible refine (mix_Key.calls k a0 t115 _ A6.out).mono ?_); rintro e w' ⟨rfl, ⟨nd, rfl⟩⟩; refine ⟨_, rfl, ?_⟩) | ((with_reducible refine gate_callee (f := 14) rfl ?_); refine goesL_ (some 15) rfl rfl Try.func14 (by kernel_rfl) rfl #[.string a0] rfl (by (try simp only [List.map_toArray, List.map_cons, List.map_nil]); first | done | rfl | (simp only [List.length_drop, List.length_take]; rfl)) ?_; (with_reducible refine (haycroftref03_Key.calls k a0 t116 _ A7.out).mono ?_); rintro e w' ⟨rfl, ⟨nd, rfl⟩⟩; refine ⟨_, rfl, ?_⟩) | (go_at_call 15; (with_reducible refine (mix_May.calls a1 t117 _ A9.out).mono ?_); rintro e w' ⟨rfl, ⟨nd, rfl⟩⟩) | (go_at_call 16; (with_reducible refine (haycroftref03_May.calls k a1 t118 _ A10.out).mono ?_); rintro e w' ⟨rfl, ⟨nd, rfl⟩⟩) | (go_at_call 17; (with_reducible refine (mix_Bucket.calls t115 a1 t119 _ A12.out).mono ?_); rintro e w' ⟨rfl, ⟨nd, rfl⟩⟩) | (go_at_call 18; (with_reducible refine (haycroftref03_Bucket.calls k t115 a1 t120 _ A13.out).mono ?_); rintro e w' ⟨rfl, ⟨nd, rfl⟩⟩))
            go_ret
            exact ⟨by first | rfl | (simp; done) | (simp [*]; done), by repeat (first | exact Drawn0.refl _ | apply Drawn0.step)⟩
        · rw [if_neg c11] at H
          have c11b0 : (t117 == t118) = false := by simpa using c11
          (try (have c11b1 : decide (t117 = t118) = false := by simpa using c11))
          (try (have c11b2 : (t117 == t118) = false := by simpa using c11))
          (try (have c11b3 : ¬ (t117 = t118) := by simpa using c11))
          clear c11
          obtain rfl := Option.some.inj H
          go_enter Try.func4, Try.ntmps4
          go_wp2_with (first | ((with_reducible refine gate_callee (f := 12) rfl ?_); refine goesL_ (some 6) rfl rfl Try.func12 (by kernel_rfl) rfl #[] rfl (by (try simp only [List.map_toArray, List.map_cons, List.map_nil]); first | done | rfl | (simp only [List.length_drop, List.length_take]; rfl)) ?_; (with_reducible refine (haycroftlaw03_awake.calls k  true _ A3.out).mono ?_); rintro e w' ⟨rfl, ⟨nd, rfl⟩⟩; refine ⟨_, rfl, ?_⟩) | ((with_reducible refine gate_callee (f := 13) rfl ?_); refine goesL_ (some 12) rfl rfl Try.func13 (by kernel_rfl) rfl #[.string a0] rfl (by (try simp only [List.map_toArray, List.map_cons, List.map_nil]); first | done | rfl | (simp only [List.length_drop, List.length_take]; rfl)) ?_; (with_reducible refine (mix_Key.calls k a0 t115 _ A6.out).mono ?_); rintro e w' ⟨rfl, ⟨nd, rfl⟩⟩; refine ⟨_, rfl, ?_⟩) | ((with_reducible refine gate_callee (f := 14) rfl ?_); refine goesL_ (some 15) rfl rfl Try.func14 (by kernel_rfl) rfl #[.string a0] rfl (by (try simp only [List.map_toArray, List.map_cons, List.map_nil]); first | done | rfl | (simp only [List.length_drop, List.length_take]; rfl)) ?_; (with_reducible refine (haycroftref03_Key.calls k a0 t116 _ A7.out).mono ?_); rintro e w' ⟨rfl, ⟨nd, rfl⟩⟩; refine ⟨_, rfl, ?_⟩) | (go_at_call 15; (with_reducible refine (mix_May.calls a1 t117 _ A9.out).mono ?_); rintro e w' ⟨rfl, ⟨nd, rfl⟩⟩) | (go_at_call 16; (with_reducible refine (haycroftref03_May.calls k a1 t118 _ A10.out).mono ?_); rintro e w' ⟨rfl, ⟨nd, rfl⟩⟩))
          go_ret
          exact ⟨by first | rfl | (simp; done) | (simp [*]; done), by repeat (first | exact Drawn0.refl _ | apply Drawn0.step)⟩
      · rw [if_neg c8] at H
        have c8b0 : (t115 == t116) = false := beq_eq_false_iff_ne.mpr c8
        have c8b1 : (t115 != t116) = true := bne_iff_ne.mpr c8
        obtain rfl := Option.some.inj H
        go_enter Try.func4, Try.ntmps4
        go_wp2_with (first | ((with_reducible refine gate_callee (f := 12) rfl ?_); refine goesL_ (some 6) rfl rfl Try.func12 (by kernel_rfl) rfl #[] rfl (by (try simp only [List.map_toArray, List.map_cons, List.map_nil]); first | done | rfl | (simp only [List.length_drop, List.length_take]; rfl)) ?_; (with_reducible refine (haycroftlaw03_awake.calls k  true _ A3.out).mono ?_); rintro e w' ⟨rfl, ⟨nd, rfl⟩⟩; refine ⟨_, rfl, ?_⟩) | ((with_reducible refine gate_callee (f := 13) rfl ?_); refine goesL_ (some 12) rfl rfl Try.func13 (by kernel_rfl) rfl #[.string a0] rfl (by (try simp only [List.map_toArray, List.map_cons, List.map_nil]); first | done | rfl | (simp only [List.length_drop, List.length_take]; rfl)) ?_; (with_reducible refine (mix_Key.calls k a0 t115 _ A6.out).mono ?_); rintro e w' ⟨rfl, ⟨nd, rfl⟩⟩; refine ⟨_, rfl, ?_⟩) | ((with_reducible refine gate_callee (f := 14) rfl ?_); refine goesL_ (some 15) rfl rfl Try.func14 (by kernel_rfl) rfl #[.string a0] rfl (by (try simp only [List.map_toArray, List.map_cons, List.map_nil]); first | done | rfl | (simp only [List.length_drop, List.length_take]; rfl)) ?_; (with_reducible refine (haycroftref03_Key.calls k a0 t116 _ A7.out).mono ?_); rintro e w' ⟨rfl, ⟨nd, rfl⟩⟩; refine ⟨_, rfl, ?_⟩))
        go_ret
        exact ⟨by first | rfl | (simp; done) | (simp [*]; done), by repeat (first | exact Drawn0.refl _ | apply Drawn0.step)⟩
  · replace c4 := Bool.eq_false_iff.mpr c4
    subst c4
    have H1 : (some false) = some r := by rw [if_neg (show ¬ (false = true) by decide)] at H; exact H
    clear H
    have H := H1
    clear H1
    obtain rfl := Option.some.inj H
    go_enter Try.func4, Try.ntmps4
    go_wp2_with (first | ((with_reducible refine gate_callee (f := 12) rfl ?_); refine goesL_ (some 6) rfl rfl Try.func12 (by kernel_rfl) rfl #[] rfl (by (try simp only [List.map_toArray, List.map_cons, List.map_nil]); first | done | rfl | (simp only [List.length_drop, List.length_take]; rfl)) ?_; (with_reducible refine (haycroftlaw03_awake.calls k  false _ A3.out).mono ?_); rintro e w' ⟨rfl, ⟨nd, rfl⟩⟩; refine ⟨_, rfl, ?_⟩))
    go_ret
    exact ⟨by first | rfl | (simp; done) | (simp [*]; done), by repeat (first | exact Drawn0.refl _ | apply Drawn0.step)⟩

/-- THE ONE PURE STATEMENT of haycroftlaw03_MixKeys: yours. -/
def haycroftlaw03_MixKeys.Pure : Prop := ∀ (a0 : ByteArray) (a1 : Int), a0.size ≤ 140737488351232 → (Lit.int .i64 a1).wf = true → ∃ k, haycroftlaw03_MixKeys.f k a0 a1 = some true
theorem haycroftlaw03_MixKeys.walk (P : haycroftlaw03_MixKeys.Pure) (a0 : ByteArray) (a1 : Int) (w : World) (w0 : a0.size ≤ 140737488351232) (w1 : (Lit.int .i64 a1).wf = true) :
    Calls Try.prog 4 #[.string a0, .int .i64 a1] w fun e w' => e = .returned (.bool true) ∧ Below w.heap.size w w' := by
  obtain ⟨k, h⟩ := P a0 a1 w0 w1
  refine (haycroftlaw03_MixKeys.calls k a0 a1 true w h).mono ?_
  rintro e w' ⟨rfl, hd⟩
  exact ⟨rfl, hd.below⟩

end Go.Proofs.Ytcjicmabhejllaa.PMixKeys
