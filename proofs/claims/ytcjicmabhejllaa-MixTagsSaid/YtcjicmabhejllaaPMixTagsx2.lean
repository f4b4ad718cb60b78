-- PRINTED BY print.sh 35421559b90ae4d0a3588c463048766b98c2df88dd9212a6774a882060cdf62d: not written by this session
import Derived.Test.YtcjicmabhejllaaPMixTagsx0
import Derived.Test.YtcjicmabhejllaaPMixTagsx1
namespace Go.Proofs.Ytcjicmabhejllaa.PMixTags
open Go.RowKit Go.Proofs.YtcjicmabhejllaaW.PrintWords Go.Proofs.YtcjicmabhejllaaW.PrintLast Go.Proofs.YtcjicmabhejllaaW.PrintMore
attribute [local go_sem] max2_int min2_int max_two min_two max_three min_three max_four min_four   -- for this text's walks alone
set_option linter.unusedVariables false
set_option linter.unusedSimpArgs false

/-! ### haycroftlaw03_MixTags: function 5 -/
def haycroftlaw03_MixTags.j0 : Nat → Int → Int → Bool → Option (Bool)
  | 0, _, _, _ => none
  | k + 1, x0, x2, x27 => if x27 = true then (some false) else ((mix_May.f x2).bind fun t120 => (if t120 = true then (if x2 = 1 then (some true) else ((mix_Bucket.f x0 (wrap64 (Int.tdiv x2 2))).bind fun t121 => ((mix_Bucket.f x0 x2).bind fun t122 => (if (wrap64 (Int.tdiv x2 2)) = 0 then (none) else (some (t121 == (Int.tmod t122 (wrap64 (Int.tdiv x2 2))))))))) else (some true)))
def haycroftlaw03_MixTags.f (k : Nat) (a0 : Int) (a1 : Int) (a2 : Int) : Option (Bool) := (haycroftlaw03_awake.f k).bind fun t114 => (if t114 = true then ((mix_Same.f a0 a1 a2).bind fun t115 => ((haycroftref03_Bucket.f k a0 a2).bind fun t116 => ((haycroftref03_Bucket.f k a1 a2).bind fun t117 => (if t116 = t117 then ((haycroftref03_Tag.f a0).bind fun t118 => ((haycroftref03_Tag.f a1).bind fun t119 => (haycroftlaw03_MixTags.j0 k a0 a2 (t115 != (t118 == t119))))) else (haycroftlaw03_MixTags.j0 k a0 a2 (t115 != false)))))) else (some false))
theorem haycroftlaw03_MixTags.mono_l : ∀ k, (∀ y0 y1 y2, LeO (haycroftlaw03_MixTags.j0 k y0 y1 y2) (haycroftlaw03_MixTags.j0 (k + 1) y0 y1 y2))
  | 0 => fun _ _ _ r h => by simp [haycroftlaw03_MixTags.j0] at h
  | k + 1 => by
    have ih0 := haycroftlaw03_MixTags.mono_l k
    · intro y0 y1 y2
      unfold haycroftlaw03_MixTags.j0
      repeat' first
      | (with_reducible exact ih0 _ _ _)
      | (with_reducible exact haycroftlaw03_awake.mono _)
      | (with_reducible exact haycroftref03_Bucket.mono _ _ _)
      | (with_reducible exact LeO.refl _)
      | (with_reducible exact LeO.none _)
      | (with_reducible refine LeO.ite ?_ ?_)
      | (with_reducible refine LeO.bind ?_ (fun _ => ?_))
      | exact ih0 _ _ _
      | exact haycroftlaw03_awake.mono _
      | exact haycroftref03_Bucket.mono _ _ _
      | exact LeO.none _
      | refine LeO.ite ?_ ?_
      | refine LeO.bind ?_ (fun _ => ?_)
theorem haycroftlaw03_MixTags.mono : ∀ a0 a1 a2 k, LeO (haycroftlaw03_MixTags.f k a0 a1 a2) (haycroftlaw03_MixTags.f (k + 1) a0 a1 a2) := by
  intro a0 a1 a2 k
  have ih0 := haycroftlaw03_MixTags.mono_l k
  unfold haycroftlaw03_MixTags.f
  repeat' first
      | (with_reducible exact ih0 _ _ _)
      | (with_reducible exact haycroftlaw03_awake.mono _)
      | (with_reducible exact haycroftref03_Bucket.mono _ _ _)
      | (with_reducible exact LeO.refl _)
      | (with_reducible exact LeO.none _)
      | (with_reducible refine LeO.ite ?_ ?_)
      | (with_reducible refine LeO.bind ?_ (fun _ => ?_))
      | exact ih0 _ _ _
      | exact haycroftlaw03_awake.mono _
      | exact haycroftref03_Bucket.mono _ _ _
      | exact LeO.none _
      | refine LeO.ite ?_ ?_
      | refine LeO.bind ?_ (fun _ => ?_)
set_option maxHeartbeats 8000000 in
set_option maxRecDepth 100000 in
theorem haycroftlaw03_MixTags.calls (k : Nat) (a0 : Int) (a1 : Int) (a2 : Int) (r : Bool) (w : World) (h : haycroftlaw03_MixTags.f k a0 a1 a2 = some r) :
    Calls Try.prog 5 #[.int .u64 a0, .int .u64 a1, .int .i64 a2] w fun e w' => e = .returned (.bool r) ∧ Drawn0 w w' := by
  have H : ((haycroftlaw03_awake.f k).bind fun t114 => (if t114 = true then ((mix_Same.f a0 a1 a2).bind fun t115 => ((haycroftref03_Bucket.f k a0 a2).bind fun t116 => ((haycroftref03_Bucket.f k a1 a2).bind fun t117 => (if t116 = t117 then ((haycroftref03_Tag.f a0).bind fun t118 => ((haycroftref03_Tag.f a1).bind fun t119 => (haycroftlaw03_MixTags.j0 k a0 a2 (t115 != (t118 == t119))))) else (haycroftlaw03_MixTags.j0 k a0 a2 (t115 != false)))))) else (some false))) = some r := h
  clear h
  replace H := Option.bind_eq_some_iff.mp H
  obtain ⟨t114, A40, H⟩ := H
  replace H : (if t114 = true then ((mix_Same.f a0 a1 a2).bind fun t115 => ((haycroftref03_Bucket.f k a0 a2).bind fun t116 => ((haycroftref03_Bucket.f k a1 a2).bind fun t117 => (if t116 = t117 then ((haycroftref03_Tag.f a0).bind fun t118 => ((haycroftref03_Tag.f a1).bind fun t119 => (haycroftlaw03_MixTags.j0 k a0 a2 (t115 != (t118 == t119))))) else (haycroftlaw03_MixTags.j0 k a0 a2 (t115 != false)))))) else (some false)) = some r := H
  have A4 := Aside0.mk A40
  clear A40
  by_cases c5 : t114 = true
  · subst c5
    have H1 : ((mix_Same.f a0 a1 a2).bind fun t115 => ((haycroftref03_Bucket.f k a0 a2).bind fun t116 => ((haycroftref03_Bucket.f k a1 a2).bind fun t117 => (if t116 = t117 then ((haycroftref03_Tag.f a0).bind fun t118 => ((haycroftref03_Tag.f a1).bind fun t119 => (haycroftlaw03_MixTags.j0 k a0 a2 (t115 != (t118 == t119))))) else (haycroftlaw03_MixTags.j0 k a0 a2 (t115 != false)))))) = some r := by rw [if_pos rfl] at H; exact H
    clear H
    have H := H1
    clear H1
    have HC6 := Aside0.mk H
    clear H
    go_enter Try.func5, Try.ntmps5
    go_upto_region 3 with (first | ((with_reducible refine gate_callee (f := 12) rfl ?_); refine goesL_ (some 7) rfl rfl Try.func12 (by kernel_rfl) rfl #[] rfl (by (try simp only [List.map_toArray, List.map_cons, List.map_nil]); first | done | rfl | (simp only [List.length_drop, List.length_take]; rfl)) ?_; (with_reducible refine (haycroftlaw03_awake.calls k  true _ A4.out).mono ?_); rintro e w' ⟨rfl, ⟨nd, rfl⟩⟩; refine ⟨_, rfl, ?_⟩))
    (try simp only [Act.put, List.setIfInBounds_toArray, List.set_cons_zero, List.set_cons_succ])
    go_cut [27] (fun v27 wc => ∃ (kq : Nat) (x27_5 : Bool), v27 = .bool x27_5 ∧ Aside0 (haycroftlaw03_MixTags.j0 kq a0 a2 x27_5 = some r) ∧ Aside0 (kq ≤ k) ∧ Drawn0 w wc)
    case first =>
      have H := HC6.out
      clear HC6
      replace H := Option.bind_eq_some_iff.mp H
      obtain ⟨t115, A70, H⟩ := H
      replace H : ((haycroftref03_Bucket.f k a0 a2).bind fun t116 => ((haycroftref03_Bucket.f k a1 a2).bind fun t117 => (if t116 = t117 then ((haycroftref03_Tag.f a0).bind fun t118 => ((haycroftref03_Tag.f a1).bind fun t119 => (haycroftlaw03_MixTags.j0 k a0 a2 (t115 != (t118 == t119))))) else (haycroftlaw03_MixTags.j0 k a0 a2 (t115 != false))))) = some r := H
      have A7 := Aside0.mk A70
      clear A70
      replace H := Option.bind_eq_some_iff.mp H
      obtain ⟨t116, A80, H⟩ := H
      replace H : ((haycroftref03_Bucket.f k a1 a2).bind fun t117 => (if t116 = t117 then ((haycroftref03_Tag.f a0).bind fun t118 => ((haycroftref03_Tag.f a1).bind fun t119 => (haycroftlaw03_MixTags.j0 k a0 a2 (t115 != (t118 == t119))))) else (haycroftlaw03_MixTags.j0 k a0 a2 (t115 != false)))) = some r := H
      have A8 := Aside0.mk A80
      clear A80
      replace H := Option.bind_eq_some_iff.mp H
      obtain ⟨t117, A90, H⟩ := H
      replace H : (if t116 = t117 then ((haycroftref03_Tag.f a0).bind fun t118 => ((haycroftref03_Tag.f a1).bind fun t119 => (haycroftlaw03_MixTags.j0 k a0 a2 (t115 != (t118 == t119))))) else (haycroftlaw03_MixTags.j0 k a0 a2 (t115 != false))) = some r := H
      have A9 := Aside0.mk A90
      clear A90
      by_cases c10 : t116 = t117
      · rw [if_pos c10] at H
        have c10b0 : (t116 == t117) = true := beq_iff_eq.mpr c10
        have c10b1 : (t116 != t117) = false := bne_eq_false_iff_eq.mpr c10
        clear c10
        (first | rw [c10b0] | (simp only [i64_w, i32_w]; rw [c10b0]) | skip)
        replace H := Option.bind_eq_some_iff.mp H
        obtain ⟨t118, A110, H⟩ := H
        replace H : ((haycroftref03_Tag.f a1).bind fun t119 => (haycroftlaw03_MixTags.j0 k a0 a2 (t115 != (t118 == t119)))) = some r := H
        have A11 := Aside0.mk A110
        clear A110
        replace H := Option.bind_eq_some_iff.mp H
        obtain ⟨t119, A120, H⟩ := H
        replace H : (haycroftlaw03_MixTags.j0 k a0 a2 (t115 != (t118 == t119))) = some r := H
        have A12 := Aside0.mk A120
        clear A120
        have H' := Aside0.mk H
        clear H
        go_wp2_with (first | ((with_reducible refine gate_callee (f := 21) rfl ?_); refine goesL_ (some 12) rfl rfl Try.func21 (by kernel_rfl) rfl #[.int .u64 a0, .int .u64 a1, .int .i64 a2] rfl (by (try simp only [List.map_toArray, List.map_cons, List.map_nil]); first | done | rfl | (simp only [List.length_drop, List.length_take]; rfl)) ?_; (with_reducible refine (mix_Same.calls a0 a1 a2 t115 _ A7.out).mono ?_); rintro e w' ⟨rfl, ⟨nd, rfl⟩⟩; refine ⟨_, rfl, ?_⟩) | ((with_reducible refine gate_callee (f := 18) rfl ?_); refine goesL_ (some 15) rfl rfl Try.func18 (by kernel_rfl) rfl #[.int .u64 a0, .int .i64 a2] rfl (by (try simp only [List.map_toArray, List.map_cons, List.map_nil]); first | done | rfl | (simp only [List.length_drop, List.length_take]; rfl)) ?_; (with_reducible refine (haycroftref03_Bucket.calls k a0 a2 t116 _ A8.out).mono ?_); rintro e w' ⟨rfl, ⟨nd, rfl⟩⟩; refine ⟨_, rfl, ?_⟩) | ((with_reducible refine gate_callee (f := 18) rfl ?_); refine goesL_ (some 18) rfl rfl Try.func18 (by kernel_rfl) rfl #[.int .u64 a1, .int .i64 a2] rfl (by (try simp only [List.map_toArray, List.map_cons, List.map_nil]); first | done | rfl | (simp only [List.length_drop, List.length_take]; rfl)) ?_; (with_reducible refine (haycroftref03_Bucket.calls k a1 a2 t117 _ A9.out).mono ?_); rintro e w' ⟨rfl, ⟨nd, rfl⟩⟩; refine ⟨_, rfl, ?_⟩) | (go_at_call 20; (with_reducible refine (haycroftref03_Tag.calls a0 t118 _ A11.out).mono ?_); rintro e w' ⟨rfl, ⟨nd, rfl⟩⟩) | (go_at_call 20; (with_reducible refine (haycroftref03_Tag.calls a1 t119 _ A12.out).mono ?_); rintro e w' ⟨rfl, ⟨nd, rfl⟩⟩))
        go_meet
        case rel => exact ⟨_, ((t115 != (t118 == t119))), (by first | rfl | (simp; done) | (simp [*]; done)), H', ⟨by first | omega | exact Nat.le_refl _⟩, by repeat (first | exact Drawn0.refl _ | apply Drawn0.step)⟩
      · rw [if_neg c10] at H
        have c10b0 : (t116 == t117) = false := beq_eq_false_iff_ne.mpr c10
        have c10b1 : (t116 != t117) = true := bne_iff_ne.mpr c10
        (first | rw [c10b0] | (simp only [i64_w, i32_w]; rw [c10b0]) | skip)
        have H' := Aside0.mk H
        clear H
        go_wp2_with (first | ((with_reducible refine gate_callee (f := 21) rfl ?_); refine goesL_ (some 12) rfl rfl Try.func21 (by kernel_rfl) rfl #[.int .u64 a0, .int .u64 a1, .int .i64 a2] rfl (by (try simp only [List.map_toArray, List.map_cons, List.map_nil]); first | done | rfl | (simp only [List.length_drop, List.length_take]; rfl)) ?_; (with_reducible refine (mix_Same.calls a0 a1 a2 t115 _ A7.out).mono ?_); rintro e w' ⟨rfl, ⟨nd, rfl⟩⟩; refine ⟨_, rfl, ?_⟩) | ((with_reducible refine gate_callee (f := 18) rfl ?_); refine goesL_ (some 15) rfl rfl Try.func18 (by kernel_rfl) rfl #[.int .u64 a0, .int .i64 a2] rfl (by (try simp only [List.map_toArray, List.map_cons, List.map_nil]); first | done | rfl | (simp only [List.length_drop, List.length_take]; rfl)) ?_; (with_reducible refine (haycroftref03_Bucket.calls k a0 a2 t116 _ A8.out).mono ?_); rintro e w' ⟨rfl, ⟨nd, rfl⟩⟩; refine ⟨_, rfl, ?_⟩) | ((with_reducible refine gate_callee (f := 18) rfl ?_); refine goesL_ (some 18) rfl rfl Try.func18 (by kernel_rfl) rfl #[.int .u64 a1, .int .i64 a2] rfl (by (try simp only [List.map_toArray, List.map_cons, List.map_nil]); first | done | rfl | (simp only [List.length_drop, List.length_take]; rfl)) ?_; (with_reducible refine (haycroftref03_Bucket.calls k a1 a2 t117 _ A9.out).mono ?_); rintro e w' ⟨rfl, ⟨nd, rfl⟩⟩; refine ⟨_, rfl, ?_⟩))
        go_meet
        case rel => exact ⟨_, ((t115 != false)), (by first | rfl | (simp; done) | (simp [*]; done)), H', ⟨by first | omega | exact Nat.le_refl _⟩, by repeat (first | exact Drawn0.refl _ | apply Drawn0.step)⟩
    case rest =>
      clear HC6
      try clear c1
      try clear c2
      try clear p2
      try clear c5
      try clear c10
      try clear c10b0
      try clear c10b1
      try clear c12
      obtain ⟨kq, x27_5, rfl, HA, HJ5, ⟨mc5, rfl⟩⟩ := hcut
      cases kq with
      | zero => exact absurd HA.out (by simp [haycroftlaw03_MixTags.j0])
      | succ kj5 =>
        have H := HA.out
        clear HA
        simp only [haycroftlaw03_MixTags.j0] at H
        by_cases c13 : x27_5 = true
        · subst c13
          have H1 : (some false) = some r := by rw [if_pos rfl] at H; exact H
          clear H
          have H := H1
          clear H1
          obtain rfl := Option.some.inj H
          go_wp2
          go_ret
          exact ⟨by first | rfl | (simp; done) | (simp [*]; done), by repeat (first | exact Drawn0.refl _ | apply Drawn0.step)⟩
        · replace c13 := Bool.eq_false_iff.mpr c13
          subst c13
          have H1 : ((mix_May.f a2).bind fun t120 => (if t120 = true then (if a2 = 1 then (some true) else ((mix_Bucket.f a0 (wrap64 (Int.tdiv a2 2))).bind fun t121 => ((mix_Bucket.f a0 a2).bind fun t122 => (if (wrap64 (Int.tdiv a2 2)) = 0 then (none) else (some (t121 == (Int.tmod t122 (wrap64 (Int.tdiv a2 2))))))))) else (some true))) = some r := by rw [if_neg (show ¬ (false = true) by decide)] at H; exact H
          clear H
          have H := H1
          clear H1
          replace H := Option.bind_eq_some_iff.mp H
          obtain ⟨t120, A140, H⟩ := H
          replace H : (if t120 = true then (if a2 = 1 then (some true) else ((mix_Bucket.f a0 (wrap64 (Int.tdiv a2 2))).bind fun t121 => ((mix_Bucket.f a0 a2).bind fun t122 => (if (wrap64 (Int.tdiv a2 2)) = 0 then (none) else (some (t121 == (Int.tmod t122 (wrap64 (Int.tdiv a2 2))))))))) else (some true)) = some r := H
          have A14 := Aside0.mk A140
          clear A140
          by_cases c15 : t120 = true
          · subst c15
            have H1 : (if a2 = 1 then (some true) else ((mix_Bucket.f a0 (wrap64 (Int.tdiv a2 2))).bind fun t121 => ((mix_Bucket.f a0 a2).bind fun t122 => (if (wrap64 (Int.tdiv a2 2)) = 0 then (none) else (some (t121 == (Int.tmod t122 (wrap64 (Int.tdiv a2 2))))))))) = some r := by rw [if_pos rfl] at H; exact H
            clear H
            have H := H1
            clear H1
            by_cases c16 : a2 = 1
            · rw [if_pos c16] at H
              have c16b0 : (a2 == 1) = true := beq_iff_eq.mpr c16
              have c16b1 : (a2 != 1) = false := bne_eq_false_iff_eq.mpr c16
              clear c16
              obtain rfl := Option.some.inj H
              go_wp2_with (first | ((with_reducible refine gate_callee (f := 15) rfl ?_); refine goesL_ (some 29) rfl rfl Try.func15 (by kernel_rfl) rfl #[.int .i64 a2] rfl (by (try simp only [List.map_toArray, List.map_cons, List.map_nil]); first | done | rfl | (simp only [List.length_drop, List.length_take]; rfl)) ?_; (with_reducible refine (mix_May.calls a2 true _ A14.out).mono ?_); rintro e w' ⟨rfl, ⟨nd, rfl⟩⟩; refine ⟨_, rfl, ?_⟩))
              go_ret
              exact ⟨by first | rfl | (simp; done) | (simp [*]; done), by repeat (first | exact Drawn0.refl _ | apply Drawn0.step)⟩
            · rw [if_neg c16] at H
              have c16b0 : (a2 == 1) = false := beq_eq_false_iff_ne.mpr c16
              have c16b1 : (a2 != 1) = true := bne_iff_ne.mpr c16
              replace H := Option.bind_eq_some_iff.mp H
              obtain ⟨t121, A170, H⟩ := H
              replace H : ((mix_Bucket.f a0 a2).bind fun t122 => (if (wrap64 (Int.tdiv a2 2)) = 0 then (none) else (some (t121 == (Int.tmod t122 (wrap64 (Int.tdiv a2 2))))))) = some r := H
              have A17 := Aside0.mk A170
              clear A170
              replace H := Option.bind_eq_some_iff.mp H
              obtain ⟨t122, A180, H⟩ := H
              replace H : (if (wrap64 (Int.tdiv a2 2)) = 0 then (none) else (some (t121 == (Int.tmod t122 (wrap64 (Int.tdiv a2 2)))))) = some r := H
              have A18 := Aside0.mk A180
              clear A180
              by_cases c19 : (wrap64 (Int.tdiv a2 2)) = 0
              · rw [if_pos c19] at H
                exact absurd H (by simp)
              · rw [if_neg c19] at H
                have c19b0 : ((wrap64 (Int.tdiv a2 2)) == 0) = false := beq_eq_false_iff_ne.mpr c19
                have c19b1 : ((wrap64 (Int.tdiv a2 2)) != 0) = true := bne_iff_ne.mpr c19
                obtain rfl := Option.some.inj H
                go_wp2_with (first | ((with_reducible refine gate_callee (f := 15) rfl ?_); refine goesL_ (some 29) rfl rfl Try.func15 (by kernel_rfl) rfl #[.int .i64 a2] rfl (by (try simp only [List.map_toArray, List.map_cons, List.map_nil]); first | done | rfl | (simp only [List.length_drop, List.length_take]; rfl)) ?_; (with_reducible refine (mix_May.calls a2 true _ A14.out).mono ?_); rintro e w' ⟨rfl, ⟨nd, rfl⟩⟩; refine ⟨_, rfl, ?_⟩) | (go_at_call 17; (with_reducible refine (mix_Bucket.calls a0 (wrap64 (Int.tdiv a2 2)) t121 _ A17.out).mono ?_); rintro e w' ⟨rfl, ⟨nd, rfl⟩⟩) | (go_at_call 17; (with_reducible refine (mix_Bucket.calls a0 a2 t122 _ A18.out).mono ?_); rintro e w' ⟨rfl, ⟨nd, rfl⟩⟩))
                go_ret
                exact ⟨by first | rfl | (simp; done) | (simp [*]; done), by repeat (first | exact Drawn0.refl _ | apply Drawn0.step)⟩
          · replace c15 := Bool.eq_false_iff.mpr c15
            subst c15
            have H1 : (some true) = some r := by rw [if_neg (show ¬ (false = true) by decide)] at H; exact H
            clear H
            have H := H1
            clear H1
            obtain rfl := Option.some.inj H
            go_wp2_with (first | ((with_reducible refine gate_callee (f := 15) rfl ?_); refine goesL_ (some 29) rfl rfl Try.func15 (by kernel_rfl) rfl #[.int .i64 a2] rfl (by (try simp only [List.map_toArray, List.map_cons, List.map_nil]); first | done | rfl | (simp only [List.length_drop, List.length_take]; rfl)) ?_; (with_reducible refine (mix_May.calls a2 false _ A14.out).mono ?_); rintro e w' ⟨rfl, ⟨nd, rfl⟩⟩; refine ⟨_, rfl, ?_⟩))
            go_ret
            exact ⟨by first | rfl | (simp; done) | (simp [*]; done), by repeat (first | exact Drawn0.refl _ | apply Drawn0.step)⟩
  · replace c5 := Bool.eq_false_iff.mpr c5
    subst c5
    have H1 : (some false) = some r := by rw [if_neg (show ¬ (false = true) by decide)] at H; exact H
    clear H
    have H := H1
    clear H1
    obtain rfl := Option.some.inj H
    go_enter Try.func5, Try.ntmps5
    go_wp2_with (first | ((with_reducible refine gate_callee (f := 12) rfl ?_); refine goesL_ (some 7) rfl rfl Try.func12 (by kernel_rfl) rfl #[] rfl (by (try simp only [List.map_toArray, List.map_cons, List.map_nil]); first | done | rfl | (simp only [List.length_drop, List.length_take]; rfl)) ?_; (with_reducible refine (haycroftlaw03_awake.calls k  false _ A4.out).mono ?_); rintro e w' ⟨rfl, ⟨nd, rfl⟩⟩; refine ⟨_, rfl, ?_⟩))
    go_ret
    exact ⟨by first | rfl | (simp; done) | (simp [*]; done), by repeat (first | exact Drawn0.refl _ | apply Drawn0.step)⟩

/-- THE ONE PURE STATEMENT of haycroftlaw03_MixTags: yours. -/
def haycroftlaw03_MixTags.Pure : Prop := ∀ (a0 : Int) (a1 : Int) (a2 : Int), (Lit.int .u64 a0).wf = true → (Lit.int .u64 a1).wf = true → (Lit.int .i64 a2).wf = true → ∃ k, haycroftlaw03_MixTags.f k a0 a1 a2 = some true
theorem haycroftlaw03_MixTags.walk (P : haycroftlaw03_MixTags.Pure) (a0 : Int) (a1 : Int) (a2 : Int) (w : World) (w0 : (Lit.int .u64 a0).wf = true) (w1 : (Lit.int .u64 a1).wf = true) (w2 : (Lit.int .i64 a2).wf = true) :
    Calls Try.prog 5 #[.int .u64 a0, .int .u64 a1, .int .i64 a2] w fun e w' => e = .returned (.bool true) ∧ Below w.heap.size w w' := by
  obtain ⟨k, h⟩ := P a0 a1 a2 w0 w1 w2
  refine (haycroftlaw03_MixTags.calls k a0 a1 a2 true w h).mono ?_
  rintro e w' ⟨rfl, hd⟩
  exact ⟨rfl, hd.below⟩

end Go.Proofs.Ytcjicmabhejllaa.PMixTags
