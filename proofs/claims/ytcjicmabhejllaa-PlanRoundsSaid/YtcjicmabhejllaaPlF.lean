/- PlanRounds: whatever the numbers, the law tells true. -/
import Derived.Test.YtcjicmabhejllaaPlE
set_option linter.unusedVariables false
set_option linter.unusedSimpArgs false
namespace Go.Proofs.Ytcjicmabhejllaa
attribute [local congr] Go.Ev.cond_congr1
open Go.Ev Go.RowKit
theorem law_bad (s t c : Int) (h : s < 1 ∨ 8 < s ∨ t < 0 ∨ 32 < t ∨ c < 0 ∨ 100 < c) : ∃ H, evCall (cx ρ0) 5001 0 6 [.int .i64 s, .int .i64 t, .int .i64 c] Heap.nil = some (.bool true, H) := by
  rw [E6 ρ0 5000]
  have h1 := aw_run ρ0 4995 Heap.nil
  have h2 := rounds_bad (ρ := ρ0) (k := 4999) (H := Heap.nil) s t c h
  have ln : lenS .nils = some (.int .i64 0) := rfl
  refine ⟨Heap.nil, ?_⟩
  by_cases a1 : s < 1
  · simp only [L6, h1, h2, ln, a1, purK_some, resK_some, boolK_some, condK_true, condK_false, wantV_tt, wantV_tf, wantV_ft, wantV_ff, wantV_t, wantV_f, wantV_skip, Bool.not_true, Bool.not_false, gPur_true, gPur_false, gEff_true, gEff_false, gRes_true, gRes_false, pickA_true, pickA_false, extA_0, extA_1, extA_2, retK_one, retK_none, retK_two, valK_fn, valR_fn, cond_true, cond_false, bin_add, bin_sub, bin_mul, bin_eql, bin_neq, bin_lss, bin_leq, bin_gtr, bin_geq, bin_seql, bin_sneq, un_not_t, un_not_f, un_not, cvI_int, cvT_str, nilChk_ptr, nilChk_xp, addA_ptr, lenT_str, Bool.true_or, Bool.or_true, Bool.false_or, Bool.or_false, Bool.true_and, Bool.and_true, Bool.false_and, Bool.and_false, decide_true, decide_false, List.nil_append, List.append_nil, List.cons_append]
  by_cases a2 : 8 < s
  · simp only [L6, h1, h2, ln, a1, a2, purK_some, resK_some, boolK_some, condK_true, condK_false, wantV_tt, wantV_tf, wantV_ft, wantV_ff, wantV_t, wantV_f, wantV_skip, Bool.not_true, Bool.not_false, gPur_true, gPur_false, gEff_true, gEff_false, gRes_true, gRes_false, pickA_true, pickA_false, extA_0, extA_1, extA_2, retK_one, retK_none, retK_two, valK_fn, valR_fn, cond_true, cond_false, bin_add, bin_sub, bin_mul, bin_eql, bin_neq, bin_lss, bin_leq, bin_gtr, bin_geq, bin_seql, bin_sneq, un_not_t, un_not_f, un_not, cvI_int, cvT_str, nilChk_ptr, nilChk_xp, addA_ptr, lenT_str, Bool.true_or, Bool.or_true, Bool.false_or, Bool.or_false, Bool.true_and, Bool.and_true, Bool.false_and, Bool.and_false, decide_true, decide_false, List.nil_append, List.append_nil, List.cons_append]
  by_cases a3 : t < 0
  · simp only [L6, h1, h2, ln, a1, a2, a3, purK_some, resK_some, boolK_some, condK_true, condK_false, wantV_tt, wantV_tf, wantV_ft, wantV_ff, wantV_t, wantV_f, wantV_skip, Bool.not_true, Bool.not_false, gPur_true, gPur_false, gEff_true, gEff_false, gRes_true, gRes_false, pickA_true, pickA_false, extA_0, extA_1, extA_2, retK_one, retK_none, retK_two, valK_fn, valR_fn, cond_true, cond_false, bin_add, bin_sub, bin_mul, bin_eql, bin_neq, bin_lss, bin_leq, bin_gtr, bin_geq, bin_seql, bin_sneq, un_not_t, un_not_f, un_not, cvI_int, cvT_str, nilChk_ptr, nilChk_xp, addA_ptr, lenT_str, Bool.true_or, Bool.or_true, Bool.false_or, Bool.or_false, Bool.true_and, Bool.and_true, Bool.false_and, Bool.and_false, decide_true, decide_false, List.nil_append, List.append_nil, List.cons_append]
  by_cases a4 : 32 < t
  · simp only [L6, h1, h2, ln, a1, a2, a3, a4, purK_some, resK_some, boolK_some, condK_true, condK_false, wantV_tt, wantV_tf, wantV_ft, wantV_ff, wantV_t, wantV_f, wantV_skip, Bool.not_true, Bool.not_false, gPur_true, gPur_false, gEff_true, gEff_false, gRes_true, gRes_false, pickA_true, pickA_false, extA_0, extA_1, extA_2, retK_one, retK_none, retK_two, valK_fn, valR_fn, cond_true, cond_false, bin_add, bin_sub, bin_mul, bin_eql, bin_neq, bin_lss, bin_leq, bin_gtr, bin_geq, bin_seql, bin_sneq, un_not_t, un_not_f, un_not, cvI_int, cvT_str, nilChk_ptr, nilChk_xp, addA_ptr, lenT_str, Bool.true_or, Bool.or_true, Bool.false_or, Bool.or_false, Bool.true_and, Bool.and_true, Bool.false_and, Bool.and_false, decide_true, decide_false, List.nil_append, List.append_nil, List.cons_append]
  by_cases a5 : c < 0
  · simp only [L6, h1, h2, ln, a1, a2, a3, a4, a5, purK_some, resK_some, boolK_some, condK_true, condK_false, wantV_tt, wantV_tf, wantV_ft, wantV_ff, wantV_t, wantV_f, wantV_skip, Bool.not_true, Bool.not_false, gPur_true, gPur_false, gEff_true, gEff_false, gRes_true, gRes_false, pickA_true, pickA_false, extA_0, extA_1, extA_2, retK_one, retK_none, retK_two, valK_fn, valR_fn, cond_true, cond_false, bin_add, bin_sub, bin_mul, bin_eql, bin_neq, bin_lss, bin_leq, bin_gtr, bin_geq, bin_seql, bin_sneq, un_not_t, un_not_f, un_not, cvI_int, cvT_str, nilChk_ptr, nilChk_xp, addA_ptr, lenT_str, Bool.true_or, Bool.or_true, Bool.false_or, Bool.or_false, Bool.true_and, Bool.and_true, Bool.false_and, Bool.and_false, decide_true, decide_false, List.nil_append, List.append_nil, List.cons_append]
  by_cases a6 : 100 < c
  · simp only [L6, h1, h2, ln, a1, a2, a3, a4, a5, a6, purK_some, resK_some, boolK_some, condK_true, condK_false, wantV_tt, wantV_tf, wantV_ft, wantV_ff, wantV_t, wantV_f, wantV_skip, Bool.not_true, Bool.not_false, gPur_true, gPur_false, gEff_true, gEff_false, gRes_true, gRes_false, pickA_true, pickA_false, extA_0, extA_1, extA_2, retK_one, retK_none, retK_two, valK_fn, valR_fn, cond_true, cond_false, bin_add, bin_sub, bin_mul, bin_eql, bin_neq, bin_lss, bin_leq, bin_gtr, bin_geq, bin_seql, bin_sneq, un_not_t, un_not_f, un_not, cvI_int, cvT_str, nilChk_ptr, nilChk_xp, addA_ptr, lenT_str, Bool.true_or, Bool.or_true, Bool.false_or, Bool.or_false, Bool.true_and, Bool.and_true, Bool.false_and, Bool.and_false, decide_true, decide_false, List.nil_append, List.append_nil, List.cons_append]
  omega
theorem law_ok (s t c : Nat) (hs1 : 1 ≤ s) (hs : s ≤ 8) (ht : t ≤ 32) (hc : c ≤ 100) : ∃ H, evCall (cx ρ0) 5001 0 6 [.int .i64 s, .int .i64 t, .int .i64 c] Heap.nil = some (.bool true, H) := by
  rw [E6 ρ0 5000]
  have h1 := aw_run ρ0 4995 Heap.nil
  obtain ⟨y, H1, h2, hG⟩ := rounds_ok (ρ := ρ0) (k := 4999) (H := Heap.nil) s t c hs1 hs ht hc (by decide)
  have a1 : ¬ (s : Int) < 1 := by omega
  have a2 : ¬ (8 : Int) < s := by omega
  have a3 : ¬ (t : Int) < 0 := by omega
  have a4 : ¬ (32 : Int) < t := by omega
  have a5 : ¬ (c : Int) < 0 := by omega
  have a6 : ¬ (100 : Int) < c := by omega
  obtain ⟨w, hw⟩ : ∃ w, w = 2 * s + t := ⟨_, rfl⟩
  have hw2 : w ≤ 48 := by omega
  have hcw : c * w ≤ 100 * 48 := Nat.mul_le_mul hc hw2
  have b1 : wrapK .i64 (2 * (s : Int)) = ((2 * s : Nat) : Int) := wrap_mulN 2 s (by omega)
  have b2 : wrapK .i64 (((2 * s : Nat) : Int) + (t : Int)) = (w : Nat) := by rw [wrap_addN _ _ (by omega), hw]
  have b3 : wrapK .i64 ((c : Int) * ((w : Nat) : Int)) = ((c * w : Nat) : Int) := wrap_mulN c w (by omega)
  rw [← hw] at hG
  have hx := hG.grow.toEls (ρ := ρ0)
  rw [rows_map] at hx
  have hdl : (dsUpto s t (c * w)).length = c * w := by simp [dsUpto]
  have hds : ∀ d ∈ dsUpto s t (c * w), scal d.picks = true := by
    intro d hd
    obtain ⟨i, _, rfl⟩ := List.mem_map.1 hd
    rw [stepAt_picks]; rfl
  have hfair : fairP (dsUpto s t (c * w)) s (w : Nat) = true := by
    unfold fairP
    rw [if_neg (by omega), Int.toNat_natCast]
    have := fair_rounds s t hs1 c 0 c ((dsUpto s t (c * w)).length + 1) (by omega) (by
      rw [hdl]
      have : c * 1 ≤ c * w := Nat.mul_le_mul_left c (by omega)
      omega)
    rw [← hw, Nat.zero_mul, List.drop_zero] at this
    exact this
  obtain ⟨H2, h3, hF⟩ := fair_spec (k := 4998) hx hds (by omega) (s : Int) (w : Nat) (by rw [hdl]; omega)
  have hx2 := hx.frame0 hF
  have h4 := rfair_spec (k := 4999) hx2 (by omega) (s : Int) (w : Nat) (by omega) (by rw [hdl]; omega)
  rw [hfair] at h3 h4
  have hl := hx.lenS
  rw [List.length_map, hdl] at hl
  obtain ⟨H3, h5⟩ := law_loop (ρ := ρ0) (call := evCall (cx ρ0) 5000) (yc := (evCY (cx ρ0) 5000).2) (k := 5000) s t (c * w) hs1 hs ht (by omega) (fun H => N6_1 ρ0 (evCall (cx ρ0) 5000) (evCY (cx ρ0) 5000).2 0 5000 H retK) retK _ (fun _ _ _ => rfl) (c * w) 0 5000 H2 (by omega) (by omega) (by omega) hx2
  have z : ((0 : Nat) : Int) = 0 := rfl
  rw [z, ← hw] at h5
  simp only [N6_1, purK_some, resK_some, boolK_some, condK_true, condK_false, wantV_tt, wantV_tf, wantV_ft, wantV_ff, wantV_t, wantV_f, wantV_skip, Bool.not_true, Bool.not_false, gPur_true, gPur_false, gEff_true, gEff_false, gRes_true, gRes_false, pickA_true, pickA_false, extA_0, extA_1, extA_2, retK_one, retK_none, retK_two, valK_fn, valR_fn, cond_true, cond_false, bin_add, bin_sub, bin_mul, bin_eql, bin_neq, bin_lss, bin_leq, bin_gtr, bin_geq, bin_seql, bin_sneq, un_not_t, un_not_f, un_not, cvI_int, cvT_str, nilChk_ptr, nilChk_xp, addA_ptr, lenT_str, Bool.true_or, Bool.or_true, Bool.false_or, Bool.or_false, Bool.true_and, Bool.and_true, Bool.false_and, Bool.and_false, decide_true, decide_false, List.nil_append, List.append_nil, List.cons_append] at h5
  refine ⟨H3, ?_⟩
  simp only [L6, h1, h2, a1, a2, a3, a4, a5, a6, b1, b2, b3, hl, h3, h4, N6_2, N6_3, N6_1, h5, ne_eq, not_true, purK_some, resK_some, boolK_some, condK_true, condK_false, wantV_tt, wantV_tf, wantV_ft, wantV_ff, wantV_t, wantV_f, wantV_skip, Bool.not_true, Bool.not_false, gPur_true, gPur_false, gEff_true, gEff_false, gRes_true, gRes_false, pickA_true, pickA_false, extA_0, extA_1, extA_2, retK_one, retK_none, retK_two, valK_fn, valR_fn, cond_true, cond_false, bin_add, bin_sub, bin_mul, bin_eql, bin_neq, bin_lss, bin_leq, bin_gtr, bin_geq, bin_seql, bin_sneq, un_not_t, un_not_f, un_not, cvI_int, cvT_str, nilChk_ptr, nilChk_xp, addA_ptr, lenT_str, Bool.true_or, Bool.or_true, Bool.false_or, Bool.or_false, Bool.true_and, Bool.and_true, Bool.false_and, Bool.and_false, decide_true, decide_false, List.nil_append, List.append_nil, List.cons_append]
theorem law_run (s t c : Int) : ∃ H, evCall (cx ρ0) 5001 0 6 [.int .i64 s, .int .i64 t, .int .i64 c] Heap.nil = some (.bool true, H) := by
  by_cases h : s < 1 ∨ 8 < s ∨ t < 0 ∨ 32 < t ∨ c < 0 ∨ 100 < c
  · exact law_bad s t c h
  · obtain ⟨s, rfl⟩ : ∃ q : Nat, s = q := ⟨s.toNat, by omega⟩
    obtain ⟨t, rfl⟩ : ∃ q : Nat, t = q := ⟨t.toNat, by omega⟩
    obtain ⟨c, rfl⟩ : ∃ q : Nat, c = q := ⟨c.toNat, by omega⟩
    exact law_ok s t c (by omega) (by omega) (by omega) (by omega)
end Go.Proofs.Ytcjicmabhejllaa
