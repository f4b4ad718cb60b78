/- Fair, as the reference has it: the same. -/
import Derived.Test.YtcjicmabhejllaaPlB
set_option linter.unusedVariables false
set_option linter.unusedSimpArgs false
namespace Go.Proofs.Ytcjicmabhejllaa
attribute [local congr] Go.Ev.cond_congr1
open Go.Ev Go.RowKit
theorem hasMove_succ (ds : List StepD) (i m : Nat) (s : Int) (h : i < ds.length) : hasMove ((ds.drop i).take (m + 1)) s = ((decide (ds[i].kind = 2) && decide (ds[i].s = s)) || hasMove ((ds.drop (i + 1)).take m) s) := by
  rw [List.drop_eq_getElem_cons h, List.take_succ_cons, hasMove, List.any_cons]; rfl
section
variable {ρ : Addr → Option Value} {call : CallF} {yc : YieldF} {k : Nat} {H : Heap} {x : AV} {ds : List StepD}
theorem rf_inner (hx : Els ρ H 8 x (ds.map StepD.cells)) (hlen : ds.length < 4611686018427387904) (sess s : Int) (fr w : Nat) (hfw : fr + w ≤ ds.length) (k4 : AV → AV → AV → AV → AV → AV → Heap → Res)
    (B : AV × AV → Heap → (AV × AV → Heap → Res) → Res) (hB : ∀ y H kn, B y H kn = N24_10b ρ call yc 0 k x (.int .i64 sess) (.int .i64 w) (.int .i64 fr) (.int .i64 s) y.1 y.2 H (fun _ _ _ _ _ x9 x10 H => kn (x9, x10) H) k4) :
    ∀ (m i n : Nat) (b : Bool), fr + w - i = m → i ≤ fr + w → m < n → loopL B n (.bool b, .int .i64 i) H = k4 x (.int .i64 sess) (.int .i64 w) (.int .i64 fr) (.int .i64 s) (.bool (b || hasMove ((ds.drop i).take m) s)) H := by
  intro m
  induction m with
  | zero =>
    intro i n b hm hi hn
    obtain ⟨n, rfl⟩ : ∃ q, n = q + 1 := ⟨n - 1, by omega⟩
    rw [loopL_succ, hB]
    have e1 : wrapK .i64 ((fr : Int) + w) = ((fr : Int) + w) := by rw [wrap_i64]; omega
    have h : ¬ (i : Int) < (fr : Int) + w := by omega
    simp only [N24_10b, e1, h, List.take_zero, hasMove, List.any_nil, purK_some, resK_some, boolK_some, condK_true, condK_false, wantV_tt, wantV_tf, wantV_ft, wantV_ff, wantV_t, wantV_f, wantV_skip, Bool.not_true, Bool.not_false, gPur_true, gPur_false, gEff_true, gEff_false, gRes_true, gRes_false, pickA_true, pickA_false, extA_0, extA_1, extA_2, retK_one, retK_none, retK_two, valK_fn, valR_fn, cond_true, cond_false, bin_add, bin_sub, bin_mul, bin_eql, bin_neq, bin_lss, bin_leq, bin_gtr, bin_geq, bin_seql, bin_sneq, un_not_t, un_not_f, un_not, cvI_int, cvT_str, nilChk_ptr, nilChk_xp, addA_ptr, lenT_str, Bool.true_or, Bool.or_true, Bool.false_or, Bool.or_false, Bool.true_and, Bool.and_true, Bool.false_and, Bool.and_false, decide_true, decide_false, List.nil_append, List.append_nil, List.cons_append]
  | succ m ih =>
    intro i n b hm hi hn
    obtain ⟨n, rfl⟩ : ∃ q, n = q + 1 := ⟨n - 1, by omega⟩
    rw [loopL_succ, hB]
    have e1 : wrapK .i64 ((fr : Int) + w) = ((fr : Int) + w) := by rw [wrap_i64]; omega
    have e2 : wrapK .i64 ((i : Int) + 1) = ((i + 1 : Nat) : Int) := by rw [wrap_i64] <;> omega
    have h : (i : Int) < (fr : Int) + w := by omega
    have hi1 : i < ds.length := by omega
    have hi2 : i < (ds.map StepD.cells).length := by simpa using hi1
    have e3 := hx.ix .i64 i (by omega) (by simpa using hi1)
    rw [Int.toNat_natCast] at e3
    have e4 := elp_add hx i 0 0 hi2
    have e5 := elp_add hx i 0 1 hi2
    have e6 := hx.ld1 i 0 hi2 (by omega)
    have e7 := hx.ld1 i 1 hi2 (by omega)
    simp only [List.getElem_map, StepD.cells, List.getElem?_cons_zero, List.getElem?_cons_succ] at e6 e7
    rw [hasMove_succ ds i m s hi1]
    have ih' := fun b => ih (i + 1) n b (by omega) (by omega) (by omega)
    cases b with
    | true =>
      simp only [N24_10b, e1, e2, h, purK_some, resK_some, boolK_some, condK_true, condK_false, wantV_tt, wantV_tf, wantV_ft, wantV_ff, wantV_t, wantV_f, wantV_skip, Bool.not_true, Bool.not_false, gPur_true, gPur_false, gEff_true, gEff_false, gRes_true, gRes_false, pickA_true, pickA_false, extA_0, extA_1, extA_2, retK_one, retK_none, retK_two, valK_fn, valR_fn, cond_true, cond_false, bin_add, bin_sub, bin_mul, bin_eql, bin_neq, bin_lss, bin_leq, bin_gtr, bin_geq, bin_seql, bin_sneq, un_not_t, un_not_f, un_not, cvI_int, cvT_str, nilChk_ptr, nilChk_xp, addA_ptr, lenT_str, Bool.true_or, Bool.or_true, Bool.false_or, Bool.or_false, Bool.true_and, Bool.and_true, Bool.false_and, Bool.and_false, decide_true, decide_false, List.nil_append, List.append_nil, List.cons_append]
      rw [ih' true, Bool.true_or]
    | false =>
      simp only [N24_10b, e1, e2, h, e3, e4, e5, e6, e7, purK_some, resK_some, boolK_some, condK_true, condK_false, wantV_tt, wantV_tf, wantV_ft, wantV_ff, wantV_t, wantV_f, wantV_skip, Bool.not_true, Bool.not_false, gPur_true, gPur_false, gEff_true, gEff_false, gRes_true, gRes_false, pickA_true, pickA_false, extA_0, extA_1, extA_2, retK_one, retK_none, retK_two, valK_fn, valR_fn, cond_true, cond_false, bin_add, bin_sub, bin_mul, bin_eql, bin_neq, bin_lss, bin_leq, bin_gtr, bin_geq, bin_seql, bin_sneq, un_not_t, un_not_f, un_not, cvI_int, cvT_str, nilChk_ptr, nilChk_xp, addA_ptr, lenT_str, Bool.true_or, Bool.or_true, Bool.false_or, Bool.or_false, Bool.true_and, Bool.and_true, Bool.false_and, Bool.and_false, decide_true, decide_false, List.nil_append, List.append_nil, List.cons_append]
      by_cases h2 : ds[i].kind = 2
      · have h2 := eq_true h2
        simp only [h2, e3, e5, e7, purK_some, resK_some, boolK_some, condK_true, condK_false, wantV_tt, wantV_tf, wantV_ft, wantV_ff, wantV_t, wantV_f, wantV_skip, Bool.not_true, Bool.not_false, gPur_true, gPur_false, gEff_true, gEff_false, gRes_true, gRes_false, pickA_true, pickA_false, extA_0, extA_1, extA_2, retK_one, retK_none, retK_two, valK_fn, valR_fn, cond_true, cond_false, bin_add, bin_sub, bin_mul, bin_eql, bin_neq, bin_lss, bin_leq, bin_gtr, bin_geq, bin_seql, bin_sneq, un_not_t, un_not_f, un_not, cvI_int, cvT_str, nilChk_ptr, nilChk_xp, addA_ptr, lenT_str, Bool.true_or, Bool.or_true, Bool.false_or, Bool.or_false, Bool.true_and, Bool.and_true, Bool.false_and, Bool.and_false, decide_true, decide_false, List.nil_append, List.append_nil, List.cons_append]
        rw [ih' (decide (ds[i].s = s))]
      · have h2 := eq_false h2
        simp only [h2, purK_some, resK_some, boolK_some, condK_true, condK_false, wantV_tt, wantV_tf, wantV_ft, wantV_ff, wantV_t, wantV_f, wantV_skip, Bool.not_true, Bool.not_false, gPur_true, gPur_false, gEff_true, gEff_false, gRes_true, gRes_false, pickA_true, pickA_false, extA_0, extA_1, extA_2, retK_one, retK_none, retK_two, valK_fn, valR_fn, cond_true, cond_false, bin_add, bin_sub, bin_mul, bin_eql, bin_neq, bin_lss, bin_leq, bin_gtr, bin_geq, bin_seql, bin_sneq, un_not_t, un_not_f, un_not, cvI_int, cvT_str, nilChk_ptr, nilChk_xp, addA_ptr, lenT_str, Bool.true_or, Bool.or_true, Bool.false_or, Bool.or_false, Bool.true_and, Bool.and_true, Bool.false_and, Bool.and_false, decide_true, decide_false, List.nil_append, List.append_nil, List.cons_append]
        rw [ih' false, Bool.false_or]
theorem rf_mid (hx : Els ρ H 8 x (ds.map StepD.cells)) (hlen : ds.length < 4611686018427387904) (sess : Int) (fr w : Nat) (hfw : fr + w ≤ ds.length) (hk : w < k) (k2 : AV → AV → AV → AV → Heap → Res) (R : List AV → Heap → Res)
    (B : AV → Heap → (AV → Heap → Res) → Res) (hB : ∀ y H kn, B y H kn = N24_6b ρ call yc 0 k x (.int .i64 sess) (.int .i64 w) (.int .i64 fr) y H (fun _ _ _ _ x8 H => kn x8 H) k2 R) :
    ∀ (m s n : Nat), w + 1 - s = m → (∀ t : Nat, t < s → hasMove ((ds.drop fr).take w) t = true) → (s : Int) ≤ sess ∨ s = 0 → m < n →
      loopL B n (.int .i64 s) H = if movesP ((ds.drop fr).take w) sess = true then k2 x (.int .i64 sess) (.int .i64 w) (.int .i64 fr) H else R [.bool false] H := by
  intro m
  induction m with
  | zero =>
    intro s n hm hall hs hn
    have := moves_few hall
    rw [List.length_take] at this
    omega
  | succ m ih =>
    intro s n hm hall hs hn
    obtain ⟨n, rfl⟩ : ∃ q, n = q + 1 := ⟨n - 1, by omega⟩
    rw [loopL_succ, hB]
    by_cases h : (s : Int) < sess
    · have inner := rf_inner (ρ := ρ) (call := call) (yc := yc) (k := k) hx hlen sess s fr w hfw (fun x0_1 x1_1 x2_1 x7_1 x8_1 x9_1 H =>
      N24_8 ρ call yc 0 k x0_1 x1_1 x2_1 x7_1 x8_1 x9_1 H (fun x0_2 x1_2 x2_2 x7_2 x8_2 H =>
        N24_7 ρ call yc 0 k x0_2 x1_2 x2_2 x7_2 x8_2 H (fun _ _ _ _ x8 H => loopL B n x8 H)) R) _ (fun _ _ _ => rfl) w fr k false (by omega) (by omega) hk
      have e2 : wrapK .i64 ((s : Int) + 1) = ((s + 1 : Nat) : Int) := by rw [wrap_i64] <;> omega
      simp only [N24_6b, N24_9, N24_10, h, purK_some, resK_some, boolK_some, condK_true, condK_false, wantV_tt, wantV_tf, wantV_ft, wantV_ff, wantV_t, wantV_f, wantV_skip, Bool.not_true, Bool.not_false, gPur_true, gPur_false, gEff_true, gEff_false, gRes_true, gRes_false, pickA_true, pickA_false, extA_0, extA_1, extA_2, retK_one, retK_none, retK_two, valK_fn, valR_fn, cond_true, cond_false, bin_add, bin_sub, bin_mul, bin_eql, bin_neq, bin_lss, bin_leq, bin_gtr, bin_geq, bin_seql, bin_sneq, un_not_t, un_not_f, un_not, cvI_int, cvT_str, nilChk_ptr, nilChk_xp, addA_ptr, lenT_str, Bool.true_or, Bool.or_true, Bool.false_or, Bool.or_false, Bool.true_and, Bool.and_true, Bool.false_and, Bool.and_false, decide_true, decide_false, List.nil_append, List.append_nil, List.cons_append]
      rw [inner]
      rw [Bool.false_or]
      cases hq : hasMove ((ds.drop fr).take w) s with
      | true =>
        simp only [N24_8, N24_7, e2, purK_some, resK_some, boolK_some, condK_true, condK_false, wantV_tt, wantV_tf, wantV_ft, wantV_ff, wantV_t, wantV_f, wantV_skip, Bool.not_true, Bool.not_false, gPur_true, gPur_false, gEff_true, gEff_false, gRes_true, gRes_false, pickA_true, pickA_false, extA_0, extA_1, extA_2, retK_one, retK_none, retK_two, valK_fn, valR_fn, cond_true, cond_false, bin_add, bin_sub, bin_mul, bin_eql, bin_neq, bin_lss, bin_leq, bin_gtr, bin_geq, bin_seql, bin_sneq, un_not_t, un_not_f, un_not, cvI_int, cvT_str, nilChk_ptr, nilChk_xp, addA_ptr, lenT_str, Bool.true_or, Bool.or_true, Bool.false_or, Bool.or_false, Bool.true_and, Bool.and_true, Bool.false_and, Bool.and_false, decide_true, decide_false, List.nil_append, List.append_nil, List.cons_append]
        exact ih (s + 1) n (by omega) (fun t ht => by
          by_cases e : t = s
          · rw [e, hq]
          · exact hall t (by omega)) (Or.inl (by omega)) (by omega)
      | false =>
        have : movesP ((ds.drop fr).take w) sess = false := by
          unfold movesP
          rw [List.all_eq_false]
          exact ⟨s, List.mem_range.2 (by omega), by simp [hq]⟩
        simp only [N24_8, this, purK_some, resK_some, boolK_some, condK_true, condK_false, wantV_tt, wantV_tf, wantV_ft, wantV_ff, wantV_t, wantV_f, wantV_skip, Bool.not_true, Bool.not_false, gPur_true, gPur_false, gEff_true, gEff_false, gRes_true, gRes_false, pickA_true, pickA_false, extA_0, extA_1, extA_2, retK_one, retK_none, retK_two, valK_fn, valR_fn, cond_true, cond_false, bin_add, bin_sub, bin_mul, bin_eql, bin_neq, bin_lss, bin_leq, bin_gtr, bin_geq, bin_seql, bin_sneq, un_not_t, un_not_f, un_not, cvI_int, cvT_str, nilChk_ptr, nilChk_xp, addA_ptr, lenT_str, Bool.true_or, Bool.or_true, Bool.false_or, Bool.or_false, Bool.true_and, Bool.and_true, Bool.false_and, Bool.and_false, decide_true, decide_false, List.nil_append, List.append_nil, List.cons_append]
        rfl
    · have : movesP ((ds.drop fr).take w) sess = true := by
        unfold movesP
        rw [List.all_eq_true]
        intro t ht
        exact hall t (by have := List.mem_range.1 ht; omega)
      simp only [N24_6b, h, this, if_true, purK_some, resK_some, boolK_some, condK_true, condK_false, wantV_tt, wantV_tf, wantV_ft, wantV_ff, wantV_t, wantV_f, wantV_skip, Bool.not_true, Bool.not_false, gPur_true, gPur_false, gEff_true, gEff_false, gRes_true, gRes_false, pickA_true, pickA_false, extA_0, extA_1, extA_2, retK_one, retK_none, retK_two, valK_fn, valR_fn, cond_true, cond_false, bin_add, bin_sub, bin_mul, bin_eql, bin_neq, bin_lss, bin_leq, bin_gtr, bin_geq, bin_seql, bin_sneq, un_not_t, un_not_f, un_not, cvI_int, cvT_str, nilChk_ptr, nilChk_xp, addA_ptr, lenT_str, Bool.true_or, Bool.or_true, Bool.false_or, Bool.or_false, Bool.true_and, Bool.and_true, Bool.false_and, Bool.and_false, decide_true, decide_false, List.nil_append, List.append_nil, List.cons_append]
end
section
variable {ρ : Addr → Option Value} {k : Nat} {H : Heap} {x : AV} {ds : List StepD}
theorem rfair_spec (hx : Els ρ H 8 x (ds.map StepD.cells)) (hlen : ds.length < 4611686018427387904) (sessions window : Int) (hw : window < 9223372036854775808) (hk : ds.length + 10 ≤ k) :
    evCall (cx ρ) (k + 1) 0 24 [x, .int .i64 sessions, .int .i64 window] H = some (.bool (fairP ds sessions window), H) := by
  rw [E24]
  unfold fairP
  by_cases h1 : window < 1
  · simp only [L24, h1, if_true, purK_some, resK_some, boolK_some, condK_true, condK_false, wantV_tt, wantV_tf, wantV_ft, wantV_ff, wantV_t, wantV_f, wantV_skip, Bool.not_true, Bool.not_false, gPur_true, gPur_false, gEff_true, gEff_false, gRes_true, gRes_false, pickA_true, pickA_false, extA_0, extA_1, extA_2, retK_one, retK_none, retK_two, valK_fn, valR_fn, cond_true, cond_false, bin_add, bin_sub, bin_mul, bin_eql, bin_neq, bin_lss, bin_leq, bin_gtr, bin_geq, bin_seql, bin_sneq, un_not_t, un_not_f, un_not, cvI_int, cvT_str, nilChk_ptr, nilChk_xp, addA_ptr, lenT_str, Bool.true_or, Bool.or_true, Bool.false_or, Bool.or_false, Bool.true_and, Bool.and_true, Bool.false_and, Bool.and_false, decide_true, decide_false, List.nil_append, List.append_nil, List.cons_append]
  rw [if_neg h1]
  obtain ⟨w, rfl⟩ : ∃ w : Nat, window = w := ⟨window.toNat, by omega⟩
  rw [Int.toNat_natCast]
  simp only [L24, h1, N24_2, N24_3, purK_some, resK_some, boolK_some, condK_true, condK_false, wantV_tt, wantV_tf, wantV_ft, wantV_ff, wantV_t, wantV_f, wantV_skip, Bool.not_true, Bool.not_false, gPur_true, gPur_false, gEff_true, gEff_false, gRes_true, gRes_false, pickA_true, pickA_false, extA_0, extA_1, extA_2, retK_one, retK_none, retK_two, valK_fn, valR_fn, cond_true, cond_false, bin_add, bin_sub, bin_mul, bin_eql, bin_neq, bin_lss, bin_leq, bin_gtr, bin_geq, bin_seql, bin_sneq, un_not_t, un_not_f, un_not, cvI_int, cvT_str, nilChk_ptr, nilChk_xp, addA_ptr, lenT_str, Bool.true_or, Bool.or_true, Bool.false_or, Bool.or_false, Bool.true_and, Bool.and_true, Bool.false_and, Bool.and_false, decide_true, decide_false, List.nil_append, List.append_nil, List.cons_append]
  refine loopL_wp (W := fun r => r = some (.bool (fairGo sessions w (ds.length + 1) ds), H))
    (fun m y H1 => ∃ fr : Nat, y = .int .i64 fr ∧ H1 = H ∧ fr ≤ ds.length ∧ ds.length - fr ≤ m ∧ fairGo sessions w (m + 1) (ds.drop fr) = fairGo sessions w (ds.length + 1) ds) ?_ ds.length _ _ _ ⟨0, rfl, rfl, by omega, by omega, by rw [List.drop_zero]⟩ (by omega)
  rintro m y H1 f ⟨fr, rfl, rfl, hfr, hm, hg⟩ hkn
  have e1 : wrapK .i64 ((ds.length : Int) - w) = (ds.length : Int) - w := by rw [wrap_i64]; omega
  have hdl : (ds.drop fr).length = ds.length - fr := List.length_drop ..
  rw [← hg]
  by_cases h2 : (fr : Int) ≤ (ds.length : Int) - w
  · have ef : fairGo sessions w (m + 1) (ds.drop fr) = (movesP ((ds.drop fr).take w) sessions && fairGo sessions w m (ds.drop (fr + w))) := by rw [fairGo, if_pos (by omega), List.drop_drop]
    have mid := rf_mid (ρ := ρ) (call := evCall (cx ρ) k) (yc := (evCY (cx ρ) k).2) (k := k) hx hlen sessions fr w (by omega) (by omega) (fun x0_1 x1_1 x2_1 x7_1 H =>
      N24_4 ρ (evCall (cx ρ) k) (evCY (cx ρ) k).2 0 k x0_1 x1_1 x2_1 x7_1 H (fun _ _ _ x7 H => f x7 H)) retK _ (fun _ _ _ => rfl) (w + 1) 0 k (by omega) (fun t h => by omega) (Or.inr rfl) (by omega)
    have z : ((0 : Nat) : Int) = 0 := rfl
    rw [z] at mid
    have e2 : wrapK .i64 ((fr : Int) + w) = ((fr + w : Nat) : Int) := by rw [wrap_i64] <;> omega
    simp only [N24_3b, N24_5, N24_6, hx.lenS, List.length_map, e1, h2, purK_some, resK_some, boolK_some, condK_true, condK_false, wantV_tt, wantV_tf, wantV_ft, wantV_ff, wantV_t, wantV_f, wantV_skip, Bool.not_true, Bool.not_false, gPur_true, gPur_false, gEff_true, gEff_false, gRes_true, gRes_false, pickA_true, pickA_false, extA_0, extA_1, extA_2, retK_one, retK_none, retK_two, valK_fn, valR_fn, cond_true, cond_false, bin_add, bin_sub, bin_mul, bin_eql, bin_neq, bin_lss, bin_leq, bin_gtr, bin_geq, bin_seql, bin_sneq, un_not_t, un_not_f, un_not, cvI_int, cvT_str, nilChk_ptr, nilChk_xp, addA_ptr, lenT_str, Bool.true_or, Bool.or_true, Bool.false_or, Bool.or_false, Bool.true_and, Bool.and_true, Bool.false_and, Bool.and_false, decide_true, decide_false, List.nil_append, List.append_nil, List.cons_append]
    rw [mid, ef]
    cases hq : movesP ((ds.drop fr).take w) sessions with
    | false => simp only [Bool.false_eq_true, if_false, purK_some, resK_some, boolK_some, condK_true, condK_false, wantV_tt, wantV_tf, wantV_ft, wantV_ff, wantV_t, wantV_f, wantV_skip, Bool.not_true, Bool.not_false, gPur_true, gPur_false, gEff_true, gEff_false, gRes_true, gRes_false, pickA_true, pickA_false, extA_0, extA_1, extA_2, retK_one, retK_none, retK_two, valK_fn, valR_fn, cond_true, cond_false, bin_add, bin_sub, bin_mul, bin_eql, bin_neq, bin_lss, bin_leq, bin_gtr, bin_geq, bin_seql, bin_sneq, un_not_t, un_not_f, un_not, cvI_int, cvT_str, nilChk_ptr, nilChk_xp, addA_ptr, lenT_str, Bool.true_or, Bool.or_true, Bool.false_or, Bool.or_false, Bool.true_and, Bool.and_true, Bool.false_and, Bool.and_false, decide_true, decide_false, List.nil_append, List.append_nil, List.cons_append]
    | true =>
      simp only [if_true, N24_4, e2, purK_some, resK_some, boolK_some, condK_true, condK_false, wantV_tt, wantV_tf, wantV_ft, wantV_ff, wantV_t, wantV_f, wantV_skip, Bool.not_true, Bool.not_false, gPur_true, gPur_false, gEff_true, gEff_false, gRes_true, gRes_false, pickA_true, pickA_false, extA_0, extA_1, extA_2, retK_one, retK_none, retK_two, valK_fn, valR_fn, cond_true, cond_false, bin_add, bin_sub, bin_mul, bin_eql, bin_neq, bin_lss, bin_leq, bin_gtr, bin_geq, bin_seql, bin_sneq, un_not_t, un_not_f, un_not, cvI_int, cvT_str, nilChk_ptr, nilChk_xp, addA_ptr, lenT_str, Bool.true_or, Bool.or_true, Bool.false_or, Bool.or_false, Bool.true_and, Bool.and_true, Bool.false_and, Bool.and_false, decide_true, decide_false, List.nil_append, List.append_nil, List.cons_append]
      have := hkn (m - 1) (.int .i64 (fr + w : Nat)) H1 (by omega) ⟨fr + w, rfl, rfl, by omega, by omega, by rw [← hg, ef, hq, Bool.true_and, show m - 1 + 1 = m by omega]⟩
      rw [← hg, ef, hq, Bool.true_and] at this
      exact this
  · have h3 : ¬ w ≤ (ds.drop fr).length := by omega
    rw [fairGo, if_neg h3]
    simp only [N24_3b, N24_1, hx.lenS, List.length_map, e1, h2, purK_some, resK_some, boolK_some, condK_true, condK_false, wantV_tt, wantV_tf, wantV_ft, wantV_ff, wantV_t, wantV_f, wantV_skip, Bool.not_true, Bool.not_false, gPur_true, gPur_false, gEff_true, gEff_false, gRes_true, gRes_false, pickA_true, pickA_false, extA_0, extA_1, extA_2, retK_one, retK_none, retK_two, valK_fn, valR_fn, cond_true, cond_false, bin_add, bin_sub, bin_mul, bin_eql, bin_neq, bin_lss, bin_leq, bin_gtr, bin_geq, bin_seql, bin_sneq, un_not_t, un_not_f, un_not, cvI_int, cvT_str, nilChk_ptr, nilChk_xp, addA_ptr, lenT_str, Bool.true_or, Bool.or_true, Bool.false_or, Bool.or_false, Bool.true_and, Bool.and_true, Bool.false_and, Bool.and_false, decide_true, decide_false, List.nil_append, List.append_nil, List.cons_append]
end
end Go.Proofs.Ytcjicmabhejllaa
