/- Rounds: what is told, step by step. -/
import Derived.Test.YtcjicmabhejllaaPlC
set_option linter.unusedVariables false
set_option linter.unusedSimpArgs false
namespace Go.Proofs.Ytcjicmabhejllaa
attribute [local congr] Go.Ev.cond_congr1
open Go.Ev Go.RowKit
def mkStep (kind s n : Int) : StepD := ⟨kind, s, n, ⟨0, ByteArray.empty, ByteArray.empty, 0⟩, .nils⟩
/-- The step at a place of rounds of s sessions and t tickets. -/
def stepAt (s t i : Nat) : StepD := if i % (2 * s + t) < 2 * s then mkStep (2 + (i % (2 * s + t)) % 2 : Nat) ((i % (2 * s + t)) / 2 : Nat) 0 else mkStep 4 0 (i / (2 * s + t) * t + i % (2 * s + t) - 2 * s + 1 : Nat)
def rowsUpto (s t m : Nat) : List (List AV) := (List.range m).map fun i => (stepAt s t i).cells
theorem rowsUpto_length (s t m : Nat) : (rowsUpto s t m).length = m := by simp [rowsUpto]
theorem rowsUpto_succ (s t m : Nat) : rowsUpto s t (m + 1) = rowsUpto s t m ++ [(stepAt s t m).cells] := by simp [rowsUpto, List.range_succ]
theorem stepAt_move (s t r i : Nat) (hi : i < s) : stepAt s t (r * (2 * s + t) + 2 * i) = mkStep 2 i 0 := by
  have e : (r * (2 * s + t) + 2 * i) % (2 * s + t) = 2 * i := by rw [Nat.mul_comm, Nat.mul_add_mod, Nat.mod_eq_of_lt (by omega)]
  rw [stepAt, e, if_pos (by omega), show 2 * i % 2 = 0 by omega, show 2 * i / 2 = i by omega]; rfl
theorem stepAt_resume (s t r i : Nat) (hi : i < s) : stepAt s t (r * (2 * s + t) + 2 * i + 1) = mkStep 3 i 0 := by
  have e : (r * (2 * s + t) + 2 * i + 1) % (2 * s + t) = 2 * i + 1 := by rw [Nat.add_assoc, Nat.mul_comm, Nat.mul_add_mod, Nat.mod_eq_of_lt (by omega)]
  rw [stepAt, e, if_pos (by omega), show (2 * i + 1) % 2 = 1 by omega, show (2 * i + 1) / 2 = i by omega]; rfl
theorem stepAt_do (s t r j : Nat) (hj : j < t) : stepAt s t (r * (2 * s + t) + 2 * s + j) = mkStep 4 0 (r * t + j + 1 : Nat) := by
  have e : (r * (2 * s + t) + 2 * s + j) % (2 * s + t) = 2 * s + j := by rw [Nat.add_assoc, Nat.mul_comm, Nat.mul_add_mod, Nat.mod_eq_of_lt (by omega)]
  have e2 : (r * (2 * s + t) + 2 * s + j) / (2 * s + t) = r := by rw [Nat.add_assoc, Nat.mul_comm, Nat.mul_add_div (by omega), Nat.div_eq_of_lt (by omega), Nat.add_zero]
  rw [stepAt, e, e2, if_neg (by omega), show r * t + (2 * s + j) - 2 * s + 1 = r * t + j + 1 by omega]
theorem step_len (d : StepD) : d.cells.length = 8 := rfl
section
variable {ρ : Addr → Option Value} {call : CallF} {yc : YieldF} {k : Nat} {H0 : Heap} {s t : Nat}
/-- The sessions' steps of a round. -/
theorem rd_moves (hs : s ≤ 8) (ht : t ≤ 32) (r : Nat) (hr : r ≤ 100) (x9 x30 x31 : AV) (k3 : AV → AV → AV → AV → AV → AV → Heap → Res)
    (B : AV × AV → Heap → (AV × AV → Heap → Res) → Res) (hB : ∀ y H kn, B y H kn = N22_10b ρ call yc 0 k (.int .i64 s) (.int .i64 t) y.1 x9 x30 x31 (.int .i64 s) y.2 H (fun _ _ x8 _ _ _ _ x34 H => kn (x8, x34) H) k3) :
    ∀ (m i n : Nat) (y : AV) (H : Heap), s - i = m → i ≤ s → m < n → GI H0 H 42 8 y (rowsUpto s t (r * (2 * s + t) + 2 * i)) →
      ∃ y' H', loopL B n (y, .int .i64 i) H = k3 (.int .i64 s) (.int .i64 t) y' x9 x30 x31 H' ∧ GI H0 H' 42 8 y' (rowsUpto s t (r * (2 * s + t) + 2 * s)) := by
  intro m
  induction m with
  | zero =>
    intro i n y H hm hi hn hG
    obtain ⟨n, rfl⟩ : ∃ q, n = q + 1 := ⟨n - 1, by omega⟩
    obtain rfl : i = s := by omega
    have h : ¬ (i : Int) < i := by omega
    refine ⟨y, H, ?_, hG⟩
    rw [loopL_succ, hB]
    simp only [N22_10b, h, purK_some, resK_some, boolK_some, condK_true, condK_false, wantV_tt, wantV_tf, wantV_ft, wantV_ff, wantV_t, wantV_f, wantV_skip, Bool.not_true, Bool.not_false, gPur_true, gPur_false, gEff_true, gEff_false, gRes_true, gRes_false, pickA_true, pickA_false, extA_0, extA_1, extA_2, retK_one, retK_none, retK_two, valK_fn, valR_fn, cond_true, cond_false, bin_add, bin_sub, bin_mul, bin_eql, bin_neq, bin_lss, bin_leq, bin_gtr, bin_geq, bin_seql, bin_sneq, un_not_t, un_not_f, un_not, cvI_int, cvT_str, nilChk_ptr, nilChk_xp, addA_ptr, lenT_str, Bool.true_or, Bool.or_true, Bool.false_or, Bool.or_false, Bool.true_and, Bool.and_true, Bool.false_and, Bool.and_false, decide_true, decide_false, List.nil_append, List.append_nil, List.cons_append]
  | succ m ih =>
    intro i n y H hm hi hn hG
    obtain ⟨n, rfl⟩ : ∃ q, n = q + 1 := ⟨n - 1, by omega⟩
    have h : (i : Int) < s := by omega
    have hb : r * (2 * s + t) ≤ 100 * 48 := Nat.mul_le_mul hr (by omega)
    obtain ⟨y1, f, h1, hG1⟩ := GI.push (ρ := ρ) (by_ := 96) hG [(mkStep 2 i 0).cells, (mkStep 3 i 0).cells] (by simp [step_len]) (by intro r hr; simp only [List.mem_cons, List.not_mem_nil, or_false] at hr; first | (rcases hr with rfl | rfl <;> exact StepD.solid rfl) | (rcases hr with rfl; exact StepD.solid rfl)) (by simp [rowsUpto_length]; omega) (by simp [rowsUpto_length]; omega)
    have e3 : wrapK .i64 ((i : Int) + 1) = ((i + 1 : Nat) : Int) := by rw [wrap_i64] <;> omega
    obtain ⟨y', H', h2, hG2⟩ := ih (i + 1) n y1 _ (by omega) (by omega) (by omega) (by
      have e : rowsUpto s t (r * (2 * s + t) + 2 * (i + 1)) = rowsUpto s t (r * (2 * s + t) + 2 * i) ++ [(mkStep 2 i 0).cells, (mkStep 3 i 0).cells] := by
        rw [show r * (2 * s + t) + 2 * (i + 1) = r * (2 * s + t) + 2 * i + 1 + 1 by omega, rowsUpto_succ, rowsUpto_succ, stepAt_move s t r i (by omega), stepAt_resume s t r i (by omega), List.append_assoc]; rfl
      rw [e]; exact hG1)
    refine ⟨y', H', ?_, hG2⟩
    rw [← h2, loopL_succ, hB]
    simp only [List.flatten_cons, List.flatten_nil, List.append_nil, StepD.cells, mkStep, List.cons_append, List.nil_append, List.length_cons, List.length_nil, Nat.zero_add, Nat.reduceAdd] at h1
    simp (disch := first | ((try simp only [Heap.sz_new, Heap.sz_put, List.length_cons, List.length_nil, List.length_set, List.all_cons, List.all_nil, Bool.and_true, scal_int, sol_int, scal_bool, sol_bool, scal_str, sol_str, scal_nilp, sol_nilp, scal_ptr, sol_ptr, scal_nils, sol_nils, scal_sl, sol_sl, scal_sx, sol_sx, scal_xp, sol_xp, scal_xs, sol_xs, scal_nilm, sol_nilm, scal_mp, sol_mp, scal_nilf, sol_nilf, scal_fn, sol_fn, scal_nili, sol_nili, scal_ifc, sol_ifc]) <;> omega) | with_unfolding_all rfl) only [N22_10b, h, e3, bldS_2, h1, effK_on, mkStep, StepD.cells, List.flatten_cons, List.flatten_nil, purK_some, resK_some, boolK_some, condK_true, condK_false, wantV_tt, wantV_tf, wantV_ft, wantV_ff, wantV_t, wantV_f, wantV_skip, Bool.not_true, Bool.not_false, gPur_true, gPur_false, gEff_true, gEff_false, gRes_true, gRes_false, pickA_true, pickA_false, extA_0, extA_1, extA_2, retK_one, retK_none, retK_two, valK_fn, valR_fn, cond_true, cond_false, bin_add, bin_sub, bin_mul, bin_eql, bin_neq, bin_lss, bin_leq, bin_gtr, bin_geq, bin_seql, bin_sneq, un_not_t, un_not_f, un_not, cvI_int, cvT_str, nilChk_ptr, nilChk_xp, addA_ptr, lenT_str, Bool.true_or, Bool.or_true, Bool.false_or, Bool.or_false, Bool.true_and, Bool.and_true, Bool.false_and, Bool.and_false, decide_true, decide_false, List.nil_append, List.append_nil, List.cons_append, effK_new, effK_put, effK_nothing, on_new, on_put, on_nothing, ld1_ptr, ldN_ptr, stA_one_ptr, stA_agg_ptr, ldC_cells, ldCN_cells, stC_one, stC_many, lay_all, newCells_eq, get_new_at, get_put_at, Heap.get_new_ne, Heap.get_put_ne, Heap.sz_new, Heap.sz_put, box1, boxA_agg, List.getElem?_cons_zero, List.getElem?_cons_succ, List.drop_zero, List.drop_succ_cons, List.take_zero, List.take_succ_cons, List.set_cons_zero, List.set_cons_succ, Nat.zero_add, Nat.add_zero, Nat.reduceAdd, bldA_eq, fillO_nil, fillO_one, fillO_agg, Option.map_some, Option.bind_some, repeatL]
/-- .. and its tickets. -/
theorem rd_does (hs : s ≤ 8) (ht : t ≤ 32) (r : Nat) (hr : r < 100) (x30 x31 : AV) (k5 : AV → AV → AV → AV → AV → AV → Heap → Res)
    (B : AV × AV × AV → Heap → (AV × AV × AV → Heap → Res) → Res) (hB : ∀ y H kn, B y H kn = N22_8b ρ call yc 0 k (.int .i64 s) (.int .i64 t) y.1 y.2.1 x30 x31 (.int .i64 t) y.2.2 H (fun _ _ x8 x9 _ _ _ x46 H => kn (x8, x9, x46) H) k5) :
    ∀ (m j n : Nat) (y : AV) (H : Heap), t - j = m → j ≤ t → m < n → GI H0 H 42 8 y (rowsUpto s t (r * (2 * s + t) + 2 * s + j)) →
      ∃ y' H', loopL B n (y, .int .i64 (r * t + j : Nat), .int .i64 j) H = k5 (.int .i64 s) (.int .i64 t) y' (.int .i64 (r * t + t : Nat)) x30 x31 H' ∧ GI H0 H' 42 8 y' (rowsUpto s t (r * (2 * s + t) + 2 * s + t)) := by
  intro m
  induction m with
  | zero =>
    intro i n y H hm hi hn hG
    obtain ⟨n, rfl⟩ : ∃ q, n = q + 1 := ⟨n - 1, by omega⟩
    obtain rfl : i = t := by omega
    have h : ¬ (i : Int) < i := by omega
    refine ⟨y, H, ?_, hG⟩
    rw [loopL_succ, hB]
    simp only [N22_8b, h, purK_some, resK_some, boolK_some, condK_true, condK_false, wantV_tt, wantV_tf, wantV_ft, wantV_ff, wantV_t, wantV_f, wantV_skip, Bool.not_true, Bool.not_false, gPur_true, gPur_false, gEff_true, gEff_false, gRes_true, gRes_false, pickA_true, pickA_false, extA_0, extA_1, extA_2, retK_one, retK_none, retK_two, valK_fn, valR_fn, cond_true, cond_false, bin_add, bin_sub, bin_mul, bin_eql, bin_neq, bin_lss, bin_leq, bin_gtr, bin_geq, bin_seql, bin_sneq, un_not_t, un_not_f, un_not, cvI_int, cvT_str, nilChk_ptr, nilChk_xp, addA_ptr, lenT_str, Bool.true_or, Bool.or_true, Bool.false_or, Bool.or_false, Bool.true_and, Bool.and_true, Bool.false_and, Bool.and_false, decide_true, decide_false, List.nil_append, List.append_nil, List.cons_append]
  | succ m ih =>
    intro i n y H hm hi hn hG
    obtain ⟨n, rfl⟩ : ∃ q, n = q + 1 := ⟨n - 1, by omega⟩
    have h : (i : Int) < t := by omega
    have hb : r * (2 * s + t) ≤ 100 * 48 := Nat.mul_le_mul (by omega) (by omega)
    have hb2 : r * t ≤ 100 * 32 := Nat.mul_le_mul (by omega) (by omega)
    obtain ⟨y1, f, h1, hG1⟩ := GI.push (ρ := ρ) (by_ := 96) hG [(mkStep 4 0 (r * t + i + 1 : Nat)).cells] (by simp [step_len]) (by intro r hr; simp only [List.mem_cons, List.not_mem_nil, or_false] at hr; first | (rcases hr with rfl | rfl <;> exact StepD.solid rfl) | (rcases hr with rfl; exact StepD.solid rfl)) (by simp [rowsUpto_length]; omega) (by simp [rowsUpto_length]; omega)
    have e3 : wrapK .i64 ((i : Int) + 1) = ((i + 1 : Nat) : Int) := by rw [wrap_i64] <;> omega
    have e4 : wrapK .i64 (((r * t + i : Nat) : Int) + 1) = ((r * t + i + 1 : Nat) : Int) := by
      generalize r * t = q at hb2 ⊢
      rw [wrap_i64] <;> omega
    obtain ⟨y', H', h2, hG2⟩ := ih (i + 1) n y1 _ (by omega) (by omega) (by omega) (by
      have e : rowsUpto s t (r * (2 * s + t) + 2 * s + (i + 1)) = rowsUpto s t (r * (2 * s + t) + 2 * s + i) ++ [(mkStep 4 0 (r * t + i + 1 : Nat)).cells] := by
        rw [← Nat.add_assoc, rowsUpto_succ, stepAt_do s t r i (by omega)]
      rw [e]; exact hG1)
    refine ⟨y', H', ?_, hG2⟩
    rw [← Nat.add_assoc] at h2
    rw [← h2, loopL_succ, hB]
    simp only [List.flatten_cons, List.flatten_nil, List.append_nil, StepD.cells, mkStep, List.cons_append, List.nil_append, List.length_cons, List.length_nil, Nat.zero_add, Nat.reduceAdd] at h1
    simp (disch := first | ((try simp only [Heap.sz_new, Heap.sz_put, List.length_cons, List.length_nil, List.length_set, List.all_cons, List.all_nil, Bool.and_true, scal_int, sol_int, scal_bool, sol_bool, scal_str, sol_str, scal_nilp, sol_nilp, scal_ptr, sol_ptr, scal_nils, sol_nils, scal_sl, sol_sl, scal_sx, sol_sx, scal_xp, sol_xp, scal_xs, sol_xs, scal_nilm, sol_nilm, scal_mp, sol_mp, scal_nilf, sol_nilf, scal_fn, sol_fn, scal_nili, sol_nili, scal_ifc, sol_ifc]) <;> omega) | with_unfolding_all rfl) only [N22_8b, h, e3, e4, bldS_1, h1, effK_on, mkStep, StepD.cells, List.flatten_cons, List.flatten_nil, purK_some, resK_some, boolK_some, condK_true, condK_false, wantV_tt, wantV_tf, wantV_ft, wantV_ff, wantV_t, wantV_f, wantV_skip, Bool.not_true, Bool.not_false, gPur_true, gPur_false, gEff_true, gEff_false, gRes_true, gRes_false, pickA_true, pickA_false, extA_0, extA_1, extA_2, retK_one, retK_none, retK_two, valK_fn, valR_fn, cond_true, cond_false, bin_add, bin_sub, bin_mul, bin_eql, bin_neq, bin_lss, bin_leq, bin_gtr, bin_geq, bin_seql, bin_sneq, un_not_t, un_not_f, un_not, cvI_int, cvT_str, nilChk_ptr, nilChk_xp, addA_ptr, lenT_str, Bool.true_or, Bool.or_true, Bool.false_or, Bool.or_false, Bool.true_and, Bool.and_true, Bool.false_and, Bool.and_false, decide_true, decide_false, List.nil_append, List.append_nil, List.cons_append, effK_new, effK_put, effK_nothing, on_new, on_put, on_nothing, ld1_ptr, ldN_ptr, stA_one_ptr, stA_agg_ptr, ldC_cells, ldCN_cells, stC_one, stC_many, lay_all, newCells_eq, get_new_at, get_put_at, Heap.get_new_ne, Heap.get_put_ne, Heap.sz_new, Heap.sz_put, box1, boxA_agg, List.getElem?_cons_zero, List.getElem?_cons_succ, List.drop_zero, List.drop_succ_cons, List.take_zero, List.take_succ_cons, List.set_cons_zero, List.set_cons_succ, Nat.zero_add, Nat.add_zero, Nat.reduceAdd, bldA_eq, fillO_nil, fillO_one, fillO_agg, Option.map_some, Option.bind_some, repeatL]
/-- All rounds. -/
theorem rd_all (hs : s ≤ 8) (ht : t ≤ 32) (c : Nat) (hc : c ≤ 100) (hk : 40 ≤ k) (k1 : AV → Heap → Res)
    (B : AV × AV × AV → Heap → (AV × AV × AV → Heap → Res) → Res) (hB : ∀ y H kn, B y H kn = N22_4b ρ call yc 0 k (.int .i64 s) (.int .i64 t) y.1 y.2.1 (.int .i64 c) y.2.2 H (fun _ _ x8 x9 _ x31 H => kn (x8, x9, x31) H) k1) :
    ∀ (m r n : Nat) (y : AV) (H : Heap), c - r = m → r ≤ c → m < n → GI H0 H 42 8 y (rowsUpto s t (r * (2 * s + t))) →
      ∃ y' H', loopL B n (y, .int .i64 (r * t : Nat), .int .i64 r) H = k1 y' H' ∧ GI H0 H' 42 8 y' (rowsUpto s t (c * (2 * s + t))) := by
  intro m
  induction m with
  | zero =>
    intro r n y H hm hi hn hG
    obtain ⟨n, rfl⟩ : ∃ q, n = q + 1 := ⟨n - 1, by omega⟩
    obtain rfl : r = c := by omega
    have h : ¬ (r : Int) < r := by omega
    refine ⟨y, H, ?_, hG⟩
    rw [loopL_succ, hB]
    simp only [N22_4b, h, purK_some, resK_some, boolK_some, condK_true, condK_false, wantV_tt, wantV_tf, wantV_ft, wantV_ff, wantV_t, wantV_f, wantV_skip, Bool.not_true, Bool.not_false, gPur_true, gPur_false, gEff_true, gEff_false, gRes_true, gRes_false, pickA_true, pickA_false, extA_0, extA_1, extA_2, retK_one, retK_none, retK_two, valK_fn, valR_fn, cond_true, cond_false, bin_add, bin_sub, bin_mul, bin_eql, bin_neq, bin_lss, bin_leq, bin_gtr, bin_geq, bin_seql, bin_sneq, un_not_t, un_not_f, un_not, cvI_int, cvT_str, nilChk_ptr, nilChk_xp, addA_ptr, lenT_str, Bool.true_or, Bool.or_true, Bool.false_or, Bool.or_false, Bool.true_and, Bool.and_true, Bool.false_and, Bool.and_false, decide_true, decide_false, List.nil_append, List.append_nil, List.cons_append]
  | succ m ih =>
    intro r n y H hm hi hn hG
    obtain ⟨n, rfl⟩ : ∃ q, n = q + 1 := ⟨n - 1, by omega⟩
    have h : (r : Int) < c := by omega
    have e3 : wrapK .i64 ((r : Int) + 1) = ((r + 1 : Nat) : Int) := by rw [wrap_i64] <;> omega
    rw [loopL_succ, hB]
    simp only [N22_4b, N22_9, N22_10, h, purK_some, resK_some, boolK_some, condK_true, condK_false, wantV_tt, wantV_tf, wantV_ft, wantV_ff, wantV_t, wantV_f, wantV_skip, Bool.not_true, Bool.not_false, gPur_true, gPur_false, gEff_true, gEff_false, gRes_true, gRes_false, pickA_true, pickA_false, extA_0, extA_1, extA_2, retK_one, retK_none, retK_two, valK_fn, valR_fn, cond_true, cond_false, bin_add, bin_sub, bin_mul, bin_eql, bin_neq, bin_lss, bin_leq, bin_gtr, bin_geq, bin_seql, bin_sneq, un_not_t, un_not_f, un_not, cvI_int, cvT_str, nilChk_ptr, nilChk_xp, addA_ptr, lenT_str, Bool.true_or, Bool.or_true, Bool.false_or, Bool.or_false, Bool.true_and, Bool.and_true, Bool.false_and, Bool.and_false, decide_true, decide_false, List.nil_append, List.append_nil, List.cons_append]
    obtain ⟨y1, H1, h1, hG1⟩ := rd_moves (ρ := ρ) (call := call) (yc := yc) (k := k) hs ht r (by omega) (.int .i64 (r * t : Nat)) (.int .i64 c) (.int .i64 r) (fun x0_1 x1_1 x8_1 x9_1 x30_1 x31_1 H =>
      N22_6 ρ call yc 0 k x0_1 x1_1 x8_1 x9_1 x30_1 x31_1 H (fun x0_2 x1_2 x8_2 x9_2 x30_2 x31_2 H =>
        N22_5 ρ call yc 0 k x0_2 x1_2 x8_2 x9_2 x30_2 x31_2 H (fun _ _ x8 x9 _ x31 H => loopL B n (x8, x9, x31) H))) _ (fun _ _ _ => rfl) s 0 k y H (by omega) (by omega) (by omega) (by rw [Nat.mul_zero, Nat.add_zero]; exact hG)
    have z : ((0 : Nat) : Int) = 0 := rfl
    rw [z] at h1
    rw [h1]
    simp only [N22_6, N22_7, N22_8]
    obtain ⟨y2, H2, h2, hG2⟩ := rd_does (ρ := ρ) (call := call) (yc := yc) (k := k) hs ht r (by omega) (.int .i64 c) (.int .i64 r) (fun x0_2 x1_2 x8_2 x9_2 x30_2 x31_2 H =>
        N22_5 ρ call yc 0 k x0_2 x1_2 x8_2 x9_2 x30_2 x31_2 H (fun _ _ x8 x9 _ x31 H => loopL B n (x8, x9, x31) H)) _ (fun _ _ _ => rfl) t 0 k y1 H1 (by omega) (by omega) (by omega) (by rw [Nat.add_zero]; exact hG1)
    rw [z, Nat.add_zero] at h2
    rw [h2]
    simp only [N22_5, e3, purK_some, resK_some, boolK_some, condK_true, condK_false, wantV_tt, wantV_tf, wantV_ft, wantV_ff, wantV_t, wantV_f, wantV_skip, Bool.not_true, Bool.not_false, gPur_true, gPur_false, gEff_true, gEff_false, gRes_true, gRes_false, pickA_true, pickA_false, extA_0, extA_1, extA_2, retK_one, retK_none, retK_two, valK_fn, valR_fn, cond_true, cond_false, bin_add, bin_sub, bin_mul, bin_eql, bin_neq, bin_lss, bin_leq, bin_gtr, bin_geq, bin_seql, bin_sneq, un_not_t, un_not_f, un_not, cvI_int, cvT_str, nilChk_ptr, nilChk_xp, addA_ptr, lenT_str, Bool.true_or, Bool.or_true, Bool.false_or, Bool.or_false, Bool.true_and, Bool.and_true, Bool.false_and, Bool.and_false, decide_true, decide_false, List.nil_append, List.append_nil, List.cons_append]
    have e5 : r * t + t = (r + 1) * t := (Nat.succ_mul r t).symm
    rw [e5]
    exact ih (r + 1) n y2 H2 (by omega) (by omega) (by omega) (by
      have e : r * (2 * s + t) + 2 * s + t = (r + 1) * (2 * s + t) := by rw [Nat.succ_mul r (2 * s + t)]; omega
      rw [← e]; exact hG2)
end
section
variable {ρ : Addr → Option Value} {k : Nat} {H : Heap}
theorem rounds_ok (s t c : Nat) (hs1 : 1 ≤ s) (hs : s ≤ 8) (ht : t ≤ 32) (hc : c ≤ 100) (hk : 102 ≤ k) :
    ∃ y H', evCall (cx ρ) (k + 1) 0 22 [.int .i64 s, .int .i64 t, .int .i64 c] H = some (.tup [y, .int .i64 0], H') ∧ GI H H' 42 8 y (rowsUpto s t (c * (2 * s + t))) := by
  rw [E22]
  obtain ⟨y, H', h1, hG⟩ := rd_all (ρ := ρ) (call := evCall (cx ρ) k) (yc := (evCY (cx ρ) k).2) (k := k) (H0 := H) hs ht c hc (by omega) (fun x8_1 H => N22_2 ρ (evCall (cx ρ) k) (evCY (cx ρ) k).2 0 k x8_1 H retK) _ (fun _ _ _ => rfl) c 0 k .nils H (by omega) (by omega) (by omega) (by rw [Nat.zero_mul]; exact GI.nils (Fr.refl ..))
  refine ⟨y, H', ?_, hG⟩
  have z : ((0 : Nat) : Int) = 0 := rfl
  rw [Nat.zero_mul, z] at h1
  simp only [N22_2, purK_some, resK_some, boolK_some, condK_true, condK_false, wantV_tt, wantV_tf, wantV_ft, wantV_ff, wantV_t, wantV_f, wantV_skip, Bool.not_true, Bool.not_false, gPur_true, gPur_false, gEff_true, gEff_false, gRes_true, gRes_false, pickA_true, pickA_false, extA_0, extA_1, extA_2, retK_one, retK_none, retK_two, valK_fn, valR_fn, cond_true, cond_false, bin_add, bin_sub, bin_mul, bin_eql, bin_neq, bin_lss, bin_leq, bin_gtr, bin_geq, bin_seql, bin_sneq, un_not_t, un_not_f, un_not, cvI_int, cvT_str, nilChk_ptr, nilChk_xp, addA_ptr, lenT_str, Bool.true_or, Bool.or_true, Bool.false_or, Bool.or_false, Bool.true_and, Bool.and_true, Bool.false_and, Bool.and_false, decide_true, decide_false, List.nil_append, List.append_nil, List.cons_append] at h1
  have a1 : ¬ (s : Int) < 1 := by omega
  have a2 : ¬ (8 : Int) < s := by omega
  have a3 : ¬ (t : Int) < 0 := by omega
  have a4 : ¬ (32 : Int) < t := by omega
  have a5 : ¬ (c : Int) < 0 := by omega
  have a6 : ¬ (100 : Int) < c := by omega
  simp only [L22, N22_11, N22_1, N22_3, N22_4, a1, a2, a3, a4, a5, a6, h1, N22_2, purK_some, resK_some, boolK_some, condK_true, condK_false, wantV_tt, wantV_tf, wantV_ft, wantV_ff, wantV_t, wantV_f, wantV_skip, Bool.not_true, Bool.not_false, gPur_true, gPur_false, gEff_true, gEff_false, gRes_true, gRes_false, pickA_true, pickA_false, extA_0, extA_1, extA_2, retK_one, retK_none, retK_two, valK_fn, valR_fn, cond_true, cond_false, bin_add, bin_sub, bin_mul, bin_eql, bin_neq, bin_lss, bin_leq, bin_gtr, bin_geq, bin_seql, bin_sneq, un_not_t, un_not_f, un_not, cvI_int, cvT_str, nilChk_ptr, nilChk_xp, addA_ptr, lenT_str, Bool.true_or, Bool.or_true, Bool.false_or, Bool.or_false, Bool.true_and, Bool.and_true, Bool.false_and, Bool.and_false, decide_true, decide_false, List.nil_append, List.append_nil, List.cons_append]
theorem rounds_bad (s t c : Int) (h : s < 1 ∨ 8 < s ∨ t < 0 ∨ 32 < t ∨ c < 0 ∨ 100 < c) : evCall (cx ρ) (k + 1) 0 22 [.int .i64 s, .int .i64 t, .int .i64 c] H = some (.tup [.nils, .int .i64 1], H) := by
  rw [E22]
  by_cases a1 : s < 1
  · simp only [L22, N22_11, a1, purK_some, resK_some, boolK_some, condK_true, condK_false, wantV_tt, wantV_tf, wantV_ft, wantV_ff, wantV_t, wantV_f, wantV_skip, Bool.not_true, Bool.not_false, gPur_true, gPur_false, gEff_true, gEff_false, gRes_true, gRes_false, pickA_true, pickA_false, extA_0, extA_1, extA_2, retK_one, retK_none, retK_two, valK_fn, valR_fn, cond_true, cond_false, bin_add, bin_sub, bin_mul, bin_eql, bin_neq, bin_lss, bin_leq, bin_gtr, bin_geq, bin_seql, bin_sneq, un_not_t, un_not_f, un_not, cvI_int, cvT_str, nilChk_ptr, nilChk_xp, addA_ptr, lenT_str, Bool.true_or, Bool.or_true, Bool.false_or, Bool.or_false, Bool.true_and, Bool.and_true, Bool.false_and, Bool.and_false, decide_true, decide_false, List.nil_append, List.append_nil, List.cons_append]
  by_cases a2 : 8 < s
  · simp only [L22, N22_11, a1, a2, purK_some, resK_some, boolK_some, condK_true, condK_false, wantV_tt, wantV_tf, wantV_ft, wantV_ff, wantV_t, wantV_f, wantV_skip, Bool.not_true, Bool.not_false, gPur_true, gPur_false, gEff_true, gEff_false, gRes_true, gRes_false, pickA_true, pickA_false, extA_0, extA_1, extA_2, retK_one, retK_none, retK_two, valK_fn, valR_fn, cond_true, cond_false, bin_add, bin_sub, bin_mul, bin_eql, bin_neq, bin_lss, bin_leq, bin_gtr, bin_geq, bin_seql, bin_sneq, un_not_t, un_not_f, un_not, cvI_int, cvT_str, nilChk_ptr, nilChk_xp, addA_ptr, lenT_str, Bool.true_or, Bool.or_true, Bool.false_or, Bool.or_false, Bool.true_and, Bool.and_true, Bool.false_and, Bool.and_false, decide_true, decide_false, List.nil_append, List.append_nil, List.cons_append]
  by_cases a3 : t < 0
  · simp only [L22, N22_11, a1, a2, a3, purK_some, resK_some, boolK_some, condK_true, condK_false, wantV_tt, wantV_tf, wantV_ft, wantV_ff, wantV_t, wantV_f, wantV_skip, Bool.not_true, Bool.not_false, gPur_true, gPur_false, gEff_true, gEff_false, gRes_true, gRes_false, pickA_true, pickA_false, extA_0, extA_1, extA_2, retK_one, retK_none, retK_two, valK_fn, valR_fn, cond_true, cond_false, bin_add, bin_sub, bin_mul, bin_eql, bin_neq, bin_lss, bin_leq, bin_gtr, bin_geq, bin_seql, bin_sneq, un_not_t, un_not_f, un_not, cvI_int, cvT_str, nilChk_ptr, nilChk_xp, addA_ptr, lenT_str, Bool.true_or, Bool.or_true, Bool.false_or, Bool.or_false, Bool.true_and, Bool.and_true, Bool.false_and, Bool.and_false, decide_true, decide_false, List.nil_append, List.append_nil, List.cons_append]
  by_cases a4 : 32 < t
  · simp only [L22, N22_11, a1, a2, a3, a4, purK_some, resK_some, boolK_some, condK_true, condK_false, wantV_tt, wantV_tf, wantV_ft, wantV_ff, wantV_t, wantV_f, wantV_skip, Bool.not_true, Bool.not_false, gPur_true, gPur_false, gEff_true, gEff_false, gRes_true, gRes_false, pickA_true, pickA_false, extA_0, extA_1, extA_2, retK_one, retK_none, retK_two, valK_fn, valR_fn, cond_true, cond_false, bin_add, bin_sub, bin_mul, bin_eql, bin_neq, bin_lss, bin_leq, bin_gtr, bin_geq, bin_seql, bin_sneq, un_not_t, un_not_f, un_not, cvI_int, cvT_str, nilChk_ptr, nilChk_xp, addA_ptr, lenT_str, Bool.true_or, Bool.or_true, Bool.false_or, Bool.or_false, Bool.true_and, Bool.and_true, Bool.false_and, Bool.and_false, decide_true, decide_false, List.nil_append, List.append_nil, List.cons_append]
  by_cases a5 : c < 0
  · simp only [L22, N22_11, a1, a2, a3, a4, a5, purK_some, resK_some, boolK_some, condK_true, condK_false, wantV_tt, wantV_tf, wantV_ft, wantV_ff, wantV_t, wantV_f, wantV_skip, Bool.not_true, Bool.not_false, gPur_true, gPur_false, gEff_true, gEff_false, gRes_true, gRes_false, pickA_true, pickA_false, extA_0, extA_1, extA_2, retK_one, retK_none, retK_two, valK_fn, valR_fn, cond_true, cond_false, bin_add, bin_sub, bin_mul, bin_eql, bin_neq, bin_lss, bin_leq, bin_gtr, bin_geq, bin_seql, bin_sneq, un_not_t, un_not_f, un_not, cvI_int, cvT_str, nilChk_ptr, nilChk_xp, addA_ptr, lenT_str, Bool.true_or, Bool.or_true, Bool.false_or, Bool.or_false, Bool.true_and, Bool.and_true, Bool.false_and, Bool.and_false, decide_true, decide_false, List.nil_append, List.append_nil, List.cons_append]
  by_cases a6 : 100 < c
  · simp only [L22, N22_11, a1, a2, a3, a4, a5, a6, purK_some, resK_some, boolK_some, condK_true, condK_false, wantV_tt, wantV_tf, wantV_ft, wantV_ff, wantV_t, wantV_f, wantV_skip, Bool.not_true, Bool.not_false, gPur_true, gPur_false, gEff_true, gEff_false, gRes_true, gRes_false, pickA_true, pickA_false, extA_0, extA_1, extA_2, retK_one, retK_none, retK_two, valK_fn, valR_fn, cond_true, cond_false, bin_add, bin_sub, bin_mul, bin_eql, bin_neq, bin_lss, bin_leq, bin_gtr, bin_geq, bin_seql, bin_sneq, un_not_t, un_not_f, un_not, cvI_int, cvT_str, nilChk_ptr, nilChk_xp, addA_ptr, lenT_str, Bool.true_or, Bool.or_true, Bool.false_or, Bool.or_false, Bool.true_and, Bool.and_true, Bool.false_and, Bool.and_false, decide_true, decide_false, List.nil_append, List.append_nil, List.cons_append]
  omega
end
end Go.Proofs.Ytcjicmabhejllaa
