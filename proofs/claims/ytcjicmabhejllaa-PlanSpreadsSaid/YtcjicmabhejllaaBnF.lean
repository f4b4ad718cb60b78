/- Part 6 of the proof of PlanSpreads: Ext PsA PsB PsC PsD PsE PsF PsG PsH PsI PsJ PsL PsLi PsM PsN. -/
import Derived.Test.YtcjicmabhejllaaBnB
import Derived.Test.YtcjicmabhejllaaBnE
import Derived.KernelRfl
import Derived.Test.YtcjicmabhejllaaBnC
-- part Ext
/- The functions without a Go body are the ones that the evaluator knows. -/
namespace Go.Proofs.Ytcjicmabhejllaa
open Go.Ev Go.RowKit
set_option maxRecDepth 1000000 in
theorem cx_ext (ρ : Addr → Option Value) : ExtOK (cx ρ) := by
  intro f k h
  unfold cx xk at h
  simp only at h
  split at h <;> first | (cases h; done) | (obtain rfl := Option.some.inj h; exact ⟨_, rfl, by kernel_rfl, by kernel_rfl, by kernel_rfl, by kernel_rfl⟩)
end Go.Proofs.Ytcjicmabhejllaa

-- part PsA
/- Draws: the program's and the reference's are one. -/
set_option linter.unusedVariables false
set_option linter.unusedSimpArgs false
namespace Go.Proofs.Ytcjicmabhejllaa
attribute [local congr] Go.Ev.cond_congr1
open Go.Ev Go.RowKit
def nxG (a : Int) : Int := Go.bits .xor .u64 (Go.bits .xor .u64 (Go.bits .xor .u64 a (a / 4096)) (wrapK .u64 (Go.bits .xor .u64 a (a / 4096) * 33554432))) (Go.bits .xor .u64 (Go.bits .xor .u64 a (a / 4096)) (wrapK .u64 (Go.bits .xor .u64 a (a / 4096) * 33554432)) / 134217728)
def nx (a : Int) : Int := if a = 0 then nxG 1 else nxG a
def dv (a : Int) : Int := wrapK .u64 (nx a * 2685821657736338717)
theorem nx_range (a : Int) : 0 ≤ nx a ∧ nx a < 18446744073709551616 := by
  unfold nx; split <;> exact xor_range _ _
section
variable {ρ : Addr → Option Value} {k : Nat} {H : Heap}
theorem draw_spec (a : Int) : evCall (cx ρ) (k + 1) 0 10 [.int .u64 a] H = some (.tup [.int .u64 (nx a), .int .u64 (dv a)], H) := by
  have s1 : ∀ a : Int, a.fdiv (2 ^ min (12 : Int).toNat IntKind.u64.bits) = a / 4096 := fun a => Int.fdiv_eq_ediv_of_nonneg a (by decide)
  have s2 : ∀ a : Int, a.fdiv (2 ^ min (27 : Int).toNat IntKind.u64.bits) = a / 134217728 := fun a => Int.fdiv_eq_ediv_of_nonneg a (by decide)
  have s3 : ∀ a : Int, a * 2 ^ min (25 : Int).toNat IntKind.u64.bits = a * 33554432 := fun a => rfl
  have g1 : (0 : Int) ≤ 12 := by decide
  have g2 : (0 : Int) ≤ 25 := by decide
  have g3 : (0 : Int) ≤ 27 := by decide
  rw [E10]
  unfold dv nx nxG
  by_cases h : a = 0
  · have h' := eq_true h
    simp only [L10, N10_1, h', if_true, bin_shr _ _ _ _ _ _ _ g1, bin_shr _ _ _ _ _ _ _ g3, bin_shl _ _ _ _ _ _ _ g2, s1, s2, s3, bin_xor, purK_some, resK_some, boolK_some, condK_true, condK_false, wantV_tt, wantV_tf, wantV_ft, wantV_ff, wantV_t, wantV_f, wantV_skip, Bool.not_true, Bool.not_false, gPur_true, gPur_false, gEff_true, gEff_false, gRes_true, gRes_false, pickA_true, pickA_false, extA_0, extA_1, extA_2, retK_one, retK_none, retK_two, valK_fn, valR_fn, cond_true, cond_false, bin_add, bin_sub, bin_mul, bin_eql, bin_neq, bin_lss, bin_leq, bin_gtr, bin_geq, bin_seql, bin_sneq, un_not_t, un_not_f, un_not, cvI_int, cvT_str, nilChk_ptr, nilChk_xp, addA_ptr, lenT_str, Bool.true_or, Bool.or_true, Bool.false_or, Bool.or_false, Bool.true_and, Bool.and_true, Bool.false_and, Bool.and_false, decide_true, decide_false, Int.reduceEq, Int.reduceLT, Int.reduceLE, Int.reduceNe, Int.reduceAdd, Int.reduceSub, Int.reduceMul, Int.reduceNeg, List.nil_append, List.append_nil, List.cons_append]
  · have h' := eq_false h
    simp only [L10, N10_1, h', if_false, bin_shr _ _ _ _ _ _ _ g1, bin_shr _ _ _ _ _ _ _ g3, bin_shl _ _ _ _ _ _ _ g2, s1, s2, s3, bin_xor, purK_some, resK_some, boolK_some, condK_true, condK_false, wantV_tt, wantV_tf, wantV_ft, wantV_ff, wantV_t, wantV_f, wantV_skip, Bool.not_true, Bool.not_false, gPur_true, gPur_false, gEff_true, gEff_false, gRes_true, gRes_false, pickA_true, pickA_false, extA_0, extA_1, extA_2, retK_one, retK_none, retK_two, valK_fn, valR_fn, cond_true, cond_false, bin_add, bin_sub, bin_mul, bin_eql, bin_neq, bin_lss, bin_leq, bin_gtr, bin_geq, bin_seql, bin_sneq, un_not_t, un_not_f, un_not, cvI_int, cvT_str, nilChk_ptr, nilChk_xp, addA_ptr, lenT_str, Bool.true_or, Bool.or_true, Bool.false_or, Bool.or_false, Bool.true_and, Bool.and_true, Bool.false_and, Bool.and_false, decide_true, decide_false, Int.reduceEq, Int.reduceLT, Int.reduceLE, Int.reduceNe, Int.reduceAdd, Int.reduceSub, Int.reduceMul, Int.reduceNeg, List.nil_append, List.append_nil, List.cons_append]
theorem turn_spec (a b : Int) : evCall (cx ρ) (k + 1) 0 32 [.int .u64 a, .int .u64 b] H = some (.int .u64 (Go.bits .xor .u64 a b), H) := by
  rw [E32]
  simp only [L32, bin_or, bin_and, turn_xor, purK_some, resK_some, boolK_some, condK_true, condK_false, wantV_tt, wantV_tf, wantV_ft, wantV_ff, wantV_t, wantV_f, wantV_skip, Bool.not_true, Bool.not_false, gPur_true, gPur_false, gEff_true, gEff_false, gRes_true, gRes_false, pickA_true, pickA_false, extA_0, extA_1, extA_2, retK_one, retK_none, retK_two, valK_fn, valR_fn, cond_true, cond_false, bin_add, bin_sub, bin_mul, bin_eql, bin_neq, bin_lss, bin_leq, bin_gtr, bin_geq, bin_seql, bin_sneq, un_not_t, un_not_f, un_not, cvI_int, cvT_str, nilChk_ptr, nilChk_xp, addA_ptr, lenT_str, Bool.true_or, Bool.or_true, Bool.false_or, Bool.or_false, Bool.true_and, Bool.and_true, Bool.false_and, Bool.and_false, decide_true, decide_false, Int.reduceEq, Int.reduceLT, Int.reduceLE, Int.reduceNe, Int.reduceAdd, Int.reduceSub, Int.reduceMul, Int.reduceNeg, List.nil_append, List.append_nil, List.cons_append]
theorem next_spec (a : Int) (ha : 0 ≤ a ∧ a < 18446744073709551616) : evCall (cx ρ) (k + 2) 0 11 [.int .u64 a] H = some (.int .u64 (nx a), H) := by
  have n1 : (4096 : Int) ≠ 0 := by decide
  have n2 : (134217728 : Int) ≠ 0 := by decide
  have d1 : ∀ a : Int, 0 ≤ a ∧ a < 18446744073709551616 → wrapK .u64 (a.tdiv 4096) = a / 4096 := fun a h => shr_tdiv a h.1 h.2 _ (by decide)
  have d2 : ∀ a b : Int, wrapK .u64 ((Go.bits .xor .u64 a b).tdiv 134217728) = Go.bits .xor .u64 a b / 134217728 := fun a b => shr_tdiv _ (xor_range a b).1 (xor_range a b).2 _ (by decide)
  rw [E11]
  unfold nx nxG
  by_cases h : a = 0
  · have h' := eq_true h
    simp only [L11, N11_1, h', if_true, bin_quo _ _ _ _ _ _ n1, bin_quo _ _ _ _ _ _ n2, turn_spec, d1 1 (by decide), d2, purK_some, resK_some, boolK_some, condK_true, condK_false, wantV_tt, wantV_tf, wantV_ft, wantV_ff, wantV_t, wantV_f, wantV_skip, Bool.not_true, Bool.not_false, gPur_true, gPur_false, gEff_true, gEff_false, gRes_true, gRes_false, pickA_true, pickA_false, extA_0, extA_1, extA_2, retK_one, retK_none, retK_two, valK_fn, valR_fn, cond_true, cond_false, bin_add, bin_sub, bin_mul, bin_eql, bin_neq, bin_lss, bin_leq, bin_gtr, bin_geq, bin_seql, bin_sneq, un_not_t, un_not_f, un_not, cvI_int, cvT_str, nilChk_ptr, nilChk_xp, addA_ptr, lenT_str, Bool.true_or, Bool.or_true, Bool.false_or, Bool.or_false, Bool.true_and, Bool.and_true, Bool.false_and, Bool.and_false, decide_true, decide_false, Int.reduceEq, Int.reduceLT, Int.reduceLE, Int.reduceNe, Int.reduceAdd, Int.reduceSub, Int.reduceMul, Int.reduceNeg, List.nil_append, List.append_nil, List.cons_append]
  · have h' := eq_false h
    simp only [L11, N11_1, h', if_false, bin_quo _ _ _ _ _ _ n1, bin_quo _ _ _ _ _ _ n2, turn_spec, d1 a ha, d2, purK_some, resK_some, boolK_some, condK_true, condK_false, wantV_tt, wantV_tf, wantV_ft, wantV_ff, wantV_t, wantV_f, wantV_skip, Bool.not_true, Bool.not_false, gPur_true, gPur_false, gEff_true, gEff_false, gRes_true, gRes_false, pickA_true, pickA_false, extA_0, extA_1, extA_2, retK_one, retK_none, retK_two, valK_fn, valR_fn, cond_true, cond_false, bin_add, bin_sub, bin_mul, bin_eql, bin_neq, bin_lss, bin_leq, bin_gtr, bin_geq, bin_seql, bin_sneq, un_not_t, un_not_f, un_not, cvI_int, cvT_str, nilChk_ptr, nilChk_xp, addA_ptr, lenT_str, Bool.true_or, Bool.or_true, Bool.false_or, Bool.or_false, Bool.true_and, Bool.and_true, Bool.false_and, Bool.and_false, decide_true, decide_false, Int.reduceEq, Int.reduceLT, Int.reduceLE, Int.reduceNe, Int.reduceAdd, Int.reduceSub, Int.reduceMul, Int.reduceNeg, List.nil_append, List.append_nil, List.cons_append]
theorem awake_spec : evCall (cx ρ) (k + 2) 0 9 [] H = some (.bool true, H) := by
  have e : nx 1 = 33554433 := by decide +kernel
  rw [E9]
  simp only [L9, draw_spec, e, purK_some, resK_some, boolK_some, condK_true, condK_false, wantV_tt, wantV_tf, wantV_ft, wantV_ff, wantV_t, wantV_f, wantV_skip, Bool.not_true, Bool.not_false, gPur_true, gPur_false, gEff_true, gEff_false, gRes_true, gRes_false, pickA_true, pickA_false, extA_0, extA_1, extA_2, retK_one, retK_none, retK_two, valK_fn, valR_fn, cond_true, cond_false, bin_add, bin_sub, bin_mul, bin_eql, bin_neq, bin_lss, bin_leq, bin_gtr, bin_geq, bin_seql, bin_sneq, un_not_t, un_not_f, un_not, cvI_int, cvT_str, nilChk_ptr, nilChk_xp, addA_ptr, lenT_str, Bool.true_or, Bool.or_true, Bool.false_or, Bool.or_false, Bool.true_and, Bool.and_true, Bool.false_and, Bool.and_false, decide_true, decide_false, Int.reduceEq, Int.reduceLT, Int.reduceLE, Int.reduceNe, Int.reduceAdd, Int.reduceSub, Int.reduceMul, Int.reduceNeg, List.nil_append, List.append_nil, List.cons_append]
end
def bl (x n : Int) : Int := dv x % n
theorem bl_range (x n : Int) (h : 0 < n) : 0 ≤ bl x n ∧ bl x n < n := ⟨Int.emod_nonneg _ (by omega), Int.emod_lt_of_pos _ h⟩
section
variable {ρ : Addr → Option Value} {k : Nat} {H : Heap}
theorem bl_of (x n : Int) (h : 0 < n) (h2 : n < 9223372036854775808) : (dv x).tmod n = bl x n ∧ wrapK .i64 (bl x n) = bl x n ∧ wrapK .u64 n = n := by
  have := wrap_u64_range (nx x * 2685821657736338717)
  have b := bl_range x n h
  refine ⟨Int.tmod_eq_emod_of_nonneg this.1, wrap_i64 _ ⟨?_, ?_⟩, wrap_u64 _ ⟨?_, ?_⟩⟩
  · exact Int.le_trans (by decide) b.1
  · exact Int.lt_trans b.2 h2
  · exact Int.le_of_lt h
  · exact Int.lt_trans h2 (by decide)
theorem below_spec {l v e : Nat} {g : Bool} (x n : Int) (h : 0 < n) (h2 : n < 9223372036854775808) (hg : H.get l = .cells v e (0, 0) g [.int .u64 x]) :
    evCall (cx ρ) (k + 2) 0 45 [.ptr l v 0, .int .i64 n] H = some (.int .i64 (bl x n), H.put l (.cells v e (0, 0) g [.int .u64 (nx x)])) := by
  obtain ⟨e1, e2, e3⟩ := bl_of x n h h2
  have hn : n ≠ 0 := by omega
  rw [E45]
  simp (disch := first | ((try simp only [szn, szp, List.length_cons, List.length_nil, List.length_set, List.all_cons, List.all_nil, Bool.and_true, scal_int, sol_int, scal_bool, sol_bool, scal_str, sol_str, scal_nilp, sol_nilp, scal_ptr, sol_ptr, scal_nils, sol_nils, scal_sl, sol_sl, scal_sx, sol_sx, scal_xp, sol_xp, scal_xs, sol_xs, scal_nilm, sol_nilm, scal_mp, sol_mp, scal_nilf, sol_nilf, scal_fn, sol_fn, scal_nili, sol_nili, scal_ifc, sol_ifc]) <;> omega) | with_unfolding_all rfl) only [L45, draw_spec, hg, e1, e2, e3, bin_rem _ _ _ _ _ _ hn, purK_some, resK_some, boolK_some, condK_true, condK_false, wantV_tt, wantV_tf, wantV_ft, wantV_ff, wantV_t, wantV_f, wantV_skip, Bool.not_true, Bool.not_false, gPur_true, gPur_false, gEff_true, gEff_false, gRes_true, gRes_false, pickA_true, pickA_false, extA_0, extA_1, extA_2, retK_one, retK_none, retK_two, valK_fn, valR_fn, cond_true, cond_false, bin_add, bin_sub, bin_mul, bin_eql, bin_neq, bin_lss, bin_leq, bin_gtr, bin_geq, bin_seql, bin_sneq, un_not_t, un_not_f, un_not, cvI_int, cvT_str, nilChk_ptr, nilChk_xp, addA_ptr, lenT_str, Bool.true_or, Bool.or_true, Bool.false_or, Bool.or_false, Bool.true_and, Bool.and_true, Bool.false_and, Bool.and_false, decide_true, decide_false, Int.reduceEq, Int.reduceLT, Int.reduceLE, Int.reduceNe, Int.reduceAdd, Int.reduceSub, Int.reduceMul, Int.reduceNeg, List.nil_append, List.append_nil, List.cons_append, effK_new, effK_put, effK_nothing, on_new, on_put, on_nothing, ld1_ptr, ldN_ptr, stA_one_ptr, stA_agg_ptr, ldC_cells, ldCN_cells, stC_one, stC_many, lay_all, lay_one, newCells_eq, get_new_at, get_put_at, Heap.get_new_ne, Heap.get_put_ne, szn, szp, box1, boxA_agg, List.getElem?_cons_zero, List.getElem?_cons_succ, List.drop_zero, List.drop_succ_cons, List.take_zero, List.take_succ_cons, List.set_cons_zero, List.set_cons_succ, Nat.zero_add, Nat.add_zero, Nat.reduceAdd]
theorem rbelow_spec {l v e : Nat} {g : Bool} (x n : Int) (hx : 0 ≤ x ∧ x < 18446744073709551616) (h : 0 < n) (h2 : n < 9223372036854775808) (hg : H.get l = .cells v e (0, 0) g [.int .u64 x]) :
    evCall (cx ρ) (k + 3) 0 39 [.ptr l v 0, .int .i64 n] H = some (.int .i64 (bl x n), H.put l (.cells v e (0, 0) g [.int .u64 (nx x)])) := by
  obtain ⟨e1, e2, e3⟩ := bl_of x n h h2
  have hn : n ≠ 0 := by omega
  have e4 : wrapK .u64 (nx x * 2685821657736338717) = dv x := rfl
  rw [E39]
  simp (disch := first | ((try simp only [szn, szp, List.length_cons, List.length_nil, List.length_set, List.all_cons, List.all_nil, Bool.and_true, scal_int, sol_int, scal_bool, sol_bool, scal_str, sol_str, scal_nilp, sol_nilp, scal_ptr, sol_ptr, scal_nils, sol_nils, scal_sl, sol_sl, scal_sx, sol_sx, scal_xp, sol_xp, scal_xs, sol_xs, scal_nilm, sol_nilm, scal_mp, sol_mp, scal_nilf, sol_nilf, scal_fn, sol_fn, scal_nili, sol_nili, scal_ifc, sol_ifc]) <;> omega) | with_unfolding_all rfl) only [L39, next_spec x hx, hg, e1, e2, e3, e4, bin_rem _ _ _ _ _ _ hn, purK_some, resK_some, boolK_some, condK_true, condK_false, wantV_tt, wantV_tf, wantV_ft, wantV_ff, wantV_t, wantV_f, wantV_skip, Bool.not_true, Bool.not_false, gPur_true, gPur_false, gEff_true, gEff_false, gRes_true, gRes_false, pickA_true, pickA_false, extA_0, extA_1, extA_2, retK_one, retK_none, retK_two, valK_fn, valR_fn, cond_true, cond_false, bin_add, bin_sub, bin_mul, bin_eql, bin_neq, bin_lss, bin_leq, bin_gtr, bin_geq, bin_seql, bin_sneq, un_not_t, un_not_f, un_not, cvI_int, cvT_str, nilChk_ptr, nilChk_xp, addA_ptr, lenT_str, Bool.true_or, Bool.or_true, Bool.false_or, Bool.or_false, Bool.true_and, Bool.and_true, Bool.false_and, Bool.and_false, decide_true, decide_false, Int.reduceEq, Int.reduceLT, Int.reduceLE, Int.reduceNe, Int.reduceAdd, Int.reduceSub, Int.reduceMul, Int.reduceNeg, List.nil_append, List.append_nil, List.cons_append, effK_new, effK_put, effK_nothing, on_new, on_put, on_nothing, ld1_ptr, ldN_ptr, stA_one_ptr, stA_agg_ptr, ldC_cells, ldCN_cells, stC_one, stC_many, lay_all, lay_one, newCells_eq, get_new_at, get_put_at, Heap.get_new_ne, Heap.get_put_ne, szn, szp, box1, boxA_agg, List.getElem?_cons_zero, List.getElem?_cons_succ, List.drop_zero, List.drop_succ_cons, List.take_zero, List.take_succ_cons, List.set_cons_zero, List.set_cons_succ, Nat.zero_add, Nat.add_zero, Nat.reduceAdd]
end
end Go.Proofs.Ytcjicmabhejllaa

-- part PsB
/- A step's kind: by weights. -/
set_option linter.unusedVariables false
set_option linter.unusedSimpArgs false
namespace Go.Proofs.Ytcjicmabhejllaa
attribute [local congr] Go.Ev.cond_congr1
open Go.Ev Go.RowKit
def wts (W : List Int) : List AV := W.map (AV.int .i64)
theorem wts_len (W : List Int) : (wts W).length = W.length := List.length_map ..
theorem wts_at (W : List Int) (i : Nat) (h : i < W.length) : (wts W)[i]? = some (.int .i64 W[i]) := by
  unfold wts; rw [List.getElem?_map, List.getElem?_eq_getElem h]; rfl
theorem ixW (W : List Int) (hW : W.length = 10) (i : Nat) (hi : i < W.length) : ixV1 10 (.agg (wts W)) (.int .i64 i) = some (.int .i64 W[i]) := by
  have h1 : (0 : Int) ≤ (i : Int) := by omega
  have h2 : (i : Int) < (10 : Nat) := by omega
  simp only [ixV1, Ev.asInt, Option.bind_some, h1, h2, decide_true, Bool.and_self, cond_true, Int.toNat_natCast, Nat.mul_one]
  exact wts_at W i hi
theorem sum_take (W : List Int) (i : Nat) (h : i < W.length) : (W.take (i + 1)).sum = (W.take i).sum + W[i] := by
  rw [List.take_succ_eq_append_getElem h, List.sum_append_int]; simp
def Wts (W : List Int) : Prop := W.length = 10 ∧ ∀ w ∈ W, 0 ≤ w ∧ w ≤ 1000
theorem Wts.at {W : List Int} (h : Wts W) (i : Nat) (hi : i < W.length) : 0 ≤ W[i] ∧ W[i] ≤ 1000 := h.2 _ (List.getElem_mem hi)
theorem Wts.sum {W : List Int} (h : Wts W) : ∀ i : Nat, i ≤ 10 → 0 ≤ (W.take i).sum ∧ (W.take i).sum ≤ 1000 * i
  | 0, _ => by simp
  | i + 1, hi => by
    have := h.sum i (by omega)
    have hl : i < W.length := by rw [h.1]; omega
    have := h.at i hl
    rw [sum_take W i hl]
    omega
theorem Wts.all {W : List Int} (h : Wts W) : 0 ≤ W.sum ∧ W.sum ≤ 10000 := by
  have := h.sum 10 (by omega)
  rw [List.take_of_length_le (by rw [h.1]; omega)] at this
  omega
def kindGo : List Int → Nat → Int → Int
  | [], _, _ => 10
  | n :: r, i, at_ => if at_ - n < 0 then i + 1 else kindGo r (i + 1) (at_ - n)
section
variable {ρ : Addr → Option Value} {call : CallF} {yc : YieldF} {k : Nat} {H : Heap} {W : List Int}
theorem ksum_loop (hW : Wts W) (x0 x3 : AV) (k0 : AV → AV → AV → Heap → Res)
    (B : AV × AV → Heap → (AV × AV → Heap → Res) → Res) (hB : ∀ y H kn, B y H kn = N44_6b ρ call yc 0 k x0 x3 y.1 (.agg (wts W)) y.2 H (fun x5 x12 H => kn (x5, x12) H) k0) :
    ∀ (m i n : Nat), 10 - i = m → i ≤ 10 → m < n → loopL B n (.int .i64 (W.take i).sum, .int .i64 i) H = k0 x0 x3 (.int .i64 W.sum) H := by
  intro m
  induction m with
  | zero =>
    intro i n hm hi hn
    obtain ⟨n, rfl⟩ : ∃ q, n = q + 1 := ⟨n - 1, by omega⟩
    obtain rfl : i = 10 := by omega
    rw [loopL_succ, hB, List.take_of_length_le (by rw [hW.1]; omega)]
    have h : ¬ ((10 : Nat) : Int) < 10 := by omega
    simp only [N44_6b, h, purK_some, resK_some, boolK_some, condK_true, condK_false, wantV_tt, wantV_tf, wantV_ft, wantV_ff, wantV_t, wantV_f, wantV_skip, Bool.not_true, Bool.not_false, gPur_true, gPur_false, gEff_true, gEff_false, gRes_true, gRes_false, pickA_true, pickA_false, extA_0, extA_1, extA_2, retK_one, retK_none, retK_two, valK_fn, valR_fn, cond_true, cond_false, bin_add, bin_sub, bin_mul, bin_eql, bin_neq, bin_lss, bin_leq, bin_gtr, bin_geq, bin_seql, bin_sneq, un_not_t, un_not_f, un_not, cvI_int, cvT_str, nilChk_ptr, nilChk_xp, addA_ptr, lenT_str, Bool.true_or, Bool.or_true, Bool.false_or, Bool.or_false, Bool.true_and, Bool.and_true, Bool.false_and, Bool.and_false, decide_true, decide_false, Int.reduceEq, Int.reduceLT, Int.reduceLE, Int.reduceNe, Int.reduceAdd, Int.reduceSub, Int.reduceMul, Int.reduceNeg, List.nil_append, List.append_nil, List.cons_append]
  | succ m ih =>
    intro i n hm hi hn
    obtain ⟨n, rfl⟩ : ∃ q, n = q + 1 := ⟨n - 1, by omega⟩
    have hl : i < W.length := by rw [hW.1]; omega
    have h : (i : Int) < 10 := by omega
    have b := hW.sum (i + 1) (by omega)
    rw [sum_take W i hl] at b
    have e1 := ixW W hW.1 i hl
    have e2 : wrapK .i64 ((W.take i).sum + W[i]) = (W.take (i + 1)).sum := by rw [sum_take W i hl, wrap_i64]; omega
    have e3 : wrapK .i64 ((i : Int) + 1) = ((i + 1 : Nat) : Int) := wrap_succN i (by omega)
    rw [loopL_succ, hB]
    simp only [N44_6b, h, e1, e2, e3, purK_some, resK_some, boolK_some, condK_true, condK_false, wantV_tt, wantV_tf, wantV_ft, wantV_ff, wantV_t, wantV_f, wantV_skip, Bool.not_true, Bool.not_false, gPur_true, gPur_false, gEff_true, gEff_false, gRes_true, gRes_false, pickA_true, pickA_false, extA_0, extA_1, extA_2, retK_one, retK_none, retK_two, valK_fn, valR_fn, cond_true, cond_false, bin_add, bin_sub, bin_mul, bin_eql, bin_neq, bin_lss, bin_leq, bin_gtr, bin_geq, bin_seql, bin_sneq, un_not_t, un_not_f, un_not, cvI_int, cvT_str, nilChk_ptr, nilChk_xp, addA_ptr, lenT_str, Bool.true_or, Bool.or_true, Bool.false_or, Bool.or_false, Bool.true_and, Bool.and_true, Bool.false_and, Bool.and_false, decide_true, decide_false, Int.reduceEq, Int.reduceLT, Int.reduceLE, Int.reduceNe, Int.reduceAdd, Int.reduceSub, Int.reduceMul, Int.reduceNeg, List.nil_append, List.append_nil, List.cons_append]
    exact ih (i + 1) n (by omega) (by omega) (by omega)
theorem kfind_loop (hW : Wts W) (k2 : Heap → Res) (R : List AV → Heap → Res) (hk2 : ∀ H, k2 H = R [.int .i64 10] H)
    (B : AV × AV → Heap → (AV × AV → Heap → Res) → Res) (hB : ∀ y H kn, B y H kn = N44_4b ρ call yc 0 k y.1 (.agg (wts W)) y.2 H (fun x8 x23 H => kn (x8, x23) H) k2 R) :
    ∀ (m i n : Nat) (a : Int), 10 - i = m → i ≤ 10 → m < n → 0 ≤ a → a ≤ 10000 → loopL B n (.int .i64 a, .int .i64 i) H = R [.int .i64 (kindGo (W.drop i) i a)] H := by
  intro m
  induction m with
  | zero =>
    intro i n a hm hi hn h0 h1
    obtain ⟨n, rfl⟩ : ∃ q, n = q + 1 := ⟨n - 1, by omega⟩
    obtain rfl : i = 10 := by omega
    rw [loopL_succ, hB, List.drop_of_length_le (by rw [hW.1]; omega)]
    have h : ¬ ((10 : Nat) : Int) < 10 := by omega
    simp only [N44_4b, h, hk2, kindGo, purK_some, resK_some, boolK_some, condK_true, condK_false, wantV_tt, wantV_tf, wantV_ft, wantV_ff, wantV_t, wantV_f, wantV_skip, Bool.not_true, Bool.not_false, gPur_true, gPur_false, gEff_true, gEff_false, gRes_true, gRes_false, pickA_true, pickA_false, extA_0, extA_1, extA_2, retK_one, retK_none, retK_two, valK_fn, valR_fn, cond_true, cond_false, bin_add, bin_sub, bin_mul, bin_eql, bin_neq, bin_lss, bin_leq, bin_gtr, bin_geq, bin_seql, bin_sneq, un_not_t, un_not_f, un_not, cvI_int, cvT_str, nilChk_ptr, nilChk_xp, addA_ptr, lenT_str, Bool.true_or, Bool.or_true, Bool.false_or, Bool.or_false, Bool.true_and, Bool.and_true, Bool.false_and, Bool.and_false, decide_true, decide_false, Int.reduceEq, Int.reduceLT, Int.reduceLE, Int.reduceNe, Int.reduceAdd, Int.reduceSub, Int.reduceMul, Int.reduceNeg, List.nil_append, List.append_nil, List.cons_append]
  | succ m ih =>
    intro i n a hm hi hn h0 h1
    obtain ⟨n, rfl⟩ : ∃ q, n = q + 1 := ⟨n - 1, by omega⟩
    have hl : i < W.length := by rw [hW.1]; omega
    have h : (i : Int) < 10 := by omega
    have b := hW.at i hl
    have e1 := ixW W hW.1 i hl
    have e2 : wrapK .i64 (a - W[i]) = a - W[i] := by rw [wrap_i64]; omega
    have e3 : wrapK .i64 ((i : Int) + 1) = ((i + 1 : Nat) : Int) := wrap_succN i (by omega)
    rw [loopL_succ, hB, List.drop_eq_getElem_cons hl, kindGo]
    by_cases h2 : a - W[i] < 0
    · simp only [N44_4b, h, e1, e2, e3, h2, if_true, purK_some, resK_some, boolK_some, condK_true, condK_false, wantV_tt, wantV_tf, wantV_ft, wantV_ff, wantV_t, wantV_f, wantV_skip, Bool.not_true, Bool.not_false, gPur_true, gPur_false, gEff_true, gEff_false, gRes_true, gRes_false, pickA_true, pickA_false, extA_0, extA_1, extA_2, retK_one, retK_none, retK_two, valK_fn, valR_fn, cond_true, cond_false, bin_add, bin_sub, bin_mul, bin_eql, bin_neq, bin_lss, bin_leq, bin_gtr, bin_geq, bin_seql, bin_sneq, un_not_t, un_not_f, un_not, cvI_int, cvT_str, nilChk_ptr, nilChk_xp, addA_ptr, lenT_str, Bool.true_or, Bool.or_true, Bool.false_or, Bool.or_false, Bool.true_and, Bool.and_true, Bool.false_and, Bool.and_false, decide_true, decide_false, Int.reduceEq, Int.reduceLT, Int.reduceLE, Int.reduceNe, Int.reduceAdd, Int.reduceSub, Int.reduceMul, Int.reduceNeg, List.nil_append, List.append_nil, List.cons_append]
      rfl
    · simp only [N44_4b, h, e1, e2, e3, h2, if_false, purK_some, resK_some, boolK_some, condK_true, condK_false, wantV_tt, wantV_tf, wantV_ft, wantV_ff, wantV_t, wantV_f, wantV_skip, Bool.not_true, Bool.not_false, gPur_true, gPur_false, gEff_true, gEff_false, gRes_true, gRes_false, pickA_true, pickA_false, extA_0, extA_1, extA_2, retK_one, retK_none, retK_two, valK_fn, valR_fn, cond_true, cond_false, bin_add, bin_sub, bin_mul, bin_eql, bin_neq, bin_lss, bin_leq, bin_gtr, bin_geq, bin_seql, bin_sneq, un_not_t, un_not_f, un_not, cvI_int, cvT_str, nilChk_ptr, nilChk_xp, addA_ptr, lenT_str, Bool.true_or, Bool.or_true, Bool.false_or, Bool.or_false, Bool.true_and, Bool.and_true, Bool.false_and, Bool.and_false, decide_true, decide_false, Int.reduceEq, Int.reduceLT, Int.reduceLE, Int.reduceNe, Int.reduceAdd, Int.reduceSub, Int.reduceMul, Int.reduceNeg, List.nil_append, List.append_nil, List.cons_append]
      exact ih (i + 1) n (a - W[i]) (by omega) (by omega) (by omega) (by omega) (by omega)
end
section
variable {ρ : Addr → Option Value} {k : Nat} {H : Heap} {W : List Int}
theorem kind_spec {l v e : Nat} {g : Bool} (hW : Wts W) (hs : 0 < W.sum) (x : Int) (hl : l < H.sz) (hg : H.get l = .cells v e (0, 0) g [.int .u64 x]) :
    evCall (cx ρ) (k + 12) 0 44 [.ptr l v 0, .agg (wts W)] H = some (.int .i64 (kindGo W 0 (bl x W.sum)), (H.new (.cells 0 44 (0, 0) false (wts W))).put l (.cells v e (0, 0) g [.int .u64 (nx x)])) := by
  have ha := hW.all
  have hb := bl_range x W.sum hs
  have hsol : (wts W).all AV.solid = true := by
    unfold wts; rw [List.all_eq_true]; intro y hy
    obtain ⟨n, _, rfl⟩ := List.mem_map.1 hy; rfl
  have hbx := boxA_agg H 44 _ hsol
  have hg' : ∀ o, (H.new o).get l = .cells v e (0, 0) g [.int .u64 x] := fun o => by rw [Heap.get_new, if_neg (by omega), hg]
  have ht : ((wts W).drop 0).take 10 = wts W := by rw [List.drop_zero]; exact List.take_of_length_le (by rw [wts_len, hW.1]; omega)
  have hlw : 0 + 10 ≤ (wts W).length := by rw [wts_len, hW.1]; omega
  have hld : ldCN 10 0 0 (.cells 0 44 (0, 0) false (wts W)) = some (.agg (wts W)) := by rw [ldCN_cells _ _ _ _ _ _ _ hlw, ht]
  rw [E44]
  simp only [L44, hbx, effK_new, ldN_ptr, Heap.get_new_same, hld, N44_5, N44_6, purK_some, resK_some, boolK_some, condK_true, condK_false, wantV_tt, wantV_tf, wantV_ft, wantV_ff, wantV_t, wantV_f, wantV_skip, Bool.not_true, Bool.not_false, gPur_true, gPur_false, gEff_true, gEff_false, gRes_true, gRes_false, pickA_true, pickA_false, extA_0, extA_1, extA_2, retK_one, retK_none, retK_two, valK_fn, valR_fn, cond_true, cond_false, bin_add, bin_sub, bin_mul, bin_eql, bin_neq, bin_lss, bin_leq, bin_gtr, bin_geq, bin_seql, bin_sneq, un_not_t, un_not_f, un_not, cvI_int, cvT_str, nilChk_ptr, nilChk_xp, addA_ptr, lenT_str, Bool.true_or, Bool.or_true, Bool.false_or, Bool.or_false, Bool.true_and, Bool.and_true, Bool.false_and, Bool.and_false, decide_true, decide_false, Int.reduceEq, Int.reduceLT, Int.reduceLE, Int.reduceNe, Int.reduceAdd, Int.reduceSub, Int.reduceMul, Int.reduceNeg, List.nil_append, List.append_nil, List.cons_append]
  have s1 := ksum_loop (ρ := ρ) (call := evCall (cx ρ) (k + 11)) (yc := (evCY (cx ρ) (k + 11)).2) (k := k + 11) (H := H.new (.cells 0 44 (0, 0) false (wts W))) hW (.ptr l v 0) (.ptr H.sz 0 0) (fun x0_1 x3_1 x5 H =>
    N44_1 ρ (evCall (cx ρ) (k + 11)) (evCY (cx ρ) (k + 11)).2 0 (k + 11) x0_1 x3_1 x5 H retK) _ (fun _ _ _ => rfl) 10 0 (k + 11) (by omega) (by omega) (by omega)
  rw [List.take_zero] at s1
  have z : ((0 : Nat) : Int) = 0 := rfl
  have z2 : List.sum ([] : List Int) = 0 := rfl
  rw [z, z2] at s1
  rw [s1]
  have hbel := below_spec (ρ := ρ) (k := k + 9) (H := H.new (.cells 0 44 (0, 0) false (wts W))) x W.sum hs (by omega) (hg' _)
  have hq : ((H.new (.cells 0 44 (0, 0) false (wts W))).put l (.cells v e (0, 0) g [.int .u64 (nx x)])).get H.sz = .cells 0 44 (0, 0) false (wts W) := by
    rw [Heap.get_put, if_neg (by omega), Heap.get_new_same]
  simp only [N44_1, hbel, ldN_ptr, hq, hld, N44_3, N44_4, purK_some, resK_some, boolK_some, condK_true, condK_false, wantV_tt, wantV_tf, wantV_ft, wantV_ff, wantV_t, wantV_f, wantV_skip, Bool.not_true, Bool.not_false, gPur_true, gPur_false, gEff_true, gEff_false, gRes_true, gRes_false, pickA_true, pickA_false, extA_0, extA_1, extA_2, retK_one, retK_none, retK_two, valK_fn, valR_fn, cond_true, cond_false, bin_add, bin_sub, bin_mul, bin_eql, bin_neq, bin_lss, bin_leq, bin_gtr, bin_geq, bin_seql, bin_sneq, un_not_t, un_not_f, un_not, cvI_int, cvT_str, nilChk_ptr, nilChk_xp, addA_ptr, lenT_str, Bool.true_or, Bool.or_true, Bool.false_or, Bool.or_false, Bool.true_and, Bool.and_true, Bool.false_and, Bool.and_false, decide_true, decide_false, Int.reduceEq, Int.reduceLT, Int.reduceLE, Int.reduceNe, Int.reduceAdd, Int.reduceSub, Int.reduceMul, Int.reduceNeg, List.nil_append, List.append_nil, List.cons_append]
  have s2 := kfind_loop (ρ := ρ) (call := evCall (cx ρ) (k + 11)) (yc := (evCY (cx ρ) (k + 11)).2) (k := k + 11) (H := (H.new (.cells 0 44 (0, 0) false (wts W))).put l (.cells v e (0, 0) g [.int .u64 (nx x)])) hW (fun H => N44_2 ρ (evCall (cx ρ) (k + 11)) (evCY (cx ρ) (k + 11)).2 0 (k + 11) H retK) retK (fun H => rfl) _ (fun _ _ _ => rfl) 10 0 (k + 11) (bl x W.sum) (by omega) (by omega) (by omega) hb.1 (by omega)
  rw [z, List.drop_zero] at s2
  rw [s2]
  rfl
end
end Go.Proofs.Ytcjicmabhejllaa

-- part PsC
/- strings.Builder and strings.Repeat, of one letter. -/
set_option linter.unusedVariables false
set_option linter.unusedSimpArgs false
namespace Go.Proofs.Ytcjicmabhejllaa
attribute [local congr] Go.Ev.cond_congr1
open Go.Ev Go.RowKit
structure Bd (H : Heap) (l b : Nat) (w : UInt8) (j n m : Nat) : Prop where
  top : H.get l = .cells 0 81 (0, 0) false [.ptr l 0 0, .sl b 0 0 j (j + n) true]
  row : H.get b = .cells 0 5 (0, m) true (rowOf w j n)
  lt : l < H.sz
  lt2 : b < H.sz
  ne : l ≠ b
  le : m ≤ j
section
variable {ρ : Addr → Option Value} {k : Nat} {H : Heap} {l b : Nat} {w : UInt8} {j n m : Nat}
theorem eqp1 : binA Try.prog H .eql 79 .nilp .nilp = some (.bool true) := by kernel_rfl
theorem eqp2 : binA Try.prog H .eql 79 (.ptr l 0 0) .nilp = some (.bool false) := by kernel_rfl
theorem eqp3 (hv : H.ver l = 0) : binA Try.prog H .neq 79 (.ptr l 0 0) (.ptr l 0 0) = some (.bool false) := by
  have h : binA Try.prog H .neq 79 (.ptr l 0 0) (.ptr l 0 0) = (bif Nat.beq l l && Nat.beq 0 0 && (Nat.beq (H.ver l) 0) && true then some (Nat.beq 0 0) else none).map fun b => .bool !b := by kernel_rfl
  rw [h, hv]; simp
theorem ne_spec (x : AV) : evCall (cx ρ) (k + 1) 0 61 [x] H = some (x, H) := by kernel_rfl
theorem cnv1 {v e : Nat} {fr : Nat × Nat} {g : Bool} {c : List AV} (hg : H.get l = .cells v e fr g c) (hc : 0 < c.length) : convXA (cx ρ) H 79 94 (.ptr l v 0) = some (.ptr l v 0) := by
  have h : convXA (cx ρ) H 79 94 (.ptr l v 0) = (match H.get l with | .cells v' _ _ _ c => bif v' == v && true && Nat.blt 0 c.length then some (.ptr l v 0) else none | _ => none) := by kernel_rfl
  rw [h, hg]
  have : Nat.blt 0 c.length = true := by rw [Nat.blt_eq]; exact hc
  simp [this]
theorem cc0 {y : AV} (hg : H.get l = .cells 0 81 (0, 0) false [.nilp, y]) : evCall (cx ρ) (k + 2) 0 59 [.ptr l 0 0] H = some (.tup [], H.put l (.cells 0 81 (0, 0) false [.ptr l 0 0, y])) := by
  have c1 := cnv1 (ρ := ρ) hg (by simp)
  have c2 : convXA (cx ρ) H 94 79 (.ptr l 0 0) = some (.ptr l 0 0) := by
    have h : convXA (cx ρ) H 94 79 (.ptr l 0 0) = (match H.get l with | .cells v' e _ false c => bif v' == 0 && liesAt Try.prog Try.prog.depth e (c.length / Try.prog.cellsOf e) 0 81 1 then some (.ptr l 0 0) else none | _ => none) := by kernel_rfl
    rw [h, hg]
    have h2 : liesAt Try.prog Try.prog.depth 81 (2 / Try.prog.cellsOf 81) 0 81 1 = true := by kernel_rfl
    simp only [List.length_cons, List.length_nil, Nat.zero_add, h2, beq_self_eq_true, Bool.and_self, cond_true]
  rw [E59]
  simp (disch := first | ((try simp only [szn, szp, List.length_cons, List.length_nil, List.length_set, List.all_cons, List.all_nil, Bool.and_true, scal_int, sol_int, scal_bool, sol_bool, scal_str, sol_str, scal_nilp, sol_nilp, scal_ptr, sol_ptr, scal_nils, sol_nils, scal_sl, sol_sl, scal_sx, sol_sx, scal_xp, sol_xp, scal_xs, sol_xs, scal_nilm, sol_nilm, scal_mp, sol_mp, scal_nilf, sol_nilf, scal_fn, sol_fn, scal_nili, sol_nili, scal_ifc, sol_ifc]) <;> omega) | with_unfolding_all rfl) only [L59, hg, eqp1, c1, c2, ne_spec, purK_some, resK_some, boolK_some, condK_true, condK_false, wantV_tt, wantV_tf, wantV_ft, wantV_ff, wantV_t, wantV_f, wantV_skip, Bool.not_true, Bool.not_false, gPur_true, gPur_false, gEff_true, gEff_false, gRes_true, gRes_false, pickA_true, pickA_false, extA_0, extA_1, extA_2, retK_one, retK_none, retK_two, valK_fn, valR_fn, cond_true, cond_false, bin_add, bin_sub, bin_mul, bin_eql, bin_neq, bin_lss, bin_leq, bin_gtr, bin_geq, bin_seql, bin_sneq, un_not_t, un_not_f, un_not, cvI_int, cvT_str, nilChk_ptr, nilChk_xp, addA_ptr, lenT_str, Bool.true_or, Bool.or_true, Bool.false_or, Bool.or_false, Bool.true_and, Bool.and_true, Bool.false_and, Bool.and_false, decide_true, decide_false, Int.reduceEq, Int.reduceLT, Int.reduceLE, Int.reduceNe, Int.reduceAdd, Int.reduceSub, Int.reduceMul, Int.reduceNeg, List.nil_append, List.append_nil, List.cons_append, effK_new, effK_put, effK_nothing, on_new, on_put, on_nothing, ld1_ptr, ldN_ptr, stA_one_ptr, stA_agg_ptr, ldC_cells, ldCN_cells, stC_one, stC_many, lay_all, lay_one, newCells_eq, get_new_at, get_put_at, Heap.get_new_ne, Heap.get_put_ne, szn, szp, box1, boxA_agg, List.getElem?_cons_zero, List.getElem?_cons_succ, List.drop_zero, List.drop_succ_cons, List.take_zero, List.take_succ_cons, List.set_cons_zero, List.set_cons_succ, Nat.zero_add, Nat.add_zero, Nat.reduceAdd]
theorem cc1 {y : AV} (hg : H.get l = .cells 0 81 (0, 0) false [.ptr l 0 0, y]) : evCall (cx ρ) (k + 2) 0 59 [.ptr l 0 0] H = some (.tup [], H) := by
  have hv : H.ver l = 0 := by simp [Heap.ver, hg, AObj.ver]
  rw [E59]
  simp (disch := first | ((try simp only [szn, szp, List.length_cons, List.length_nil, List.length_set, List.all_cons, List.all_nil, Bool.and_true, scal_int, sol_int, scal_bool, sol_bool, scal_str, sol_str, scal_nilp, sol_nilp, scal_ptr, sol_ptr, scal_nils, sol_nils, scal_sl, sol_sl, scal_sx, sol_sx, scal_xp, sol_xp, scal_xs, sol_xs, scal_nilm, sol_nilm, scal_mp, sol_mp, scal_nilf, sol_nilf, scal_fn, sol_fn, scal_nili, sol_nili, scal_ifc, sol_ifc]) <;> omega) | with_unfolding_all rfl) only [L59, hg, eqp2, eqp3 hv, purK_some, resK_some, boolK_some, condK_true, condK_false, wantV_tt, wantV_tf, wantV_ft, wantV_ff, wantV_t, wantV_f, wantV_skip, Bool.not_true, Bool.not_false, gPur_true, gPur_false, gEff_true, gEff_false, gRes_true, gRes_false, pickA_true, pickA_false, extA_0, extA_1, extA_2, retK_one, retK_none, retK_two, valK_fn, valR_fn, cond_true, cond_false, bin_add, bin_sub, bin_mul, bin_eql, bin_neq, bin_lss, bin_leq, bin_gtr, bin_geq, bin_seql, bin_sneq, un_not_t, un_not_f, un_not, cvI_int, cvT_str, nilChk_ptr, nilChk_xp, addA_ptr, lenT_str, Bool.true_or, Bool.or_true, Bool.false_or, Bool.or_false, Bool.true_and, Bool.and_true, Bool.false_and, Bool.and_false, decide_true, decide_false, Int.reduceEq, Int.reduceLT, Int.reduceLE, Int.reduceNe, Int.reduceAdd, Int.reduceSub, Int.reduceMul, Int.reduceNeg, List.nil_append, List.append_nil, List.cons_append, effK_new, effK_put, effK_nothing, on_new, on_put, on_nothing, ld1_ptr, ldN_ptr, stA_one_ptr, stA_agg_ptr, ldC_cells, ldCN_cells, stC_one, stC_many, lay_all, lay_one, newCells_eq, get_new_at, get_put_at, Heap.get_new_ne, Heap.get_put_ne, szn, szp, box1, boxA_agg, List.getElem?_cons_zero, List.getElem?_cons_succ, List.drop_zero, List.drop_succ_cons, List.take_zero, List.take_succ_cons, List.set_cons_zero, List.set_cons_succ, Nat.zero_add, Nat.add_zero, Nat.reduceAdd]
theorem len_spec (h : Bd H l b w j n m) : evCall (cx ρ) (k + 1) 0 54 [.ptr l 0 0] H = some (.int .i64 j, H) := by
  have hg := h.top
  rw [E54]
  simp (disch := first | ((try simp only [szn, szp, List.length_cons, List.length_nil, List.length_set, List.all_cons, List.all_nil, Bool.and_true, scal_int, sol_int, scal_bool, sol_bool, scal_str, sol_str, scal_nilp, sol_nilp, scal_ptr, sol_ptr, scal_nils, sol_nils, scal_sl, sol_sl, scal_sx, sol_sx, scal_xp, sol_xp, scal_xs, sol_xs, scal_nilm, sol_nilm, scal_mp, sol_mp, scal_nilf, sol_nilf, scal_fn, sol_fn, scal_nili, sol_nili, scal_ifc, sol_ifc]) <;> omega) | with_unfolding_all rfl) only [L54, hg, lenS, purK_some, resK_some, boolK_some, condK_true, condK_false, wantV_tt, wantV_tf, wantV_ft, wantV_ff, wantV_t, wantV_f, wantV_skip, Bool.not_true, Bool.not_false, gPur_true, gPur_false, gEff_true, gEff_false, gRes_true, gRes_false, pickA_true, pickA_false, extA_0, extA_1, extA_2, retK_one, retK_none, retK_two, valK_fn, valR_fn, cond_true, cond_false, bin_add, bin_sub, bin_mul, bin_eql, bin_neq, bin_lss, bin_leq, bin_gtr, bin_geq, bin_seql, bin_sneq, un_not_t, un_not_f, un_not, cvI_int, cvT_str, nilChk_ptr, nilChk_xp, addA_ptr, lenT_str, Bool.true_or, Bool.or_true, Bool.false_or, Bool.or_false, Bool.true_and, Bool.and_true, Bool.false_and, Bool.and_false, decide_true, decide_false, Int.reduceEq, Int.reduceLT, Int.reduceLE, Int.reduceNe, Int.reduceAdd, Int.reduceSub, Int.reduceMul, Int.reduceNeg, List.nil_append, List.append_nil, List.cons_append, effK_new, effK_put, effK_nothing, on_new, on_put, on_nothing, ld1_ptr, ldN_ptr, stA_one_ptr, stA_agg_ptr, ldC_cells, ldCN_cells, stC_one, stC_many, lay_all, lay_one, newCells_eq, get_new_at, get_put_at, Heap.get_new_ne, Heap.get_put_ne, szn, szp, box1, boxA_agg, List.getElem?_cons_zero, List.getElem?_cons_succ, List.drop_zero, List.drop_succ_cons, List.take_zero, List.take_succ_cons, List.set_cons_zero, List.set_cons_succ, Nat.zero_add, Nat.add_zero, Nat.reduceAdd]
theorem ws_spec (h : Bd H l b w j n m) (c : Nat) (hc : c ≤ n) (hn : j + n < 9223372036854775807) : ∃ H', evCall (cx ρ) (k + 3) 0 53 [.ptr l 0 0, .str (rep w c)] H = some (.tup [.int .i64 c, .nili], H') ∧ Bd H' l b w (j + c) (n - c) m ∧ Fr (fun t => t = l ∨ t = b) H H' := by
  have hg := h.top
  have hne := h.ne
  have ap := apA_rep (ρ := ρ) (by_ := 1) (mm := true) h.row h.le hc
  have hg2 : (H.put b (.cells 0 5 (0, m) true (rowOf w (j + c) (n - c)))).get l = .cells 0 81 (0, 0) false [.ptr l 0 0, .sl b 0 0 j (j + n) true] := by rw [Heap.get_put, if_neg hne, hg]
  refine ⟨(H.put b (.cells 0 5 (0, m) true (rowOf w (j + c) (n - c)))).put l (.cells 0 81 (0, 0) false [.ptr l 0 0, .sl b 0 0 (j + c) (j + n) true]), ?_, ⟨?_, ?_, ?_, ?_, hne, ?_⟩, ?_⟩
  · rw [E53]
    simp (disch := first | ((try simp only [szn, szp, List.length_cons, List.length_nil, List.length_set, List.all_cons, List.all_nil, Bool.and_true, scal_int, sol_int, scal_bool, sol_bool, scal_str, sol_str, scal_nilp, sol_nilp, scal_ptr, sol_ptr, scal_nils, sol_nils, scal_sl, sol_sl, scal_sx, sol_sx, scal_xp, sol_xp, scal_xs, sol_xs, scal_nilm, sol_nilm, scal_mp, sol_mp, scal_nilf, sol_nilf, scal_fn, sol_fn, scal_nili, sol_nili, scal_ifc, sol_ifc]) <;> omega) | with_unfolding_all rfl) only [L53, cc1 hg, hg, ap, hg2, effK_put, rep_size, purK_some, resK_some, boolK_some, condK_true, condK_false, wantV_tt, wantV_tf, wantV_ft, wantV_ff, wantV_t, wantV_f, wantV_skip, Bool.not_true, Bool.not_false, gPur_true, gPur_false, gEff_true, gEff_false, gRes_true, gRes_false, pickA_true, pickA_false, extA_0, extA_1, extA_2, retK_one, retK_none, retK_two, valK_fn, valR_fn, cond_true, cond_false, bin_add, bin_sub, bin_mul, bin_eql, bin_neq, bin_lss, bin_leq, bin_gtr, bin_geq, bin_seql, bin_sneq, un_not_t, un_not_f, un_not, cvI_int, cvT_str, nilChk_ptr, nilChk_xp, addA_ptr, lenT_str, Bool.true_or, Bool.or_true, Bool.false_or, Bool.or_false, Bool.true_and, Bool.and_true, Bool.false_and, Bool.and_false, decide_true, decide_false, Int.reduceEq, Int.reduceLT, Int.reduceLE, Int.reduceNe, Int.reduceAdd, Int.reduceSub, Int.reduceMul, Int.reduceNeg, List.nil_append, List.append_nil, List.cons_append, effK_new, effK_put, effK_nothing, on_new, on_put, on_nothing, ld1_ptr, ldN_ptr, stA_one_ptr, stA_agg_ptr, ldC_cells, ldCN_cells, stC_one, stC_many, lay_all, lay_one, newCells_eq, get_new_at, get_put_at, Heap.get_new_ne, Heap.get_put_ne, szn, szp, box1, boxA_agg, List.getElem?_cons_zero, List.getElem?_cons_succ, List.drop_zero, List.drop_succ_cons, List.take_zero, List.take_succ_cons, List.set_cons_zero, List.set_cons_succ, Nat.zero_add, Nat.add_zero, Nat.reduceAdd]
  · rw [Heap.get_put_same, show j + n = j + c + (n - c) by omega]
  · rw [Heap.get_put, if_neg (Ne.symm hne), Heap.get_put_same]
  · rw [szp, szp]; exact h.lt
  · rw [szp, szp]; exact h.lt2
  · have := h.le; omega
  · exact (Fr.put _ _ _ (S := fun t => t = l ∨ t = b) fun _ => Or.inr rfl).trans (Fr.put _ _ _ fun _ => Or.inl rfl)
end
end Go.Proofs.Ytcjicmabhejllaa

-- part PsD
/- strings.Builder's Grow and String; strings.Repeat of one letter. -/
set_option linter.unusedVariables false
set_option linter.unusedSimpArgs false
namespace Go.Proofs.Ytcjicmabhejllaa
attribute [local congr] Go.Ev.cond_congr1
open Go.Ev Go.RowKit
section
variable {ρ : Addr → Option Value} {k : Nat} {H : Heap} {l b : Nat} {w : UInt8} {j n m : Nat}
theorem mnz_spec (hn : (n : Int) ≤ 281474976710656) : evCall (cx ρ) (k + 1) 0 62 [.int .i64 n] H = some (.sl H.sz 0 0 n n true, H.new (.cells 0 5 (0, 0) true (List.replicate n .any))) := by
  have h : evCall (cx ρ) (k + 1) 0 62 [.int .i64 n] H = (noZeroA Try.prog H 65 n).bind fun r => applyK false H r.2 fun H => some (r.1, H) := by kernel_rfl
  have hu : Try.prog.underlying 65 = some (.slice 5) := by kernel_rfl
  have hs : szA Try.prog 5 = some 1 := by kernel_rfl
  have h1 : (0 : Int) ≤ n := by omega
  rw [h]
  simp only [noZeroA, hu, hs, Option.bind_some, Nat.beq_refl, h1, hn, decide_true, Bool.and_self, cond_true, Int.toNat_natCast]
  rfl
theorem cp_spec {b v o c e : Nat} {g mm : Bool} {cs : List AV} (hg : H.get b = .cells v e (0, 0) g cs) (ho : o ≤ cs.length) : builtinA (cx ρ) 0 H .copy #[65, 65] [.sl b v o 0 c mm, .nils] = some (.int .i64 0, .put b (.cells v e (0, 0) g cs)) := by
  have h : builtinA (cx ρ) 0 H .copy #[65, 65] [.sl b v o 0 c mm, .nils] = (storeN 0 H [] (.ptr b v o)).map fun f => (.int .i64 0, f) := by kernel_rfl
  rw [h, storeN_of [] o hg (by simpa using ho) rfl]
  simp [layA]
theorem grow_spec (n : Nat) (hn : n < 1000) (h0 : 0 < n) (hl : l < H.sz) (hg : H.get l = .cells 0 81 (0, 0) false [.nilp, .nils]) :
    ∃ H', evCall (cx ρ) (k + 4) 0 52 [.ptr l 0 0, .int .i64 n] H = some (.tup [], H') ∧ Bd H' l H.sz w 0 n 0 ∧ Fr (fun t => t = l) H H' := by
  obtain ⟨H1, hH1⟩ : ∃ H1, H1 = H.put l (.cells 0 81 (0, 0) false [.ptr l 0 0, .nils]) := ⟨_, rfl⟩
  have hz1 : H1.sz = H.sz := by rw [hH1, szp]
  have g1 : H1.get l = .cells 0 81 (0, 0) false [.ptr l 0 0, .nils] := by rw [hH1, Heap.get_put_same]
  obtain ⟨H2, hH2⟩ : ∃ H2, H2 = H1.new (.cells 0 5 (0, 0) true (List.replicate n .any)) := ⟨_, rfl⟩
  have hz2 : H2.sz = H.sz + 1 := by rw [hH2, szn, hz1]
  have g2 : H2.get l = .cells 0 81 (0, 0) false [.ptr l 0 0, .nils] := by rw [hH2, Heap.get_new, if_neg (by omega), g1]
  have g2b : H2.get H.sz = .cells 0 5 (0, 0) true (List.replicate n .any) := by rw [hH2, ← hz1, Heap.get_new_same]
  obtain ⟨H3, hH3⟩ : ∃ H3, H3 = H2.put H.sz (.cells 0 5 (0, 0) true (List.replicate n .any)) := ⟨_, rfl⟩
  have hz3 : H3.sz = H.sz + 1 := by rw [hH3, szp, hz2]
  have g3 : H3.get l = .cells 0 81 (0, 0) false [.ptr l 0 0, .nils] := by rw [hH3, Heap.get_put, if_neg (by omega), g2]
  have g3b : H3.get H.sz = .cells 0 5 (0, 0) true (List.replicate n .any) := by rw [hH3, Heap.get_put_same]
  have e1 := cc0 (ρ := ρ) (k := k + 1) hg
  have e2 := mnz_spec (ρ := ρ) (k := k + 1) (H := H1) (n := n) (by omega)
  have e3 := cp_spec (ρ := ρ) (H := H2) (c := n) (mm := true) (o := 0) g2b (by omega)
  have e4 : slS 1 (.sl H.sz 0 0 n n true) none (some (.int .i64 0)) none = some (.sl H.sz 0 0 0 n true) := by
    have q : Nat.ble n n = true := Nat.ble_eq_true_of_le (Nat.le_refl _)
    have q2 : ((0 : Nat) == n) = false := by simp; omega
    have q3 : (0 : Int) ≤ n := by omega
    simp [slS, sliceSl, boundsA, boundA, Ev.asInt, q, q2, q3]
  have h1 : ¬ (n : Int) < 0 := by omega
  have h2 : (0 : Int) < n := by omega
  have h3 : wrapK .i64 (n : Int) = n := wrap_nat n (by omega)
  refine ⟨H3.put l (.cells 0 81 (0, 0) false [.ptr l 0 0, .sl H.sz 0 0 0 n true]), ?_, ⟨?_, ?_, ?_, ?_, ?_, ?_⟩, ?_⟩
  · rw [E52]
    have hgr : evCall (cx ρ) (k + 3) 0 60 [.ptr l 0 0, .int .i64 n] H1 = some (.tup [], H3.put l (.cells 0 81 (0, 0) false [.ptr l 0 0, .sl H.sz 0 0 0 n true])) := by
      rw [E60]
      have w0 : wrapK .i64 (0 : Int) = 0 := by decide
      simp (disch := first | ((try simp only [szn, szp, List.length_cons, List.length_nil, List.length_set, List.all_cons, List.all_nil, Bool.and_true, scal_int, sol_int, scal_bool, sol_bool, scal_str, sol_str, scal_nilp, sol_nilp, scal_ptr, sol_ptr, scal_nils, sol_nils, scal_sl, sol_sl, scal_sx, sol_sx, scal_xp, sol_xp, scal_xs, sol_xs, scal_nilm, sol_nilm, scal_mp, sol_mp, scal_nilf, sol_nilf, scal_fn, sol_fn, scal_nili, sol_nili, scal_ifc, sol_ifc]) <;> omega) | with_unfolding_all rfl) only [L60, g1, capS, lenS, w0, h3, Int.zero_add, Int.natCast_zero, e2, ← hH2, g2, hz1, agn_some, eqv_int, eqv_nils, eqv_sl, e4, e3, effK_put, ← hH3, g3, purK_some, resK_some, boolK_some, condK_true, condK_false, wantV_tt, wantV_tf, wantV_ft, wantV_ff, wantV_t, wantV_f, wantV_skip, Bool.not_true, Bool.not_false, gPur_true, gPur_false, gEff_true, gEff_false, gRes_true, gRes_false, pickA_true, pickA_false, extA_0, extA_1, extA_2, retK_one, retK_none, retK_two, valK_fn, valR_fn, cond_true, cond_false, bin_add, bin_sub, bin_mul, bin_eql, bin_neq, bin_lss, bin_leq, bin_gtr, bin_geq, bin_seql, bin_sneq, un_not_t, un_not_f, un_not, cvI_int, cvT_str, nilChk_ptr, nilChk_xp, addA_ptr, lenT_str, Bool.true_or, Bool.or_true, Bool.false_or, Bool.or_false, Bool.true_and, Bool.and_true, Bool.false_and, Bool.and_false, decide_true, decide_false, Int.reduceEq, Int.reduceLT, Int.reduceLE, Int.reduceNe, Int.reduceAdd, Int.reduceSub, Int.reduceMul, Int.reduceNeg, List.nil_append, List.append_nil, List.cons_append, effK_new, effK_put, effK_nothing, on_new, on_put, on_nothing, ld1_ptr, ldN_ptr, stA_one_ptr, stA_agg_ptr, ldC_cells, ldCN_cells, stC_one, stC_many, lay_all, lay_one, newCells_eq, get_new_at, get_put_at, Heap.get_new_ne, Heap.get_put_ne, szn, szp, box1, boxA_agg, List.getElem?_cons_zero, List.getElem?_cons_succ, List.drop_zero, List.drop_succ_cons, List.take_zero, List.take_succ_cons, List.set_cons_zero, List.set_cons_succ, Nat.zero_add, Nat.add_zero, Nat.reduceAdd]
    have w0 : wrapK .i64 (0 : Int) = 0 := by decide
    simp (disch := first | ((try simp only [szn, szp, List.length_cons, List.length_nil, List.length_set, List.all_cons, List.all_nil, Bool.and_true, scal_int, sol_int, scal_bool, sol_bool, scal_str, sol_str, scal_nilp, sol_nilp, scal_ptr, sol_ptr, scal_nils, sol_nils, scal_sl, sol_sl, scal_sx, sol_sx, scal_xp, sol_xp, scal_xs, sol_xs, scal_nilm, sol_nilm, scal_mp, sol_mp, scal_nilf, sol_nilf, scal_fn, sol_fn, scal_nili, sol_nili, scal_ifc, sol_ifc]) <;> omega) | with_unfolding_all rfl) only [L52, N52_1, e1, ← hH1, h1, g1, capS, lenS, Int.natCast_zero, w0, h2, hgr, purK_some, resK_some, boolK_some, condK_true, condK_false, wantV_tt, wantV_tf, wantV_ft, wantV_ff, wantV_t, wantV_f, wantV_skip, Bool.not_true, Bool.not_false, gPur_true, gPur_false, gEff_true, gEff_false, gRes_true, gRes_false, pickA_true, pickA_false, extA_0, extA_1, extA_2, retK_one, retK_none, retK_two, valK_fn, valR_fn, cond_true, cond_false, bin_add, bin_sub, bin_mul, bin_eql, bin_neq, bin_lss, bin_leq, bin_gtr, bin_geq, bin_seql, bin_sneq, un_not_t, un_not_f, un_not, cvI_int, cvT_str, nilChk_ptr, nilChk_xp, addA_ptr, lenT_str, Bool.true_or, Bool.or_true, Bool.false_or, Bool.or_false, Bool.true_and, Bool.and_true, Bool.false_and, Bool.and_false, decide_true, decide_false, Int.reduceEq, Int.reduceLT, Int.reduceLE, Int.reduceNe, Int.reduceAdd, Int.reduceSub, Int.reduceMul, Int.reduceNeg, List.nil_append, List.append_nil, List.cons_append, effK_new, effK_put, effK_nothing, on_new, on_put, on_nothing, ld1_ptr, ldN_ptr, stA_one_ptr, stA_agg_ptr, ldC_cells, ldCN_cells, stC_one, stC_many, lay_all, lay_one, newCells_eq, get_new_at, get_put_at, Heap.get_new_ne, Heap.get_put_ne, szn, szp, box1, boxA_agg, List.getElem?_cons_zero, List.getElem?_cons_succ, List.drop_zero, List.drop_succ_cons, List.take_zero, List.take_succ_cons, List.set_cons_zero, List.set_cons_succ, Nat.zero_add, Nat.add_zero, Nat.reduceAdd]
  · rw [Heap.get_put_same, Nat.zero_add]
  · rw [Heap.get_put, if_neg (by omega), g3b]; simp [rowOf]
  · rw [szp]; omega
  · rw [szp]; omega
  · omega
  · omega
  · have f1 : Fr (fun t => t = l) H H1 := hH1 ▸ Fr.put _ _ _ fun _ => rfl
    have f2 : Fr (fun t => t = l) H1 H2 := hH2 ▸ Fr.new _ _ _
    have f3 : Fr (fun t => t = H.sz) H2 H3 := hH3 ▸ Fr.put _ _ _ fun _ => rfl
    have f4 : Fr (fun t => t = l) H3 (H3.put l (.cells 0 81 (0, 0) false [.ptr l 0 0, .sl H.sz 0 0 0 n true])) := Fr.put _ _ _ fun _ => rfl
    exact (((f1.trans f2).trans' f3 (fun t ht q => by omega)).trans f4)
theorem str_spec (h : Bd H l b w j n m) (h0 : 0 < j) (hn : j + n < 1000) : ∃ H', evCall (cx ρ) (k + 1) 0 55 [.ptr l 0 0] H = some (.str (rep w j), H') ∧ Bd H' l b w j n j ∧ Fr (fun t => t = b) H H' := by
  have hg := h.top
  have e1 : builtinA (cx ρ) 0 H .unsafeSliceData #[65] [.sl b 0 0 j (j + n) true] = some (.ptr b 0 0, .nothing) := by
    have q : Nat.beq (j + n) 0 = false := by
      cases hq : Nat.beq (j + n) 0 with
      | false => rfl
      | true => have := Nat.eq_of_beq_eq_true hq; omega
    show (sliceDataA (.sl b 0 0 j (j + n) true)).map Go.Ev.nothing = _
    simp only [sliceDataA, q, cond_false, Option.map_some]; rfl
  have hp : Try.prog.underlying 93 = some (.pointer 5) := by kernel_rfl
  have hc : Try.prog.cellsOf 5 = 1 := by kernel_rfl
  have e2 : builtinA (cx ρ) 0 H .unsafeString #[93, 3] [.ptr b 0 0, .int .i64 j] = some (.str (rep w j), .put b (.cells 0 5 (0, j) true (rowOf w j n))) := by
    show (bif Nat.beq (#[93, 3] : Array Nat).size 2 then unsafeStringA (cx ρ) 0 H 93 (.ptr b 0 0) (.int .i64 j) else none) = _
    exact usA_of (C := cx ρ) hp hc h.row h.le h0 (by omega)
  refine ⟨H.put b (.cells 0 5 (0, j) true (rowOf w j n)), ?_, ⟨?_, ?_, ?_, ?_, h.ne, ?_⟩, ?_⟩
  · rw [E55]
    simp (disch := first | ((try simp only [szn, szp, List.length_cons, List.length_nil, List.length_set, List.all_cons, List.all_nil, Bool.and_true, scal_int, sol_int, scal_bool, sol_bool, scal_str, sol_str, scal_nilp, sol_nilp, scal_ptr, sol_ptr, scal_nils, sol_nils, scal_sl, sol_sl, scal_sx, sol_sx, scal_xp, sol_xp, scal_xs, sol_xs, scal_nilm, sol_nilm, scal_mp, sol_mp, scal_nilf, sol_nilf, scal_fn, sol_fn, scal_nili, sol_nili, scal_ifc, sol_ifc]) <;> omega) | with_unfolding_all rfl) only [L55, hg, lenS, e1, effK_nothing, agn_some, eqv_int, eqv_nils, eqv_sl, e2, effK_put, purK_some, resK_some, boolK_some, condK_true, condK_false, wantV_tt, wantV_tf, wantV_ft, wantV_ff, wantV_t, wantV_f, wantV_skip, Bool.not_true, Bool.not_false, gPur_true, gPur_false, gEff_true, gEff_false, gRes_true, gRes_false, pickA_true, pickA_false, extA_0, extA_1, extA_2, retK_one, retK_none, retK_two, valK_fn, valR_fn, cond_true, cond_false, bin_add, bin_sub, bin_mul, bin_eql, bin_neq, bin_lss, bin_leq, bin_gtr, bin_geq, bin_seql, bin_sneq, un_not_t, un_not_f, un_not, cvI_int, cvT_str, nilChk_ptr, nilChk_xp, addA_ptr, lenT_str, Bool.true_or, Bool.or_true, Bool.false_or, Bool.or_false, Bool.true_and, Bool.and_true, Bool.false_and, Bool.and_false, decide_true, decide_false, Int.reduceEq, Int.reduceLT, Int.reduceLE, Int.reduceNe, Int.reduceAdd, Int.reduceSub, Int.reduceMul, Int.reduceNeg, List.nil_append, List.append_nil, List.cons_append, effK_new, effK_put, effK_nothing, on_new, on_put, on_nothing, ld1_ptr, ldN_ptr, stA_one_ptr, stA_agg_ptr, ldC_cells, ldCN_cells, stC_one, stC_many, lay_all, lay_one, newCells_eq, get_new_at, get_put_at, Heap.get_new_ne, Heap.get_put_ne, szn, szp, box1, boxA_agg, List.getElem?_cons_zero, List.getElem?_cons_succ, List.drop_zero, List.drop_succ_cons, List.take_zero, List.take_succ_cons, List.set_cons_zero, List.set_cons_succ, Nat.zero_add, Nat.add_zero, Nat.reduceAdd]
  · rw [Heap.get_put, if_neg h.ne, hg]
  · rw [Heap.get_put_same]
  · rw [szp]; exact h.lt
  · rw [szp]; exact h.lt2
  · omega
  · exact Fr.put _ _ _ fun _ => rfl
end
end Go.Proofs.Ytcjicmabhejllaa

-- part PsE
/- strings.Repeat of one letter. -/
set_option linter.unusedVariables false
set_option linter.unusedSimpArgs false
namespace Go.Proofs.Ytcjicmabhejllaa
attribute [local congr] Go.Ev.cond_congr1
open Go.Ev Go.RowKit
section
variable {ρ : Addr → Option Value} {k : Nat} {H : Heap} {l b : Nat} {w : UInt8} {j n m : Nat}
theorem mul_spec (n : Nat) (hn : n < 20) : evCall (cx ρ) (k + 2) 0 50 [.int .u64 1, .int .u64 n] H = some (.tup [.int .u64 0, .int .u64 n], H) := by
  have : n = 0 ∨ n = 1 ∨ n = 2 ∨ n = 3 ∨ n = 4 ∨ n = 5 ∨ n = 6 ∨ n = 7 ∨ n = 8 ∨ n = 9 ∨ n = 10 ∨ n = 11 ∨ n = 12 ∨ n = 13 ∨ n = 14 ∨ n = 15 ∨ n = 16 ∨ n = 17 ∨ n = 18 ∨ n = 19 := by omega
  rcases this with rfl | rfl | rfl | rfl | rfl | rfl | rfl | rfl | rfl | rfl | rfl | rfl | rfl | rfl | rfl | rfl | rfl | rfl | rfl | rfl <;> (show _ = _; kernel_rfl)
theorem min_of (a b c : Int) : foldsA minA [.int .i64 a, .int .i64 b, .int .i64 c] = some (.int .i64 (if c < (if b < a then b else a) then c else if b < a then b else a)) := (rfl)
theorem slT_rep (w : UInt8) (j c : Nat) (h : c ≤ j) : slT (.str (rep w j)) none (some (.int .i64 c)) = some (.str (rep w c)) := by
  have h1 : (0 : Int) ≤ c := by omega
  simp [slT, boundsA, boundA, Ev.asInt, rep_size, h, h1, rep_cut]
theorem repj (call : CallF) (yc : YieldF) (x0 x7 : AV) (kn : AV → AV → Heap → Res) (R : List AV → Heap → Res) : N49_9 ρ call yc 0 k x0 x7 (.bool false) H kn R = kn x0 x7 H := (rfl)
theorem rep_spec (w : UInt8) (h1 : 97 ≤ w.toNat) (h2 : w.toNat ≤ 122) (n : Nat) (hn : n < 20) (k : Nat) :
    ∃ H', evCall (cx ρ) (k + 30) 0 49 [.str (rep w 1), .int .i64 n] H = some (.str (rep w n), H') ∧ Fr Nop H H' := by
  rw [E49]
  have hn0 : n = 0 ∨ n = 1 ∨ 2 ≤ n := by omega
  rcases hn0 with rfl | rfl | h2n
  · refine ⟨H, ?_, Fr.refl ..⟩
    simp only [L49, Int.natCast_zero, purK_some, resK_some, boolK_some, condK_true, condK_false, wantV_tt, wantV_tf, wantV_ft, wantV_ff, wantV_t, wantV_f, wantV_skip, Bool.not_true, Bool.not_false, gPur_true, gPur_false, gEff_true, gEff_false, gRes_true, gRes_false, pickA_true, pickA_false, extA_0, extA_1, extA_2, retK_one, retK_none, retK_two, valK_fn, valR_fn, cond_true, cond_false, bin_add, bin_sub, bin_mul, bin_eql, bin_neq, bin_lss, bin_leq, bin_gtr, bin_geq, bin_seql, bin_sneq, un_not_t, un_not_f, un_not, cvI_int, cvT_str, nilChk_ptr, nilChk_xp, addA_ptr, lenT_str, Bool.true_or, Bool.or_true, Bool.false_or, Bool.or_false, Bool.true_and, Bool.and_true, Bool.false_and, Bool.and_false, decide_true, decide_false, Int.reduceEq, Int.reduceLT, Int.reduceLE, Int.reduceNe, Int.reduceAdd, Int.reduceSub, Int.reduceMul, Int.reduceNeg, List.nil_append, List.append_nil, List.cons_append]
    rfl
  · refine ⟨H, ?_, Fr.refl ..⟩
    simp only [L49, Int.natCast_one, purK_some, resK_some, boolK_some, condK_true, condK_false, wantV_tt, wantV_tf, wantV_ft, wantV_ff, wantV_t, wantV_f, wantV_skip, Bool.not_true, Bool.not_false, gPur_true, gPur_false, gEff_true, gEff_false, gRes_true, gRes_false, pickA_true, pickA_false, extA_0, extA_1, extA_2, retK_one, retK_none, retK_two, valK_fn, valR_fn, cond_true, cond_false, bin_add, bin_sub, bin_mul, bin_eql, bin_neq, bin_lss, bin_leq, bin_gtr, bin_geq, bin_seql, bin_sneq, un_not_t, un_not_f, un_not, cvI_int, cvT_str, nilChk_ptr, nilChk_xp, addA_ptr, lenT_str, Bool.true_or, Bool.or_true, Bool.false_or, Bool.or_false, Bool.true_and, Bool.and_true, Bool.false_and, Bool.and_false, decide_true, decide_false, Int.reduceEq, Int.reduceLT, Int.reduceLE, Int.reduceNe, Int.reduceAdd, Int.reduceSub, Int.reduceMul, Int.reduceNeg, List.nil_append, List.append_nil, List.cons_append]
  have c1 : ¬ (n : Int) = 0 := by omega
  have c2 : ¬ (n : Int) = 1 := by omega
  have c3 : ¬ (n : Int) < 0 := by omega
  have c4 : ¬ (9223372036854775807 : Int) < (n : Int) := by omega
  have c5 : ¬ (8192 : Int) < (n : Int) := by omega
  have u1 : wrapK .u64 (n : Int) = n := wrap_u64 _ (by omega)
  have u2 : wrapK .i64 (n : Int) = n := wrap_nat n (by omega)
  have u3 : wrapK .u64 ((1 : Nat) : Int) = 1 := by decide
  have mul := mul_spec (ρ := ρ) (k := k + 27) (H := H) n hn
  have x0 : ixT (.str (rep w 1)) (.int .i64 0) = some (.int .u8 w.toNat) := by
    rw [ixT_str _ _ _ (by decide) (by rw [rep_size]; decide)]; rfl
  have d1 : ¬ (w.toNat : Int) = 32 := by omega
  have d2 : ¬ (w.toNat : Int) = 45 := by omega
  have d3 : ¬ (w.toNat : Int) = 48 := by omega
  have d4 : ¬ (w.toNat : Int) = 61 := by omega
  have d5 : ¬ (w.toNat : Int) = 9 := by omega
  have o1 : ¬ ((1 : Nat) : Int) = 0 := by omega
  obtain ⟨HA, hHA⟩ : ∃ HA, HA = H.new (.cells 0 81 (0, 0) false [.nilp, .nils]) := ⟨_, rfl⟩
  have gA : HA.get H.sz = .cells 0 81 (0, 0) false [.nilp, .nils] := by rw [hHA, Heap.get_new_same]
  have zA : HA.sz = H.sz + 1 := by rw [hHA, szn]
  obtain ⟨HB, eB, bB, fB⟩ := grow_spec (ρ := ρ) (k := k + 25) (w := w) (l := H.sz) n (by omega) (by omega) (by omega) gA
  obtain ⟨HC, eC, bC, fC⟩ := ws_spec (ρ := ρ) (k := k + 26) bB 1 (by omega) (by omega)
  have fAll : Fr Nop H HC := by
    have f1 : Fr Nop H HA := hHA ▸ Fr.new _ _ _
    have f2 : Fr Nop H HB := f1.trans' fB fun t ht q => by omega
    exact f2.trans' fC fun t ht q => by omega
  have hstart : L49 ρ (evCall (cx ρ) (k + 29)) (evCY (cx ρ) (k + 29)).2 0 (k + 29) (.str (rep w 1)) (.int .i64 n) H = N49_6 ρ (evCall (cx ρ) (k + 29)) (evCY (cx ρ) (k + 29)).2 0 (k + 29) (.int .i64 n) (.int .i64 n) (.ptr H.sz 0 0) HC retK := by
    simp (disch := first | ((try simp only [szn, szp, List.length_cons, List.length_nil, List.length_set, List.all_cons, List.all_nil, Bool.and_true, scal_int, sol_int, scal_bool, sol_bool, scal_str, sol_str, scal_nilp, sol_nilp, scal_ptr, sol_ptr, scal_nils, sol_nils, scal_sl, sol_sl, scal_sx, sol_sx, scal_xp, sol_xp, scal_xs, sol_xs, scal_nilm, sol_nilm, scal_mp, sol_mp, scal_nilf, sol_nilf, scal_fn, sol_fn, scal_nili, sol_nili, scal_ifc, sol_ifc]) <;> omega) | with_unfolding_all rfl) only [L49, N49_1, N49_2, N49_3, N49_4, N49_5, repj, N49_12, c1, c2, c3, c4, c5, u1, u2, u3, rep_size, mul, x0, d1, d2, d3, d4, d5, o1, newCells_eq, ← hHA, eB, eC, purK_some, resK_some, boolK_some, condK_true, condK_false, wantV_tt, wantV_tf, wantV_ft, wantV_ff, wantV_t, wantV_f, wantV_skip, Bool.not_true, Bool.not_false, gPur_true, gPur_false, gEff_true, gEff_false, gRes_true, gRes_false, pickA_true, pickA_false, extA_0, extA_1, extA_2, retK_one, retK_none, retK_two, valK_fn, valR_fn, cond_true, cond_false, bin_add, bin_sub, bin_mul, bin_eql, bin_neq, bin_lss, bin_leq, bin_gtr, bin_geq, bin_seql, bin_sneq, un_not_t, un_not_f, un_not, cvI_int, cvT_str, nilChk_ptr, nilChk_xp, addA_ptr, lenT_str, Bool.true_or, Bool.or_true, Bool.false_or, Bool.or_false, Bool.true_and, Bool.and_true, Bool.false_and, Bool.and_false, decide_true, decide_false, Int.reduceEq, Int.reduceLT, Int.reduceLE, Int.reduceNe, Int.reduceAdd, Int.reduceSub, Int.reduceMul, Int.reduceNeg, List.nil_append, List.append_nil, List.cons_append, effK_new, effK_put, effK_nothing, on_new, on_put, on_nothing, ld1_ptr, ldN_ptr, stA_one_ptr, stA_agg_ptr, ldC_cells, ldCN_cells, stC_one, stC_many, lay_all, lay_one, newCells_eq, get_new_at, get_put_at, Heap.get_new_ne, Heap.get_put_ne, szn, szp, box1, boxA_agg, List.getElem?_cons_zero, List.getElem?_cons_succ, List.drop_zero, List.drop_succ_cons, List.take_zero, List.take_succ_cons, List.set_cons_zero, List.set_cons_succ, Nat.zero_add, Nat.add_zero, Nat.reduceAdd]
  rw [hstart]
  simp only [N49_6, N49_8]
  refine loopL_wp (W := fun r => ∃ H', r = some (.str (rep w n), H') ∧ Fr Nop H H')
    (fun m y H1 => ∃ j q : Nat, Bd H1 H.sz HA.sz w j (n - j) q ∧ 0 < j ∧ j ≤ n ∧ n - j ≤ m ∧ Fr Nop H H1) ?_ n _ _ _ ⟨0 + 1, 0, bC, by omega, by omega, by omega, fAll⟩ (by omega)
  rintro m y H1 f ⟨j, q, hB, hj0, hjn, hm, hF⟩ hkn
  have l1 := len_spec (ρ := ρ) (k := k + 28) hB
  obtain ⟨HS, eS, bS, fS⟩ := str_spec (ρ := ρ) (k := k + 28) hB hj0 (by omega)
  have fS' : Fr Nop H HS := hF.trans' fS fun t ht q => by omega
  by_cases hlt : (j : Int) < n
  · have s1 : wrapK .i64 ((n : Int) - j) = ((n - j : Nat) : Int) := wrap_subN n j hjn (by omega)
    obtain ⟨c, hc, hc1, hc2, hc3⟩ : ∃ c : Nat, foldsA minA [.int .i64 ((n - j : Nat) : Int), .int .i64 (j : Int), .int .i64 (n : Int)] = some (.int .i64 (c : Int)) ∧ 0 < c ∧ c ≤ j ∧ c ≤ n - j := by
      rw [min_of]
      by_cases h3 : (j : Int) < ((n - j : Nat) : Int)
      · refine ⟨j, ?_, hj0, Nat.le_refl _, by omega⟩
        rw [if_pos h3, if_neg (by omega)]
      · refine ⟨n - j, ?_, by omega, by omega, Nat.le_refl _⟩
        rw [if_neg h3, if_neg (by omega)]
    have t1 := slT_rep w j c hc2
    obtain ⟨HW, eW, bW, fW⟩ := ws_spec (ρ := ρ) (k := k + 26) bS c hc3 (by omega)
    have fW' : Fr Nop H HW := fS'.trans' fW fun t ht q => by omega
    have step : N49_8b ρ (evCall (cx ρ) (k + 29)) (evCY (cx ρ) (k + 29)).2 0 (k + 29) (.int .i64 n) (.int .i64 n) (.ptr H.sz 0 0) H1 (fun H => f () H) (fun x9_1 H => N49_7 ρ (evCall (cx ρ) (k + 29)) (evCY (cx ρ) (k + 29)).2 0 (k + 29) x9_1 H retK) = f () HW := by
      simp only [N49_8b, l1, hlt, s1, hc, eS, t1, eW, purK_some, resK_some, boolK_some, condK_true, condK_false, wantV_tt, wantV_tf, wantV_ft, wantV_ff, wantV_t, wantV_f, wantV_skip, Bool.not_true, Bool.not_false, gPur_true, gPur_false, gEff_true, gEff_false, gRes_true, gRes_false, pickA_true, pickA_false, extA_0, extA_1, extA_2, retK_one, retK_none, retK_two, valK_fn, valR_fn, cond_true, cond_false, bin_add, bin_sub, bin_mul, bin_eql, bin_neq, bin_lss, bin_leq, bin_gtr, bin_geq, bin_seql, bin_sneq, un_not_t, un_not_f, un_not, cvI_int, cvT_str, nilChk_ptr, nilChk_xp, addA_ptr, lenT_str, Bool.true_or, Bool.or_true, Bool.false_or, Bool.or_false, Bool.true_and, Bool.and_true, Bool.false_and, Bool.and_false, decide_true, decide_false, Int.reduceEq, Int.reduceLT, Int.reduceLE, Int.reduceNe, Int.reduceAdd, Int.reduceSub, Int.reduceMul, Int.reduceNeg, List.nil_append, List.append_nil, List.cons_append]
    rw [step]
    exact hkn (n - (j + c)) () HW (by omega) ⟨j + c, j, by rw [show n - (j + c) = n - j - c by omega]; exact bW, by omega, by omega, Nat.le_refl _, fW'⟩
  · have hjn' : j = n := by omega
    subst hjn'
    refine ⟨HS, ?_, fS'⟩
    simp only [N49_8b, N49_7, l1, hlt, eS, purK_some, resK_some, boolK_some, condK_true, condK_false, wantV_tt, wantV_tf, wantV_ft, wantV_ff, wantV_t, wantV_f, wantV_skip, Bool.not_true, Bool.not_false, gPur_true, gPur_false, gEff_true, gEff_false, gRes_true, gRes_false, pickA_true, pickA_false, extA_0, extA_1, extA_2, retK_one, retK_none, retK_two, valK_fn, valR_fn, cond_true, cond_false, bin_add, bin_sub, bin_mul, bin_eql, bin_neq, bin_lss, bin_leq, bin_gtr, bin_geq, bin_seql, bin_sneq, un_not_t, un_not_f, un_not, cvI_int, cvT_str, nilChk_ptr, nilChk_xp, addA_ptr, lenT_str, Bool.true_or, Bool.or_true, Bool.false_or, Bool.or_false, Bool.true_and, Bool.and_true, Bool.false_and, Bool.and_false, decide_true, decide_false, Int.reduceEq, Int.reduceLT, Int.reduceLE, Int.reduceNe, Int.reduceAdd, Int.reduceSub, Int.reduceMul, Int.reduceNeg, List.nil_append, List.append_nil, List.cons_append]
end
end Go.Proofs.Ytcjicmabhejllaa

-- part PsF
/- An operation that is drawn: the program's. -/
set_option linter.unusedVariables false
set_option linter.unusedSimpArgs false
namespace Go.Proofs.Ytcjicmabhejllaa
attribute [local congr] Go.Ev.cond_congr1
open Go.Ev Go.RowKit
def letter (x K : Int) : UInt8 := UInt8.ofNat (97 + bl x K).toNat
theorem letter_nat (x K : Int) (h1 : 1 ≤ K) (h2 : K ≤ 26) : ((letter x K).toNat : Int) = 97 + bl x K ∧ 97 ≤ (letter x K).toNat ∧ (letter x K).toNat ≤ 122 := by
  have := bl_range x K (by omega)
  unfold letter
  rw [UInt8.toNat_ofNat']
  omega
/-- The operation that is drawn, and the state behind it. -/
def opP (K x : Int) : OpD × Int :=
  let k := bl x 4 + 1
  let w := letter (nx x) K
  let x2 := nx (nx x)
  if k = 2 then (⟨k, rep w 1, rep w (bl x2 20).toNat, 0⟩, nx x2)
  else if k = 3 then (⟨k, rep w 1, .empty, bl x2 100⟩, nx x2)
  else (⟨k, rep w 1, .empty, 0⟩, x2)
section
variable {ρ : Addr → Option Value} {k : Nat} {H : Heap} {l v e : Nat} {g : Bool}
theorem b2s_one {H : Heap} {l e : Nat} {fr : Nat × Nat} {g : Bool} {w : UInt8} {n : Int} (hn : (w.toNat : Int) = n) (hg : H.get l = .cells 0 e fr g [.int .u8 n]) : b2s ρ H (.sl l 0 0 1 1 false) = some (.str (rep w 1)) := by
  have h1 : (0 : Int) ≤ (w.toNat : Int) := by omega
  have h2 : (w.toNat : Int) < 256 := by have := w.toNat_lt; omega
  subst hn
  have e1 : Go.Ev.lenA (.sl l 0 0 1 1 false) = some 1 := rfl
  have e2 : Nat.ble 1 1 = true := rfl
  simp [b2s, e1, e2, frst, ldL, cellsAt_of hg, bytesOfA, h1, h2, rep]
theorem bldOne (H : Heap) (e : Nat) (k k' : IntKind) (z n : Int) : bldS H e 1 [.int k' z] 1 [(0, 1, .int k n)] = some (.sl H.sz 0 0 1 1 false, .new (.cells 0 e (0, 0) false [.int k n])) := (rfl)
theorem opFin {H : Heap} {l4 l5 : Nat} {cs : List AV} (h4 : l4 < H.sz) (g4 : H.get l4 = .cells 0 39 (0, 0) false [.int .i64 0, .str ByteArray.empty, .str ByteArray.empty, .int .u64 0]) (g5 : H.get l5 = .cells 0 39 (0, 0) false cs) (hl : cs.length = 4) (hs : cs.all AV.solid = true) (call : CallF) (yc : YieldF) :
    N46_1 ρ call yc 0 k (.ptr l4 0 0) (.ptr l5 0 0) H (retC (cx ρ) [some 39]) = some (.agg cs, H.put l4 (.cells 0 39 (0, 0) false cs)) := by
  have e1 : ldN ρ H 4 (.ptr l5 0 0) = some (.agg cs) := by rw [ldN_of 4 0 g5 (by omega), List.drop_zero, List.take_of_length_le (by omega)]
  have e2 := stA_agg 4 0 cs g4 hl (by simp) hs
  have e3 : layA [AV.int .i64 0, .str ByteArray.empty, .str ByteArray.empty, .int .u64 0] 0 cs = cs := by simp [layA, hl]
  rw [e3] at e2
  have e4 : ldN ρ (H.put l4 (.cells 0 39 (0, 0) false cs)) 4 (.ptr l4 0 0) = some (.agg cs) := by rw [ldN_of 4 0 (Heap.get_put_same ..) (by omega), List.drop_zero, List.take_of_length_le (by omega)]
  simp only [N46_1, e1, e2, effK_put, ldT39, e4, purK_some, resK_some, boolK_some, condK_true, condK_false, wantV_tt, wantV_tf, wantV_ft, wantV_ff, wantV_t, wantV_f, wantV_skip, Bool.not_true, Bool.not_false, gPur_true, gPur_false, gEff_true, gEff_false, gRes_true, gRes_false, pickA_true, pickA_false, extA_0, extA_1, extA_2, retK_one, retK_none, retK_two, valK_fn, valR_fn, cond_true, cond_false, bin_add, bin_sub, bin_mul, bin_eql, bin_neq, bin_lss, bin_leq, bin_gtr, bin_geq, bin_seql, bin_sneq, un_not_t, un_not_f, un_not, cvI_int, cvT_str, nilChk_ptr, nilChk_xp, addA_ptr, lenT_str, Bool.true_or, Bool.or_true, Bool.false_or, Bool.or_false, Bool.true_and, Bool.and_true, Bool.false_and, Bool.and_false, decide_true, decide_false, Int.reduceEq, Int.reduceLT, Int.reduceLE, Int.reduceNe, Int.reduceAdd, Int.reduceSub, Int.reduceMul, Int.reduceNeg, List.nil_append, List.append_nil, List.cons_append, retC_eq, retAll_nil, retAll_none, retAll_some, Option.bind_some]
theorem op_spec (K x : Int) (h1 : 1 ≤ K) (h2 : K ≤ 26) (hl : l < H.sz) (hg : H.get l = .cells v e (0, 0) g [.int .u64 x]) (k : Nat) :
    ∃ H', evCall (cx ρ) (k + 40) 0 46 [.ptr l v 0, .int .i64 K] H = some (.agg (opP K x).1.cells, H') ∧ H'.get l = .cells v e (0, 0) g [.int .u64 (opP K x).2] ∧ Fr (fun t => t = l) H H' := by
  have r1 := bl_range x 4 (by decide)
  have r2 := bl_range (nx x) K (by omega)
  obtain ⟨w, hw⟩ : ∃ w, w = letter (nx x) K := ⟨_, rfl⟩
  obtain ⟨w1, w2, w3⟩ := letter_nat (nx x) K h1 h2
  rw [← hw] at w1 w2 w3
  obtain ⟨H1, hH1⟩ : ∃ H1, H1 = H.new (.cells 0 39 (0, 0) false [.int .i64 0, .str ByteArray.empty, .str ByteArray.empty, .int .u64 0]) := ⟨_, rfl⟩
  have z1 : H1.sz = H.sz + 1 := by rw [hH1, szn]
  have g1 : H1.get l = .cells v e (0, 0) g [.int .u64 x] := by rw [hH1, Heap.get_new, if_neg (by omega), hg]
  have g14 : H1.get H.sz = .cells 0 39 (0, 0) false [.int .i64 0, .str ByteArray.empty, .str ByteArray.empty, .int .u64 0] := by rw [hH1, Heap.get_new_same]
  obtain ⟨H2, hH2⟩ : ∃ H2, H2 = H1.put l (.cells v e (0, 0) g [.int .u64 (nx x)]) := ⟨_, rfl⟩
  have z2 : H2.sz = H.sz + 1 := by rw [hH2, szp, z1]
  have b1 := below_spec (ρ := ρ) (k := k + 37) (H := H1) x 4 (by decide) (by decide) g1
  rw [← hH2] at b1
  have g2 : H2.get l = .cells v e (0, 0) g [.int .u64 (nx x)] := by rw [hH2, Heap.get_put_same]
  have g24 : H2.get H.sz = .cells 0 39 (0, 0) false [.int .i64 0, .str ByteArray.empty, .str ByteArray.empty, .int .u64 0] := by rw [hH2, Heap.get_put, if_neg (by omega), g14]
  obtain ⟨H3, hH3⟩ : ∃ H3, H3 = (H2.new (.cells 0 39 (0, 0) false [.int .i64 0, .str ByteArray.empty, .str ByteArray.empty, .int .u64 0])).put (H.sz + 1) (.cells 0 39 (0, 0) false [.int .i64 (bl x 4 + 1), .str ByteArray.empty, .str ByteArray.empty, .int .u64 0]) := ⟨_, rfl⟩
  have z3 : H3.sz = H.sz + 2 := by rw [hH3, szp, szn, z2]
  have g3 : H3.get l = .cells v e (0, 0) g [.int .u64 (nx x)] := by rw [hH3, Heap.get_put, if_neg (by omega), Heap.get_new, if_neg (by omega), g2]
  have g34 : H3.get H.sz = .cells 0 39 (0, 0) false [.int .i64 0, .str ByteArray.empty, .str ByteArray.empty, .int .u64 0] := by rw [hH3, Heap.get_put, if_neg (by omega), Heap.get_new, if_neg (by omega), g24]
  have g35 : H3.get (H.sz + 1) = .cells 0 39 (0, 0) false [.int .i64 (bl x 4 + 1), .str ByteArray.empty, .str ByteArray.empty, .int .u64 0] := by rw [hH3, Heap.get_put_same]
  obtain ⟨H4, hH4⟩ : ∃ H4, H4 = H3.put l (.cells v e (0, 0) g [.int .u64 (nx (nx x))]) := ⟨_, rfl⟩
  have z4 : H4.sz = H.sz + 2 := by rw [hH4, szp, z3]
  have b2 := below_spec (ρ := ρ) (k := k + 37) (H := H3) (nx x) K (by omega) (by omega) g3
  rw [← hH4] at b2
  obtain ⟨H5, hH5⟩ : ∃ H5, H5 = H4.new (.cells 0 5 (0, 0) false [.int .u8 (97 + bl (nx x) K)]) := ⟨_, rfl⟩
  have z5 : H5.sz = H.sz + 3 := by rw [hH5, szn, z4]
  have g55 : H5.get (H.sz + 1) = .cells 0 39 (0, 0) false [.int .i64 (bl x 4 + 1), .str ByteArray.empty, .str ByteArray.empty, .int .u64 0] := by rw [hH5, Heap.get_new, if_neg (by omega), hH4, Heap.get_put, if_neg (by omega), g35]
  have bs : b2s ρ H5 (.sl (H.sz + 2) 0 0 1 1 false) = some (.str (rep w 1)) := b2s_one w1 (by rw [hH5, ← z4, Heap.get_new_same])
  obtain ⟨H6, hH6⟩ : ∃ H6, H6 = H5.put (H.sz + 1) (.cells 0 39 (0, 0) false [.int .i64 (bl x 4 + 1), .str (rep w 1), .str ByteArray.empty, .int .u64 0]) := ⟨_, rfl⟩
  have z6 : H6.sz = H.sz + 3 := by rw [hH6, szp, z5]
  have g6 : H6.get l = .cells v e (0, 0) g [.int .u64 (nx (nx x))] := by rw [hH6, Heap.get_put, if_neg (by omega), hH5, Heap.get_new, if_neg (by omega), hH4, Heap.get_put_same]
  have g64 : H6.get H.sz = .cells 0 39 (0, 0) false [.int .i64 0, .str ByteArray.empty, .str ByteArray.empty, .int .u64 0] := by rw [hH6, Heap.get_put, if_neg (by omega), hH5, Heap.get_new, if_neg (by omega), hH4, Heap.get_put, if_neg (by omega), g34]
  have g65 : H6.get (H.sz + 1) = .cells 0 39 (0, 0) false [.int .i64 (bl x 4 + 1), .str (rep w 1), .str ByteArray.empty, .int .u64 0] := by rw [hH6, Heap.get_put_same]
  have f6 : Fr (fun t => t = l) H H6 := by
    have a1 : Fr (fun t => t = l) H H1 := hH1 ▸ Fr.new _ _ _
    have a2 : Fr (fun t => t = l) H1 H2 := hH2 ▸ Fr.put _ _ _ fun _ => rfl
    have a3 : Fr (fun t => t = H.sz + 1) H2 H3 := hH3 ▸ (Fr.new _ _ _).trans (Fr.put _ _ _ fun _ => rfl)
    have a4 : Fr (fun t => t = l) H3 H4 := hH4 ▸ Fr.put _ _ _ fun _ => rfl
    have a5 : Fr (fun t => t = l) H4 H5 := hH5 ▸ Fr.new _ _ _
    have a6 : Fr (fun t => t = H.sz + 1) H5 H6 := hH6 ▸ Fr.put _ _ _ fun _ => rfl
    exact ((((a1.trans a2).trans' a3 fun t ht q => by omega).trans a4).trans a5).trans' a6 fun t ht q => by omega
  have u1 : wrapK .i64 (bl x 4 + 1) = bl x 4 + 1 := wrap_i64 _ (by omega)
  have u2 : wrapK .i64 (97 + bl (nx x) K) = 97 + bl (nx x) K := wrap_i64 _ (by omega)
  have u3 : wrapK .u8 (97 + bl (nx x) K) = 97 + bl (nx x) K := wrap_u8 _ (by omega)
  rw [E46]
  unfold opP
  simp only
  by_cases c2 : bl x 4 + 1 = 2
  · rw [if_pos c2, ← hw]
    have r3 := bl_range (nx (nx x)) 20 (by decide)
    obtain ⟨n, hn⟩ : ∃ n : Nat, bl (nx (nx x)) 20 = n := ⟨(bl (nx (nx x)) 20).toNat, by omega⟩
    have b3 := below_spec (ρ := ρ) (k := k + 37) (H := H6) (nx (nx x)) 20 (by decide) (by decide) g6
    obtain ⟨H7, hH7⟩ : ∃ H7, H7 = H6.put l (.cells v e (0, 0) g [.int .u64 (nx (nx (nx x)))]) := ⟨_, rfl⟩
    rw [← hH7, hn] at b3
    have z7 : H7.sz = H.sz + 3 := by rw [hH7, szp, z6]
    have g7 : H7.get l = .cells v e (0, 0) g [.int .u64 (nx (nx (nx x)))] := by rw [hH7, Heap.get_put_same]
    have g74 : H7.get H.sz = .cells 0 39 (0, 0) false [.int .i64 0, .str ByteArray.empty, .str ByteArray.empty, .int .u64 0] := by rw [hH7, Heap.get_put, if_neg (by omega), g64]
    have g75 : H7.get (H.sz + 1) = .cells 0 39 (0, 0) false [.int .i64 (bl x 4 + 1), .str (rep w 1), .str ByteArray.empty, .int .u64 0] := by rw [hH7, Heap.get_put, if_neg (by omega), g65]
    have f7 : Fr (fun t => t = l) H6 H7 := hH7 ▸ Fr.put _ _ _ fun _ => rfl
    obtain ⟨H8, e8, f8⟩ := rep_spec (ρ := ρ) (H := H7) w w2 w3 n (by omega) (k + 9)
    have z8 := f8.sz
    have g8 : H8.get l = .cells v e (0, 0) g [.int .u64 (nx (nx (nx x)))] := by rw [f8.get _ (by omega) (fun q => q), g7]
    have g84 : H8.get H.sz = .cells 0 39 (0, 0) false [.int .i64 0, .str ByteArray.empty, .str ByteArray.empty, .int .u64 0] := by rw [f8.get _ (by omega) (fun q => q), g74]
    have g85 : H8.get (H.sz + 1) = .cells 0 39 (0, 0) false [.int .i64 (bl x 4 + 1), .str (rep w 1), .str ByteArray.empty, .int .u64 0] := by rw [f8.get _ (by omega) (fun q => q), g75]
    obtain ⟨H9, hH9⟩ : ∃ H9, H9 = H8.put (H.sz + 1) (.cells 0 39 (0, 0) false [.int .i64 (bl x 4 + 1), .str (rep w 1), .str (rep w n), .int .u64 0]) := ⟨_, rfl⟩
    have fin := opFin (ρ := ρ) (k := k + 39) (H := H9) (l4 := H.sz) (l5 := H.sz + 1) (cs := [.int .i64 (bl x 4 + 1), .str (rep w 1), .str (rep w n), .int .u64 0]) (by rw [hH9, szp]; omega) (by rw [hH9, Heap.get_put, if_neg (by omega), g84]) (by rw [hH9, Heap.get_put_same]) rfl rfl (evCall (cx ρ) (k + 39)) (evCY (cx ρ) (k + 39)).2
    refine ⟨H9.put H.sz (.cells 0 39 (0, 0) false [.int .i64 (bl x 4 + 1), .str (rep w 1), .str (rep w n), .int .u64 0]), ?_, ?_, ?_⟩
    rotate_left
    · rw [Heap.get_put, if_neg (by omega), hH9, Heap.get_put, if_neg (by omega), g8]
    · have a9 : Fr (fun t => t = H.sz + 1) H8 H9 := hH9 ▸ Fr.put _ _ _ fun _ => rfl
      have a10 := Fr.put (S := fun t => t = H.sz) H9 H.sz (.cells 0 39 (0, 0) false [.int .i64 (bl x 4 + 1), .str (rep w 1), .str (rep w n), .int .u64 0]) fun _ => rfl
      exact ((((f6.trans f7).trans' f8 fun t ht q => q.elim).trans' a9 fun t ht q => by omega).trans' a10 fun t ht q => by omega)
    · have c2' := eq_true c2
      simp (disch := first | ((try simp only [szn, szp, List.length_cons, List.length_nil, List.length_set, List.all_cons, List.all_nil, Bool.and_true, scal_int, sol_int, scal_bool, sol_bool, scal_str, sol_str, scal_nilp, sol_nilp, scal_ptr, sol_ptr, scal_nils, sol_nils, scal_sl, sol_sl, scal_sx, sol_sx, scal_xp, sol_xp, scal_xs, sol_xs, scal_nilm, sol_nilm, scal_mp, sol_mp, scal_nilf, sol_nilf, scal_fn, sol_fn, scal_nili, sol_nili, scal_ifc, sol_ifc]) <;> omega) | with_unfolding_all rfl) only [L46, ← hH1, b1, u1, z2, ← hH3, b2, u2, u3, bldOne, ← hH5, z4, bs, g55, ← hH6, g65, c2', b3, g75, e8, g85, ← hH9, fin, OpD.cells, hn, Int.toNat_natCast, purK_some, resK_some, boolK_some, condK_true, condK_false, wantV_tt, wantV_tf, wantV_ft, wantV_ff, wantV_t, wantV_f, wantV_skip, Bool.not_true, Bool.not_false, gPur_true, gPur_false, gEff_true, gEff_false, gRes_true, gRes_false, pickA_true, pickA_false, extA_0, extA_1, extA_2, retK_one, retK_none, retK_two, valK_fn, valR_fn, cond_true, cond_false, bin_add, bin_sub, bin_mul, bin_eql, bin_neq, bin_lss, bin_leq, bin_gtr, bin_geq, bin_seql, bin_sneq, un_not_t, un_not_f, un_not, cvI_int, cvT_str, nilChk_ptr, nilChk_xp, addA_ptr, lenT_str, Bool.true_or, Bool.or_true, Bool.false_or, Bool.or_false, Bool.true_and, Bool.and_true, Bool.false_and, Bool.and_false, decide_true, decide_false, Int.reduceEq, Int.reduceLT, Int.reduceLE, Int.reduceNe, Int.reduceAdd, Int.reduceSub, Int.reduceMul, Int.reduceNeg, List.nil_append, List.append_nil, List.cons_append, effK_new, effK_put, effK_nothing, on_new, on_put, on_nothing, ld1_ptr, ldN_ptr, stA_one_ptr, stA_agg_ptr, ldC_cells, ldCN_cells, stC_one, stC_many, lay_all, lay_one, newCells_eq, get_new_at, get_put_at, Heap.get_new_ne, Heap.get_put_ne, szn, szp, box1, boxA_agg, List.getElem?_cons_zero, List.getElem?_cons_succ, List.drop_zero, List.drop_succ_cons, List.take_zero, List.take_succ_cons, List.set_cons_zero, List.set_cons_succ, Nat.zero_add, Nat.add_zero, Nat.reduceAdd, bldA_eq, fillO_nil, fillO_one, fillO_agg, Option.map_some, Option.bind_some, repeatL, agn_some, eqv_int, eqv_bool, eqv_str, eqv_nilp, eqv_ptr, eqv_nils, eqv_sl, eqv_sx, eqv_xp, eqv_xs, eqv_nilm, eqv_mp, eqv_nilf, eqv_nili, eqv_tup0, eqv_agg, eqv_tup, eqvs_nil, eqvs_cons, Bool.and_self]
  rw [if_neg c2]
  have c2' := eq_false c2
  by_cases c3 : bl x 4 + 1 = 3
  · rw [if_pos c3, ← hw]
    have r3 := bl_range (nx (nx x)) 100 (by decide)
    have u4 : wrapK .u64 (bl (nx (nx x)) 100) = bl (nx (nx x)) 100 := wrap_u64 _ (by omega)
    have b3 := below_spec (ρ := ρ) (k := k + 37) (H := H6) (nx (nx x)) 100 (by decide) (by decide) g6
    obtain ⟨H7, hH7⟩ : ∃ H7, H7 = H6.put l (.cells v e (0, 0) g [.int .u64 (nx (nx (nx x)))]) := ⟨_, rfl⟩
    rw [← hH7] at b3
    have z7 : H7.sz = H.sz + 3 := by rw [hH7, szp, z6]
    have g7 : H7.get l = .cells v e (0, 0) g [.int .u64 (nx (nx (nx x)))] := by rw [hH7, Heap.get_put_same]
    have g74 : H7.get H.sz = .cells 0 39 (0, 0) false [.int .i64 0, .str ByteArray.empty, .str ByteArray.empty, .int .u64 0] := by rw [hH7, Heap.get_put, if_neg (by omega), g64]
    have g75 : H7.get (H.sz + 1) = .cells 0 39 (0, 0) false [.int .i64 (bl x 4 + 1), .str (rep w 1), .str ByteArray.empty, .int .u64 0] := by rw [hH7, Heap.get_put, if_neg (by omega), g65]
    have f7 : Fr (fun t => t = l) H6 H7 := hH7 ▸ Fr.put _ _ _ fun _ => rfl
    obtain ⟨H9, hH9⟩ : ∃ H9, H9 = H7.put (H.sz + 1) (.cells 0 39 (0, 0) false [.int .i64 (bl x 4 + 1), .str (rep w 1), .str ByteArray.empty, .int .u64 (bl (nx (nx x)) 100)]) := ⟨_, rfl⟩
    have fin := opFin (ρ := ρ) (k := k + 39) (H := H9) (l4 := H.sz) (l5 := H.sz + 1) (cs := [.int .i64 (bl x 4 + 1), .str (rep w 1), .str ByteArray.empty, .int .u64 (bl (nx (nx x)) 100)]) (by rw [hH9, szp]; omega) (by rw [hH9, Heap.get_put, if_neg (by omega), g74]) (by rw [hH9, Heap.get_put_same]) rfl rfl (evCall (cx ρ) (k + 39)) (evCY (cx ρ) (k + 39)).2
    refine ⟨H9.put H.sz (.cells 0 39 (0, 0) false [.int .i64 (bl x 4 + 1), .str (rep w 1), .str ByteArray.empty, .int .u64 (bl (nx (nx x)) 100)]), ?_, ?_, ?_⟩
    rotate_left
    · rw [Heap.get_put, if_neg (by omega), hH9, Heap.get_put, if_neg (by omega), g7]
    · have a9 : Fr (fun t => t = H.sz + 1) H7 H9 := hH9 ▸ Fr.put _ _ _ fun _ => rfl
      have a10 := Fr.put (S := fun t => t = H.sz) H9 H.sz (.cells 0 39 (0, 0) false [.int .i64 (bl x 4 + 1), .str (rep w 1), .str ByteArray.empty, .int .u64 (bl (nx (nx x)) 100)]) fun _ => rfl
      exact (((f6.trans f7).trans' a9 fun t ht q => by omega).trans' a10 fun t ht q => by omega)
    · have c3' := eq_true c3
      simp (disch := first | ((try simp only [szn, szp, List.length_cons, List.length_nil, List.length_set, List.all_cons, List.all_nil, Bool.and_true, scal_int, sol_int, scal_bool, sol_bool, scal_str, sol_str, scal_nilp, sol_nilp, scal_ptr, sol_ptr, scal_nils, sol_nils, scal_sl, sol_sl, scal_sx, sol_sx, scal_xp, sol_xp, scal_xs, sol_xs, scal_nilm, sol_nilm, scal_mp, sol_mp, scal_nilf, sol_nilf, scal_fn, sol_fn, scal_nili, sol_nili, scal_ifc, sol_ifc]) <;> omega) | with_unfolding_all rfl) only [L46, ← hH1, b1, u1, z2, ← hH3, b2, u2, u3, u4, bldOne, ← hH5, z4, bs, g55, ← hH6, g65, c2', c3', b3, g75, ← hH9, fin, OpD.cells, purK_some, resK_some, boolK_some, condK_true, condK_false, wantV_tt, wantV_tf, wantV_ft, wantV_ff, wantV_t, wantV_f, wantV_skip, Bool.not_true, Bool.not_false, gPur_true, gPur_false, gEff_true, gEff_false, gRes_true, gRes_false, pickA_true, pickA_false, extA_0, extA_1, extA_2, retK_one, retK_none, retK_two, valK_fn, valR_fn, cond_true, cond_false, bin_add, bin_sub, bin_mul, bin_eql, bin_neq, bin_lss, bin_leq, bin_gtr, bin_geq, bin_seql, bin_sneq, un_not_t, un_not_f, un_not, cvI_int, cvT_str, nilChk_ptr, nilChk_xp, addA_ptr, lenT_str, Bool.true_or, Bool.or_true, Bool.false_or, Bool.or_false, Bool.true_and, Bool.and_true, Bool.false_and, Bool.and_false, decide_true, decide_false, Int.reduceEq, Int.reduceLT, Int.reduceLE, Int.reduceNe, Int.reduceAdd, Int.reduceSub, Int.reduceMul, Int.reduceNeg, List.nil_append, List.append_nil, List.cons_append, effK_new, effK_put, effK_nothing, on_new, on_put, on_nothing, ld1_ptr, ldN_ptr, stA_one_ptr, stA_agg_ptr, ldC_cells, ldCN_cells, stC_one, stC_many, lay_all, lay_one, newCells_eq, get_new_at, get_put_at, Heap.get_new_ne, Heap.get_put_ne, szn, szp, box1, boxA_agg, List.getElem?_cons_zero, List.getElem?_cons_succ, List.drop_zero, List.drop_succ_cons, List.take_zero, List.take_succ_cons, List.set_cons_zero, List.set_cons_succ, Nat.zero_add, Nat.add_zero, Nat.reduceAdd, bldA_eq, fillO_nil, fillO_one, fillO_agg, Option.map_some, Option.bind_some, repeatL, agn_some, eqv_int, eqv_bool, eqv_str, eqv_nilp, eqv_ptr, eqv_nils, eqv_sl, eqv_sx, eqv_xp, eqv_xs, eqv_nilm, eqv_mp, eqv_nilf, eqv_nili, eqv_tup0, eqv_agg, eqv_tup, eqvs_nil, eqvs_cons, Bool.and_self]
  · rw [if_neg c3, ← hw]
    have c3' := eq_false c3
    have fin := opFin (ρ := ρ) (k := k + 39) (H := H6) (l4 := H.sz) (l5 := H.sz + 1) (cs := [.int .i64 (bl x 4 + 1), .str (rep w 1), .str ByteArray.empty, .int .u64 0]) (by omega) g64 g65 rfl rfl (evCall (cx ρ) (k + 39)) (evCY (cx ρ) (k + 39)).2
    refine ⟨H6.put H.sz (.cells 0 39 (0, 0) false [.int .i64 (bl x 4 + 1), .str (rep w 1), .str ByteArray.empty, .int .u64 0]), ?_, ?_, ?_⟩
    rotate_left
    · rw [Heap.get_put, if_neg (by omega), g6]
    · have a10 := Fr.put (S := fun t => t = H.sz) H6 H.sz (.cells 0 39 (0, 0) false [.int .i64 (bl x 4 + 1), .str (rep w 1), .str ByteArray.empty, .int .u64 0]) fun _ => rfl
      exact f6.trans' a10 fun t ht q => by omega
    · simp (disch := first | ((try simp only [szn, szp, List.length_cons, List.length_nil, List.length_set, List.all_cons, List.all_nil, Bool.and_true, scal_int, sol_int, scal_bool, sol_bool, scal_str, sol_str, scal_nilp, sol_nilp, scal_ptr, sol_ptr, scal_nils, sol_nils, scal_sl, sol_sl, scal_sx, sol_sx, scal_xp, sol_xp, scal_xs, sol_xs, scal_nilm, sol_nilm, scal_mp, sol_mp, scal_nilf, sol_nilf, scal_fn, sol_fn, scal_nili, sol_nili, scal_ifc, sol_ifc]) <;> omega) | with_unfolding_all rfl) only [L46, ← hH1, b1, u1, z2, ← hH3, b2, u2, u3, bldOne, ← hH5, z4, bs, g55, ← hH6, g65, c2', c3', fin, OpD.cells, purK_some, resK_some, boolK_some, condK_true, condK_false, wantV_tt, wantV_tf, wantV_ft, wantV_ff, wantV_t, wantV_f, wantV_skip, Bool.not_true, Bool.not_false, gPur_true, gPur_false, gEff_true, gEff_false, gRes_true, gRes_false, pickA_true, pickA_false, extA_0, extA_1, extA_2, retK_one, retK_none, retK_two, valK_fn, valR_fn, cond_true, cond_false, bin_add, bin_sub, bin_mul, bin_eql, bin_neq, bin_lss, bin_leq, bin_gtr, bin_geq, bin_seql, bin_sneq, un_not_t, un_not_f, un_not, cvI_int, cvT_str, nilChk_ptr, nilChk_xp, addA_ptr, lenT_str, Bool.true_or, Bool.or_true, Bool.false_or, Bool.or_false, Bool.true_and, Bool.and_true, Bool.false_and, Bool.and_false, decide_true, decide_false, Int.reduceEq, Int.reduceLT, Int.reduceLE, Int.reduceNe, Int.reduceAdd, Int.reduceSub, Int.reduceMul, Int.reduceNeg, List.nil_append, List.append_nil, List.cons_append, effK_new, effK_put, effK_nothing, on_new, on_put, on_nothing, ld1_ptr, ldN_ptr, stA_one_ptr, stA_agg_ptr, ldC_cells, ldCN_cells, stC_one, stC_many, lay_all, lay_one, newCells_eq, get_new_at, get_put_at, Heap.get_new_ne, Heap.get_put_ne, szn, szp, box1, boxA_agg, List.getElem?_cons_zero, List.getElem?_cons_succ, List.drop_zero, List.drop_succ_cons, List.take_zero, List.take_succ_cons, List.set_cons_zero, List.set_cons_succ, Nat.zero_add, Nat.add_zero, Nat.reduceAdd, bldA_eq, fillO_nil, fillO_one, fillO_agg, Option.map_some, Option.bind_some, repeatL, agn_some, eqv_int, eqv_bool, eqv_str, eqv_nilp, eqv_ptr, eqv_nils, eqv_sl, eqv_sx, eqv_xp, eqv_xs, eqv_nilm, eqv_mp, eqv_nilf, eqv_nili, eqv_tup0, eqv_agg, eqv_tup, eqvs_nil, eqvs_cons, Bool.and_self]
end
end Go.Proofs.Ytcjicmabhejllaa

-- part PsG
/- Picks that are drawn: the program's. -/
set_option linter.unusedVariables false
set_option linter.unusedSimpArgs false
namespace Go.Proofs.Ytcjicmabhejllaa
attribute [local congr] Go.Ev.cond_congr1
open Go.Ev Go.RowKit
structure StepV where
  kind : Int
  s : Int
  n : Int
  op : OpD
  picks : List Int
def StepV.row (d : StepV) (y : AV) : List AV := [.int .i64 d.kind, .int .i64 d.s, .int .i64 d.n, .int .i64 d.op.kind, .str d.op.key, .str d.op.val, .int .u64 d.op.n, y]
def prow (l : List Int) : List (List AV) := l.map fun n => [.int .i64 n]
theorem prow_len (l : List Int) : (prow l).length = l.length := List.length_map ..
theorem prow_app (a b : List Int) : prow (a ++ b) = prow a ++ prow b := List.map_append ..
/-- So many picks, and the state behind them. -/
def pickGo : Nat → Int → List Int × Int
  | 0, x => ([], x)
  | n + 1, x => (bl x 50 :: (pickGo n (nx x)).1, (pickGo n (nx x)).2)
theorem Grow.scal {H : Heap} {e sz : Nat} {y : AV} {els : List (List AV)} (h : Grow H e sz y els) : Go.Ev.scal y = true ∧ AV.eqv y y = true := by
  cases y <;> first | exact h.elim | exact ⟨rfl, by simp [AV.eqv]⟩
section
variable {ρ : Addr → Option Value} {q k : Nat} {yc : YieldF} {l v e l4 l5 z0 : Nat} {g : Bool}
theorem picks_loop (d : StepV) (hl : l < z0) (hl5 : l5 < z0) (hne : l ≠ l5) (k1 : AV → AV → Heap → Res)
    (B : AV → Heap → (AV → Heap → Res) → Res) (hB : ∀ y H kn, B y H kn = N35_5b ρ (evCall (cx ρ) (q + 2)) yc 0 k (.ptr l v 0) (.ptr l4 0 0) (.ptr l5 0 0) y H (fun x7 H => kn x7 H) k1) :
    ∀ (m n : Nat) (H : Heap) (x : Int) (y : AV) (acc : List Int), m < n → m + acc.length < 1000 → z0 ≤ H.sz →
      H.get l = .cells v e (0, 0) g [.int .u64 x] → H.get l5 = .cells 0 42 (0, 0) false (d.row y) → Grow H 3 1 y (prow acc) → (∀ t, y.lies t → z0 ≤ t) →
      ∃ H' y', loopL B n (.int .i64 m) H = k1 (.ptr l4 0 0) (.ptr l5 0 0) H' ∧ H'.get l = .cells v e (0, 0) g [.int .u64 (pickGo m x).2] ∧ H'.get l5 = .cells 0 42 (0, 0) false (d.row y') ∧
        Grow H' 3 1 y' (prow (acc ++ (pickGo m x).1)) ∧ (∀ t, y'.lies t → z0 ≤ t) ∧ Fr (fun t => t = l ∨ t = l5 ∨ z0 ≤ t) H H' := by
  intro m
  induction m with
  | zero =>
    intro n H x y acc hn hb hz hg hg5 hG hy
    obtain ⟨n, rfl⟩ : ∃ q, n = q + 1 := ⟨n - 1, by omega⟩
    refine ⟨H, y, ?_, hg, hg5, by rw [pickGo, List.append_nil]; exact hG, hy, Fr.refl ..⟩
    rw [loopL_succ, hB]
    simp only [N35_5b, Int.natCast_zero, purK_some, resK_some, boolK_some, condK_true, condK_false, wantV_tt, wantV_tf, wantV_ft, wantV_ff, wantV_t, wantV_f, wantV_skip, Bool.not_true, Bool.not_false, gPur_true, gPur_false, gEff_true, gEff_false, gRes_true, gRes_false, pickA_true, pickA_false, extA_0, extA_1, extA_2, retK_one, retK_none, retK_two, valK_fn, valR_fn, cond_true, cond_false, bin_add, bin_sub, bin_mul, bin_eql, bin_neq, bin_lss, bin_leq, bin_gtr, bin_geq, bin_seql, bin_sneq, un_not_t, un_not_f, un_not, cvI_int, cvT_str, nilChk_ptr, nilChk_xp, addA_ptr, lenT_str, Bool.true_or, Bool.or_true, Bool.false_or, Bool.or_false, Bool.true_and, Bool.and_true, Bool.false_and, Bool.and_false, decide_true, decide_false, Int.reduceEq, Int.reduceLT, Int.reduceLE, Int.reduceNe, Int.reduceAdd, Int.reduceSub, Int.reduceMul, Int.reduceNeg, List.nil_append, List.append_nil, List.cons_append]
  | succ m ih =>
    intro n H x y acc hn hb hz hg hg5 hG hy
    obtain ⟨n, rfl⟩ : ∃ q, n = q + 1 := ⟨n - 1, by omega⟩
    have b1 := below_spec (ρ := ρ) (k := q) (H := H) x 50 (by decide) (by decide) hg
    obtain ⟨H1, hH1⟩ : ∃ H1, H1 = H.put l (.cells v e (0, 0) g [.int .u64 (nx x)]) := ⟨_, rfl⟩
    rw [← hH1] at b1
    have z1 : H1.sz = H.sz := by rw [hH1, szp]
    have g1 : H1.get l = .cells v e (0, 0) g [.int .u64 (nx x)] := by rw [hH1, Heap.get_put_same]
    have g15 : H1.get l5 = .cells 0 42 (0, 0) false (d.row y) := by rw [hH1, Heap.get_put, if_neg (Ne.symm hne), hg5]
    have f1 : Fr (fun t => t = l) H H1 := hH1 ▸ Fr.put _ _ _ fun _ => rfl
    have G1 := hG.frame _ f1 fun t ht q => by have := hy t ht; omega
    obtain ⟨H2, hH2⟩ : ∃ H2, H2 = H1.new (.cells 0 3 (0, 0) false [.int .i64 (bl x 50)]) := ⟨_, rfl⟩
    have z2 : H2.sz = H.sz + 1 := by rw [hH2, szn, z1]
    have f2 : Fr Nop H1 H2 := hH2 ▸ Fr.new _ _ _
    have g2 : H2.get l = .cells v e (0, 0) g [.int .u64 (nx x)] := by rw [f2.get _ (by omega) (fun q => q), g1]
    have g25 : H2.get l5 = .cells 0 42 (0, 0) false (d.row y) := by rw [f2.get _ (by omega) (fun q => q), g15]
    have G2 := G1.frame _ f2 fun t ht q => q
    have el : Els ρ H2 1 (.sl H1.sz 0 0 1 1 false) (prow [bl x 50]) := Els.of_cells (els := prow [bl x 50]) (e := 3) (fr := (0, 0)) (g := false) (by omega) (by rw [hH2, Heap.get_new_same]; rfl) (by intro r hr; simp [prow] at hr; subst hr; rfl)
    obtain ⟨y', f, ea, G3, f3, hy'⟩ := G2.append (by_ := 8) el (by intro r hr; simp [prow] at hr; subst hr; rfl) (by rw [prow_len, prow_len, List.length_singleton]; omega) (by rw [prow_len, prow_len, List.length_singleton]; omega)
    obtain ⟨H3, hH3⟩ : ∃ H3, H3 = f.on H2 := ⟨_, rfl⟩
    rw [← hH3] at G3 f3
    have hy3 : ∀ t, y'.lies t → z0 ≤ t := fun t ht => (hy' t ht).elim (fun q => hy t q) fun q => by omega
    have z3 := f3.sz
    have g3 : H3.get l = .cells v e (0, 0) g [.int .u64 (nx x)] := by rw [f3.get _ (by omega) (fun q => by have := hy _ q; omega), g2]
    have g35 : H3.get l5 = .cells 0 42 (0, 0) false (d.row y) := by rw [f3.get _ (by omega) (fun q => by have := hy _ q; omega), g25]
    obtain ⟨H4, hH4⟩ : ∃ H4, H4 = H3.put l5 (.cells 0 42 (0, 0) false (d.row y')) := ⟨_, rfl⟩
    have z4 : H4.sz = H3.sz := by rw [hH4, szp]
    have f4 : Fr (fun t => t = l5) H3 H4 := hH4 ▸ Fr.put _ _ _ fun _ => rfl
    have g4 : H4.get l = .cells v e (0, 0) g [.int .u64 (nx x)] := by rw [f4.get _ (by omega) hne, g3]
    have g45 : H4.get l5 = .cells 0 42 (0, 0) false (d.row y') := by rw [hH4, Heap.get_put_same]
    have G4 := G3.frame _ f4 fun t ht q => by have := hy3 t ht; omega
    rw [← prow_app] at G4
    have sy := (Grow.scal hG).1
    have ey := (Grow.scal hG).2
    have sy' := (Grow.scal G3).1
    obtain ⟨H', yy, e1, e2, e3, e4, e5, e6⟩ := ih n H4 (nx x) y' (acc ++ [bl x 50]) (by omega) (by simp; omega) (by omega) g4 g45 G4 hy3
    refine ⟨H', yy, ?_, e2, e3, by rw [List.append_assoc] at e4; exact e4, e5, ?_⟩
    · rw [← e1, loopL_succ, hB]
      have w1 : wrapK .i64 (((m + 1 : Nat) : Int) - 1) = (m : Int) := by rw [wrap_i64] <;> omega
      have c1 : (0 : Int) < ((m + 1 : Nat) : Int) := by omega
      have r5 : (d.row y)[7]? = some y := rfl
      have st : stC l5 0 7 [y'] (.cells 0 42 (0, 0) false (d.row y)) = some (.tup [], .put l5 (.cells 0 42 (0, 0) false (d.row y'))) := by rw [stC_one _ _ _ _ _ _ _ sy' (show 7 < 8 by decide)]; rfl
      have mk : mkK H1 (bldS H1 3 1 [.int .i64 0] 1 [(0, 1, .int .i64 (bl x 50))]) true = fun K => K (.sl H1.sz 0 0 1 1 false) H2 := by
        funext K; rw [bldOne, mkK_new _ _ _ _ rfl, ← hH2]
      have ef : ∀ K, effK H2 (some (y', f)) K = K y' H3 := fun K => by rw [effK_eq, hH3]; rfl
      have sc : ∀ o, stA 0 H3 1 (.ptr l5 0 o) y' = stC l5 0 o [y'] (H3.get l5) := fun o => stA_one_ptr H3 l5 0 o y' sy'
      simp only [N35_5b, c1, ld1_ptr, hg5, ldC_cells, r5, b1, g15, agn_some, ey, mk, g25, ea, ef, sc, g35, st, effK_put, ← hH4, w1, Nat.zero_add, purK_some, resK_some, boolK_some, condK_true, condK_false, wantV_tt, wantV_tf, wantV_ft, wantV_ff, wantV_t, wantV_f, wantV_skip, Bool.not_true, Bool.not_false, gPur_true, gPur_false, gEff_true, gEff_false, gRes_true, gRes_false, pickA_true, pickA_false, extA_0, extA_1, extA_2, retK_one, retK_none, retK_two, valK_fn, valR_fn, cond_true, cond_false, bin_add, bin_sub, bin_mul, bin_eql, bin_neq, bin_lss, bin_leq, bin_gtr, bin_geq, bin_seql, bin_sneq, un_not_t, un_not_f, un_not, cvI_int, cvT_str, nilChk_ptr, nilChk_xp, addA_ptr, lenT_str, Bool.true_or, Bool.or_true, Bool.false_or, Bool.or_false, Bool.true_and, Bool.and_true, Bool.false_and, Bool.and_false, decide_true, decide_false, Int.reduceEq, Int.reduceLT, Int.reduceLE, Int.reduceNe, Int.reduceAdd, Int.reduceSub, Int.reduceMul, Int.reduceNeg, List.nil_append, List.append_nil, List.cons_append]
    · refine (((f1.mono fun t _ q => Or.inl q).trans (f2.mono fun t _ q => q.elim)).trans (f3.mono fun t _ q => Or.inr (Or.inr (hy t q)))).trans ((f4.mono fun t _ q => Or.inr (Or.inl q)).trans e6)
end
end Go.Proofs.Ytcjicmabhejllaa

-- part PsH
/- A step that is drawn: the program's. -/
set_option linter.unusedVariables false
set_option linter.unusedSimpArgs false
namespace Go.Proofs.Ytcjicmabhejllaa
attribute [local congr] Go.Ev.cond_congr1
open Go.Ev Go.RowKit
structure PlanD where
  seed : Int
  S : Int
  K : Int
  W : List Int
def PlanD.cells (p : PlanD) : List AV := .int .u64 p.seed :: .int .i64 p.S :: .int .i64 p.K :: wts p.W
structure PlanD.Ok (p : PlanD) : Prop where
  w : Wts p.W
  sum : 0 < p.W.sum
  s1 : 1 ≤ p.S
  s2 : p.S ≤ 8
  k1 : 1 ≤ p.K
  k2 : p.K ≤ 26
def op0 : OpD := ⟨0, .empty, .empty, 0⟩
/-- The step that is drawn, and the state behind it. -/
def stepP (p : PlanD) (x : Int) : StepV × Int :=
  let k := kindGo p.W 0 (bl x p.W.sum)
  let s := bl (nx x) p.S
  let x2 := nx (nx x)
  if k = 1 then (⟨k, s, 0, (opP p.K x2).1, []⟩, (opP p.K x2).2)
  else if k = 2 ∨ k = 3 then (⟨k, s, 0, op0, []⟩, x2)
  else if k = 4 then (⟨k, 0, bl x2 16 + 1, op0, []⟩, nx x2)
  else if k = 5 ∨ k = 6 ∨ k = 7 then (⟨k, 0, bl x2 8, op0, []⟩, nx x2)
  else if k = 9 then (⟨k, 0, 0, op0, (pickGo (bl x2 4).toNat (nx x2)).1⟩, (pickGo (bl x2 4).toNat (nx x2)).2)
  else (⟨k, 0, 0, op0, []⟩, x2)
theorem wts_solid (W : List Int) : (wts W).all AV.solid = true := by
  unfold wts; rw [List.all_eq_true]; intro y hy
  obtain ⟨n, _, rfl⟩ := List.mem_map.1 hy; rfl
theorem PlanD.solid (p : PlanD) : p.cells.all AV.solid = true := by
  unfold PlanD.cells
  simp only [List.all_cons, sol_int, wts_solid, Bool.and_self]
section
variable {ρ : Addr → Option Value} {k : Nat} {H : Heap} {l v e : Nat} {g : Bool}
abbrev Z8 : List AV := [.int .i64 0, .int .i64 0, .int .i64 0, .int .i64 0, .str ByteArray.empty, .str ByteArray.empty, .int .u64 0, .nils]
theorem StepV.row_solid (d : StepV) {y : AV} (h : scal y = true) : (d.row y).all AV.solid = true := by
  simp only [StepV.row, List.all_cons, List.all_nil, sol_int, sol_str, scal_solid h, Bool.and_self]
theorem stFin {H : Heap} {l4 l5 : Nat} {d : StepV} {y : AV} (hy : scal y = true) (g4 : H.get l4 = .cells 0 42 (0, 0) false Z8) (g5 : H.get l5 = .cells 0 42 (0, 0) false (d.row y)) (call : CallF) (yc : YieldF) :
    N35_1 ρ call yc 0 k (.ptr l4 0 0) (.ptr l5 0 0) H (retC (cx ρ) [some 42]) = some (.agg (d.row y), H.put l4 (.cells 0 42 (0, 0) false (d.row y))) := by
  have hl : (d.row y).length = 8 := rfl
  have hs := d.row_solid hy
  generalize d.row y = cs at g5 hl hs
  have e1 : ldN ρ H 8 (.ptr l5 0 0) = some (.agg cs) := by rw [ldN_of 8 0 g5 (by omega), List.drop_zero, List.take_of_length_le (by omega)]
  have e2 := stA_agg 8 0 cs g4 hl (by simp) hs
  have e3 : layA Z8 0 cs = cs := by simp [layA, hl]
  rw [e3] at e2
  have e4 : ldN ρ (H.put l4 (.cells 0 42 (0, 0) false cs)) 8 (.ptr l4 0 0) = some (.agg cs) := by rw [ldN_of 8 0 (Heap.get_put_same ..) (by omega), List.drop_zero, List.take_of_length_le (by omega)]
  simp only [N35_1, e1, e2, effK_put, ldT42, e4, purK_some, resK_some, boolK_some, condK_true, condK_false, wantV_tt, wantV_tf, wantV_ft, wantV_ff, wantV_t, wantV_f, wantV_skip, Bool.not_true, Bool.not_false, gPur_true, gPur_false, gEff_true, gEff_false, gRes_true, gRes_false, pickA_true, pickA_false, extA_0, extA_1, extA_2, retK_one, retK_none, retK_two, valK_fn, valR_fn, cond_true, cond_false, bin_add, bin_sub, bin_mul, bin_eql, bin_neq, bin_lss, bin_leq, bin_gtr, bin_geq, bin_seql, bin_sneq, un_not_t, un_not_f, un_not, cvI_int, cvT_str, nilChk_ptr, nilChk_xp, addA_ptr, lenT_str, Bool.true_or, Bool.or_true, Bool.false_or, Bool.or_false, Bool.true_and, Bool.and_true, Bool.false_and, Bool.and_false, decide_true, decide_false, Int.reduceEq, Int.reduceLT, Int.reduceLE, Int.reduceNe, Int.reduceAdd, Int.reduceSub, Int.reduceMul, Int.reduceNeg, List.nil_append, List.append_nil, List.cons_append, retC_eq, retAll_nil, retAll_none, retAll_some, Option.bind_some]
/-- What a step is: its value, its picks in places of its own. -/
def StepOut (ρ : Addr → Option Value) (H : Heap) (l v e : Nat) (g : Bool) (r : Res) (o : StepV × Int) : Prop :=
  ∃ H' y, r = some (.agg (o.1.row y), H') ∧ H'.get l = .cells v e (0, 0) g [.int .u64 o.2] ∧ Grow H' 3 1 y (prow o.1.picks) ∧ (∀ t, y.lies t → H.sz ≤ t) ∧ Fr (fun t => t = l) H H'
theorem step_spec (p : PlanD) (hp : p.Ok) (x : Int) (hl : l < H.sz) (hg : H.get l = .cells v e (0, 0) g [.int .u64 x]) (k : Nat) :
    StepOut ρ H l v e g (evCall (cx ρ) (k + 60) 0 35 [.ptr l v 0, .agg p.cells] H) (stepP p x) := by
  obtain ⟨kd, hkd⟩ : ∃ kd, kindGo p.W 0 (bl x p.W.sum) = kd := ⟨_, rfl⟩
  obtain ⟨s, hs⟩ : ∃ s, bl (nx x) p.S = s := ⟨_, rfl⟩
  obtain ⟨x2, hx2⟩ : ∃ x2, nx (nx x) = x2 := ⟨_, rfl⟩
  have wl : (wts p.W).length = 10 := by rw [wts_len, hp.w.1]
  obtain ⟨H1, hH1⟩ : ∃ H1, H1 = H.new (.cells 0 46 (0, 0) false p.cells) := ⟨_, rfl⟩
  have z1 : H1.sz = H.sz + 1 := by rw [hH1, szn]
  obtain ⟨H2, hH2⟩ : ∃ H2, H2 = H1.new (.cells 0 42 (0, 0) false Z8) := ⟨_, rfl⟩
  have z2 : H2.sz = H.sz + 2 := by rw [hH2, szn, z1]
  have f2 : Fr Nop H H2 := (hH1 ▸ Fr.new Nop H _ : Fr Nop H H1).trans (hH2 ▸ Fr.new Nop H1 _)
  have g2 : H2.get l = .cells v e (0, 0) g [.int .u64 x] := by rw [f2.get _ hl (fun q => q), hg]
  have g23 : H2.get H.sz = .cells 0 46 (0, 0) false p.cells := by rw [hH2, Heap.get_new, if_neg (by omega), hH1, Heap.get_new_same]
  have g24 : H2.get (H.sz + 1) = .cells 0 42 (0, 0) false Z8 := by rw [hH2, ← z1, Heap.get_new_same]
  have ek := kind_spec (ρ := ρ) (k := k + 47) hp.w hp.sum x (by omega) g2
  obtain ⟨H3, hH3⟩ : ∃ H3, H3 = (H2.new (.cells 0 44 (0, 0) false (wts p.W))).put l (.cells v e (0, 0) g [.int .u64 (nx x)]) := ⟨_, rfl⟩
  rw [← hH3, hkd] at ek
  have z3 : H3.sz = H.sz + 3 := by rw [hH3, szp, szn, z2]
  have f3 : Fr (fun t => t = l) H2 H3 := hH3 ▸ (Fr.new _ _ _).trans (Fr.put _ _ _ fun _ => rfl)
  have g3 : H3.get l = .cells v e (0, 0) g [.int .u64 (nx x)] := by rw [hH3, Heap.get_put_same]
  have r0 : ∀ n m a : Int, ∀ y, [AV.int .i64 kd, .int .i64 n, .int .i64 m, .int .i64 0, .str ByteArray.empty, .str ByteArray.empty, .int .u64 0, y] = StepV.row ⟨kd, n, m, op0, []⟩ y := fun _ _ _ _ => rfl
  obtain ⟨H4, hH4⟩ : ∃ H4, H4 = (H3.new (.cells 0 42 (0, 0) false Z8)).put (H.sz + 3) (.cells 0 42 (0, 0) false [.int .i64 kd, .int .i64 0, .int .i64 0, .int .i64 0, .str ByteArray.empty, .str ByteArray.empty, .int .u64 0, .nils]) := ⟨_, rfl⟩
  have z4 : H4.sz = H.sz + 4 := by rw [hH4, szp, szn, z3]
  have f4 : Fr (fun t => t = H.sz + 3) H3 H4 := hH4 ▸ (Fr.new _ _ _).trans (Fr.put _ _ _ fun _ => rfl)
  have g4 : H4.get l = .cells v e (0, 0) g [.int .u64 (nx x)] := by rw [f4.get _ (by omega) (by omega), g3]
  have g45 : H4.get (H.sz + 3) = .cells 0 42 (0, 0) false [.int .i64 kd, .int .i64 0, .int .i64 0, .int .i64 0, .str ByteArray.empty, .str ByteArray.empty, .int .u64 0, .nils] := by rw [hH4, Heap.get_put_same]
  have g43 : H4.get H.sz = .cells 0 46 (0, 0) false p.cells := by rw [f4.get _ (by omega) (by omega), f3.get _ (by omega) (by omega), g23]
  have es := below_spec (ρ := ρ) (k := k + 57) (H := H4) (nx x) p.S (by have := hp.s1; omega) (by have := hp.s2; omega) g4
  obtain ⟨H5, hH5⟩ : ∃ H5, H5 = H4.put l (.cells v e (0, 0) g [.int .u64 x2]) := ⟨_, rfl⟩
  rw [hx2, hs, ← hH5] at es
  have z5 : H5.sz = H.sz + 4 := by rw [hH5, szp, z4]
  have f5 : Fr (fun t => t = l) H4 H5 := hH5 ▸ Fr.put _ _ _ fun _ => rfl
  have g5 : H5.get l = .cells v e (0, 0) g [.int .u64 x2] := by rw [hH5, Heap.get_put_same]
  have g55 : H5.get (H.sz + 3) = .cells 0 42 (0, 0) false [.int .i64 kd, .int .i64 0, .int .i64 0, .int .i64 0, .str ByteArray.empty, .str ByteArray.empty, .int .u64 0, .nils] := by rw [f5.get _ (by omega) (by omega), g45]
  have f25 : Fr (fun t => t = l ∨ t = H.sz + 3) H2 H5 := ((f3.mono fun t _ q => Or.inl q).trans (f4.mono fun t _ q => Or.inr q)).trans (f5.mono fun t _ q => Or.inl q)
  have g53 : H5.get H.sz = .cells 0 46 (0, 0) false p.cells := by rw [f25.get _ (by omega) (by omega), g23]
  have g54 : H5.get (H.sz + 1) = .cells 0 42 (0, 0) false Z8 := by rw [f25.get _ (by omega) (by omega), g24]
  have f05 : Fr (fun t => t = l) H H5 := (f2.mono fun t _ q => q.elim : Fr (fun t => t = l) H H2).trans' f25 fun t ht q => by rcases q with q | q <;> omega
  have ldw : ldCN 10 0 3 (.cells 0 46 (0, 0) false p.cells) = some (.agg (wts p.W)) := by
    rw [ldCN_cells _ _ _ _ _ _ _ (by simp [PlanD.cells, wl])]
    show some (AV.agg ((wts p.W).take 10)) = _
    rw [List.take_of_length_le (by omega)]
  have ldS : ldC 0 1 (.cells 0 46 (0, 0) false p.cells) = some (.int .i64 p.S) := by rw [ldC_cells]; rfl
  have ldK : ldC 0 2 (.cells 0 46 (0, 0) false p.cells) = some (.int .i64 p.K) := by rw [ldC_cells]; rfl
  have bx := boxA_agg H 46 _ p.solid
  have hst : stepP p x = (if kd = 1 then (⟨kd, s, 0, (opP p.K x2).1, []⟩, (opP p.K x2).2)
    else if kd = 2 ∨ kd = 3 then (⟨kd, s, 0, op0, []⟩, x2)
    else if kd = 4 then (⟨kd, 0, bl x2 16 + 1, op0, []⟩, nx x2)
    else if kd = 5 ∨ kd = 6 ∨ kd = 7 then (⟨kd, 0, bl x2 8, op0, []⟩, nx x2)
    else if kd = 9 then (⟨kd, 0, 0, op0, (pickGo (bl x2 4).toNat (nx x2)).1⟩, (pickGo (bl x2 4).toNat (nx x2)).2)
    else (⟨kd, 0, 0, op0, []⟩, x2)) := by unfold stepP; simp only [hkd, hs, hx2]
  rw [hst, E35]
  have hz8 : H.sz + 3 < H5.sz := by omega
  have hnl : l ≠ H.sz + 3 := by omega
  have hnl4 : l ≠ H.sz + 1 := by omega
  -- a step that ends with such a row
  have ends : ∀ (H6 : Heap) (d : StepV) (y : AV) (x' : Int) (call : CallF) (yc : YieldF), Go.Ev.scal y = true → H6.get l = .cells v e (0, 0) g [.int .u64 x'] → H6.get (H.sz + 1) = .cells 0 42 (0, 0) false Z8 → H6.get (H.sz + 3) = .cells 0 42 (0, 0) false (d.row y) → Grow H6 3 1 y (prow d.picks) → (∀ t, y.lies t → H.sz + 4 ≤ t) → Fr (fun t => t = l ∨ t = H.sz + 3 ∨ H.sz + 4 ≤ t) H5 H6 →
      StepOut ρ H l v e g (N35_1 ρ call yc 0 (k + 59) (.ptr (H.sz + 1) 0 0) (.ptr (H.sz + 3) 0 0) H6 (retC (cx ρ) [some 42])) (d, x') := by
    intro H6 d y x' call yc hy h1 h2 h3 h4 h5 h6
    have a1 : Fr (fun t => t = H.sz + 1) H6 (H6.put (H.sz + 1) (.cells 0 42 (0, 0) false (d.row y))) := Fr.put _ _ _ fun _ => rfl
    refine ⟨_, y, stFin hy h2 h3 call yc, ?_, h4.frame _ a1 (fun t ht q => by have := h5 t ht; omega), fun t ht => by have := h5 t ht; omega, ?_⟩
    · rw [Heap.get_put, if_neg hnl4, h1]
    · exact (f05.trans' h6 fun t ht q => by rcases q with q | q | q <;> omega).trans' a1 fun t ht q => by omega
  have base := fun (H6 : Heap) (h : Fr (fun t => t = l ∨ t = H.sz + 3 ∨ H.sz + 4 ≤ t) H5 H6) => (show H6.get (H.sz + 1) = .cells 0 42 (0, 0) false Z8 by rw [h.get _ (by omega) (by omega), g54])
  by_cases c1 : kd = 1
  · rw [if_pos c1]
    obtain ⟨o, ho⟩ : ∃ o, opP p.K x2 = o := ⟨_, rfl⟩
    obtain ⟨H6, hH6⟩ : ∃ H6, H6 = H5.put (H.sz + 3) (.cells 0 42 (0, 0) false [.int .i64 kd, .int .i64 s, .int .i64 0, .int .i64 0, .str ByteArray.empty, .str ByteArray.empty, .int .u64 0, .nils]) := ⟨_, rfl⟩
    have z6 : H6.sz = H.sz + 4 := by rw [hH6, szp, z5]
    have f6 : Fr (fun t => t = H.sz + 3) H5 H6 := hH6 ▸ Fr.put _ _ _ fun _ => rfl
    have g6 : H6.get l = .cells v e (0, 0) g [.int .u64 x2] := by rw [f6.get _ (by omega) hnl, g5]
    have g65 : H6.get (H.sz + 3) = .cells 0 42 (0, 0) false [.int .i64 kd, .int .i64 s, .int .i64 0, .int .i64 0, .str ByteArray.empty, .str ByteArray.empty, .int .u64 0, .nils] := by rw [hH6, Heap.get_put_same]
    have g63 : H6.get H.sz = .cells 0 46 (0, 0) false p.cells := by rw [f6.get _ (by omega) (by omega), g53]
    obtain ⟨H7, e7, g7, f7⟩ := op_spec (ρ := ρ) (H := H6) p.K x2 hp.k1 hp.k2 (by omega) g6 (k + 19)
    rw [ho] at e7 g7 ⊢
    have z7 := f7.sz
    have g75 : H7.get (H.sz + 3) = .cells 0 42 (0, 0) false [.int .i64 kd, .int .i64 s, .int .i64 0, .int .i64 0, .str ByteArray.empty, .str ByteArray.empty, .int .u64 0, .nils] := by rw [f7.get _ (by omega) (by omega), g65]
    obtain ⟨H8, hH8⟩ : ∃ H8, H8 = H7.put (H.sz + 3) (.cells 0 42 (0, 0) false (StepV.row ⟨kd, s, 0, o.1, []⟩ .nils)) := ⟨_, rfl⟩
    have f8 : Fr (fun t => t = H.sz + 3) H7 H8 := hH8 ▸ Fr.put _ _ _ fun _ => rfl
    have st : stA 0 H7 4 (.ptr (H.sz + 3) 0 3) (.agg o.1.cells) = some (.tup [], .put (H.sz + 3) (.cells 0 42 (0, 0) false (StepV.row ⟨kd, s, 0, o.1, []⟩ .nils))) := by
      rw [stA_agg 4 3 _ g75 rfl (show 3 + 4 ≤ 8 by decide) rfl]; rfl
    have f58 : Fr (fun t => t = l ∨ t = H.sz + 3 ∨ H.sz + 4 ≤ t) H5 H8 := ((f6.mono fun t _ q => Or.inr (Or.inl q)).trans (f7.mono fun t _ q => Or.inl q)).trans (f8.mono fun t _ q => Or.inr (Or.inl q))
    have c1' := eq_true c1
    have en := ends H8 ⟨kd, s, 0, o.1, []⟩ .nils o.2 (evCall (cx ρ) (k + 59)) (evCY (cx ρ) (k + 59)).2 rfl (by rw [f8.get _ (by omega) hnl, g7]) (base _ f58) (by rw [hH8, Heap.get_put_same]) (Grow.nils ..) (fun t q => q.elim) f58
    refine Eq.mp (congrArg (fun r => StepOut ρ H l v e g r (⟨kd, s, 0, o.1, []⟩, o.2)) ?_) en
    symm
    simp (disch := first | ((try simp only [szn, szp, List.length_cons, List.length_nil, List.length_set, List.all_cons, List.all_nil, Bool.and_true, scal_int, sol_int, scal_bool, sol_bool, scal_str, sol_str, scal_nilp, sol_nilp, scal_ptr, sol_ptr, scal_nils, sol_nils, scal_sl, sol_sl, scal_sx, sol_sx, scal_xp, sol_xp, scal_xs, sol_xs, scal_nilm, sol_nilm, scal_mp, sol_mp, scal_nilf, sol_nilf, scal_fn, sol_fn, scal_nili, sol_nili, scal_ifc, sol_ifc]) <;> omega) | with_unfolding_all rfl) only [L35, bx, ← hH1, ← hH2, z1, g23, ldw, ek, z3, ← hH4, g43, ldS, es, g55, c1', ← hH6, g63, ldK, e7, st, ← hH8, purK_some, resK_some, boolK_some, condK_true, condK_false, wantV_tt, wantV_tf, wantV_ft, wantV_ff, wantV_t, wantV_f, wantV_skip, Bool.not_true, Bool.not_false, gPur_true, gPur_false, gEff_true, gEff_false, gRes_true, gRes_false, pickA_true, pickA_false, extA_0, extA_1, extA_2, retK_one, retK_none, retK_two, valK_fn, valR_fn, cond_true, cond_false, bin_add, bin_sub, bin_mul, bin_eql, bin_neq, bin_lss, bin_leq, bin_gtr, bin_geq, bin_seql, bin_sneq, un_not_t, un_not_f, un_not, cvI_int, cvT_str, nilChk_ptr, nilChk_xp, addA_ptr, lenT_str, Bool.true_or, Bool.or_true, Bool.false_or, Bool.or_false, Bool.true_and, Bool.and_true, Bool.false_and, Bool.and_false, decide_true, decide_false, Int.reduceEq, Int.reduceLT, Int.reduceLE, Int.reduceNe, Int.reduceAdd, Int.reduceSub, Int.reduceMul, Int.reduceNeg, List.nil_append, List.append_nil, List.cons_append, effK_new, effK_put, effK_nothing, on_new, on_put, on_nothing, ld1_ptr, ldN_ptr, stA_one_ptr, stA_agg_ptr, ldC_cells, ldCN_cells, stC_one, stC_many, lay_all, lay_one, newCells_eq, get_new_at, get_put_at, Heap.get_new_ne, Heap.get_put_ne, szn, szp, box1, boxA_agg, List.getElem?_cons_zero, List.getElem?_cons_succ, List.drop_zero, List.drop_succ_cons, List.take_zero, List.take_succ_cons, List.set_cons_zero, List.set_cons_succ, Nat.zero_add, Nat.add_zero, Nat.reduceAdd, bldA_eq, fillO_nil, fillO_one, fillO_agg, Option.map_some, Option.bind_some, repeatL]
  rw [if_neg c1]
  have c1' := eq_false c1
  by_cases c23 : kd = 2 ∨ kd = 3
  · rw [if_pos c23]
    obtain ⟨H6, hH6⟩ : ∃ H6, H6 = H5.put (H.sz + 3) (.cells 0 42 (0, 0) false [.int .i64 kd, .int .i64 s, .int .i64 0, .int .i64 0, .str ByteArray.empty, .str ByteArray.empty, .int .u64 0, .nils]) := ⟨_, rfl⟩
    have f6 : Fr (fun t => t = H.sz + 3) H5 H6 := hH6 ▸ Fr.put _ _ _ fun _ => rfl
    have f56 : Fr (fun t => t = l ∨ t = H.sz + 3 ∨ H.sz + 4 ≤ t) H5 H6 := f6.mono fun t _ q => Or.inr (Or.inl q)
    have en := ends H6 ⟨kd, s, 0, op0, []⟩ .nils x2 (evCall (cx ρ) (k + 59)) (evCY (cx ρ) (k + 59)).2 rfl (by rw [f6.get _ (by omega) hnl, g5]) (base _ f56) (by rw [hH6, Heap.get_put_same]; rfl) (Grow.nils ..) (fun t q => q.elim) f56
    refine Eq.mp (congrArg (fun r => StepOut ρ H l v e g r (⟨kd, s, 0, op0, []⟩, x2)) ?_) en
    symm
    rcases c23 with c2 | c2
    · have c2' := eq_true c2
      simp (disch := first | ((try simp only [szn, szp, List.length_cons, List.length_nil, List.length_set, List.all_cons, List.all_nil, Bool.and_true, scal_int, sol_int, scal_bool, sol_bool, scal_str, sol_str, scal_nilp, sol_nilp, scal_ptr, sol_ptr, scal_nils, sol_nils, scal_sl, sol_sl, scal_sx, sol_sx, scal_xp, sol_xp, scal_xs, sol_xs, scal_nilm, sol_nilm, scal_mp, sol_mp, scal_nilf, sol_nilf, scal_fn, sol_fn, scal_nili, sol_nili, scal_ifc, sol_ifc]) <;> omega) | with_unfolding_all rfl) only [L35, N35_2, bx, ← hH1, ← hH2, z1, g23, ldw, ek, z3, ← hH4, g43, ldS, es, g55, c1', c2', ← hH6, purK_some, resK_some, boolK_some, condK_true, condK_false, wantV_tt, wantV_tf, wantV_ft, wantV_ff, wantV_t, wantV_f, wantV_skip, Bool.not_true, Bool.not_false, gPur_true, gPur_false, gEff_true, gEff_false, gRes_true, gRes_false, pickA_true, pickA_false, extA_0, extA_1, extA_2, retK_one, retK_none, retK_two, valK_fn, valR_fn, cond_true, cond_false, bin_add, bin_sub, bin_mul, bin_eql, bin_neq, bin_lss, bin_leq, bin_gtr, bin_geq, bin_seql, bin_sneq, un_not_t, un_not_f, un_not, cvI_int, cvT_str, nilChk_ptr, nilChk_xp, addA_ptr, lenT_str, Bool.true_or, Bool.or_true, Bool.false_or, Bool.or_false, Bool.true_and, Bool.and_true, Bool.false_and, Bool.and_false, decide_true, decide_false, Int.reduceEq, Int.reduceLT, Int.reduceLE, Int.reduceNe, Int.reduceAdd, Int.reduceSub, Int.reduceMul, Int.reduceNeg, List.nil_append, List.append_nil, List.cons_append, effK_new, effK_put, effK_nothing, on_new, on_put, on_nothing, ld1_ptr, ldN_ptr, stA_one_ptr, stA_agg_ptr, ldC_cells, ldCN_cells, stC_one, stC_many, lay_all, lay_one, newCells_eq, get_new_at, get_put_at, Heap.get_new_ne, Heap.get_put_ne, szn, szp, box1, boxA_agg, List.getElem?_cons_zero, List.getElem?_cons_succ, List.drop_zero, List.drop_succ_cons, List.take_zero, List.take_succ_cons, List.set_cons_zero, List.set_cons_succ, Nat.zero_add, Nat.add_zero, Nat.reduceAdd, bldA_eq, fillO_nil, fillO_one, fillO_agg, Option.map_some, Option.bind_some, repeatL]
    · have c2' := eq_true c2
      have c3' := eq_false (show ¬ kd = 2 by omega)
      simp (disch := first | ((try simp only [szn, szp, List.length_cons, List.length_nil, List.length_set, List.all_cons, List.all_nil, Bool.and_true, scal_int, sol_int, scal_bool, sol_bool, scal_str, sol_str, scal_nilp, sol_nilp, scal_ptr, sol_ptr, scal_nils, sol_nils, scal_sl, sol_sl, scal_sx, sol_sx, scal_xp, sol_xp, scal_xs, sol_xs, scal_nilm, sol_nilm, scal_mp, sol_mp, scal_nilf, sol_nilf, scal_fn, sol_fn, scal_nili, sol_nili, scal_ifc, sol_ifc]) <;> omega) | with_unfolding_all rfl) only [L35, N35_2, bx, ← hH1, ← hH2, z1, g23, ldw, ek, z3, ← hH4, g43, ldS, es, g55, c1', c3', c2', ← hH6, purK_some, resK_some, boolK_some, condK_true, condK_false, wantV_tt, wantV_tf, wantV_ft, wantV_ff, wantV_t, wantV_f, wantV_skip, Bool.not_true, Bool.not_false, gPur_true, gPur_false, gEff_true, gEff_false, gRes_true, gRes_false, pickA_true, pickA_false, extA_0, extA_1, extA_2, retK_one, retK_none, retK_two, valK_fn, valR_fn, cond_true, cond_false, bin_add, bin_sub, bin_mul, bin_eql, bin_neq, bin_lss, bin_leq, bin_gtr, bin_geq, bin_seql, bin_sneq, un_not_t, un_not_f, un_not, cvI_int, cvT_str, nilChk_ptr, nilChk_xp, addA_ptr, lenT_str, Bool.true_or, Bool.or_true, Bool.false_or, Bool.or_false, Bool.true_and, Bool.and_true, Bool.false_and, Bool.and_false, decide_true, decide_false, Int.reduceEq, Int.reduceLT, Int.reduceLE, Int.reduceNe, Int.reduceAdd, Int.reduceSub, Int.reduceMul, Int.reduceNeg, List.nil_append, List.append_nil, List.cons_append, effK_new, effK_put, effK_nothing, on_new, on_put, on_nothing, ld1_ptr, ldN_ptr, stA_one_ptr, stA_agg_ptr, ldC_cells, ldCN_cells, stC_one, stC_many, lay_all, lay_one, newCells_eq, get_new_at, get_put_at, Heap.get_new_ne, Heap.get_put_ne, szn, szp, box1, boxA_agg, List.getElem?_cons_zero, List.getElem?_cons_succ, List.drop_zero, List.drop_succ_cons, List.take_zero, List.take_succ_cons, List.set_cons_zero, List.set_cons_succ, Nat.zero_add, Nat.add_zero, Nat.reduceAdd, bldA_eq, fillO_nil, fillO_one, fillO_agg, Option.map_some, Option.bind_some, repeatL]
  rw [if_neg c23]
  have c2' := eq_false (show ¬ kd = 2 by omega)
  have c3' := eq_false (show ¬ kd = 3 by omega)
  by_cases c4 : kd = 4
  · rw [if_pos c4]
    have r4 := bl_range x2 16 (by decide)
    have eb := below_spec (ρ := ρ) (k := k + 57) (H := H5) x2 16 (by decide) (by decide) g5
    obtain ⟨H6, hH6⟩ : ∃ H6, H6 = H5.put l (.cells v e (0, 0) g [.int .u64 (nx x2)]) := ⟨_, rfl⟩
    rw [← hH6] at eb
    have z6 : H6.sz = H.sz + 4 := by rw [hH6, szp, z5]
    have f6 : Fr (fun t => t = l) H5 H6 := hH6 ▸ Fr.put _ _ _ fun _ => rfl
    have g6 : H6.get l = .cells v e (0, 0) g [.int .u64 (nx x2)] := by rw [hH6, Heap.get_put_same]
    have g65 : H6.get (H.sz + 3) = .cells 0 42 (0, 0) false [.int .i64 kd, .int .i64 0, .int .i64 0, .int .i64 0, .str ByteArray.empty, .str ByteArray.empty, .int .u64 0, .nils] := by rw [f6.get _ hz8 (by omega), g55]
    have u1 : wrapK .i64 (bl x2 16 + 1) = bl x2 16 + 1 := wrap_i64 _ (by omega)
    obtain ⟨H7, hH7⟩ : ∃ H7, H7 = H6.put (H.sz + 3) (.cells 0 42 (0, 0) false [.int .i64 kd, .int .i64 0, .int .i64 (bl x2 16 + 1), .int .i64 0, .str ByteArray.empty, .str ByteArray.empty, .int .u64 0, .nils]) := ⟨_, rfl⟩
    have f7 : Fr (fun t => t = H.sz + 3) H6 H7 := hH7 ▸ Fr.put _ _ _ fun _ => rfl
    have f57 : Fr (fun t => t = l ∨ t = H.sz + 3 ∨ H.sz + 4 ≤ t) H5 H7 := (f6.mono fun t _ q => Or.inl q).trans (f7.mono fun t _ q => Or.inr (Or.inl q))
    have en := ends H7 ⟨kd, 0, bl x2 16 + 1, op0, []⟩ .nils (nx x2) (evCall (cx ρ) (k + 59)) (evCY (cx ρ) (k + 59)).2 rfl (by rw [f7.get _ (by omega) hnl, g6]) (base _ f57) (by rw [hH7, Heap.get_put_same]; rfl) (Grow.nils ..) (fun t q => q.elim) f57
    refine Eq.mp (congrArg (fun r => StepOut ρ H l v e g r (⟨kd, 0, bl x2 16 + 1, op0, []⟩, nx x2)) ?_) en
    symm
    have c4' := eq_true c4
    simp (disch := first | ((try simp only [szn, szp, List.length_cons, List.length_nil, List.length_set, List.all_cons, List.all_nil, Bool.and_true, scal_int, sol_int, scal_bool, sol_bool, scal_str, sol_str, scal_nilp, sol_nilp, scal_ptr, sol_ptr, scal_nils, sol_nils, scal_sl, sol_sl, scal_sx, sol_sx, scal_xp, sol_xp, scal_xs, sol_xs, scal_nilm, sol_nilm, scal_mp, sol_mp, scal_nilf, sol_nilf, scal_fn, sol_fn, scal_nili, sol_nili, scal_ifc, sol_ifc]) <;> omega) | with_unfolding_all rfl) only [L35, N35_2, bx, ← hH1, ← hH2, z1, g23, ldw, ek, z3, ← hH4, g43, ldS, es, g55, c1', c2', c3', c4', eb, u1, g65, ← hH7, purK_some, resK_some, boolK_some, condK_true, condK_false, wantV_tt, wantV_tf, wantV_ft, wantV_ff, wantV_t, wantV_f, wantV_skip, Bool.not_true, Bool.not_false, gPur_true, gPur_false, gEff_true, gEff_false, gRes_true, gRes_false, pickA_true, pickA_false, extA_0, extA_1, extA_2, retK_one, retK_none, retK_two, valK_fn, valR_fn, cond_true, cond_false, bin_add, bin_sub, bin_mul, bin_eql, bin_neq, bin_lss, bin_leq, bin_gtr, bin_geq, bin_seql, bin_sneq, un_not_t, un_not_f, un_not, cvI_int, cvT_str, nilChk_ptr, nilChk_xp, addA_ptr, lenT_str, Bool.true_or, Bool.or_true, Bool.false_or, Bool.or_false, Bool.true_and, Bool.and_true, Bool.false_and, Bool.and_false, decide_true, decide_false, Int.reduceEq, Int.reduceLT, Int.reduceLE, Int.reduceNe, Int.reduceAdd, Int.reduceSub, Int.reduceMul, Int.reduceNeg, List.nil_append, List.append_nil, List.cons_append, effK_new, effK_put, effK_nothing, on_new, on_put, on_nothing, ld1_ptr, ldN_ptr, stA_one_ptr, stA_agg_ptr, ldC_cells, ldCN_cells, stC_one, stC_many, lay_all, lay_one, newCells_eq, get_new_at, get_put_at, Heap.get_new_ne, Heap.get_put_ne, szn, szp, box1, boxA_agg, List.getElem?_cons_zero, List.getElem?_cons_succ, List.drop_zero, List.drop_succ_cons, List.take_zero, List.take_succ_cons, List.set_cons_zero, List.set_cons_succ, Nat.zero_add, Nat.add_zero, Nat.reduceAdd, bldA_eq, fillO_nil, fillO_one, fillO_agg, Option.map_some, Option.bind_some, repeatL]
  rw [if_neg c4]
  have c4' := eq_false c4
  by_cases c57 : kd = 5 ∨ kd = 6 ∨ kd = 7
  · rw [if_pos c57]
    have eb := below_spec (ρ := ρ) (k := k + 57) (H := H5) x2 8 (by decide) (by decide) g5
    obtain ⟨H6, hH6⟩ : ∃ H6, H6 = H5.put l (.cells v e (0, 0) g [.int .u64 (nx x2)]) := ⟨_, rfl⟩
    rw [← hH6] at eb
    have z6 : H6.sz = H.sz + 4 := by rw [hH6, szp, z5]
    have f6 : Fr (fun t => t = l) H5 H6 := hH6 ▸ Fr.put _ _ _ fun _ => rfl
    have g6 : H6.get l = .cells v e (0, 0) g [.int .u64 (nx x2)] := by rw [hH6, Heap.get_put_same]
    have g65 : H6.get (H.sz + 3) = .cells 0 42 (0, 0) false [.int .i64 kd, .int .i64 0, .int .i64 0, .int .i64 0, .str ByteArray.empty, .str ByteArray.empty, .int .u64 0, .nils] := by rw [f6.get _ hz8 (by omega), g55]
    obtain ⟨H7, hH7⟩ : ∃ H7, H7 = H6.put (H.sz + 3) (.cells 0 42 (0, 0) false [.int .i64 kd, .int .i64 0, .int .i64 (bl x2 8), .int .i64 0, .str ByteArray.empty, .str ByteArray.empty, .int .u64 0, .nils]) := ⟨_, rfl⟩
    have f7 : Fr (fun t => t = H.sz + 3) H6 H7 := hH7 ▸ Fr.put _ _ _ fun _ => rfl
    have f57 : Fr (fun t => t = l ∨ t = H.sz + 3 ∨ H.sz + 4 ≤ t) H5 H7 := (f6.mono fun t _ q => Or.inl q).trans (f7.mono fun t _ q => Or.inr (Or.inl q))
    have en := ends H7 ⟨kd, 0, bl x2 8, op0, []⟩ .nils (nx x2) (evCall (cx ρ) (k + 59)) (evCY (cx ρ) (k + 59)).2 rfl (by rw [f7.get _ (by omega) hnl, g6]) (base _ f57) (by rw [hH7, Heap.get_put_same]; rfl) (Grow.nils ..) (fun t q => q.elim) f57
    refine Eq.mp (congrArg (fun r => StepOut ρ H l v e g r (⟨kd, 0, bl x2 8, op0, []⟩, nx x2)) ?_) en
    symm
    have c5 : kd = 5 ∨ ¬ kd = 5 := Classical.em _
    have c6 : kd = 6 ∨ ¬ kd = 6 := Classical.em _
    rcases c5 with c5 | c5
    · have c5' := eq_true c5
      simp (disch := first | ((try simp only [szn, szp, List.length_cons, List.length_nil, List.length_set, List.all_cons, List.all_nil, Bool.and_true, scal_int, sol_int, scal_bool, sol_bool, scal_str, sol_str, scal_nilp, sol_nilp, scal_ptr, sol_ptr, scal_nils, sol_nils, scal_sl, sol_sl, scal_sx, sol_sx, scal_xp, sol_xp, scal_xs, sol_xs, scal_nilm, sol_nilm, scal_mp, sol_mp, scal_nilf, sol_nilf, scal_fn, sol_fn, scal_nili, sol_nili, scal_ifc, sol_ifc]) <;> omega) | with_unfolding_all rfl) only [L35, N35_2, N35_3, N35_6, bx, ← hH1, ← hH2, z1, g23, ldw, ek, z3, ← hH4, g43, ldS, es, g55, c1', c2', c3', c4', c5', eb, g65, ← hH7, purK_some, resK_some, boolK_some, condK_true, condK_false, wantV_tt, wantV_tf, wantV_ft, wantV_ff, wantV_t, wantV_f, wantV_skip, Bool.not_true, Bool.not_false, gPur_true, gPur_false, gEff_true, gEff_false, gRes_true, gRes_false, pickA_true, pickA_false, extA_0, extA_1, extA_2, retK_one, retK_none, retK_two, valK_fn, valR_fn, cond_true, cond_false, bin_add, bin_sub, bin_mul, bin_eql, bin_neq, bin_lss, bin_leq, bin_gtr, bin_geq, bin_seql, bin_sneq, un_not_t, un_not_f, un_not, cvI_int, cvT_str, nilChk_ptr, nilChk_xp, addA_ptr, lenT_str, Bool.true_or, Bool.or_true, Bool.false_or, Bool.or_false, Bool.true_and, Bool.and_true, Bool.false_and, Bool.and_false, decide_true, decide_false, Int.reduceEq, Int.reduceLT, Int.reduceLE, Int.reduceNe, Int.reduceAdd, Int.reduceSub, Int.reduceMul, Int.reduceNeg, List.nil_append, List.append_nil, List.cons_append, effK_new, effK_put, effK_nothing, on_new, on_put, on_nothing, ld1_ptr, ldN_ptr, stA_one_ptr, stA_agg_ptr, ldC_cells, ldCN_cells, stC_one, stC_many, lay_all, lay_one, newCells_eq, get_new_at, get_put_at, Heap.get_new_ne, Heap.get_put_ne, szn, szp, box1, boxA_agg, List.getElem?_cons_zero, List.getElem?_cons_succ, List.drop_zero, List.drop_succ_cons, List.take_zero, List.take_succ_cons, List.set_cons_zero, List.set_cons_succ, Nat.zero_add, Nat.add_zero, Nat.reduceAdd, bldA_eq, fillO_nil, fillO_one, fillO_agg, Option.map_some, Option.bind_some, repeatL]
    have c5' := eq_false c5
    rcases c6 with c6 | c6
    · have c6' := eq_true c6
      simp (disch := first | ((try simp only [szn, szp, List.length_cons, List.length_nil, List.length_set, List.all_cons, List.all_nil, Bool.and_true, scal_int, sol_int, scal_bool, sol_bool, scal_str, sol_str, scal_nilp, sol_nilp, scal_ptr, sol_ptr, scal_nils, sol_nils, scal_sl, sol_sl, scal_sx, sol_sx, scal_xp, sol_xp, scal_xs, sol_xs, scal_nilm, sol_nilm, scal_mp, sol_mp, scal_nilf, sol_nilf, scal_fn, sol_fn, scal_nili, sol_nili, scal_ifc, sol_ifc]) <;> omega) | with_unfolding_all rfl) only [L35, N35_2, N35_3, N35_6, bx, ← hH1, ← hH2, z1, g23, ldw, ek, z3, ← hH4, g43, ldS, es, g55, c1', c2', c3', c4', c5', c6', eb, g65, ← hH7, purK_some, resK_some, boolK_some, condK_true, condK_false, wantV_tt, wantV_tf, wantV_ft, wantV_ff, wantV_t, wantV_f, wantV_skip, Bool.not_true, Bool.not_false, gPur_true, gPur_false, gEff_true, gEff_false, gRes_true, gRes_false, pickA_true, pickA_false, extA_0, extA_1, extA_2, retK_one, retK_none, retK_two, valK_fn, valR_fn, cond_true, cond_false, bin_add, bin_sub, bin_mul, bin_eql, bin_neq, bin_lss, bin_leq, bin_gtr, bin_geq, bin_seql, bin_sneq, un_not_t, un_not_f, un_not, cvI_int, cvT_str, nilChk_ptr, nilChk_xp, addA_ptr, lenT_str, Bool.true_or, Bool.or_true, Bool.false_or, Bool.or_false, Bool.true_and, Bool.and_true, Bool.false_and, Bool.and_false, decide_true, decide_false, Int.reduceEq, Int.reduceLT, Int.reduceLE, Int.reduceNe, Int.reduceAdd, Int.reduceSub, Int.reduceMul, Int.reduceNeg, List.nil_append, List.append_nil, List.cons_append, effK_new, effK_put, effK_nothing, on_new, on_put, on_nothing, ld1_ptr, ldN_ptr, stA_one_ptr, stA_agg_ptr, ldC_cells, ldCN_cells, stC_one, stC_many, lay_all, lay_one, newCells_eq, get_new_at, get_put_at, Heap.get_new_ne, Heap.get_put_ne, szn, szp, box1, boxA_agg, List.getElem?_cons_zero, List.getElem?_cons_succ, List.drop_zero, List.drop_succ_cons, List.take_zero, List.take_succ_cons, List.set_cons_zero, List.set_cons_succ, Nat.zero_add, Nat.add_zero, Nat.reduceAdd, bldA_eq, fillO_nil, fillO_one, fillO_agg, Option.map_some, Option.bind_some, repeatL]
    · have c6' := eq_false c6
      have c7' := eq_true (show kd = 7 by omega)
      simp (disch := first | ((try simp only [szn, szp, List.length_cons, List.length_nil, List.length_set, List.all_cons, List.all_nil, Bool.and_true, scal_int, sol_int, scal_bool, sol_bool, scal_str, sol_str, scal_nilp, sol_nilp, scal_ptr, sol_ptr, scal_nils, sol_nils, scal_sl, sol_sl, scal_sx, sol_sx, scal_xp, sol_xp, scal_xs, sol_xs, scal_nilm, sol_nilm, scal_mp, sol_mp, scal_nilf, sol_nilf, scal_fn, sol_fn, scal_nili, sol_nili, scal_ifc, sol_ifc]) <;> omega) | with_unfolding_all rfl) only [L35, N35_2, N35_3, N35_6, bx, ← hH1, ← hH2, z1, g23, ldw, ek, z3, ← hH4, g43, ldS, es, g55, c1', c2', c3', c4', c5', c6', c7', eb, g65, ← hH7, purK_some, resK_some, boolK_some, condK_true, condK_false, wantV_tt, wantV_tf, wantV_ft, wantV_ff, wantV_t, wantV_f, wantV_skip, Bool.not_true, Bool.not_false, gPur_true, gPur_false, gEff_true, gEff_false, gRes_true, gRes_false, pickA_true, pickA_false, extA_0, extA_1, extA_2, retK_one, retK_none, retK_two, valK_fn, valR_fn, cond_true, cond_false, bin_add, bin_sub, bin_mul, bin_eql, bin_neq, bin_lss, bin_leq, bin_gtr, bin_geq, bin_seql, bin_sneq, un_not_t, un_not_f, un_not, cvI_int, cvT_str, nilChk_ptr, nilChk_xp, addA_ptr, lenT_str, Bool.true_or, Bool.or_true, Bool.false_or, Bool.or_false, Bool.true_and, Bool.and_true, Bool.false_and, Bool.and_false, decide_true, decide_false, Int.reduceEq, Int.reduceLT, Int.reduceLE, Int.reduceNe, Int.reduceAdd, Int.reduceSub, Int.reduceMul, Int.reduceNeg, List.nil_append, List.append_nil, List.cons_append, effK_new, effK_put, effK_nothing, on_new, on_put, on_nothing, ld1_ptr, ldN_ptr, stA_one_ptr, stA_agg_ptr, ldC_cells, ldCN_cells, stC_one, stC_many, lay_all, lay_one, newCells_eq, get_new_at, get_put_at, Heap.get_new_ne, Heap.get_put_ne, szn, szp, box1, boxA_agg, List.getElem?_cons_zero, List.getElem?_cons_succ, List.drop_zero, List.drop_succ_cons, List.take_zero, List.take_succ_cons, List.set_cons_zero, List.set_cons_succ, Nat.zero_add, Nat.add_zero, Nat.reduceAdd, bldA_eq, fillO_nil, fillO_one, fillO_agg, Option.map_some, Option.bind_some, repeatL]
  rw [if_neg c57]
  have c5' := eq_false (show ¬ kd = 5 by omega)
  have c6' := eq_false (show ¬ kd = 6 by omega)
  have c7' := eq_false (show ¬ kd = 7 by omega)
  by_cases c9 : kd = 9
  · rw [if_pos c9]
    have r4 := bl_range x2 4 (by decide)
    have eb := below_spec (ρ := ρ) (k := k + 57) (H := H5) x2 4 (by decide) (by decide) g5
    obtain ⟨n, hn⟩ : ∃ n : Nat, bl x2 4 = n := ⟨(bl x2 4).toNat, by omega⟩
    obtain ⟨H6, hH6⟩ : ∃ H6, H6 = H5.put l (.cells v e (0, 0) g [.int .u64 (nx x2)]) := ⟨_, rfl⟩
    rw [← hH6, hn] at eb
    rw [hn, Int.toNat_natCast]
    have z6 : H6.sz = H.sz + 4 := by rw [hH6, szp, z5]
    have f6 : Fr (fun t => t = l) H5 H6 := hH6 ▸ Fr.put _ _ _ fun _ => rfl
    have g6 : H6.get l = .cells v e (0, 0) g [.int .u64 (nx x2)] := by rw [hH6, Heap.get_put_same]
    have g65 : H6.get (H.sz + 3) = .cells 0 42 (0, 0) false (StepV.row ⟨kd, 0, 0, op0, []⟩ .nils) := by rw [f6.get _ hz8 (by omega), g55]; rfl
    obtain ⟨H7, y, e1, e2, e3, e4, e5, f7⟩ := picks_loop (ρ := ρ) (q := k + 57) (k := k + 59) (yc := (evCY (cx ρ) (k + 59)).2) (l := l) (v := v) (e := e) (g := g) (l4 := H.sz + 1) (l5 := H.sz + 3) (z0 := H.sz + 4) ⟨kd, 0, 0, op0, []⟩ (by omega) (by omega) hnl
      (fun x4_2 x5_2 H => N35_1 ρ (evCall (cx ρ) (k + 59)) (evCY (cx ρ) (k + 59)).2 0 (k + 59) x4_2 x5_2 H (retC (cx ρ) [some 42])) _ (fun _ _ _ => rfl) n (k + 59) H6 (nx x2) .nils [] (by omega) (by simp; omega) (by omega) g6 g65 (Grow.nils ..) (fun t q => q.elim)
    have f57 : Fr (fun t => t = l ∨ t = H.sz + 3 ∨ H.sz + 4 ≤ t) H5 H7 := (f6.mono fun t _ q => Or.inl q).trans f7
    have en := ends H7 ⟨kd, 0, 0, op0, (pickGo n (nx x2)).1⟩ y (pickGo n (nx x2)).2 (evCall (cx ρ) (k + 59)) (evCY (cx ρ) (k + 59)).2 (Grow.scal e4).1 e2 (base _ f57) e3 e4 e5 f57
    refine Eq.mp (congrArg (fun r => StepOut ρ H l v e g r (⟨kd, 0, 0, op0, (pickGo n (nx x2)).1⟩, (pickGo n (nx x2)).2)) ?_) en
    symm
    have c9' := eq_true c9
    refine Eq.trans ?_ e1
    simp (disch := first | ((try simp only [szn, szp, List.length_cons, List.length_nil, List.length_set, List.all_cons, List.all_nil, Bool.and_true, scal_int, sol_int, scal_bool, sol_bool, scal_str, sol_str, scal_nilp, sol_nilp, scal_ptr, sol_ptr, scal_nils, sol_nils, scal_sl, sol_sl, scal_sx, sol_sx, scal_xp, sol_xp, scal_xs, sol_xs, scal_nilm, sol_nilm, scal_mp, sol_mp, scal_nilf, sol_nilf, scal_fn, sol_fn, scal_nili, sol_nili, scal_ifc, sol_ifc]) <;> omega) | with_unfolding_all rfl) only [L35, N35_2, N35_3, N35_4, N35_5, N35_6, bx, ← hH1, ← hH2, z1, g23, ldw, ek, z3, ← hH4, g43, ldS, es, g55, c1', c2', c3', c4', c5', c6', c7', c9', eb, purK_some, resK_some, boolK_some, condK_true, condK_false, wantV_tt, wantV_tf, wantV_ft, wantV_ff, wantV_t, wantV_f, wantV_skip, Bool.not_true, Bool.not_false, gPur_true, gPur_false, gEff_true, gEff_false, gRes_true, gRes_false, pickA_true, pickA_false, extA_0, extA_1, extA_2, retK_one, retK_none, retK_two, valK_fn, valR_fn, cond_true, cond_false, bin_add, bin_sub, bin_mul, bin_eql, bin_neq, bin_lss, bin_leq, bin_gtr, bin_geq, bin_seql, bin_sneq, un_not_t, un_not_f, un_not, cvI_int, cvT_str, nilChk_ptr, nilChk_xp, addA_ptr, lenT_str, Bool.true_or, Bool.or_true, Bool.false_or, Bool.or_false, Bool.true_and, Bool.and_true, Bool.false_and, Bool.and_false, decide_true, decide_false, Int.reduceEq, Int.reduceLT, Int.reduceLE, Int.reduceNe, Int.reduceAdd, Int.reduceSub, Int.reduceMul, Int.reduceNeg, List.nil_append, List.append_nil, List.cons_append, effK_new, effK_put, effK_nothing, on_new, on_put, on_nothing, ld1_ptr, ldN_ptr, stA_one_ptr, stA_agg_ptr, ldC_cells, ldCN_cells, stC_one, stC_many, lay_all, lay_one, newCells_eq, get_new_at, get_put_at, Heap.get_new_ne, Heap.get_put_ne, szn, szp, box1, boxA_agg, List.getElem?_cons_zero, List.getElem?_cons_succ, List.drop_zero, List.drop_succ_cons, List.take_zero, List.take_succ_cons, List.set_cons_zero, List.set_cons_succ, Nat.zero_add, Nat.add_zero, Nat.reduceAdd, bldA_eq, fillO_nil, fillO_one, fillO_agg, Option.map_some, Option.bind_some, repeatL]
  rw [if_neg c9]
  have c9' := eq_false c9
  have f55 : Fr (fun t => t = l ∨ t = H.sz + 3 ∨ H.sz + 4 ≤ t) H5 H5 := Fr.refl ..
  have en := ends H5 ⟨kd, 0, 0, op0, []⟩ .nils x2 (evCall (cx ρ) (k + 59)) (evCY (cx ρ) (k + 59)).2 rfl g5 g54 (by rw [g55]; rfl) (Grow.nils ..) (fun t q => q.elim) f55
  refine Eq.mp (congrArg (fun r => StepOut ρ H l v e g r (⟨kd, 0, 0, op0, []⟩, x2)) ?_) en
  symm
  simp (disch := first | ((try simp only [szn, szp, List.length_cons, List.length_nil, List.length_set, List.all_cons, List.all_nil, Bool.and_true, scal_int, sol_int, scal_bool, sol_bool, scal_str, sol_str, scal_nilp, sol_nilp, scal_ptr, sol_ptr, scal_nils, sol_nils, scal_sl, sol_sl, scal_sx, sol_sx, scal_xp, sol_xp, scal_xs, sol_xs, scal_nilm, sol_nilm, scal_mp, sol_mp, scal_nilf, sol_nilf, scal_fn, sol_fn, scal_nili, sol_nili, scal_ifc, sol_ifc]) <;> omega) | with_unfolding_all rfl) only [L35, N35_2, N35_3, N35_6, bx, ← hH1, ← hH2, z1, g23, ldw, ek, z3, ← hH4, g43, ldS, es, g55, c1', c2', c3', c4', c5', c6', c7', c9', purK_some, resK_some, boolK_some, condK_true, condK_false, wantV_tt, wantV_tf, wantV_ft, wantV_ff, wantV_t, wantV_f, wantV_skip, Bool.not_true, Bool.not_false, gPur_true, gPur_false, gEff_true, gEff_false, gRes_true, gRes_false, pickA_true, pickA_false, extA_0, extA_1, extA_2, retK_one, retK_none, retK_two, valK_fn, valR_fn, cond_true, cond_false, bin_add, bin_sub, bin_mul, bin_eql, bin_neq, bin_lss, bin_leq, bin_gtr, bin_geq, bin_seql, bin_sneq, un_not_t, un_not_f, un_not, cvI_int, cvT_str, nilChk_ptr, nilChk_xp, addA_ptr, lenT_str, Bool.true_or, Bool.or_true, Bool.false_or, Bool.or_false, Bool.true_and, Bool.and_true, Bool.false_and, Bool.and_false, decide_true, decide_false, Int.reduceEq, Int.reduceLT, Int.reduceLE, Int.reduceNe, Int.reduceAdd, Int.reduceSub, Int.reduceMul, Int.reduceNeg, List.nil_append, List.append_nil, List.cons_append, effK_new, effK_put, effK_nothing, on_new, on_put, on_nothing, ld1_ptr, ldN_ptr, stA_one_ptr, stA_agg_ptr, ldC_cells, ldCN_cells, stC_one, stC_many, lay_all, lay_one, newCells_eq, get_new_at, get_put_at, Heap.get_new_ne, Heap.get_put_ne, szn, szp, box1, boxA_agg, List.getElem?_cons_zero, List.getElem?_cons_succ, List.drop_zero, List.drop_succ_cons, List.take_zero, List.take_succ_cons, List.set_cons_zero, List.set_cons_succ, Nat.zero_add, Nat.add_zero, Nat.reduceAdd, bldA_eq, fillO_nil, fillO_one, fillO_agg, Option.map_some, Option.bind_some, repeatL]
end
end Go.Proofs.Ytcjicmabhejllaa

-- part PsI
/- A step that is drawn: the reference's; its kind. -/
set_option linter.unusedVariables false
set_option linter.unusedSimpArgs false
namespace Go.Proofs.Ytcjicmabhejllaa
attribute [local congr] Go.Ev.cond_congr1
open Go.Ev Go.RowKit
theorem nat_t1 {i m : Nat} (h : 10 - i = m + 1) : 10 - (i + 1) = m := by omega
theorem nat_t2 {i m : Nat} (h : 10 - i = m + 1) : i + 1 ≤ 10 := by omega
theorem nat_t3 {n m : Nat} (h : m + 1 + 1 < n + 1) : m + 1 < n := by omega
theorem ixRW (l v : Nat) (i : Nat) (h : i < 10) : ixR 1 10 (.ptr l v 3) (.int .i64 i) = some (.ptr l v (3 + i)) := by
  have h1 : (0 : Int) ≤ (i : Int) := by omega
  have h2 : (i : Int) < (10 : Nat) := by omega
  simp only [ixR, Ev.asInt, Option.bind_some, elAt, h1, h2, decide_true, Bool.and_self, cond_true, Int.toNat_natCast, Nat.mul_one, addA]
theorem ldW (p : PlanD) (e i : Nat) (h : i < p.W.length) : ldC 0 (3 + i) (.cells 0 e (0, 0) false p.cells) = some (.int .i64 p.W[i]) := by
  rw [ldC_cells]
  show (AV.int .u64 p.seed :: .int .i64 p.S :: .int .i64 p.K :: wts p.W)[3 + i]? = _
  rw [show 3 + i = i + 1 + 1 + 1 by omega]
  simp only [List.getElem?_cons_succ]
  exact wts_at p.W i h
section
variable {ρ : Addr → Option Value} {call : CallF} {yc : YieldF} {k : Nat} {H : Heap} {p : PlanD} {l3 l8 : Nat}
theorem rsum_loop (hW : Wts p.W) (hg : H.get l3 = .cells 0 46 (0, 0) false p.cells) (x0 x4 : AV) (k0 : AV → AV → AV → AV → Heap → Res)
    (B : AV × AV → Heap → (AV × AV → Heap → Res) → Res) (hB : ∀ y H kn, B y H kn = N28_19b ρ call yc 0 k x0 (.ptr l3 0 0) x4 y.1 y.2 H (fun x5 x6 H => kn (x5, x6) H) k0) :
    ∀ (m i n : Nat), 10 - i = m → i ≤ 10 → m < n → loopL B n (.int .i64 (p.W.take i).sum, .int .i64 i) H = k0 x0 (.ptr l3 0 0) x4 (.int .i64 p.W.sum) H := by
  intro m
  induction m with
  | zero =>
    intro i n hm hi hn
    obtain ⟨n, rfl⟩ : ∃ q, n = q + 1 := ⟨n - 1, by omega⟩
    obtain rfl : i = 10 := by omega
    rw [loopL_succ, hB, List.take_of_length_le (by rw [hW.1]; omega)]
    have h : ¬ ((10 : Nat) : Int) < 10 := by omega
    simp only [N28_19b, h, purK_some, resK_some, boolK_some, condK_true, condK_false, wantV_tt, wantV_tf, wantV_ft, wantV_ff, wantV_t, wantV_f, wantV_skip, Bool.not_true, Bool.not_false, gPur_true, gPur_false, gEff_true, gEff_false, gRes_true, gRes_false, pickA_true, pickA_false, extA_0, extA_1, extA_2, retK_one, retK_none, retK_two, valK_fn, valR_fn, cond_true, cond_false, bin_add, bin_sub, bin_mul, bin_eql, bin_neq, bin_lss, bin_leq, bin_gtr, bin_geq, bin_seql, bin_sneq, un_not_t, un_not_f, un_not, cvI_int, cvT_str, nilChk_ptr, nilChk_xp, addA_ptr, lenT_str, Bool.true_or, Bool.or_true, Bool.false_or, Bool.or_false, Bool.true_and, Bool.and_true, Bool.false_and, Bool.and_false, decide_true, decide_false, Int.reduceEq, Int.reduceLT, Int.reduceLE, Int.reduceNe, Int.reduceAdd, Int.reduceSub, Int.reduceMul, Int.reduceNeg, List.nil_append, List.append_nil, List.cons_append]
  | succ m ih =>
    intro i n hm hi hn
    obtain ⟨n, rfl⟩ : ∃ q, n = q + 1 := ⟨n - 1, by omega⟩
    have hl : i < p.W.length := by rw [hW.1]; omega
    have h : (i : Int) < 10 := by omega
    have b := hW.sum (i + 1) (by omega)
    rw [sum_take p.W i hl] at b
    have e1 := ixRW l3 0 i (by omega)
    have e4 := ldW p 46 i hl
    have e2 : wrapK .i64 ((p.W.take i).sum + p.W[i]) = (p.W.take (i + 1)).sum := by rw [sum_take p.W i hl, wrap_i64]; omega
    have e3 : wrapK .i64 ((i : Int) + 1) = ((i + 1 : Nat) : Int) := wrap_succN i (by omega)
    rw [loopL_succ, hB]
    simp only [N28_19b, h, e1, e2, e3, ld1_ptr, hg, e4, Nat.zero_add, purK_some, resK_some, boolK_some, condK_true, condK_false, wantV_tt, wantV_tf, wantV_ft, wantV_ff, wantV_t, wantV_f, wantV_skip, Bool.not_true, Bool.not_false, gPur_true, gPur_false, gEff_true, gEff_false, gRes_true, gRes_false, pickA_true, pickA_false, extA_0, extA_1, extA_2, retK_one, retK_none, retK_two, valK_fn, valR_fn, cond_true, cond_false, bin_add, bin_sub, bin_mul, bin_eql, bin_neq, bin_lss, bin_leq, bin_gtr, bin_geq, bin_seql, bin_sneq, un_not_t, un_not_f, un_not, cvI_int, cvT_str, nilChk_ptr, nilChk_xp, addA_ptr, lenT_str, Bool.true_or, Bool.or_true, Bool.false_or, Bool.or_false, Bool.true_and, Bool.and_true, Bool.false_and, Bool.and_false, decide_true, decide_false, Int.reduceEq, Int.reduceLT, Int.reduceLE, Int.reduceNe, Int.reduceAdd, Int.reduceSub, Int.reduceMul, Int.reduceNeg, List.nil_append, List.append_nil, List.cons_append]
    exact ih (i + 1) n (by omega) (by omega) (by omega)
theorem rkind_loop (hW : Wts p.W) (a : Int) (ha : a ≤ 10000) (hne : l3 ≠ l8) (x0 x4 : AV) (k2 : AV → AV → AV → AV → Heap → Res)
    (hg : H.get l3 = .cells 0 46 (0, 0) false p.cells) (hg8 : H.get l8 = .cells 0 42 (0, 0) false (StepV.row ⟨0, 0, 0, op0, []⟩ .nils))
    (B : AV × AV → Heap → (AV × AV → Heap → Res) → Res) (hB : ∀ y H kn, B y H kn = N28_16b ρ call yc 0 k x0 (.ptr l3 0 0) x4 (.int .i64 a) (.ptr l8 0 0) y.1 y.2 H (fun x9 x10 H => kn (x9, x10) H) k2) :
    ∀ (m i n : Nat) (up : Int), 10 - i = m → i ≤ 10 → m + 1 < n → 0 ≤ up → up ≤ a → a < up + (p.W.drop i).sum →
      loopL B n (.int .i64 up, .int .i64 i) H = k2 x0 (.ptr l3 0 0) x4 (.ptr l8 0 0) (H.put l8 (.cells 0 42 (0, 0) false (StepV.row ⟨kindGo (p.W.drop i) i (a - up), 0, 0, op0, []⟩ .nils))) := by
  intro m
  induction m with
  | zero =>
    intro i n up hm hi hn h0 h1 h2
    rw [List.drop_of_length_le (by rw [hW.1]; omega)] at h2
    simp at h2; omega
  | succ m ih =>
    intro i n up hm hi hn h0 h1 h2
    obtain ⟨n, rfl⟩ : ∃ q, n = q + 1 := ⟨n - 1, by omega⟩
    have hl : i < p.W.length := by rw [hW.1]; omega
    have h : (i : Int) < 10 := by omega
    have b := hW.at i hl
    rw [List.drop_eq_getElem_cons hl, List.sum_cons] at h2
    have e1 := ixRW l3 0 i (by omega)
    have e4 := ldW p 46 i hl
    have e2 : wrapK .i64 (up + p.W[i]) = up + p.W[i] := by rw [wrap_i64]; omega
    have e3 : wrapK .i64 ((i : Int) + 1) = ((i + 1 : Nat) : Int) := wrap_succN i (by omega)
    have l0 : ldC 0 0 (.cells 0 42 (0, 0) false (StepV.row ⟨0, 0, 0, op0, []⟩ .nils)) = some (.int .i64 0) := by rw [ldC_cells]; rfl
    rw [loopL_succ, hB, List.drop_eq_getElem_cons hl, kindGo]
    by_cases h3 : a < up + p.W[i]
    · rw [if_pos (by omega)]
      have st : stC l8 0 0 [.int .i64 ((i + 1 : Nat) : Int)] (.cells 0 42 (0, 0) false (StepV.row ⟨0, 0, 0, op0, []⟩ .nils)) = some (.tup [], .put l8 (.cells 0 42 (0, 0) false (StepV.row ⟨((i + 1 : Nat) : Int), 0, 0, op0, []⟩ .nils))) := by rw [stC_one _ _ _ _ _ _ _ rfl (show 0 < 8 by decide)]; rfl
      have sc : ∀ o n, stA 0 H 1 (.ptr l8 0 o) (.int .i64 n) = stC l8 0 o [.int .i64 n] (H.get l8) := fun o n => stA_one_ptr H l8 0 o _ rfl
      obtain ⟨n, rfl⟩ : ∃ q, n = q + 1 := ⟨n - 1, by omega⟩
      simp only [N28_16b, N28_17, h, e1, e2, e3, h3, ld1_ptr, hg, hg8, l0, e4, sc, st, effK_put, Nat.zero_add, purK_some, resK_some, boolK_some, condK_true, condK_false, wantV_tt, wantV_tf, wantV_ft, wantV_ff, wantV_t, wantV_f, wantV_skip, Bool.not_true, Bool.not_false, gPur_true, gPur_false, gEff_true, gEff_false, gRes_true, gRes_false, pickA_true, pickA_false, extA_0, extA_1, extA_2, retK_one, retK_none, retK_two, valK_fn, valR_fn, cond_true, cond_false, bin_add, bin_sub, bin_mul, bin_eql, bin_neq, bin_lss, bin_leq, bin_gtr, bin_geq, bin_seql, bin_sneq, un_not_t, un_not_f, un_not, cvI_int, cvT_str, nilChk_ptr, nilChk_xp, addA_ptr, lenT_str, Bool.true_or, Bool.or_true, Bool.false_or, Bool.or_false, Bool.true_and, Bool.and_true, Bool.false_and, Bool.and_false, decide_true, decide_false, Int.reduceEq, Int.reduceLT, Int.reduceLE, Int.reduceNe, Int.reduceAdd, Int.reduceSub, Int.reduceMul, Int.reduceNeg, List.nil_append, List.append_nil, List.cons_append]
      rw [loopL_succ, hB]
      have l1 : ldC 0 0 (.cells 0 42 (0, 0) false (StepV.row ⟨((i + 1 : Nat) : Int), 0, 0, op0, []⟩ .nils)) = some (.int .i64 ((i + 1 : Nat) : Int)) := by rw [ldC_cells]; rfl
      have c0 : ¬ ((i + 1 : Nat) : Int) = 0 := by omega
      have ec : ((i + 1 : Nat) : Int) = (i : Int) + 1 := by omega
      by_cases h4 : ((i + 1 : Nat) : Int) < 10
      · simp only [N28_16b, h4, ld1_ptr, Heap.get_put_same, l1, c0, Nat.zero_add, purK_some, resK_some, boolK_some, condK_true, condK_false, wantV_tt, wantV_tf, wantV_ft, wantV_ff, wantV_t, wantV_f, wantV_skip, Bool.not_true, Bool.not_false, gPur_true, gPur_false, gEff_true, gEff_false, gRes_true, gRes_false, pickA_true, pickA_false, extA_0, extA_1, extA_2, retK_one, retK_none, retK_two, valK_fn, valR_fn, cond_true, cond_false, bin_add, bin_sub, bin_mul, bin_eql, bin_neq, bin_lss, bin_leq, bin_gtr, bin_geq, bin_seql, bin_sneq, un_not_t, un_not_f, un_not, cvI_int, cvT_str, nilChk_ptr, nilChk_xp, addA_ptr, lenT_str, Bool.true_or, Bool.or_true, Bool.false_or, Bool.or_false, Bool.true_and, Bool.and_true, Bool.false_and, Bool.and_false, decide_true, decide_false, Int.reduceEq, Int.reduceLT, Int.reduceLE, Int.reduceNe, Int.reduceAdd, Int.reduceSub, Int.reduceMul, Int.reduceNeg, List.nil_append, List.append_nil, List.cons_append]
        rw [ec]
      · simp only [N28_16b, h4, ld1_ptr, Heap.get_put_same, l1, c0, Nat.zero_add, purK_some, resK_some, boolK_some, condK_true, condK_false, wantV_tt, wantV_tf, wantV_ft, wantV_ff, wantV_t, wantV_f, wantV_skip, Bool.not_true, Bool.not_false, gPur_true, gPur_false, gEff_true, gEff_false, gRes_true, gRes_false, pickA_true, pickA_false, extA_0, extA_1, extA_2, retK_one, retK_none, retK_two, valK_fn, valR_fn, cond_true, cond_false, bin_add, bin_sub, bin_mul, bin_eql, bin_neq, bin_lss, bin_leq, bin_gtr, bin_geq, bin_seql, bin_sneq, un_not_t, un_not_f, un_not, cvI_int, cvT_str, nilChk_ptr, nilChk_xp, addA_ptr, lenT_str, Bool.true_or, Bool.or_true, Bool.false_or, Bool.or_false, Bool.true_and, Bool.and_true, Bool.false_and, Bool.and_false, decide_true, decide_false, Int.reduceEq, Int.reduceLT, Int.reduceLE, Int.reduceNe, Int.reduceAdd, Int.reduceSub, Int.reduceMul, Int.reduceNeg, List.nil_append, List.append_nil, List.cons_append]
        rw [ec]
    · have q3 : up + p.W[i] ≤ a := Int.not_lt.1 h3
      have q1 : a - (up + p.W[i]) = a - up - p.W[i] := (Int.sub_sub _ _ _).symm
      have q0 : ¬ a - up - p.W[i] < 0 := Int.not_lt.2 (by rw [← q1]; exact Int.sub_nonneg_of_le q3)
      have q2 : 0 ≤ up + p.W[i] := Int.add_nonneg h0 b.1
      have q4 : a < up + p.W[i] + (p.W.drop (i + 1)).sum := by rw [Int.add_assoc]; exact h2
      have t1 : 10 - (i + 1) = m := nat_t1 hm
      have t2 : i + 1 ≤ 10 := nat_t2 hm
      have t3 : m + 1 < n := nat_t3 hn
      have q5 := ih (i + 1) n (up + p.W[i]) t1 t2 t3 q2 q3 q4
      rw [q1] at q5
      rw [if_neg q0]
      simp only [N28_16b, N28_17, h, e1, e2, e3, h3, ld1_ptr, hg, hg8, l0, e4, Nat.zero_add, purK_some, resK_some, boolK_some, condK_true, condK_false, wantV_tt, wantV_tf, wantV_ft, wantV_ff, wantV_t, wantV_f, wantV_skip, Bool.not_true, Bool.not_false, gPur_true, gPur_false, gEff_true, gEff_false, gRes_true, gRes_false, pickA_true, pickA_false, extA_0, extA_1, extA_2, retK_one, retK_none, retK_two, valK_fn, valR_fn, cond_true, cond_false, bin_add, bin_sub, bin_mul, bin_eql, bin_neq, bin_lss, bin_leq, bin_gtr, bin_geq, bin_seql, bin_sneq, un_not_t, un_not_f, un_not, cvI_int, cvT_str, nilChk_ptr, nilChk_xp, addA_ptr, lenT_str, Bool.true_or, Bool.or_true, Bool.false_or, Bool.or_false, Bool.true_and, Bool.and_true, Bool.false_and, Bool.and_false, decide_true, decide_false, Int.reduceEq, Int.reduceLT, Int.reduceLE, Int.reduceNe, Int.reduceAdd, Int.reduceSub, Int.reduceMul, Int.reduceNeg, List.nil_append, List.append_nil, List.cons_append]
      rw [q5]
end
end Go.Proofs.Ytcjicmabhejllaa

-- part PsJ
/- A step that is drawn: the reference's; its loops. -/
set_option linter.unusedVariables false
set_option linter.unusedSimpArgs false
namespace Go.Proofs.Ytcjicmabhejllaa
attribute [local congr] Go.Ev.cond_congr1
open Go.Ev Go.RowKit
section
variable {ρ : Addr → Option Value} {q k : Nat} {yc : YieldF} {l v e l4 l5 z0 : Nat} {g : Bool}
theorem rpicks_loop (d : StepV) (hl : l < z0) (hl5 : l5 < z0) (hne : l ≠ l5) (k1 : AV → AV → Heap → Res)
    (B : AV → Heap → (AV → Heap → Res) → Res) (hB : ∀ y H kn, B y H kn = N28_9b ρ (evCall (cx ρ) (q + 3)) yc 0 k (.ptr l v 0) (.ptr l4 0 0) (.ptr l5 0 0) y H (fun x15 H => kn x15 H) k1) :
    ∀ (m n : Nat) (H : Heap) (x : Int) (y : AV) (acc : List Int), 0 ≤ x ∧ x < 18446744073709551616 → m < n → m + acc.length < 1000 → z0 ≤ H.sz →
      H.get l = .cells v e (0, 0) g [.int .u64 x] → H.get l5 = .cells 0 42 (0, 0) false (d.row y) → Grow H 3 1 y (prow acc) → (∀ t, y.lies t → z0 ≤ t) →
      ∃ H' y', loopL B n (.int .i64 m) H = k1 (.ptr l4 0 0) (.ptr l5 0 0) H' ∧ H'.get l = .cells v e (0, 0) g [.int .u64 (pickGo m x).2] ∧ H'.get l5 = .cells 0 42 (0, 0) false (d.row y') ∧
        Grow H' 3 1 y' (prow (acc ++ (pickGo m x).1)) ∧ (∀ t, y'.lies t → z0 ≤ t) ∧ Fr (fun t => t = l ∨ t = l5 ∨ z0 ≤ t) H H' := by
  intro m
  induction m with
  | zero =>
    intro n H x y acc hx hn hb hz hg hg5 hG hy
    obtain ⟨n, rfl⟩ : ∃ q, n = q + 1 := ⟨n - 1, by omega⟩
    refine ⟨H, y, ?_, hg, hg5, by rw [pickGo, List.append_nil]; exact hG, hy, Fr.refl ..⟩
    rw [loopL_succ, hB]
    simp only [N28_9b, Int.natCast_zero, purK_some, resK_some, boolK_some, condK_true, condK_false, wantV_tt, wantV_tf, wantV_ft, wantV_ff, wantV_t, wantV_f, wantV_skip, Bool.not_true, Bool.not_false, gPur_true, gPur_false, gEff_true, gEff_false, gRes_true, gRes_false, pickA_true, pickA_false, extA_0, extA_1, extA_2, retK_one, retK_none, retK_two, valK_fn, valR_fn, cond_true, cond_false, bin_add, bin_sub, bin_mul, bin_eql, bin_neq, bin_lss, bin_leq, bin_gtr, bin_geq, bin_seql, bin_sneq, un_not_t, un_not_f, un_not, cvI_int, cvT_str, nilChk_ptr, nilChk_xp, addA_ptr, lenT_str, Bool.true_or, Bool.or_true, Bool.false_or, Bool.or_false, Bool.true_and, Bool.and_true, Bool.false_and, Bool.and_false, decide_true, decide_false, Int.reduceEq, Int.reduceLT, Int.reduceLE, Int.reduceNe, Int.reduceAdd, Int.reduceSub, Int.reduceMul, Int.reduceNeg, List.nil_append, List.append_nil, List.cons_append]
  | succ m ih =>
    intro n H x y acc hx hn hb hz hg hg5 hG hy
    obtain ⟨n, rfl⟩ : ∃ q, n = q + 1 := ⟨n - 1, by omega⟩
    have b1 := rbelow_spec (ρ := ρ) (k := q) (H := H) x 50 hx (by decide) (by decide) hg
    obtain ⟨H1, hH1⟩ : ∃ H1, H1 = H.put l (.cells v e (0, 0) g [.int .u64 (nx x)]) := ⟨_, rfl⟩
    rw [← hH1] at b1
    have z1 : H1.sz = H.sz := by rw [hH1, szp]
    have g1 : H1.get l = .cells v e (0, 0) g [.int .u64 (nx x)] := by rw [hH1, Heap.get_put_same]
    have g15 : H1.get l5 = .cells 0 42 (0, 0) false (d.row y) := by rw [hH1, Heap.get_put, if_neg (Ne.symm hne), hg5]
    have f1 : Fr (fun t => t = l) H H1 := hH1 ▸ Fr.put _ _ _ fun _ => rfl
    have G1 := hG.frame _ f1 fun t ht q => by have := hy t ht; omega
    obtain ⟨H2, hH2⟩ : ∃ H2, H2 = H1.new (.cells 0 3 (0, 0) false [.int .i64 (bl x 50)]) := ⟨_, rfl⟩
    have z2 : H2.sz = H.sz + 1 := by rw [hH2, szn, z1]
    have f2 : Fr Nop H1 H2 := hH2 ▸ Fr.new _ _ _
    have g2 : H2.get l = .cells v e (0, 0) g [.int .u64 (nx x)] := by rw [f2.get _ (by omega) (fun q => q), g1]
    have g25 : H2.get l5 = .cells 0 42 (0, 0) false (d.row y) := by rw [f2.get _ (by omega) (fun q => q), g15]
    have G2 := G1.frame _ f2 fun t ht q => q
    have el : Els ρ H2 1 (.sl H1.sz 0 0 1 1 false) (prow [bl x 50]) := Els.of_cells (els := prow [bl x 50]) (e := 3) (fr := (0, 0)) (g := false) (by omega) (by rw [hH2, Heap.get_new_same]; rfl) (by intro r hr; simp [prow] at hr; subst hr; rfl)
    obtain ⟨y', f, ea, G3, f3, hy'⟩ := G2.append (by_ := 8) el (by intro r hr; simp [prow] at hr; subst hr; rfl) (by rw [prow_len, prow_len, List.length_singleton]; omega) (by rw [prow_len, prow_len, List.length_singleton]; omega)
    obtain ⟨H3, hH3⟩ : ∃ H3, H3 = f.on H2 := ⟨_, rfl⟩
    rw [← hH3] at G3 f3
    have hy3 : ∀ t, y'.lies t → z0 ≤ t := fun t ht => (hy' t ht).elim (fun q => hy t q) fun q => by omega
    have z3 := f3.sz
    have g3 : H3.get l = .cells v e (0, 0) g [.int .u64 (nx x)] := by rw [f3.get _ (by omega) (fun q => by have := hy _ q; omega), g2]
    have g35 : H3.get l5 = .cells 0 42 (0, 0) false (d.row y) := by rw [f3.get _ (by omega) (fun q => by have := hy _ q; omega), g25]
    obtain ⟨H4, hH4⟩ : ∃ H4, H4 = H3.put l5 (.cells 0 42 (0, 0) false (d.row y')) := ⟨_, rfl⟩
    have z4 : H4.sz = H3.sz := by rw [hH4, szp]
    have f4 : Fr (fun t => t = l5) H3 H4 := hH4 ▸ Fr.put _ _ _ fun _ => rfl
    have g4 : H4.get l = .cells v e (0, 0) g [.int .u64 (nx x)] := by rw [f4.get _ (by omega) hne, g3]
    have g45 : H4.get l5 = .cells 0 42 (0, 0) false (d.row y') := by rw [hH4, Heap.get_put_same]
    have G4 := G3.frame _ f4 fun t ht q => by have := hy3 t ht; omega
    rw [← prow_app] at G4
    have sy := (Grow.scal hG).1
    have ey := (Grow.scal hG).2
    have sy' := (Grow.scal G3).1
    obtain ⟨H', yy, e1, e2, e3, e4, e5, e6⟩ := ih n H4 (nx x) y' (acc ++ [bl x 50]) (nx_range x) (by omega) (by simp; omega) (by omega) g4 g45 G4 hy3
    refine ⟨H', yy, ?_, e2, e3, by rw [List.append_assoc] at e4; exact e4, e5, ?_⟩
    · rw [← e1, loopL_succ, hB]
      have w1 : wrapK .i64 (((m + 1 : Nat) : Int) - 1) = (m : Int) := by rw [wrap_i64] <;> omega
      have c1 : (0 : Int) < ((m + 1 : Nat) : Int) := by omega
      have r5 : (d.row y)[7]? = some y := rfl
      have st : stC l5 0 7 [y'] (.cells 0 42 (0, 0) false (d.row y)) = some (.tup [], .put l5 (.cells 0 42 (0, 0) false (d.row y'))) := by rw [stC_one _ _ _ _ _ _ _ sy' (show 7 < 8 by decide)]; rfl
      have mk : mkK H1 (bldS H1 3 1 [.int .i64 0] 1 [(0, 1, .int .i64 (bl x 50))]) true = fun K => K (.sl H1.sz 0 0 1 1 false) H2 := by
        funext K; rw [bldOne, mkK_new _ _ _ _ rfl, ← hH2]
      have ef : ∀ K, effK H2 (some (y', f)) K = K y' H3 := fun K => by rw [effK_eq, hH3]; rfl
      have sc : ∀ o, stA 0 H3 1 (.ptr l5 0 o) y' = stC l5 0 o [y'] (H3.get l5) := fun o => stA_one_ptr H3 l5 0 o y' sy'
      simp only [N28_9b, c1, ld1_ptr, hg5, ldC_cells, r5, b1, g15, agn_some, ey, mk, g25, ea, ef, sc, g35, st, effK_put, ← hH4, w1, Nat.zero_add, purK_some, resK_some, boolK_some, condK_true, condK_false, wantV_tt, wantV_tf, wantV_ft, wantV_ff, wantV_t, wantV_f, wantV_skip, Bool.not_true, Bool.not_false, gPur_true, gPur_false, gEff_true, gEff_false, gRes_true, gRes_false, pickA_true, pickA_false, extA_0, extA_1, extA_2, retK_one, retK_none, retK_two, valK_fn, valR_fn, cond_true, cond_false, bin_add, bin_sub, bin_mul, bin_eql, bin_neq, bin_lss, bin_leq, bin_gtr, bin_geq, bin_seql, bin_sneq, un_not_t, un_not_f, un_not, cvI_int, cvT_str, nilChk_ptr, nilChk_xp, addA_ptr, lenT_str, Bool.true_or, Bool.or_true, Bool.false_or, Bool.or_false, Bool.true_and, Bool.and_true, Bool.false_and, Bool.and_false, decide_true, decide_false, Int.reduceEq, Int.reduceLT, Int.reduceLE, Int.reduceNe, Int.reduceAdd, Int.reduceSub, Int.reduceMul, Int.reduceNeg, List.nil_append, List.append_nil, List.cons_append]
    · refine (((f1.mono fun t _ q => Or.inl q).trans (f2.mono fun t _ q => q.elim)).trans (f3.mono fun t _ q => Or.inr (Or.inr (hy t q)))).trans ((f4.mono fun t _ q => Or.inr (Or.inl q)).trans e6)
theorem rbytes_loop (w : UInt8) (x0 x4 x8 : AV) (z0 : Nat) (k4 : AV → AV → AV → AV → Heap → Res)
    (B : AV × AV → Heap → (AV × AV → Heap → Res) → Res) (call : CallF) (hB : ∀ y H kn, B y H kn = N28_14b ρ call yc 0 k x0 x4 x8 (byteCell w) y.1 y.2 H (fun x13 x14 H => kn (x13, x14) H) k4) :
    ∀ (m n j : Nat) (H : Heap) (y : AV), m < n → m + j < 1000 → z0 ≤ H.sz → GE H 5 1 y (List.replicate j [byteCell w]) → (∀ t, y.lies t → z0 ≤ t) →
      ∃ H' y', loopL B n (y, .int .i64 m) H = k4 x0 x4 x8 y' H' ∧ GE H' 5 1 y' (List.replicate (j + m) [byteCell w]) ∧ (∀ t, y'.lies t → z0 ≤ t) ∧ Fr (fun t => z0 ≤ t) H H' := by
  intro m
  induction m with
  | zero =>
    intro n j H y hn hb hz hG hy
    obtain ⟨n, rfl⟩ : ∃ q, n = q + 1 := ⟨n - 1, by omega⟩
    refine ⟨H, y, ?_, hG, hy, Fr.refl ..⟩
    rw [loopL_succ, hB]
    simp only [N28_14b, Int.natCast_zero, purK_some, resK_some, boolK_some, condK_true, condK_false, wantV_tt, wantV_tf, wantV_ft, wantV_ff, wantV_t, wantV_f, wantV_skip, Bool.not_true, Bool.not_false, gPur_true, gPur_false, gEff_true, gEff_false, gRes_true, gRes_false, pickA_true, pickA_false, extA_0, extA_1, extA_2, retK_one, retK_none, retK_two, valK_fn, valR_fn, cond_true, cond_false, bin_add, bin_sub, bin_mul, bin_eql, bin_neq, bin_lss, bin_leq, bin_gtr, bin_geq, bin_seql, bin_sneq, un_not_t, un_not_f, un_not, cvI_int, cvT_str, nilChk_ptr, nilChk_xp, addA_ptr, lenT_str, Bool.true_or, Bool.or_true, Bool.false_or, Bool.or_false, Bool.true_and, Bool.and_true, Bool.false_and, Bool.and_false, decide_true, decide_false, Int.reduceEq, Int.reduceLT, Int.reduceLE, Int.reduceNe, Int.reduceAdd, Int.reduceSub, Int.reduceMul, Int.reduceNeg, List.nil_append, List.append_nil, List.cons_append]
  | succ m ih =>
    intro n j H y hn hb hz hG hy
    obtain ⟨n, rfl⟩ : ∃ q, n = q + 1 := ⟨n - 1, by omega⟩
    obtain ⟨H2, hH2⟩ : ∃ H2, H2 = H.new (.cells 0 5 (0, 0) false [byteCell w]) := ⟨_, rfl⟩
    have z2 : H2.sz = H.sz + 1 := by rw [hH2, szn]
    have f2 : Fr Nop H H2 := hH2 ▸ Fr.new _ _ _
    have G2 := hG.frame _ f2 fun t ht q => q
    have el : Els ρ H2 1 (.sl H.sz 0 0 1 1 false) [[byteCell w]] := Els.of_cells (els := [[byteCell w]]) (e := 5) (fr := (0, 0)) (g := false) (by omega) (by rw [hH2, Heap.get_new_same]; rfl) (by intro r hr; simp at hr; subst hr; rfl)
    obtain ⟨y', f, ea, G3, f3, hy'⟩ := G2.append (by_ := 1) el (by simp) (by intro r hr; simp at hr; subst hr; rfl) (by simp; omega) (by simp; omega)
    obtain ⟨H3, hH3⟩ : ∃ H3, H3 = f.on H2 := ⟨_, rfl⟩
    rw [← hH3] at G3 f3
    have z3 := f3.sz
    have hy3 : ∀ t, y'.lies t → z0 ≤ t := fun t ht => (hy' t ht).elim (fun q => hy t q) fun q => by omega
    have er : List.replicate j [byteCell w] ++ [[byteCell w]] = List.replicate (j + 1) [byteCell w] := by rw [List.replicate_succ']
    rw [er] at G3
    obtain ⟨H', yy, e1, e2, e3, e4⟩ := ih n (j + 1) H3 y' (by omega) (by omega) (by omega) G3 hy3
    refine ⟨H', yy, ?_, by rw [show j + (m + 1) = j + 1 + m by omega]; exact e2, e3, ?_⟩
    · rw [← e1, loopL_succ, hB]
      have w1 : wrapK .i64 (((m + 1 : Nat) : Int) - 1) = (m : Int) := by rw [wrap_i64] <;> omega
      have c1 : (0 : Int) < ((m + 1 : Nat) : Int) := by omega
      have mk : effK H (bldS H 5 1 [.int .u8 0] 1 [(0, 1, byteCell w)]) = fun K => K (.sl H.sz 0 0 1 1 false) H2 := by
        funext K; rw [show byteCell w = .int .u8 w.toNat from rfl, bldOne, effK_new, hH2]; rfl
      have ef : ∀ K, effK H2 (some (y', f)) K = K y' H3 := fun K => by rw [effK_eq, hH3]; rfl
      simp only [N28_14b, c1, mk, ea, ef, w1, purK_some, resK_some, boolK_some, condK_true, condK_false, wantV_tt, wantV_tf, wantV_ft, wantV_ff, wantV_t, wantV_f, wantV_skip, Bool.not_true, Bool.not_false, gPur_true, gPur_false, gEff_true, gEff_false, gRes_true, gRes_false, pickA_true, pickA_false, extA_0, extA_1, extA_2, retK_one, retK_none, retK_two, valK_fn, valR_fn, cond_true, cond_false, bin_add, bin_sub, bin_mul, bin_eql, bin_neq, bin_lss, bin_leq, bin_gtr, bin_geq, bin_seql, bin_sneq, un_not_t, un_not_f, un_not, cvI_int, cvT_str, nilChk_ptr, nilChk_xp, addA_ptr, lenT_str, Bool.true_or, Bool.or_true, Bool.false_or, Bool.or_false, Bool.true_and, Bool.and_true, Bool.false_and, Bool.and_false, decide_true, decide_false, Int.reduceEq, Int.reduceLT, Int.reduceLE, Int.reduceNe, Int.reduceAdd, Int.reduceSub, Int.reduceMul, Int.reduceNeg, List.nil_append, List.append_nil, List.cons_append]
    · exact ((f2.mono fun t _ q => q.elim).trans (f3.mono fun t _ q => hy t q)).trans e4
end
end Go.Proofs.Ytcjicmabhejllaa

-- part PsL
/- A step that is drawn: the reference's, whole. -/
set_option linter.unusedVariables false
set_option linter.unusedSimpArgs false
namespace Go.Proofs.Ytcjicmabhejllaa
attribute [local congr] Go.Ev.cond_congr1
open Go.Ev Go.RowKit
abbrev diceO (v e : Nat) (g : Bool) (x : Int) : AObj := .cells v e (0, 0) g [.int .u64 x]
abbrev planO (p : PlanD) : AObj := .cells 0 46 (0, 0) false p.cells
abbrev zO : AObj := .cells 0 42 (0, 0) false Z8
abbrev rowO (d : StepV) (y : AV) : AObj := .cells 0 42 (0, 0) false (d.row y)
abbrev RL (l v e : Nat) (g : Bool) (p : PlanD) (n3 n4 n8 : Nat) (x : Int) (d : StepV) (y : AV) : List (Nat × AObj) := [(l, diceO v e g x), (n3, planO p), (n4, zO), (n8, rowO d y)]
def u64r (x : Int) : Prop := 0 ≤ x ∧ x < 18446744073709551616
/-- What a step comes to: its value, its picks in places of its own. -/
def StepQ (H0 : Heap) (l v e : Nat) (g : Bool) (o : StepV × Int) : AV → Heap → Prop := fun r H' =>
  ∃ y, r = .agg (o.1.row y) ∧ H'.get l = .cells v e (0, 0) g [.int .u64 o.2] ∧ Grow H' 3 1 y (prow o.1.picks) ∧ (∀ t, y.lies t → H0.sz ≤ t) ∧ Fr (fun t => t = l) H0 H'
theorem ldRow (d : StepV) (y : AV) (o : Nat) : ldC 0 o (rowO d y) = (d.row y)[o]? := ldC_cells ..
def T6 (d : StepV) (x : Int) : StepV × Int := if d.kind = 9 then ({d with picks := (pickGo (bl x 4).toNat (nx x)).1}, (pickGo (bl x 4).toNat (nx x)).2) else (d, x)
def T5 (d : StepV) (x : Int) : StepV × Int := if 5 ≤ d.kind ∧ d.kind ≤ 7 then T6 {d with n := bl x 8} (nx x) else T6 d x
def T4 (d : StepV) (x : Int) : StepV × Int := if d.kind = 4 then T5 {d with n := 1 + bl x 16} (nx x) else T5 d x
def T3 (K : Int) (d : StepV) (x : Int) : StepV × Int := if d.kind = 1 then T4 {d with op := (opP K x).1} (opP K x).2 else T4 d x
def T2 (p : PlanD) (d : StepV) (x : Int) : StepV × Int := if d.kind ≤ 3 then T3 p.K {d with s := bl x p.S} (nx x) else T3 p.K d (nx x)
section
variable {ρ : Addr → Option Value} {q k : Nat} {yc : YieldF} {l v e n3 n4 n8 : Nat} {g : Bool} {p : PlanD} {H0 H : Heap} {Q : AV → Heap → Prop} {K : AV → Heap → Res} {x : Int} {d : StepV} {y : AV} {R : List (Nat × AObj)}
theorem rb (s : St (fun t => t = l) H0 ((l, diceO v e g x) :: R) H) (hx : u64r x) (n : Int) (h : 0 < n) (h2 : n < 9223372036854775808)
    (hk : ∀ H1, St (fun t => t = l) H0 ((l, diceO v e g (nx x)) :: R) H1 → H1.sz = H.sz → Fr (fun t => t = l) H H1 → Ret Q (K (.int .i64 (bl x n)) H1)) : Ret Q (resK (evCall (cx ρ) (q + 3) 0 39 [.ptr l v 0, .int .i64 n] H) K) := by
  rw [rbelow_spec x n hx h h2 (s.at 0 rfl), resK_some]
  exact hk _ (s.put1 0 _ rfl) rfl (Fr.put _ _ _ fun _ => rfl)
theorem rend {call : CallF} {z0 : Nat} (s : St (fun t => t = l) H0 (RL l v e g p n3 n4 n8 x d y) H) (hG : Grow H 3 1 y (prow d.picks)) (hz : n4 < z0) (hz2 : H0.sz ≤ z0) (hy : ∀ t, y.lies t → z0 ≤ t) :
    Ret (StepQ H0 l v e g (d, x)) (N28_7 ρ call yc 0 k (.ptr n4 0 0) (.ptr n8 0 0) H (retC (cx ρ) [some 42])) := by
  have hl : (d.row y).length = 8 := rfl
  have hs := d.row_solid (Grow.scal hG).1
  have e1 : ldN ρ H 8 (.ptr n8 0 0) = some (.agg (d.row y)) := by rw [ldN_of 8 0 (s.at 3 rfl) (by omega), List.drop_zero, List.take_of_length_le (by omega)]
  simp only [N28_7, e1, purK_some, resK_some, boolK_some, condK_true, condK_false, wantV_tt, wantV_tf, wantV_ft, wantV_ff, wantV_t, wantV_f, wantV_skip, Bool.not_true, Bool.not_false, gPur_true, gPur_false, gEff_true, gEff_false, gRes_true, gRes_false, pickA_true, pickA_false, extA_0, extA_1, extA_2, retK_one, retK_none, retK_two, valK_fn, valR_fn, cond_true, cond_false, bin_add, bin_sub, bin_mul, bin_eql, bin_neq, bin_lss, bin_leq, bin_gtr, bin_geq, bin_seql, bin_sneq, un_not_t, un_not_f, un_not, cvI_int, cvT_str, nilChk_ptr, nilChk_xp, addA_ptr, lenT_str, Bool.true_or, Bool.or_true, Bool.false_or, Bool.or_false, Bool.true_and, Bool.and_true, Bool.false_and, Bool.and_false, decide_true, decide_false, Int.reduceEq, Int.reduceLT, Int.reduceLE, Int.reduceNe, Int.reduceAdd, Int.reduceSub, Int.reduceMul, Int.reduceNeg, List.nil_append, List.append_nil, List.cons_append]
  refine s.stN 2 rfl hl hs (by rw [Nat.zero_add]; decide) fun H1 s1 z1 f1 => ?_
  rw [lay_all _ _ (by rw [hl]; rfl)] at s1
  have e2 : ldN ρ H1 8 (.ptr n4 0 0) = some (.agg (d.row y)) := by rw [ldN_of 8 0 (s1.at 2 rfl) (by omega), List.drop_zero, List.take_of_length_le (by omega)]
  simp only [ldT42, e2, purK_some, resK_some, boolK_some, condK_true, condK_false, wantV_tt, wantV_tf, wantV_ft, wantV_ff, wantV_t, wantV_f, wantV_skip, Bool.not_true, Bool.not_false, gPur_true, gPur_false, gEff_true, gEff_false, gRes_true, gRes_false, pickA_true, pickA_false, extA_0, extA_1, extA_2, retK_one, retK_none, retK_two, valK_fn, valR_fn, cond_true, cond_false, bin_add, bin_sub, bin_mul, bin_eql, bin_neq, bin_lss, bin_leq, bin_gtr, bin_geq, bin_seql, bin_sneq, un_not_t, un_not_f, un_not, cvI_int, cvT_str, nilChk_ptr, nilChk_xp, addA_ptr, lenT_str, Bool.true_or, Bool.or_true, Bool.false_or, Bool.or_false, Bool.true_and, Bool.and_true, Bool.false_and, Bool.and_false, decide_true, decide_false, Int.reduceEq, Int.reduceLT, Int.reduceLE, Int.reduceNe, Int.reduceAdd, Int.reduceSub, Int.reduceMul, Int.reduceNeg, List.nil_append, List.append_nil, List.cons_append, retC_eq, retAll_nil, retAll_none, retAll_some, Option.bind_some]
  exact .intro ⟨y, rfl, s1.at 0 rfl, hG.frame _ f1 fun t ht e => by have := hy t ht; omega, fun t ht => Nat.le_trans hz2 (hy t ht), s1.fr⟩
noncomputable abbrev C (ρ : Addr → Option Value) (q : Nat) : CallF := evCall (cx ρ) (q + 3)
theorem n4lt (s : St (fun t => t = l) H0 (RL l v e g p n3 n4 n8 x d y) H) : l < H.sz ∧ n4 < H.sz ∧ n8 < H.sz ∧ l ≠ n8 := by
  refine ⟨s.lt' 0 rfl, s.lt' 2 rfl, s.lt' 3 rfl, ?_⟩
  have := s.nd
  simp only [RL, List.map_cons, List.map_nil, List.nodup_cons, List.mem_cons] at this
  exact fun h => this.1 (Or.inr (Or.inr (Or.inl h)))
theorem r6 (s : St (fun t => t = l) H0 (RL l v e g p n3 n4 n8 x d .nils) H) (hx : u64r x) (hd : d.picks = []) (hk : 100 ≤ k) :
    Ret (StepQ H0 l v e g (T6 d x)) (N28_6 ρ (C ρ q) yc 0 k (.ptr l v 0) (.ptr n4 0 0) (.ptr n8 0 0) H (retC (cx ρ) [some 42])) := by
  have g8 := s.at 3 rfl
  have e0 : (d.row .nils)[0]? = some (.int .i64 d.kind) := rfl
  obtain ⟨a1, a2, a3, a4⟩ := n4lt s
  simp only [N28_6, ld1_ptr, g8, ldRow, Nat.zero_add, e0, purK_some, resK_some, boolK_some, condK_true, condK_false, wantV_tt, wantV_tf, wantV_ft, wantV_ff, wantV_t, wantV_f, wantV_skip, Bool.not_true, Bool.not_false, gPur_true, gPur_false, gEff_true, gEff_false, gRes_true, gRes_false, pickA_true, pickA_false, extA_0, extA_1, extA_2, retK_one, retK_none, retK_two, valK_fn, valR_fn, cond_true, cond_false, bin_add, bin_sub, bin_mul, bin_eql, bin_neq, bin_lss, bin_leq, bin_gtr, bin_geq, bin_seql, bin_sneq, un_not_t, un_not_f, un_not, cvI_int, cvT_str, nilChk_ptr, nilChk_xp, addA_ptr, lenT_str, Bool.true_or, Bool.or_true, Bool.false_or, Bool.or_false, Bool.true_and, Bool.and_true, Bool.false_and, Bool.and_false, decide_true, decide_false, Int.reduceEq, Int.reduceLT, Int.reduceLE, Int.reduceNe, Int.reduceAdd, Int.reduceSub, Int.reduceMul, Int.reduceNeg, List.nil_append, List.append_nil, List.cons_append]
  unfold T6
  refine Ret.condD (fun h => ?_) (fun h => ?_)
  · rw [if_pos h]
    refine rb s hx 4 (by decide) (by decide) fun H1 s1 z1 f1 => ?_
    have r4 := bl_range x 4 (by decide)
    obtain ⟨n, hn⟩ : ∃ n : Nat, bl x 4 = n := ⟨(bl x 4).toNat, by omega⟩
    rw [hn, Int.toNat_natCast]
    simp only [N28_8, N28_9]
    refine Ret.ex2 (rpicks_loop (ρ := ρ) (q := q) (k := k) (l := l) (v := v) (e := e) (l4 := n4) (l5 := n8) (z0 := H1.sz) (yc := yc) (g := g) d (by omega) (by omega) a4 _ _ (fun _ _ _ => rfl) n k H1 (nx x) .nils [] (nx_range x) (by omega) (by simp; omega) (Nat.le_refl _) (s1.at 0 rfl) (s1.at 3 rfl) (Grow.nils ..) (fun t q => q.elim)) ?_
    intro H2 y ⟨g1, g2, g3, g4, f2⟩
    have s2 : St (fun t => t = l) H0 (RL l v e g p n3 n4 n8 (pickGo n (nx x)).2 d y) H2 := by
      have nd := s1.nd
      simp only [RL, List.map_cons, List.map_nil, List.nodup_cons, List.mem_cons, List.not_mem_nil, or_false, not_or] at nd
      refine ⟨s1.nd, ?_, ?_, ?_, s1.fr.trans' f2 ?_⟩
      · intro t ht; simp only [RL, List.mem_cons, List.not_mem_nil, or_false] at ht
        have := f2.sz
        have b1 := s1.lt' 0 rfl; have b2 := s1.lt' 1 rfl; have b3 := s1.lt' 2 rfl; have b4 := s1.lt' 3 rfl
        rcases ht with rfl | rfl | rfl | rfl <;> simp only <;> omega
      · intro t ht; simp only [RL, List.mem_cons, List.not_mem_nil, or_false] at ht
        have b2 := s1.lt' 1 rfl; have b3 := s1.lt' 2 rfl
        rcases ht with rfl | rfl | rfl | rfl
        · exact g1
        · simp only; rw [f2.get n3 b2 (by omega)]; exact s1.at 1 rfl
        · simp only; rw [f2.get n4 b3 (by omega)]; exact s1.at 2 rfl
        · exact g2
      · intro t ht; simp only [RL, List.mem_cons, List.not_mem_nil, or_false] at ht
        have b := s1.own
        rcases ht with rfl | rfl | rfl | rfl
        · exact Or.inl rfl
        · exact b (n3, planO p) (by simp)
        · exact b (n4, zO) (by simp)
        · exact b (n8, rowO d .nils) (by simp)
      · intro t ht hq
        have b8 := s1.own (n8, rowO d .nils) (by simp)
        have := s1.fr.sz
        rcases hq with h | h | h
        · exact h
        · rcases b8 with b | b
          · rw [h]; exact b
          · simp only at b; omega
        · omega
    have s3 : St (fun t => t = l) H0 (RL l v e g p n3 n4 n8 (pickGo n (nx x)).2 {d with picks := (pickGo n (nx x)).1} y) H2 := s2
    refine rend s3 (z0 := H1.sz) ?_ (by omega) (by have := s1.fr.sz; omega) g4
    simpa using g3
  · rw [if_neg h]
    exact rend s (z0 := H.sz) (by rw [hd]; exact Grow.nils ..) (by omega) s.fr.sz (fun t q => q.elim)
theorem r5 (s : St (fun t => t = l) H0 (RL l v e g p n3 n4 n8 x d .nils) H) (hx : u64r x) (hd : d.picks = []) (hk : 100 ≤ k) :
    Ret (StepQ H0 l v e g (T5 d x)) (N28_5 ρ (C ρ q) yc 0 k (.ptr l v 0) (.ptr n4 0 0) (.ptr n8 0 0) H (retC (cx ρ) [some 42])) := by
  have g8 := s.at 3 rfl
  have e0 : (d.row .nils)[0]? = some (.int .i64 d.kind) := rfl
  unfold T5
  by_cases h5 : 5 ≤ d.kind
  · by_cases h7 : d.kind ≤ 7
    · rw [if_pos ⟨h5, h7⟩]
      simp only [N28_5, ld1_ptr, g8, ldRow, Nat.zero_add, e0, h5, h7, purK_some, resK_some, boolK_some, condK_true, condK_false, wantV_tt, wantV_tf, wantV_ft, wantV_ff, wantV_t, wantV_f, wantV_skip, Bool.not_true, Bool.not_false, gPur_true, gPur_false, gEff_true, gEff_false, gRes_true, gRes_false, pickA_true, pickA_false, extA_0, extA_1, extA_2, retK_one, retK_none, retK_two, valK_fn, valR_fn, cond_true, cond_false, bin_add, bin_sub, bin_mul, bin_eql, bin_neq, bin_lss, bin_leq, bin_gtr, bin_geq, bin_seql, bin_sneq, un_not_t, un_not_f, un_not, cvI_int, cvT_str, nilChk_ptr, nilChk_xp, addA_ptr, lenT_str, Bool.true_or, Bool.or_true, Bool.false_or, Bool.or_false, Bool.true_and, Bool.and_true, Bool.false_and, Bool.and_false, decide_true, decide_false, Int.reduceEq, Int.reduceLT, Int.reduceLE, Int.reduceNe, Int.reduceAdd, Int.reduceSub, Int.reduceMul, Int.reduceNeg, List.nil_append, List.append_nil, List.cons_append]
      refine rb s hx 8 (by decide) (by decide) fun H1 s1 z1 f1 => ?_
      refine s1.st 3 rfl rfl (show 2 < 8 by decide) fun H2 s2 z2 f2 => ?_
      exact r6 (d := {d with n := bl x 8}) s2 (nx_range x) hd hk
    · rw [if_neg (by omega)]
      simp only [N28_5, ld1_ptr, g8, ldRow, Nat.zero_add, e0, h5, h7, purK_some, resK_some, boolK_some, condK_true, condK_false, wantV_tt, wantV_tf, wantV_ft, wantV_ff, wantV_t, wantV_f, wantV_skip, Bool.not_true, Bool.not_false, gPur_true, gPur_false, gEff_true, gEff_false, gRes_true, gRes_false, pickA_true, pickA_false, extA_0, extA_1, extA_2, retK_one, retK_none, retK_two, valK_fn, valR_fn, cond_true, cond_false, bin_add, bin_sub, bin_mul, bin_eql, bin_neq, bin_lss, bin_leq, bin_gtr, bin_geq, bin_seql, bin_sneq, un_not_t, un_not_f, un_not, cvI_int, cvT_str, nilChk_ptr, nilChk_xp, addA_ptr, lenT_str, Bool.true_or, Bool.or_true, Bool.false_or, Bool.or_false, Bool.true_and, Bool.and_true, Bool.false_and, Bool.and_false, decide_true, decide_false, Int.reduceEq, Int.reduceLT, Int.reduceLE, Int.reduceNe, Int.reduceAdd, Int.reduceSub, Int.reduceMul, Int.reduceNeg, List.nil_append, List.append_nil, List.cons_append]
      exact r6 s hx hd hk
  · rw [if_neg (by omega)]
    simp only [N28_5, ld1_ptr, g8, ldRow, Nat.zero_add, e0, h5, purK_some, resK_some, boolK_some, condK_true, condK_false, wantV_tt, wantV_tf, wantV_ft, wantV_ff, wantV_t, wantV_f, wantV_skip, Bool.not_true, Bool.not_false, gPur_true, gPur_false, gEff_true, gEff_false, gRes_true, gRes_false, pickA_true, pickA_false, extA_0, extA_1, extA_2, retK_one, retK_none, retK_two, valK_fn, valR_fn, cond_true, cond_false, bin_add, bin_sub, bin_mul, bin_eql, bin_neq, bin_lss, bin_leq, bin_gtr, bin_geq, bin_seql, bin_sneq, un_not_t, un_not_f, un_not, cvI_int, cvT_str, nilChk_ptr, nilChk_xp, addA_ptr, lenT_str, Bool.true_or, Bool.or_true, Bool.false_or, Bool.or_false, Bool.true_and, Bool.and_true, Bool.false_and, Bool.and_false, decide_true, decide_false, Int.reduceEq, Int.reduceLT, Int.reduceLE, Int.reduceNe, Int.reduceAdd, Int.reduceSub, Int.reduceMul, Int.reduceNeg, List.nil_append, List.append_nil, List.cons_append]
    exact r6 s hx hd hk
theorem r4 (s : St (fun t => t = l) H0 (RL l v e g p n3 n4 n8 x d .nils) H) (hx : u64r x) (hd : d.picks = []) (hk : 100 ≤ k) :
    Ret (StepQ H0 l v e g (T4 d x)) (N28_4 ρ (C ρ q) yc 0 k (.ptr l v 0) (.ptr n4 0 0) (.ptr n8 0 0) H (retC (cx ρ) [some 42])) := by
  have g8 := s.at 3 rfl
  have e0 : (d.row .nils)[0]? = some (.int .i64 d.kind) := rfl
  unfold T4
  simp only [N28_4, ld1_ptr, g8, ldRow, Nat.zero_add, e0, purK_some, resK_some, boolK_some, condK_true, condK_false, wantV_tt, wantV_tf, wantV_ft, wantV_ff, wantV_t, wantV_f, wantV_skip, Bool.not_true, Bool.not_false, gPur_true, gPur_false, gEff_true, gEff_false, gRes_true, gRes_false, pickA_true, pickA_false, extA_0, extA_1, extA_2, retK_one, retK_none, retK_two, valK_fn, valR_fn, cond_true, cond_false, bin_add, bin_sub, bin_mul, bin_eql, bin_neq, bin_lss, bin_leq, bin_gtr, bin_geq, bin_seql, bin_sneq, un_not_t, un_not_f, un_not, cvI_int, cvT_str, nilChk_ptr, nilChk_xp, addA_ptr, lenT_str, Bool.true_or, Bool.or_true, Bool.false_or, Bool.or_false, Bool.true_and, Bool.and_true, Bool.false_and, Bool.and_false, decide_true, decide_false, Int.reduceEq, Int.reduceLT, Int.reduceLE, Int.reduceNe, Int.reduceAdd, Int.reduceSub, Int.reduceMul, Int.reduceNeg, List.nil_append, List.append_nil, List.cons_append]
  refine Ret.condD (fun h => ?_) (fun h => ?_)
  · rw [if_pos h]
    refine rb s hx 16 (by decide) (by decide) fun H1 s1 z1 f1 => ?_
    have r := bl_range x 16 (by decide)
    have u : wrapK .i64 (1 + bl x 16) = 1 + bl x 16 := wrap_i64 _ (by omega)
    simp only [Nat.zero_add, u, purK_some, resK_some, boolK_some, condK_true, condK_false, wantV_tt, wantV_tf, wantV_ft, wantV_ff, wantV_t, wantV_f, wantV_skip, Bool.not_true, Bool.not_false, gPur_true, gPur_false, gEff_true, gEff_false, gRes_true, gRes_false, pickA_true, pickA_false, extA_0, extA_1, extA_2, retK_one, retK_none, retK_two, valK_fn, valR_fn, cond_true, cond_false, bin_add, bin_sub, bin_mul, bin_eql, bin_neq, bin_lss, bin_leq, bin_gtr, bin_geq, bin_seql, bin_sneq, un_not_t, un_not_f, un_not, cvI_int, cvT_str, nilChk_ptr, nilChk_xp, addA_ptr, lenT_str, Bool.true_or, Bool.or_true, Bool.false_or, Bool.or_false, Bool.true_and, Bool.and_true, Bool.false_and, Bool.and_false, decide_true, decide_false, Int.reduceEq, Int.reduceLT, Int.reduceLE, Int.reduceNe, Int.reduceAdd, Int.reduceSub, Int.reduceMul, Int.reduceNeg, List.nil_append, List.append_nil, List.cons_append]
    refine s1.st 3 rfl rfl (show 2 < 8 by decide) fun H2 s2 z2 f2 => ?_
    exact r5 (d := {d with n := 1 + bl x 16}) s2 (nx_range x) hd hk
  · rw [if_neg h]
    exact r5 s hx hd hk
-- an operation
abbrev opRow (d : StepV) (o : OpD) : StepV := {d with op := o}
theorem r11 (s : St (fun t => t = l) H0 (RL l v e g p n3 n4 n8 x d .nils ++ R) H) (hx : u64r x) {kn : AV → AV → AV → Heap → Res}
    (hn : d.op.n = 0) (hK : ∀ H1 d' x', (d', x') = (if d.op.kind = 3 then (opRow d ⟨d.op.kind, d.op.key, d.op.val, bl x 100⟩, nx x) else (d, x)) → St (fun t => t = l) H0 (RL l v e g p n3 n4 n8 x' d' .nils ++ R) H1 → Ret Q (kn (.ptr l v 0) (.ptr n4 0 0) (.ptr n8 0 0) H1)) :
    Ret Q (N28_11 ρ (C ρ q) yc 0 k (.ptr l v 0) (.ptr n4 0 0) (.ptr n8 0 0) H kn) := by
  have g8 := s.at 3 rfl
  have e0 : (d.row .nils)[3]? = some (.int .i64 d.op.kind) := rfl
  simp only [N28_11, ld1_ptr, g8, ldRow, Nat.zero_add, Nat.add_zero, e0, purK_some, resK_some, boolK_some, condK_true, condK_false, wantV_tt, wantV_tf, wantV_ft, wantV_ff, wantV_t, wantV_f, wantV_skip, Bool.not_true, Bool.not_false, gPur_true, gPur_false, gEff_true, gEff_false, gRes_true, gRes_false, pickA_true, pickA_false, extA_0, extA_1, extA_2, retK_one, retK_none, retK_two, valK_fn, valR_fn, cond_true, cond_false, bin_add, bin_sub, bin_mul, bin_eql, bin_neq, bin_lss, bin_leq, bin_gtr, bin_geq, bin_seql, bin_sneq, un_not_t, un_not_f, un_not, cvI_int, cvT_str, nilChk_ptr, nilChk_xp, addA_ptr, lenT_str, Bool.true_or, Bool.or_true, Bool.false_or, Bool.or_false, Bool.true_and, Bool.and_true, Bool.false_and, Bool.and_false, decide_true, decide_false, Int.reduceEq, Int.reduceLT, Int.reduceLE, Int.reduceNe, Int.reduceAdd, Int.reduceSub, Int.reduceMul, Int.reduceNeg, List.nil_append, List.append_nil, List.cons_append]
  refine Ret.condD (fun h => ?_) (fun h => ?_)
  · refine rb s hx 100 (by decide) (by decide) fun H1 s1 z1 f1 => ?_
    have r := bl_range x 100 (by decide)
    have u : wrapK .u64 (bl x 100) = bl x 100 := wrap_u64 _ (by omega)
    simp only [Nat.zero_add, u, purK_some, resK_some, boolK_some, condK_true, condK_false, wantV_tt, wantV_tf, wantV_ft, wantV_ff, wantV_t, wantV_f, wantV_skip, Bool.not_true, Bool.not_false, gPur_true, gPur_false, gEff_true, gEff_false, gRes_true, gRes_false, pickA_true, pickA_false, extA_0, extA_1, extA_2, retK_one, retK_none, retK_two, valK_fn, valR_fn, cond_true, cond_false, bin_add, bin_sub, bin_mul, bin_eql, bin_neq, bin_lss, bin_leq, bin_gtr, bin_geq, bin_seql, bin_sneq, un_not_t, un_not_f, un_not, cvI_int, cvT_str, nilChk_ptr, nilChk_xp, addA_ptr, lenT_str, Bool.true_or, Bool.or_true, Bool.false_or, Bool.or_false, Bool.true_and, Bool.and_true, Bool.false_and, Bool.and_false, decide_true, decide_false, Int.reduceEq, Int.reduceLT, Int.reduceLE, Int.reduceNe, Int.reduceAdd, Int.reduceSub, Int.reduceMul, Int.reduceNeg, List.nil_append, List.append_nil, List.cons_append]
    refine s1.st 3 rfl rfl (show 6 < 8 by decide) fun H2 s2 z2 f2 => ?_
    exact hK H2 (opRow d ⟨d.op.kind, d.op.key, d.op.val, bl x 100⟩) (nx x) (by rw [if_pos h]) s2
  · exact hK H _ _ (by rw [if_neg h]) s
def T10 (w : UInt8) (d : StepV) (x : Int) : StepV × Int :=
  if d.op.kind = 2 then (opRow d ⟨d.op.kind, rep w 1, rep w (bl x 20).toNat, 0⟩, nx x)
  else if d.op.kind = 3 then (opRow d ⟨d.op.kind, rep w 1, .empty, bl x 100⟩, nx x) else (opRow d ⟨d.op.kind, rep w 1, .empty, 0⟩, x)
theorem r10 {w : UInt8} {kw : Int} (hw : (w.toNat : Int) = kw) (s : St (fun t => t = l) H0 (RL l v e g p n3 n4 n8 x d .nils) H) (hx : u64r x) (hk : 100 ≤ k) {kn : AV → AV → AV → Heap → Res}
    (hn : d.op = ⟨d.op.kind, .empty, .empty, 0⟩) (hK : ∀ H1 d' x', (d', x') = T10 w d x → St (fun t => t = l) H0 (RL l v e g p n3 n4 n8 x' d' .nils) H1 → Ret Q (kn (.ptr l v 0) (.ptr n4 0 0) (.ptr n8 0 0) H1)) :
    Ret Q (N28_10 ρ (C ρ q) yc 0 k (.ptr l v 0) (.ptr n4 0 0) (.ptr n8 0 0) (.int .u8 kw) H kn) := by
  simp only [N28_10, bldOne, purK_some, resK_some, boolK_some, condK_true, condK_false, wantV_tt, wantV_tf, wantV_ft, wantV_ff, wantV_t, wantV_f, wantV_skip, Bool.not_true, Bool.not_false, gPur_true, gPur_false, gEff_true, gEff_false, gRes_true, gRes_false, pickA_true, pickA_false, extA_0, extA_1, extA_2, retK_one, retK_none, retK_two, valK_fn, valR_fn, cond_true, cond_false, bin_add, bin_sub, bin_mul, bin_eql, bin_neq, bin_lss, bin_leq, bin_gtr, bin_geq, bin_seql, bin_sneq, un_not_t, un_not_f, un_not, cvI_int, cvT_str, nilChk_ptr, nilChk_xp, addA_ptr, lenT_str, Bool.true_or, Bool.or_true, Bool.false_or, Bool.or_false, Bool.true_and, Bool.and_true, Bool.false_and, Bool.and_false, decide_true, decide_false, Int.reduceEq, Int.reduceLT, Int.reduceLE, Int.reduceNe, Int.reduceAdd, Int.reduceSub, Int.reduceMul, Int.reduceNeg, List.nil_append, List.append_nil, List.cons_append]
  refine s.newS fun nb H1 s1 hz1 f1 => ?_
  have eb := b2s_one (ρ := ρ) (H := H1) hw (s1.at 4 rfl)
  simp only [eb, Nat.reduceAdd, Nat.zero_add, purK_some, resK_some, boolK_some, condK_true, condK_false, wantV_tt, wantV_tf, wantV_ft, wantV_ff, wantV_t, wantV_f, wantV_skip, Bool.not_true, Bool.not_false, gPur_true, gPur_false, gEff_true, gEff_false, gRes_true, gRes_false, pickA_true, pickA_false, extA_0, extA_1, extA_2, retK_one, retK_none, retK_two, valK_fn, valR_fn, cond_true, cond_false, bin_add, bin_sub, bin_mul, bin_eql, bin_neq, bin_lss, bin_leq, bin_gtr, bin_geq, bin_seql, bin_sneq, un_not_t, un_not_f, un_not, cvI_int, cvT_str, nilChk_ptr, nilChk_xp, addA_ptr, lenT_str, Bool.true_or, Bool.or_true, Bool.false_or, Bool.or_false, Bool.true_and, Bool.and_true, Bool.false_and, Bool.and_false, decide_true, decide_false, Int.reduceEq, Int.reduceLT, Int.reduceLE, Int.reduceNe, Int.reduceAdd, Int.reduceSub, Int.reduceMul, Int.reduceNeg, List.nil_append, List.append_nil, List.cons_append]
  refine (s1.drop).st 3 rfl rfl (show 4 < 8 by decide) fun H2 s2 z2 f2 => ?_
  have s2' : St (fun t => t = l) H0 (RL l v e g p n3 n4 n8 x (opRow d ⟨d.op.kind, rep w 1, d.op.val, d.op.n⟩) .nils) H2 := s2
  have g8 := s2'.at 3 rfl
  have e0 : ((opRow d ⟨d.op.kind, rep w 1, d.op.val, d.op.n⟩).row .nils)[3]? = some (.int .i64 d.op.kind) := rfl
  simp only [ld1_ptr, g8, ldRow, Nat.zero_add, Nat.add_zero, e0, purK_some, resK_some, boolK_some, condK_true, condK_false, wantV_tt, wantV_tf, wantV_ft, wantV_ff, wantV_t, wantV_f, wantV_skip, Bool.not_true, Bool.not_false, gPur_true, gPur_false, gEff_true, gEff_false, gRes_true, gRes_false, pickA_true, pickA_false, extA_0, extA_1, extA_2, retK_one, retK_none, retK_two, valK_fn, valR_fn, cond_true, cond_false, bin_add, bin_sub, bin_mul, bin_eql, bin_neq, bin_lss, bin_leq, bin_gtr, bin_geq, bin_seql, bin_sneq, un_not_t, un_not_f, un_not, cvI_int, cvT_str, nilChk_ptr, nilChk_xp, addA_ptr, lenT_str, Bool.true_or, Bool.or_true, Bool.false_or, Bool.or_false, Bool.true_and, Bool.and_true, Bool.false_and, Bool.and_false, decide_true, decide_false, Int.reduceEq, Int.reduceLT, Int.reduceLE, Int.reduceNe, Int.reduceAdd, Int.reduceSub, Int.reduceMul, Int.reduceNeg, List.nil_append, List.append_nil, List.cons_append]
  have hv : d.op.val = .empty := by rw [hn]
  have hnn : d.op.n = 0 := by rw [hn]
  refine Ret.condD (fun h => ?_) (fun h => ?_)
  · have eb0 : bldS H2 5 1 [.int .u8 0] 0 [] = some (.sl H2.sz 0 0 0 0 false, .new (.cells 0 5 (0, 0) false [])) := rfl
    rw [eb0]
    refine s2'.newS fun n9 H3 s3 hz3 f3 => ?_
    have l9 := s3.lt' 4 rfl
    have g9 := s3.at 4 rfl
    have lts : ∀ q ∈ RL l v e g p n3 n4 n8 (nx x) (opRow d ⟨d.op.kind, rep w 1, d.op.val, d.op.n⟩) .nils, q.1 < n9 := by
      intro t ht; simp only [RL, List.mem_cons, List.not_mem_nil, or_false] at ht
      have b1 := s2'.lt' 0 rfl; have b2 := s2'.lt' 1 rfl; have b3 := s2'.lt' 2 rfl; have b4 := s2'.lt' 3 rfl
      rcases ht with rfl | rfl | rfl | rfl <;> simp only <;> omega
    refine rb (R := [(n3, planO p), (n4, zO), (n8, rowO (opRow d ⟨d.op.kind, rep w 1, d.op.val, d.op.n⟩) .nils)]) s3.drop hx 20 (by decide) (by decide) fun H4 s4 z4 f4 => ?_
    have r := bl_range x 20 (by decide)
    obtain ⟨n, hbn⟩ : ∃ n : Nat, bl x 20 = n := ⟨(bl x 20).toNat, by omega⟩
    rw [hbn]
    have hl9 : l < n9 := lts (l, diceO v e g (nx x)) (by simp)
    have g49 : H4.get n9 = .cells 0 5 (0, 0) false [] := by rw [f4.get _ l9 (by omega), g9]
    have hge : GE H4 5 1 (.sl n9 0 0 0 0 false) (List.replicate 0 [byteCell w]) := Or.inl ⟨rfl, rfl, rfl, rfl, by rw [z4]; exact l9, _, _, _, _, g49, Nat.le_refl _⟩
    have hb : (AV.int .u8 kw) = byteCell w := by rw [← hw]; rfl
    simp only [N28_13, N28_14, hb]
    refine Ret.ex2 (rbytes_loop (ρ := ρ) (k := k) (yc := yc) w _ _ _ n9 _ _ (C ρ q) (fun _ _ _ => rfl) n k 0 H4 _ (by omega) (by omega) (by omega) hge (by intro t ht; exact Nat.le_of_eq ht)) ?_
    intro H5 y ⟨ge, hy, f5⟩
    rw [Nat.zero_add] at ge
    have h00 : H0.sz ≤ n9 := by have := s2'.fr.sz; omega
    have s5 := s4.above f5 lts h00
    have es := b2s_rep (ρ := ρ) ge.toEls ge.notSx
    simp only [N28_12, es, Nat.zero_add, purK_some, resK_some, boolK_some, condK_true, condK_false, wantV_tt, wantV_tf, wantV_ft, wantV_ff, wantV_t, wantV_f, wantV_skip, Bool.not_true, Bool.not_false, gPur_true, gPur_false, gEff_true, gEff_false, gRes_true, gRes_false, pickA_true, pickA_false, extA_0, extA_1, extA_2, retK_one, retK_none, retK_two, valK_fn, valR_fn, cond_true, cond_false, bin_add, bin_sub, bin_mul, bin_eql, bin_neq, bin_lss, bin_leq, bin_gtr, bin_geq, bin_seql, bin_sneq, un_not_t, un_not_f, un_not, cvI_int, cvT_str, nilChk_ptr, nilChk_xp, addA_ptr, lenT_str, Bool.true_or, Bool.or_true, Bool.false_or, Bool.or_false, Bool.true_and, Bool.and_true, Bool.false_and, Bool.and_false, decide_true, decide_false, Int.reduceEq, Int.reduceLT, Int.reduceLE, Int.reduceNe, Int.reduceAdd, Int.reduceSub, Int.reduceMul, Int.reduceNeg, List.nil_append, List.append_nil, List.cons_append]
    refine s5.st 3 rfl rfl (show 5 < 8 by decide) fun H6 s6 z6 f6 => ?_
    have s6' : St (fun t => t = l) H0 (RL l v e g p n3 n4 n8 (nx x) (opRow d ⟨d.op.kind, rep w 1, rep w n, d.op.n⟩) .nils ++ []) H6 := s6
    refine r11 s6' (nx_range x) hnn fun H7 d' x' hd s7 => ?_
    refine hK H7 d' x' ?_ (s7.drop)
    rw [hd]
    unfold T10
    rw [if_pos h, if_neg (show ¬ (opRow d ⟨d.op.kind, rep w 1, rep w n, d.op.n⟩).op.kind = 3 by simp only [h]; decide), hbn, hnn]
    rfl
  · have s2'' : St (fun t => t = l) H0 (RL l v e g p n3 n4 n8 x (opRow d ⟨d.op.kind, rep w 1, d.op.val, d.op.n⟩) .nils ++ []) H2 := s2'
    refine r11 s2'' hx hnn fun H7 d' x' hd s7 => ?_
    refine hK H7 d' x' ?_ (s7.drop)
    rw [hd]
    unfold T10
    rw [if_neg h, hv, hnn]
theorem r3 (s : St (fun t => t = l) H0 (RL l v e g p n3 n4 n8 x d .nils) H) (hx : u64r x) (hd : d.picks = []) (hop : d.op = op0) (hp : p.Ok) (hk : 100 ≤ k) :
    Ret (StepQ H0 l v e g (T3 p.K d x)) (N28_3 ρ (C ρ q) yc 0 k (.ptr l v 0) (.ptr n3 0 0) (.ptr n4 0 0) (.ptr n8 0 0) H (retC (cx ρ) [some 42])) := by
  have g8 := s.at 3 rfl
  have e0 : (d.row .nils)[0]? = some (.int .i64 d.kind) := rfl
  unfold T3
  simp only [N28_3, ld1_ptr, g8, ldRow, Nat.zero_add, e0, purK_some, resK_some, boolK_some, condK_true, condK_false, wantV_tt, wantV_tf, wantV_ft, wantV_ff, wantV_t, wantV_f, wantV_skip, Bool.not_true, Bool.not_false, gPur_true, gPur_false, gEff_true, gEff_false, gRes_true, gRes_false, pickA_true, pickA_false, extA_0, extA_1, extA_2, retK_one, retK_none, retK_two, valK_fn, valR_fn, cond_true, cond_false, bin_add, bin_sub, bin_mul, bin_eql, bin_neq, bin_lss, bin_leq, bin_gtr, bin_geq, bin_seql, bin_sneq, un_not_t, un_not_f, un_not, cvI_int, cvT_str, nilChk_ptr, nilChk_xp, addA_ptr, lenT_str, Bool.true_or, Bool.or_true, Bool.false_or, Bool.or_false, Bool.true_and, Bool.and_true, Bool.false_and, Bool.and_false, decide_true, decide_false, Int.reduceEq, Int.reduceLT, Int.reduceLE, Int.reduceNe, Int.reduceAdd, Int.reduceSub, Int.reduceMul, Int.reduceNeg, List.nil_append, List.append_nil, List.cons_append]
  refine Ret.condD (fun h => ?_) (fun h => ?_)
  · rw [if_pos h]
    refine rb s hx 4 (by decide) (by decide) fun H1 s1 z1 f1 => ?_
    have r := bl_range x 4 (by decide)
    have u : wrapK .i64 (1 + bl x 4) = 1 + bl x 4 := wrap_i64 _ (by omega)
    simp only [Nat.zero_add, Nat.add_zero, u, purK_some, resK_some, boolK_some, condK_true, condK_false, wantV_tt, wantV_tf, wantV_ft, wantV_ff, wantV_t, wantV_f, wantV_skip, Bool.not_true, Bool.not_false, gPur_true, gPur_false, gEff_true, gEff_false, gRes_true, gRes_false, pickA_true, pickA_false, extA_0, extA_1, extA_2, retK_one, retK_none, retK_two, valK_fn, valR_fn, cond_true, cond_false, bin_add, bin_sub, bin_mul, bin_eql, bin_neq, bin_lss, bin_leq, bin_gtr, bin_geq, bin_seql, bin_sneq, un_not_t, un_not_f, un_not, cvI_int, cvT_str, nilChk_ptr, nilChk_xp, addA_ptr, lenT_str, Bool.true_or, Bool.or_true, Bool.false_or, Bool.or_false, Bool.true_and, Bool.and_true, Bool.false_and, Bool.and_false, decide_true, decide_false, Int.reduceEq, Int.reduceLT, Int.reduceLE, Int.reduceNe, Int.reduceAdd, Int.reduceSub, Int.reduceMul, Int.reduceNeg, List.nil_append, List.append_nil, List.cons_append]
    refine s1.st 3 rfl rfl (show 3 < 8 by decide) fun H2 s2 z2 f2 => ?_
    have s2' : St (fun t => t = l) H0 (RL l v e g p n3 n4 n8 (nx x) (opRow d ⟨1 + bl x 4, d.op.key, d.op.val, d.op.n⟩) .nils) H2 := s2
    have g3 := s2'.at 1 rfl
    have ldK : ldC 0 2 (planO p) = some (.int .i64 p.K) := by rw [ldC_cells]; rfl
    simp only [ld1_ptr, g3, ldK, Nat.zero_add, purK_some, resK_some, boolK_some, condK_true, condK_false, wantV_tt, wantV_tf, wantV_ft, wantV_ff, wantV_t, wantV_f, wantV_skip, Bool.not_true, Bool.not_false, gPur_true, gPur_false, gEff_true, gEff_false, gRes_true, gRes_false, pickA_true, pickA_false, extA_0, extA_1, extA_2, retK_one, retK_none, retK_two, valK_fn, valR_fn, cond_true, cond_false, bin_add, bin_sub, bin_mul, bin_eql, bin_neq, bin_lss, bin_leq, bin_gtr, bin_geq, bin_seql, bin_sneq, un_not_t, un_not_f, un_not, cvI_int, cvT_str, nilChk_ptr, nilChk_xp, addA_ptr, lenT_str, Bool.true_or, Bool.or_true, Bool.false_or, Bool.or_false, Bool.true_and, Bool.and_true, Bool.false_and, Bool.and_false, decide_true, decide_false, Int.reduceEq, Int.reduceLT, Int.reduceLE, Int.reduceNe, Int.reduceAdd, Int.reduceSub, Int.reduceMul, Int.reduceNeg, List.nil_append, List.append_nil, List.cons_append]
    have k1 := hp.k1; have k2 := hp.k2
    refine rb s2' (nx_range x) p.K (by omega) (by omega) fun H3 s3 z3 f3 => ?_
    have r2 := bl_range (nx x) p.K (by omega)
    obtain ⟨w1, w2, w3⟩ := letter_nat (nx x) p.K k1 k2
    have u2 : wrapK .i64 (97 + bl (nx x) p.K) = 97 + bl (nx x) p.K := wrap_i64 _ (by omega)
    have u3 : wrapK .u8 (97 + bl (nx x) p.K) = 97 + bl (nx x) p.K := wrap_u8 _ (by omega)
    simp only [u2, u3, purK_some, resK_some, boolK_some, condK_true, condK_false, wantV_tt, wantV_tf, wantV_ft, wantV_ff, wantV_t, wantV_f, wantV_skip, Bool.not_true, Bool.not_false, gPur_true, gPur_false, gEff_true, gEff_false, gRes_true, gRes_false, pickA_true, pickA_false, extA_0, extA_1, extA_2, retK_one, retK_none, retK_two, valK_fn, valR_fn, cond_true, cond_false, bin_add, bin_sub, bin_mul, bin_eql, bin_neq, bin_lss, bin_leq, bin_gtr, bin_geq, bin_seql, bin_sneq, un_not_t, un_not_f, un_not, cvI_int, cvT_str, nilChk_ptr, nilChk_xp, addA_ptr, lenT_str, Bool.true_or, Bool.or_true, Bool.false_or, Bool.or_false, Bool.true_and, Bool.and_true, Bool.false_and, Bool.and_false, decide_true, decide_false, Int.reduceEq, Int.reduceLT, Int.reduceLE, Int.reduceNe, Int.reduceAdd, Int.reduceSub, Int.reduceMul, Int.reduceNeg, List.nil_append, List.append_nil, List.cons_append]
    refine r10 w1 s3 (nx_range _) hk (by rw [hop]; rfl) fun H4 d' x' hdx s4 => ?_
    have key : d'.picks = [] ∧ d' = opRow d (opP p.K x).1 ∧ x' = (opP p.K x).2 ∧ u64r x' := by
      unfold T10 at hdx
      unfold opP
      have ec : 1 + bl x 4 = bl x 4 + 1 := Int.add_comm ..
      simp only [ec] at hdx
      simp only
      split at hdx
      · rename_i h2
        simp only [Prod.mk.injEq] at hdx
        obtain ⟨rfl, rfl⟩ := hdx
        rw [if_pos h2]
        exact ⟨hd, rfl, rfl, nx_range _⟩
      · rename_i h2
        rw [if_neg h2]
        split at hdx
        · rename_i h3
          simp only [Prod.mk.injEq] at hdx
          obtain ⟨rfl, rfl⟩ := hdx
          rw [if_pos h3]
          exact ⟨hd, rfl, rfl, nx_range _⟩
        · rename_i h3
          simp only [Prod.mk.injEq] at hdx
          obtain ⟨rfl, rfl⟩ := hdx
          rw [if_neg h3]
          exact ⟨hd, rfl, rfl, nx_range _⟩
    obtain ⟨key1, key2, key3, key4⟩ := key
    have ee : T4 (opRow d (opP p.K x).1) (opP p.K x).2 = T4 d' x' := by rw [key2, key3]
    show Ret (StepQ H0 l v e g (T4 (opRow d (opP p.K x).1) (opP p.K x).2)) _
    rw [ee]
    exact r4 s4 key4 key1 hk
  · rw [if_neg h]
    exact r4 s hx hd hk
theorem r2 (s : St (fun t => t = l) H0 (RL l v e g p n3 n4 n8 x d .nils) H) (hx : u64r x) (hd : d.picks = []) (hop : d.op = op0) (hp : p.Ok) (hk : 100 ≤ k) :
    Ret (StepQ H0 l v e g (T2 p d x)) (N28_2 ρ (C ρ q) yc 0 k (.ptr l v 0) (.ptr n3 0 0) (.ptr n4 0 0) (.ptr n8 0 0) H (retC (cx ρ) [some 42])) := by
  have g3 := s.at 1 rfl
  have ldS : ldC 0 1 (planO p) = some (.int .i64 p.S) := by rw [ldC_cells]; rfl
  have s1 := hp.s1; have s2 := hp.s2
  unfold T2
  simp only [N28_2, ld1_ptr, g3, ldS, Nat.zero_add, purK_some, resK_some, boolK_some, condK_true, condK_false, wantV_tt, wantV_tf, wantV_ft, wantV_ff, wantV_t, wantV_f, wantV_skip, Bool.not_true, Bool.not_false, gPur_true, gPur_false, gEff_true, gEff_false, gRes_true, gRes_false, pickA_true, pickA_false, extA_0, extA_1, extA_2, retK_one, retK_none, retK_two, valK_fn, valR_fn, cond_true, cond_false, bin_add, bin_sub, bin_mul, bin_eql, bin_neq, bin_lss, bin_leq, bin_gtr, bin_geq, bin_seql, bin_sneq, un_not_t, un_not_f, un_not, cvI_int, cvT_str, nilChk_ptr, nilChk_xp, addA_ptr, lenT_str, Bool.true_or, Bool.or_true, Bool.false_or, Bool.or_false, Bool.true_and, Bool.and_true, Bool.false_and, Bool.and_false, decide_true, decide_false, Int.reduceEq, Int.reduceLT, Int.reduceLE, Int.reduceNe, Int.reduceAdd, Int.reduceSub, Int.reduceMul, Int.reduceNeg, List.nil_append, List.append_nil, List.cons_append]
  refine rb s hx p.S (by omega) (by omega) fun H1 s1 z1 f1 => ?_
  have g8 := s1.at 3 rfl
  have e0 : (d.row .nils)[0]? = some (.int .i64 d.kind) := rfl
  simp only [ld1_ptr, g8, ldRow, Nat.zero_add, e0, purK_some, resK_some, boolK_some, condK_true, condK_false, wantV_tt, wantV_tf, wantV_ft, wantV_ff, wantV_t, wantV_f, wantV_skip, Bool.not_true, Bool.not_false, gPur_true, gPur_false, gEff_true, gEff_false, gRes_true, gRes_false, pickA_true, pickA_false, extA_0, extA_1, extA_2, retK_one, retK_none, retK_two, valK_fn, valR_fn, cond_true, cond_false, bin_add, bin_sub, bin_mul, bin_eql, bin_neq, bin_lss, bin_leq, bin_gtr, bin_geq, bin_seql, bin_sneq, un_not_t, un_not_f, un_not, cvI_int, cvT_str, nilChk_ptr, nilChk_xp, addA_ptr, lenT_str, Bool.true_or, Bool.or_true, Bool.false_or, Bool.or_false, Bool.true_and, Bool.and_true, Bool.false_and, Bool.and_false, decide_true, decide_false, Int.reduceEq, Int.reduceLT, Int.reduceLE, Int.reduceNe, Int.reduceAdd, Int.reduceSub, Int.reduceMul, Int.reduceNeg, List.nil_append, List.append_nil, List.cons_append]
  refine Ret.condD (fun h => ?_) (fun h => ?_)
  · rw [if_pos h]
    refine s1.st 3 rfl rfl (show 1 < 8 by decide) fun H2 s2 z2 f2 => ?_
    exact r3 (d := {d with s := bl x p.S}) s2 (nx_range x) hd hop hp hk
  · rw [if_neg h]
    exact r3 s1 (nx_range x) hd hop hp hk
theorem rstep_T (hp : p.Ok) (x : Int) (hl : l < H0.sz) (hg : H0.get l = .cells v e (0, 0) g [.int .u64 x]) (hx : u64r x) (hk : 200 ≤ k) :
    Ret (StepQ H0 l v e g (T2 p ⟨kindGo p.W 0 (bl x p.W.sum), 0, 0, op0, []⟩ (nx x))) (evCall (cx ρ) k 0 28 [.ptr l v 0, .agg p.cells] H0) := by
  obtain ⟨k, rfl⟩ : ∃ q, k = q + 1 := ⟨k - 1, by omega⟩
  obtain ⟨q, rfl⟩ : ∃ q, k = q + 3 := ⟨k - 3, by omega⟩
  rw [E28]
  have s0 : St (fun t => t = l) H0 [(l, diceO v e g x)] H0 := St.start1 hl hg rfl
  simp only [L28, boxA_agg _ _ _ p.solid, newCells_eq]
  refine s0.newP fun n3 H1 s1 hz1 f1 => ?_
  refine s1.newP fun n4 H2 s2 hz2 f2 => ?_
  have s2' : St (fun t => t = l) H0 [(l, diceO v e g x), (n3, planO p), (n4, zO)] H2 := s2
  simp only [N28_18, N28_19]
  have z : ((0 : Nat) : Int) = 0 := rfl
  have sl := rsum_loop (ρ := ρ) (call := C ρ q) (yc := (evCY (cx ρ) (q + 3)).2) (k := q + 3) (H := H2) hp.w (s2'.at 1 rfl) (.ptr l v 0) (.ptr n4 0 0) (fun x0_1 x3_1 x4_1 x5 H => N28_1 ρ (C ρ q) (evCY (cx ρ) (q + 3)).2 0 (q + 3) x0_1 x3_1 x4_1 x5 H (retC (cx ρ) [some 42])) _ (fun _ _ _ => rfl) 10 0 (q + 3) (by omega) (by omega) (by omega)
  rw [List.take_zero, z, show List.sum ([] : List Int) = 0 from rfl] at sl
  rw [sl]
  have ha := hp.w.all
  have hs := hp.sum
  have hb := bl_range x p.W.sum hs
  simp only [N28_1, newCells_eq]
  refine rb s2' hx p.W.sum hs (by omega) fun H3 s3 z3 f3 => ?_
  have bld0 : bldA [.int .i64 0, .int .i64 0, .int .i64 0, .int .i64 0, .str ByteArray.empty, .str ByteArray.empty, .int .u64 0, .nils] [] = some (.agg Z8) := rfl
  rw [bld0, purK_some]
  refine s3.newP fun n8 H4 s4 hz4 f4 => ?_
  refine s4.stN 3 rfl rfl (by decide) (by decide) fun H5 s5 z5 f5 => ?_
  have s5' : St (fun t => t = l) H0 (RL l v e g p n3 n4 n8 (nx x) ⟨0, 0, 0, op0, []⟩ .nils) H5 := s5
  simp only [N28_15, N28_16]
  have n38 : n3 ≠ n8 := by
    have := s5'.nd
    simp only [RL, List.map_cons, List.map_nil, List.nodup_cons, List.mem_cons] at this
    exact fun h => this.2.1 (Or.inr (Or.inl h))
  have sk := rkind_loop (ρ := ρ) (call := C ρ q) (yc := (evCY (cx ρ) (q + 3)).2) (k := q + 3) (H := H5) hp.w (bl x p.W.sum) (by omega) n38 (.ptr l v 0) (.ptr n4 0 0) (fun x0_1 x3_1 x4_1 x8_2 H => N28_2 ρ (C ρ q) (evCY (cx ρ) (q + 3)).2 0 (q + 3) x0_1 x3_1 x4_1 x8_2 H (retC (cx ρ) [some 42])) (s5'.at 1 rfl) (s5'.at 3 rfl) _ (fun _ _ _ => rfl) 10 0 (q + 3) 0 (by omega) (by omega) (by omega) (by omega) hb.1 (by rw [List.drop_zero]; omega)
  rw [z, List.drop_zero, Int.sub_zero] at sk
  rw [sk]
  have s6 : St (fun t => t = l) H0 (RL l v e g p n3 n4 n8 (nx x) ⟨kindGo p.W 0 (bl x p.W.sum), 0, 0, op0, []⟩ .nils) _ := s5'.put1 3 _ rfl
  exact r2 s6 (nx_range x) rfl rfl hp (by omega)
end
theorem kindGo_range : ∀ (W : List Int) (i : Nat) (a : Int), i + W.length = 10 → 1 ≤ kindGo W i a ∧ kindGo W i a ≤ 10
  | [], i, a, _ => by simp [kindGo]
  | n :: r, i, a, h => by
    rw [kindGo]
    rw [List.length_cons] at h
    split
    · omega
    · have := kindGo_range r (i + 1) (a - n) (by omega)
      exact this
theorem T2_eq (p : PlanD) (hp : p.Ok) (x : Int) : T2 p ⟨kindGo p.W 0 (bl x p.W.sum), 0, 0, op0, []⟩ (nx x) = stepP p x := by
  have hr := kindGo_range p.W 0 (bl x p.W.sum) (by rw [hp.w.1])
  unfold stepP
  generalize kindGo p.W 0 (bl x p.W.sum) = kd at hr
  unfold T2 T3 T4 T5 T6
  simp only
  by_cases h1 : kd = 1
  · subst h1; simp
  by_cases h2 : kd = 2
  · subst h2; simp
  by_cases h3 : kd = 3
  · subst h3; simp
  by_cases h4 : kd = 4
  · subst h4; simp [Int.add_comm]
  by_cases h5 : kd = 5
  · subst h5; simp
  by_cases h6 : kd = 6
  · subst h6; simp
  by_cases h7 : kd = 7
  · subst h7; simp
  have c3 : ¬ kd ≤ 3 := by omega
  have c5 : ¬ (5 ≤ kd ∧ kd ≤ 7) := by omega
  simp only [c3, c5, h1, h2, h3, h4, h5, h6, h7, if_false, or_self]
theorem rstep_spec {ρ : Addr → Option Value} {H : Heap} {l v e : Nat} {g : Bool} {k : Nat} (p : PlanD) (hp : p.Ok) (x : Int) (hl : l < H.sz) (hg : H.get l = .cells v e (0, 0) g [.int .u64 x]) (hx : u64r x) (hk : 200 ≤ k) :
    Ret (StepQ H l v e g (stepP p x)) (evCall (cx ρ) k 0 28 [.ptr l v 0, .agg p.cells] H) := by
  rw [← T2_eq p hp x]
  exact rstep_T hp x hl hg hx hk
end Go.Proofs.Ytcjicmabhejllaa

-- part PsLi
/- A function that is asked of the elements of a slice, one by one. -/
set_option linter.unusedVariables false
set_option linter.unusedSimpArgs false
namespace Go.Proofs.Ytcjicmabhejllaa
attribute [local congr] Go.Ev.cond_congr1
open Go.Ev Go.RowKit
theorem cf_int {α : Type} {ρ : Addr → Option Value} {H : Heap} {x : AV} {g : FuncId} {a c : List AV} (ds : List α) (f : α → AV) (P : α → Bool) (k0 k : Nat)
    (hx : Els ρ H 1 x (ds.map fun d => [f d])) (hlen : ds.length < 4611686018427387904) (hk : k0 + ds.length + 4 ≤ k)
    (hf : ∀ d ∈ ds, ∀ H' k', Fr Nop H H' → k0 ≤ k' → Ret (fun v H'' => v = .bool (P d) ∧ Fr Nop H' H'') (evCall (cx ρ) k' 0 g (a ++ [(f d)] ++ c) H')) :
    Ret (fun v H' => v = .bool (ds.any P) ∧ Fr Nop H H') (evCall (cx ρ) k 0 38 [x, .fn (.func g) a c] H) := by
  obtain ⟨k, rfl⟩ : ∃ q, k = q + 2 := ⟨k - 2, by omega⟩
  have hl : lenS x = some (.int .i64 ds.length) := by have := hx.lenS; rwa [List.length_map] at this
  rw [E38]
  simp only [L38]
  rw [E47]
  simp only [L47, hl, N47_2, N47_3, purK_some, resK_some, boolK_some, condK_true, condK_false, wantV_tt, wantV_tf, wantV_ft, wantV_ff, wantV_t, wantV_f, wantV_skip, Bool.not_true, Bool.not_false, gPur_true, gPur_false, gEff_true, gEff_false, gRes_true, gRes_false, pickA_true, pickA_false, extA_0, extA_1, extA_2, retK_one, retK_none, retK_two, valK_fn, valR_fn, cond_true, cond_false, bin_add, bin_sub, bin_mul, bin_eql, bin_neq, bin_lss, bin_leq, bin_gtr, bin_geq, bin_seql, bin_sneq, un_not_t, un_not_f, un_not, cvI_int, cvT_str, nilChk_ptr, nilChk_xp, addA_ptr, lenT_str, Bool.true_or, Bool.or_true, Bool.false_or, Bool.or_false, Bool.true_and, Bool.and_true, Bool.false_and, Bool.and_false, decide_true, decide_false, Int.reduceEq, Int.reduceLT, Int.reduceLE, Int.reduceNe, Int.reduceAdd, Int.reduceSub, Int.reduceMul, Int.reduceNeg, List.nil_append, List.append_nil, List.cons_append]
  have main : Ret (fun v H' => (∃ j : Nat, v = .int .i64 j ∧ ds.any P = true ∧ Fr Nop H H') ∨ (v = .int .i64 (-1) ∧ ds.any P = false ∧ Fr Nop H H'))
      (loopL (fun (x_1 : AV) H kn => N47_3b ρ (evCall (cx ρ) k) (evCY (cx ρ) k).2 0 k x (.fn (.func g) a c) (.int .i64 ds.length) x_1 H (fun x8 H => kn x8 H) (fun H => N47_1 ρ (evCall (cx ρ) k) (evCY (cx ρ) k).2 0 k H retK) retK) k (.int .i64 0) H) := by
    refine Ret.loop (fun m y H' => ∃ i : Nat, y = .int .i64 i ∧ m = ds.length - i ∧ i ≤ ds.length ∧ Fr Nop H H' ∧ (ds.take i).any P = false) ?_ ds.length k _ H ⟨0, rfl, by omega, by omega, Fr.refl .., by simp⟩ (by omega)
    rintro m y H' kn ⟨i, rfl, hm, hi, fr, hall⟩ next
    simp only [N47_3b, purK_some, resK_some, boolK_some, condK_true, condK_false, wantV_tt, wantV_tf, wantV_ft, wantV_ff, wantV_t, wantV_f, wantV_skip, Bool.not_true, Bool.not_false, gPur_true, gPur_false, gEff_true, gEff_false, gRes_true, gRes_false, pickA_true, pickA_false, extA_0, extA_1, extA_2, retK_one, retK_none, retK_two, valK_fn, valR_fn, cond_true, cond_false, bin_add, bin_sub, bin_mul, bin_eql, bin_neq, bin_lss, bin_leq, bin_gtr, bin_geq, bin_seql, bin_sneq, un_not_t, un_not_f, un_not, cvI_int, cvT_str, nilChk_ptr, nilChk_xp, addA_ptr, lenT_str, Bool.true_or, Bool.or_true, Bool.false_or, Bool.or_false, Bool.true_and, Bool.and_true, Bool.false_and, Bool.and_false, decide_true, decide_false, Int.reduceEq, Int.reduceLT, Int.reduceLE, Int.reduceNe, Int.reduceAdd, Int.reduceSub, Int.reduceMul, Int.reduceNeg, List.nil_append, List.append_nil, List.cons_append]
    refine Ret.condD (fun h => ?_) (fun h => ?_)
    · have hi : i < ds.length := by omega
      have hX := hx.frame0 fr
      have e1 := hX.ix .i64 i (by omega) (by simpa using h)
      rw [Int.toNat_natCast] at e1
      have e2 : ld1 ρ H' (elp 1 x i 0) = some (f ds[i]) := by
        have := hX.ld1 i 0 (by simpa using hi) (by decide)
        rw [this]; simp
      simp only [e1, e2, purK_some, resK_some, boolK_some, condK_true, condK_false, wantV_tt, wantV_tf, wantV_ft, wantV_ff, wantV_t, wantV_f, wantV_skip, Bool.not_true, Bool.not_false, gPur_true, gPur_false, gEff_true, gEff_false, gRes_true, gRes_false, pickA_true, pickA_false, extA_0, extA_1, extA_2, retK_one, retK_none, retK_two, valK_fn, valR_fn, cond_true, cond_false, bin_add, bin_sub, bin_mul, bin_eql, bin_neq, bin_lss, bin_leq, bin_gtr, bin_geq, bin_seql, bin_sneq, un_not_t, un_not_f, un_not, cvI_int, cvT_str, nilChk_ptr, nilChk_xp, addA_ptr, lenT_str, Bool.true_or, Bool.or_true, Bool.false_or, Bool.or_false, Bool.true_and, Bool.and_true, Bool.false_and, Bool.and_false, decide_true, decide_false, Int.reduceEq, Int.reduceLT, Int.reduceLE, Int.reduceNe, Int.reduceAdd, Int.reduceSub, Int.reduceMul, Int.reduceNeg, List.nil_append, List.append_nil, List.cons_append]
      refine Ret.bind (hf ds[i] (List.getElem_mem hi) H' k fr (by omega)) ?_
      rintro v H1 ⟨rfl, f1⟩
      have ht : ds.take (i + 1) = ds.take i ++ [ds[i]] := by rw [List.take_succ_eq_append_getElem hi]
      refine Ret.cond (fun hp => ?_) (fun hp => ?_)
      · refine .intro (Or.inl ⟨i, rfl, ?_, fr.trans f1⟩)
        rw [List.any_eq_true]; exact ⟨ds[i], List.getElem_mem hi, hp⟩
      · have w : wrapK .i64 ((i : Int) + 1) = ((i + 1 : Nat) : Int) := wrap_succN i (by omega)
        simp only [w, purK_some, resK_some, boolK_some, condK_true, condK_false, wantV_tt, wantV_tf, wantV_ft, wantV_ff, wantV_t, wantV_f, wantV_skip, Bool.not_true, Bool.not_false, gPur_true, gPur_false, gEff_true, gEff_false, gRes_true, gRes_false, pickA_true, pickA_false, extA_0, extA_1, extA_2, retK_one, retK_none, retK_two, valK_fn, valR_fn, cond_true, cond_false, bin_add, bin_sub, bin_mul, bin_eql, bin_neq, bin_lss, bin_leq, bin_gtr, bin_geq, bin_seql, bin_sneq, un_not_t, un_not_f, un_not, cvI_int, cvT_str, nilChk_ptr, nilChk_xp, addA_ptr, lenT_str, Bool.true_or, Bool.or_true, Bool.false_or, Bool.or_false, Bool.true_and, Bool.and_true, Bool.false_and, Bool.and_false, decide_true, decide_false, Int.reduceEq, Int.reduceLT, Int.reduceLE, Int.reduceNe, Int.reduceAdd, Int.reduceSub, Int.reduceMul, Int.reduceNeg, List.nil_append, List.append_nil, List.cons_append]
        exact next (m - 1) _ H1 (by omega) ⟨i + 1, rfl, by omega, by omega, fr.trans f1, by rw [ht, List.any_append, hall]; simp [hp]⟩
    · have : i = ds.length := by omega
      subst this
      simp only [N47_1, purK_some, resK_some, boolK_some, condK_true, condK_false, wantV_tt, wantV_tf, wantV_ft, wantV_ff, wantV_t, wantV_f, wantV_skip, Bool.not_true, Bool.not_false, gPur_true, gPur_false, gEff_true, gEff_false, gRes_true, gRes_false, pickA_true, pickA_false, extA_0, extA_1, extA_2, retK_one, retK_none, retK_two, valK_fn, valR_fn, cond_true, cond_false, bin_add, bin_sub, bin_mul, bin_eql, bin_neq, bin_lss, bin_leq, bin_gtr, bin_geq, bin_seql, bin_sneq, un_not_t, un_not_f, un_not, cvI_int, cvT_str, nilChk_ptr, nilChk_xp, addA_ptr, lenT_str, Bool.true_or, Bool.or_true, Bool.false_or, Bool.or_false, Bool.true_and, Bool.and_true, Bool.false_and, Bool.and_false, decide_true, decide_false, Int.reduceEq, Int.reduceLT, Int.reduceLE, Int.reduceNe, Int.reduceAdd, Int.reduceSub, Int.reduceMul, Int.reduceNeg, List.nil_append, List.append_nil, List.cons_append]
      rw [List.take_length] at hall
      exact .intro (Or.inr ⟨rfl, hall, fr⟩)
  refine Ret.bind main ?_
  rintro v H' (⟨j, rfl, hj, fr⟩ | ⟨rfl, hj, fr⟩)
  · have : (0 : Int) ≤ (j : Int) := by omega
    simp only [this, purK_some, resK_some, boolK_some, condK_true, condK_false, wantV_tt, wantV_tf, wantV_ft, wantV_ff, wantV_t, wantV_f, wantV_skip, Bool.not_true, Bool.not_false, gPur_true, gPur_false, gEff_true, gEff_false, gRes_true, gRes_false, pickA_true, pickA_false, extA_0, extA_1, extA_2, retK_one, retK_none, retK_two, valK_fn, valR_fn, cond_true, cond_false, bin_add, bin_sub, bin_mul, bin_eql, bin_neq, bin_lss, bin_leq, bin_gtr, bin_geq, bin_seql, bin_sneq, un_not_t, un_not_f, un_not, cvI_int, cvT_str, nilChk_ptr, nilChk_xp, addA_ptr, lenT_str, Bool.true_or, Bool.or_true, Bool.false_or, Bool.or_false, Bool.true_and, Bool.and_true, Bool.false_and, Bool.and_false, decide_true, decide_false, Int.reduceEq, Int.reduceLT, Int.reduceLE, Int.reduceNe, Int.reduceAdd, Int.reduceSub, Int.reduceMul, Int.reduceNeg, List.nil_append, List.append_nil, List.cons_append]
    exact .intro ⟨by rw [hj], fr⟩
  · have : ¬ (0 : Int) ≤ -1 := by omega
    simp only [this, purK_some, resK_some, boolK_some, condK_true, condK_false, wantV_tt, wantV_tf, wantV_ft, wantV_ff, wantV_t, wantV_f, wantV_skip, Bool.not_true, Bool.not_false, gPur_true, gPur_false, gEff_true, gEff_false, gRes_true, gRes_false, pickA_true, pickA_false, extA_0, extA_1, extA_2, retK_one, retK_none, retK_two, valK_fn, valR_fn, cond_true, cond_false, bin_add, bin_sub, bin_mul, bin_eql, bin_neq, bin_lss, bin_leq, bin_gtr, bin_geq, bin_seql, bin_sneq, un_not_t, un_not_f, un_not, cvI_int, cvT_str, nilChk_ptr, nilChk_xp, addA_ptr, lenT_str, Bool.true_or, Bool.or_true, Bool.false_or, Bool.or_false, Bool.true_and, Bool.and_true, Bool.false_and, Bool.and_false, decide_true, decide_false, Int.reduceEq, Int.reduceLT, Int.reduceLE, Int.reduceNe, Int.reduceAdd, Int.reduceSub, Int.reduceMul, Int.reduceNeg, List.nil_append, List.append_nil, List.cons_append]
    exact .intro ⟨by rw [hj], fr⟩
end Go.Proofs.Ytcjicmabhejllaa

-- part PsM
/- Which plans may be: the program's and the reference's. -/
set_option linter.unusedVariables false
set_option linter.unusedSimpArgs false
namespace Go.Proofs.Ytcjicmabhejllaa
attribute [local congr] Go.Ev.cond_congr1
open Go.Ev Go.RowKit
def oddB (n : Int) : Bool := decide (n < 0) || decide (1000 < n)
def someB (n : Int) : Bool := decide (n ≠ 0)
def okB (p : PlanD) : Bool := decide (1 ≤ p.S) && decide (p.S ≤ 8) && decide (1 ≤ p.K) && decide (p.K ≤ 26) && !(p.W.any oddB) && p.W.any someB
theorem okB_iff (p : PlanD) (hW : p.W.length = 10) : okB p = true ↔ p.Ok := by
  unfold okB
  simp only [Bool.and_eq_true, decide_eq_true_eq, Bool.not_eq_true', List.any_eq_false, List.any_eq_true]
  have key : (∀ x ∈ p.W, ¬ oddB x = true) ↔ ∀ w ∈ p.W, 0 ≤ w ∧ w ≤ 1000 := by
    constructor
    · intro h w hw
      have := h w hw
      simp [oddB] at this; omega
    · intro h w hw
      have := h w hw
      simp [oddB]; omega
  constructor
  · rintro ⟨⟨⟨⟨⟨h1, h2⟩, h3⟩, h4⟩, h5⟩, x, hx, h6⟩
    have hw : Wts p.W := ⟨hW, key.1 h5⟩
    refine ⟨hw, ?_, h1, h2, h3, h4⟩
    have h7 : x ≠ 0 := by simpa [someB] using h6
    have h8 := hw.2 x hx
    have : ∀ l : List Int, (∀ w ∈ l, 0 ≤ w) → x ∈ l → x ≤ l.sum := by
      intro l
      induction l with
      | nil => intro _ h; cases h
      | cons y r ih =>
        intro h hx
        rw [List.sum_cons]
        have hr : 0 ≤ r.sum := by
          clear ih hx
          induction r with
          | nil => simp
          | cons z q ihq => rw [List.sum_cons]; have := h z (by simp); have := ihq (fun w hw => h w (by rcases List.mem_cons.1 hw with e | e <;> simp [e])); omega
        rcases List.mem_cons.1 hx with rfl | hx
        · omega
        · have := ih (fun w hw => h w (List.mem_cons_of_mem _ hw)) hx
          have := h y (by simp)
          omega
    have := this p.W (fun w hw => (key.1 h5 w hw).1) hx
    omega
  · rintro ⟨hw, hs, h1, h2, h3, h4⟩
    refine ⟨⟨⟨⟨⟨h1, h2⟩, h3⟩, h4⟩, key.2 hw.2⟩, ?_⟩
    apply Classical.byContradiction
    intro hn
    have : ∀ l : List Int, (∀ w ∈ l, w = 0) → l.sum = 0 := by
      intro l
      induction l with
      | nil => simp
      | cons y r ih => intro h; rw [List.sum_cons, h y (by simp), ih fun w hw => h w (List.mem_cons_of_mem _ hw)]; rfl
    rw [this p.W (fun w hw => Classical.byContradiction fun h => hn ⟨w, hw, by simp [someB, h]⟩)] at hs
    omega
section
variable {ρ : Addr → Option Value} {k : Nat} {H : Heap}
theorem odd_spec (n : Int) (hk : 1 ≤ k) : Ret (fun v H' => v = .bool (oddB n) ∧ Fr Nop H H') (evCall (cx ρ) k 0 36 ([] ++ [.int .i64 n] ++ []) H) := by
  obtain ⟨k, rfl⟩ : ∃ q, k = q + 1 := ⟨k - 1, by omega⟩
  show Ret _ (evCall (cx ρ) (k + 1) 0 36 [.int .i64 n] H)
  rw [E36]
  unfold oddB
  by_cases h : n < 0
  · simp only [L36, h, purK_some, resK_some, boolK_some, condK_true, condK_false, wantV_tt, wantV_tf, wantV_ft, wantV_ff, wantV_t, wantV_f, wantV_skip, Bool.not_true, Bool.not_false, gPur_true, gPur_false, gEff_true, gEff_false, gRes_true, gRes_false, pickA_true, pickA_false, extA_0, extA_1, extA_2, retK_one, retK_none, retK_two, valK_fn, valR_fn, cond_true, cond_false, bin_add, bin_sub, bin_mul, bin_eql, bin_neq, bin_lss, bin_leq, bin_gtr, bin_geq, bin_seql, bin_sneq, un_not_t, un_not_f, un_not, cvI_int, cvT_str, nilChk_ptr, nilChk_xp, addA_ptr, lenT_str, Bool.true_or, Bool.or_true, Bool.false_or, Bool.or_false, Bool.true_and, Bool.and_true, Bool.false_and, Bool.and_false, decide_true, decide_false, Int.reduceEq, Int.reduceLT, Int.reduceLE, Int.reduceNe, Int.reduceAdd, Int.reduceSub, Int.reduceMul, Int.reduceNeg, List.nil_append, List.append_nil, List.cons_append]
    exact .intro ⟨rfl, Fr.refl ..⟩
  · simp only [L36, h, purK_some, resK_some, boolK_some, condK_true, condK_false, wantV_tt, wantV_tf, wantV_ft, wantV_ff, wantV_t, wantV_f, wantV_skip, Bool.not_true, Bool.not_false, gPur_true, gPur_false, gEff_true, gEff_false, gRes_true, gRes_false, pickA_true, pickA_false, extA_0, extA_1, extA_2, retK_one, retK_none, retK_two, valK_fn, valR_fn, cond_true, cond_false, bin_add, bin_sub, bin_mul, bin_eql, bin_neq, bin_lss, bin_leq, bin_gtr, bin_geq, bin_seql, bin_sneq, un_not_t, un_not_f, un_not, cvI_int, cvT_str, nilChk_ptr, nilChk_xp, addA_ptr, lenT_str, Bool.true_or, Bool.or_true, Bool.false_or, Bool.or_false, Bool.true_and, Bool.and_true, Bool.false_and, Bool.and_false, decide_true, decide_false, Int.reduceEq, Int.reduceLT, Int.reduceLE, Int.reduceNe, Int.reduceAdd, Int.reduceSub, Int.reduceMul, Int.reduceNeg, List.nil_append, List.append_nil, List.cons_append]
    exact .intro ⟨rfl, Fr.refl ..⟩
theorem some_spec (n : Int) (hk : 1 ≤ k) : Ret (fun v H' => v = .bool (someB n) ∧ Fr Nop H H') (evCall (cx ρ) k 0 37 ([] ++ [.int .i64 n] ++ []) H) := by
  obtain ⟨k, rfl⟩ : ∃ q, k = q + 1 := ⟨k - 1, by omega⟩
  show Ret _ (evCall (cx ρ) (k + 1) 0 37 [.int .i64 n] H)
  rw [E37]
  simp only [L37, purK_some, resK_some, boolK_some, condK_true, condK_false, wantV_tt, wantV_tf, wantV_ft, wantV_ff, wantV_t, wantV_f, wantV_skip, Bool.not_true, Bool.not_false, gPur_true, gPur_false, gEff_true, gEff_false, gRes_true, gRes_false, pickA_true, pickA_false, extA_0, extA_1, extA_2, retK_one, retK_none, retK_two, valK_fn, valR_fn, cond_true, cond_false, bin_add, bin_sub, bin_mul, bin_eql, bin_neq, bin_lss, bin_leq, bin_gtr, bin_geq, bin_seql, bin_sneq, un_not_t, un_not_f, un_not, cvI_int, cvT_str, nilChk_ptr, nilChk_xp, addA_ptr, lenT_str, Bool.true_or, Bool.or_true, Bool.false_or, Bool.or_false, Bool.true_and, Bool.and_true, Bool.false_and, Bool.and_false, decide_true, decide_false, Int.reduceEq, Int.reduceLT, Int.reduceLE, Int.reduceNe, Int.reduceAdd, Int.reduceSub, Int.reduceMul, Int.reduceNeg, List.nil_append, List.append_nil, List.cons_append]
  exact .intro ⟨rfl, Fr.refl ..⟩
theorem elsW (p : PlanD) (hW : p.W.length = 10) {n e : Nat} (hn : n < H.sz) (hg : H.get n = .cells 0 e (0, 0) false p.cells) : Els ρ H 1 (.sl n 0 3 10 10 false) (p.W.map fun w => [.int .i64 w]) := by
  refine ⟨by rw [List.length_map, hW], Nat.le_refl _, hn, e, _, _, _, hg, by simp [PlanD.cells, wts_len, hW], ?_⟩
  intro i hi
  rw [List.length_map] at hi
  simp only [PlanD.cells, List.getElem_map]
  rw [show 3 + i * 1 = i + 1 + 1 + 1 by omega]
  simp only [List.drop_succ_cons]
  unfold wts
  rw [← List.map_drop, List.drop_eq_getElem_cons hi]
  rfl
theorem right_spec (p : PlanD) (hW : p.W.length = 10) (hk : 40 ≤ k) : Ret (fun v H' => v = .bool (okB p) ∧ Fr Nop H H') (evCall (cx ρ) k 0 26 [.agg p.cells] H) := by
  obtain ⟨k, rfl⟩ : ∃ q, k = q + 1 := ⟨k - 1, by omega⟩
  rw [E26]
  simp only [L26, boxA_agg _ _ _ p.solid]
  refine (St.start Nop H).newP fun n H1 s hz f => ?_
  have g := s.at 0 rfl
  have ldS : ldC 0 1 (.cells 0 46 (0, 0) false p.cells) = some (.int .i64 p.S) := by rw [ldC_cells]; rfl
  have ldK : ldC 0 2 (.cells 0 46 (0, 0) false p.cells) = some (.int .i64 p.K) := by rw [ldC_cells]; rfl
  unfold okB
  by_cases h1 : 1 ≤ p.S
  · by_cases h2 : p.S ≤ 8
    · by_cases h3 : 1 ≤ p.K
      · by_cases h4 : p.K ≤ 26
        · have sl : slR 1 10 (.ptr n 0 (0 + 3)) none none none = some (.sl n 0 3 10 10 false) := rfl
          simp only [ld1_ptr, g, ldS, ldK, h1, h2, h3, h4, Nat.zero_add, purK_some, resK_some, boolK_some, condK_true, condK_false, wantV_tt, wantV_tf, wantV_ft, wantV_ff, wantV_t, wantV_f, wantV_skip, Bool.not_true, Bool.not_false, gPur_true, gPur_false, gEff_true, gEff_false, gRes_true, gRes_false, pickA_true, pickA_false, extA_0, extA_1, extA_2, retK_one, retK_none, retK_two, valK_fn, valR_fn, cond_true, cond_false, bin_add, bin_sub, bin_mul, bin_eql, bin_neq, bin_lss, bin_leq, bin_gtr, bin_geq, bin_seql, bin_sneq, un_not_t, un_not_f, un_not, cvI_int, cvT_str, nilChk_ptr, nilChk_xp, addA_ptr, lenT_str, Bool.true_or, Bool.or_true, Bool.false_or, Bool.or_false, Bool.true_and, Bool.and_true, Bool.false_and, Bool.and_false, decide_true, decide_false, Int.reduceEq, Int.reduceLT, Int.reduceLE, Int.reduceNe, Int.reduceAdd, Int.reduceSub, Int.reduceMul, Int.reduceNeg, List.nil_append, List.append_nil, List.cons_append]
          rw [Nat.zero_add] at sl
          try simp only [sl, purK_some, resK_some, boolK_some, condK_true, condK_false, wantV_tt, wantV_tf, wantV_ft, wantV_ff, wantV_t, wantV_f, wantV_skip, Bool.not_true, Bool.not_false, gPur_true, gPur_false, gEff_true, gEff_false, gRes_true, gRes_false, pickA_true, pickA_false, extA_0, extA_1, extA_2, retK_one, retK_none, retK_two, valK_fn, valR_fn, cond_true, cond_false, bin_add, bin_sub, bin_mul, bin_eql, bin_neq, bin_lss, bin_leq, bin_gtr, bin_geq, bin_seql, bin_sneq, un_not_t, un_not_f, un_not, cvI_int, cvT_str, nilChk_ptr, nilChk_xp, addA_ptr, lenT_str, Bool.true_or, Bool.or_true, Bool.false_or, Bool.or_false, Bool.true_and, Bool.and_true, Bool.false_and, Bool.and_false, decide_true, decide_false, Int.reduceEq, Int.reduceLT, Int.reduceLE, Int.reduceNe, Int.reduceAdd, Int.reduceSub, Int.reduceMul, Int.reduceNeg, List.nil_append, List.append_nil, List.cons_append]
          have hE := elsW (ρ := ρ) p hW (s.lt' 0 rfl) g
          refine Ret.bind (cf_int (c := []) (a := []) p.W (AV.int .i64) oddB 1 k hE (by omega) (by omega) fun d _ H' k' _ hk' => odd_spec d hk') ?_
          rintro v H2 ⟨rfl, f2⟩
          cases hb : p.W.any oddB
          · simp only [sl, purK_some, resK_some, boolK_some, condK_true, condK_false, wantV_tt, wantV_tf, wantV_ft, wantV_ff, wantV_t, wantV_f, wantV_skip, Bool.not_true, Bool.not_false, gPur_true, gPur_false, gEff_true, gEff_false, gRes_true, gRes_false, pickA_true, pickA_false, extA_0, extA_1, extA_2, retK_one, retK_none, retK_two, valK_fn, valR_fn, cond_true, cond_false, bin_add, bin_sub, bin_mul, bin_eql, bin_neq, bin_lss, bin_leq, bin_gtr, bin_geq, bin_seql, bin_sneq, un_not_t, un_not_f, un_not, cvI_int, cvT_str, nilChk_ptr, nilChk_xp, addA_ptr, lenT_str, Bool.true_or, Bool.or_true, Bool.false_or, Bool.or_false, Bool.true_and, Bool.and_true, Bool.false_and, Bool.and_false, decide_true, decide_false, Int.reduceEq, Int.reduceLT, Int.reduceLE, Int.reduceNe, Int.reduceAdd, Int.reduceSub, Int.reduceMul, Int.reduceNeg, List.nil_append, List.append_nil, List.cons_append]
            refine Ret.bind (cf_int (c := []) (a := []) p.W (AV.int .i64) someB 1 k (hE.frame0 f2) (by omega) (by omega) fun d _ H' k' _ hk' => some_spec d hk') ?_
            rintro v H3 ⟨rfl, f3⟩
            try simp only [purK_some, resK_some, boolK_some, condK_true, condK_false, wantV_tt, wantV_tf, wantV_ft, wantV_ff, wantV_t, wantV_f, wantV_skip, Bool.not_true, Bool.not_false, gPur_true, gPur_false, gEff_true, gEff_false, gRes_true, gRes_false, pickA_true, pickA_false, extA_0, extA_1, extA_2, retK_one, retK_none, retK_two, valK_fn, valR_fn, cond_true, cond_false, bin_add, bin_sub, bin_mul, bin_eql, bin_neq, bin_lss, bin_leq, bin_gtr, bin_geq, bin_seql, bin_sneq, un_not_t, un_not_f, un_not, cvI_int, cvT_str, nilChk_ptr, nilChk_xp, addA_ptr, lenT_str, Bool.true_or, Bool.or_true, Bool.false_or, Bool.or_false, Bool.true_and, Bool.and_true, Bool.false_and, Bool.and_false, decide_true, decide_false, Int.reduceEq, Int.reduceLT, Int.reduceLE, Int.reduceNe, Int.reduceAdd, Int.reduceSub, Int.reduceMul, Int.reduceNeg, List.nil_append, List.append_nil, List.cons_append]
            exact .intro ⟨by try rfl, (f.trans f2).trans f3⟩
          · simp only [sl, purK_some, resK_some, boolK_some, condK_true, condK_false, wantV_tt, wantV_tf, wantV_ft, wantV_ff, wantV_t, wantV_f, wantV_skip, Bool.not_true, Bool.not_false, gPur_true, gPur_false, gEff_true, gEff_false, gRes_true, gRes_false, pickA_true, pickA_false, extA_0, extA_1, extA_2, retK_one, retK_none, retK_two, valK_fn, valR_fn, cond_true, cond_false, bin_add, bin_sub, bin_mul, bin_eql, bin_neq, bin_lss, bin_leq, bin_gtr, bin_geq, bin_seql, bin_sneq, un_not_t, un_not_f, un_not, cvI_int, cvT_str, nilChk_ptr, nilChk_xp, addA_ptr, lenT_str, Bool.true_or, Bool.or_true, Bool.false_or, Bool.or_false, Bool.true_and, Bool.and_true, Bool.false_and, Bool.and_false, decide_true, decide_false, Int.reduceEq, Int.reduceLT, Int.reduceLE, Int.reduceNe, Int.reduceAdd, Int.reduceSub, Int.reduceMul, Int.reduceNeg, List.nil_append, List.append_nil, List.cons_append]
            exact .intro ⟨rfl, f.trans f2⟩
        · simp only [ld1_ptr, g, ldS, ldK, h1, h2, h3, h4, Nat.zero_add, purK_some, resK_some, boolK_some, condK_true, condK_false, wantV_tt, wantV_tf, wantV_ft, wantV_ff, wantV_t, wantV_f, wantV_skip, Bool.not_true, Bool.not_false, gPur_true, gPur_false, gEff_true, gEff_false, gRes_true, gRes_false, pickA_true, pickA_false, extA_0, extA_1, extA_2, retK_one, retK_none, retK_two, valK_fn, valR_fn, cond_true, cond_false, bin_add, bin_sub, bin_mul, bin_eql, bin_neq, bin_lss, bin_leq, bin_gtr, bin_geq, bin_seql, bin_sneq, un_not_t, un_not_f, un_not, cvI_int, cvT_str, nilChk_ptr, nilChk_xp, addA_ptr, lenT_str, Bool.true_or, Bool.or_true, Bool.false_or, Bool.or_false, Bool.true_and, Bool.and_true, Bool.false_and, Bool.and_false, decide_true, decide_false, Int.reduceEq, Int.reduceLT, Int.reduceLE, Int.reduceNe, Int.reduceAdd, Int.reduceSub, Int.reduceMul, Int.reduceNeg, List.nil_append, List.append_nil, List.cons_append]
          exact .intro ⟨rfl, f⟩
      · simp only [ld1_ptr, g, ldS, ldK, h1, h2, h3, Nat.zero_add, purK_some, resK_some, boolK_some, condK_true, condK_false, wantV_tt, wantV_tf, wantV_ft, wantV_ff, wantV_t, wantV_f, wantV_skip, Bool.not_true, Bool.not_false, gPur_true, gPur_false, gEff_true, gEff_false, gRes_true, gRes_false, pickA_true, pickA_false, extA_0, extA_1, extA_2, retK_one, retK_none, retK_two, valK_fn, valR_fn, cond_true, cond_false, bin_add, bin_sub, bin_mul, bin_eql, bin_neq, bin_lss, bin_leq, bin_gtr, bin_geq, bin_seql, bin_sneq, un_not_t, un_not_f, un_not, cvI_int, cvT_str, nilChk_ptr, nilChk_xp, addA_ptr, lenT_str, Bool.true_or, Bool.or_true, Bool.false_or, Bool.or_false, Bool.true_and, Bool.and_true, Bool.false_and, Bool.and_false, decide_true, decide_false, Int.reduceEq, Int.reduceLT, Int.reduceLE, Int.reduceNe, Int.reduceAdd, Int.reduceSub, Int.reduceMul, Int.reduceNeg, List.nil_append, List.append_nil, List.cons_append]
        exact .intro ⟨rfl, f⟩
    · simp only [ld1_ptr, g, ldS, ldK, h1, h2, Nat.zero_add, purK_some, resK_some, boolK_some, condK_true, condK_false, wantV_tt, wantV_tf, wantV_ft, wantV_ff, wantV_t, wantV_f, wantV_skip, Bool.not_true, Bool.not_false, gPur_true, gPur_false, gEff_true, gEff_false, gRes_true, gRes_false, pickA_true, pickA_false, extA_0, extA_1, extA_2, retK_one, retK_none, retK_two, valK_fn, valR_fn, cond_true, cond_false, bin_add, bin_sub, bin_mul, bin_eql, bin_neq, bin_lss, bin_leq, bin_gtr, bin_geq, bin_seql, bin_sneq, un_not_t, un_not_f, un_not, cvI_int, cvT_str, nilChk_ptr, nilChk_xp, addA_ptr, lenT_str, Bool.true_or, Bool.or_true, Bool.false_or, Bool.or_false, Bool.true_and, Bool.and_true, Bool.false_and, Bool.and_false, decide_true, decide_false, Int.reduceEq, Int.reduceLT, Int.reduceLE, Int.reduceNe, Int.reduceAdd, Int.reduceSub, Int.reduceMul, Int.reduceNeg, List.nil_append, List.append_nil, List.cons_append]
      exact .intro ⟨rfl, f⟩
  · simp only [ld1_ptr, g, ldS, ldK, h1, Nat.zero_add, purK_some, resK_some, boolK_some, condK_true, condK_false, wantV_tt, wantV_tf, wantV_ft, wantV_ff, wantV_t, wantV_f, wantV_skip, Bool.not_true, Bool.not_false, gPur_true, gPur_false, gEff_true, gEff_false, gRes_true, gRes_false, pickA_true, pickA_false, extA_0, extA_1, extA_2, retK_one, retK_none, retK_two, valK_fn, valR_fn, cond_true, cond_false, bin_add, bin_sub, bin_mul, bin_eql, bin_neq, bin_lss, bin_leq, bin_gtr, bin_geq, bin_seql, bin_sneq, un_not_t, un_not_f, un_not, cvI_int, cvT_str, nilChk_ptr, nilChk_xp, addA_ptr, lenT_str, Bool.true_or, Bool.or_true, Bool.false_or, Bool.or_false, Bool.true_and, Bool.and_true, Bool.false_and, Bool.and_false, decide_true, decide_false, Int.reduceEq, Int.reduceLT, Int.reduceLE, Int.reduceNe, Int.reduceAdd, Int.reduceSub, Int.reduceMul, Int.reduceNeg, List.nil_append, List.append_nil, List.cons_append]
    exact .intro ⟨rfl, f⟩
theorem sumOk (W : List Int) (hW : W.length = 10) (h : W.any oddB = false) : Wts W := by
  refine ⟨hW, fun w hw => ?_⟩
  rw [List.any_eq_false] at h
  have := h w hw
  simp [oddB] at this; omega
theorem rright_spec (p : PlanD) (hW : p.W.length = 10) (hk : 40 ≤ k) : Ret (fun v H' => v = .bool (okB p) ∧ Fr Nop H H') (evCall (cx ρ) k 0 27 [.agg p.cells] H) := by
  obtain ⟨k, rfl⟩ : ∃ q, k = q + 1 := ⟨k - 1, by omega⟩
  rw [E27]
  simp only [L27, boxA_agg _ _ _ p.solid]
  refine (St.start Nop H).newP fun n H1 s hz f => ?_
  have g := s.at 0 rfl
  have ldS : ldC 0 1 (.cells 0 46 (0, 0) false p.cells) = some (.int .i64 p.S) := by rw [ldC_cells]; rfl
  have ldK : ldC 0 2 (.cells 0 46 (0, 0) false p.cells) = some (.int .i64 p.K) := by rw [ldC_cells]; rfl
  simp only [N27_2, N27_3]
  refine Ret.loop (fun m y H' => ∃ i : Nat, y = (.int .i64 (p.W.take i).sum, .int .i64 i) ∧ m = 10 - i ∧ i ≤ 10 ∧ H' = H1 ∧ (p.W.take i).any oddB = false) ?_ 10 k _ H1 ⟨0, rfl, rfl, by omega, rfl, by simp⟩ (by omega)
  rintro m y H' kn ⟨i, rfl, hm, hi, rfl, hall⟩ next
  by_cases hl : i < 10
  · have hl' : i < p.W.length := by rw [hW]; exact hl
    have h : (i : Int) < 10 := by omega
    have e1 := ixRW n 0 i hl
    have e4 := ldW p 46 i hl'
    have e3 : wrapK .i64 ((i : Int) + 1) = ((i + 1 : Nat) : Int) := wrap_succN i (by omega)
    have ht : (p.W.take (i + 1)).any oddB = oddB p.W[i] := by rw [List.take_succ_eq_append_getElem hl', List.any_append, hall]; simp
    have bad : oddB p.W[i] = true → okB p = false := by
      intro hb
      have : p.W.any oddB = true := by rw [List.any_eq_true]; exact ⟨_, List.getElem_mem hl', hb⟩
      unfold okB; rw [this]; simp
    by_cases h1 : p.W[i] < 0
    · simp only [N27_3b, h, e1, ld1_ptr, g, e4, h1, Nat.zero_add, purK_some, resK_some, boolK_some, condK_true, condK_false, wantV_tt, wantV_tf, wantV_ft, wantV_ff, wantV_t, wantV_f, wantV_skip, Bool.not_true, Bool.not_false, gPur_true, gPur_false, gEff_true, gEff_false, gRes_true, gRes_false, pickA_true, pickA_false, extA_0, extA_1, extA_2, retK_one, retK_none, retK_two, valK_fn, valR_fn, cond_true, cond_false, bin_add, bin_sub, bin_mul, bin_eql, bin_neq, bin_lss, bin_leq, bin_gtr, bin_geq, bin_seql, bin_sneq, un_not_t, un_not_f, un_not, cvI_int, cvT_str, nilChk_ptr, nilChk_xp, addA_ptr, lenT_str, Bool.true_or, Bool.or_true, Bool.false_or, Bool.or_false, Bool.true_and, Bool.and_true, Bool.false_and, Bool.and_false, decide_true, decide_false, Int.reduceEq, Int.reduceLT, Int.reduceLE, Int.reduceNe, Int.reduceAdd, Int.reduceSub, Int.reduceMul, Int.reduceNeg, List.nil_append, List.append_nil, List.cons_append]
      exact .intro ⟨by rw [bad (by simp [oddB, h1])], f⟩
    · by_cases h2 : 1000 < p.W[i]
      · simp only [N27_3b, h, e1, ld1_ptr, g, e4, h1, h2, Nat.zero_add, purK_some, resK_some, boolK_some, condK_true, condK_false, wantV_tt, wantV_tf, wantV_ft, wantV_ff, wantV_t, wantV_f, wantV_skip, Bool.not_true, Bool.not_false, gPur_true, gPur_false, gEff_true, gEff_false, gRes_true, gRes_false, pickA_true, pickA_false, extA_0, extA_1, extA_2, retK_one, retK_none, retK_two, valK_fn, valR_fn, cond_true, cond_false, bin_add, bin_sub, bin_mul, bin_eql, bin_neq, bin_lss, bin_leq, bin_gtr, bin_geq, bin_seql, bin_sneq, un_not_t, un_not_f, un_not, cvI_int, cvT_str, nilChk_ptr, nilChk_xp, addA_ptr, lenT_str, Bool.true_or, Bool.or_true, Bool.false_or, Bool.or_false, Bool.true_and, Bool.and_true, Bool.false_and, Bool.and_false, decide_true, decide_false, Int.reduceEq, Int.reduceLT, Int.reduceLE, Int.reduceNe, Int.reduceAdd, Int.reduceSub, Int.reduceMul, Int.reduceNeg, List.nil_append, List.append_nil, List.cons_append]
        exact .intro ⟨by rw [bad (by simp [oddB, h2])], f⟩
      · have hs : 0 ≤ (p.W.take i).sum ∧ (p.W.take i).sum ≤ 1000 * i := by
          have aux : ∀ j : Nat, j ≤ i → 0 ≤ (p.W.take j).sum ∧ (p.W.take j).sum ≤ 1000 * j := by
            intro j
            induction j with
            | zero => intro _; simp
            | succ j ih =>
              intro hj
              have hjl : j < p.W.length := by omega
              have := ih (by omega)
              rw [sum_take p.W j hjl]
              rw [List.any_eq_false] at hall
              have hb := hall p.W[j] (List.mem_take_iff_getElem.2 ⟨j, by omega, rfl⟩)
              simp [oddB] at hb
              omega
          exact aux i (Nat.le_refl _)
        have e2 : wrapK .i64 ((p.W.take i).sum + p.W[i]) = (p.W.take (i + 1)).sum := by rw [sum_take p.W i hl', wrap_i64]; omega
        simp only [N27_3b, h, e1, ld1_ptr, g, e4, h1, h2, e2, e3, Nat.zero_add, purK_some, resK_some, boolK_some, condK_true, condK_false, wantV_tt, wantV_tf, wantV_ft, wantV_ff, wantV_t, wantV_f, wantV_skip, Bool.not_true, Bool.not_false, gPur_true, gPur_false, gEff_true, gEff_false, gRes_true, gRes_false, pickA_true, pickA_false, extA_0, extA_1, extA_2, retK_one, retK_none, retK_two, valK_fn, valR_fn, cond_true, cond_false, bin_add, bin_sub, bin_mul, bin_eql, bin_neq, bin_lss, bin_leq, bin_gtr, bin_geq, bin_seql, bin_sneq, un_not_t, un_not_f, un_not, cvI_int, cvT_str, nilChk_ptr, nilChk_xp, addA_ptr, lenT_str, Bool.true_or, Bool.or_true, Bool.false_or, Bool.or_false, Bool.true_and, Bool.and_true, Bool.false_and, Bool.and_false, decide_true, decide_false, Int.reduceEq, Int.reduceLT, Int.reduceLE, Int.reduceNe, Int.reduceAdd, Int.reduceSub, Int.reduceMul, Int.reduceNeg, List.nil_append, List.append_nil, List.cons_append]
        exact next (m - 1) _ H' (by omega) ⟨i + 1, rfl, by omega, by omega, rfl, by rw [ht]; simp [oddB, h1, h2]⟩
  · obtain rfl : i = 10 := by omega
    have h : ¬ ((10 : Nat) : Int) < 10 := by omega
    have htk : p.W.take 10 = p.W := List.take_of_length_le (by omega)
    rw [htk] at hall ⊢
    have hw := sumOk p.W hW hall
    have hsum : decide (0 < p.W.sum) = p.W.any someB := by
      have h0 := hw.all
      rw [Bool.eq_iff_iff, decide_eq_true_eq]
      constructor
      · intro hp
        apply Classical.byContradiction
        intro hn
        rw [Bool.not_eq_true, List.any_eq_false] at hn
        have : ∀ l : List Int, (∀ w ∈ l, w = 0) → l.sum = 0 := by
          intro l
          induction l with
          | nil => simp
          | cons y r ih => intro h; rw [List.sum_cons, h y (by simp), ih fun w hw => h w (List.mem_cons_of_mem _ hw)]; rfl
        rw [this p.W (fun w hw => by have := hn w hw; simpa [someB] using this)] at hp
        omega
      · intro hs
        have := (okB_iff ⟨0, 1, 1, p.W⟩ hW).1 (by unfold okB; simp [hall, hs])
        exact this.sum
    have fin : okB p = (decide (0 < p.W.sum) && (decide (1 ≤ p.S) && (decide (p.S ≤ 8) && (decide (1 ≤ p.K) && decide (p.K ≤ 26))))) := by
      unfold okB
      rw [hall, hsum]
      simp only [Bool.not_false, Bool.and_true, Bool.and_assoc]
      rw [Bool.and_comm (p.W.any someB)]
      simp only [Bool.and_assoc]
    rw [fin]
    by_cases h0 : 0 < p.W.sum
    · by_cases h1 : 1 ≤ p.S
      · by_cases h2 : p.S ≤ 8
        · by_cases h3 : 1 ≤ p.K
          · simp only [N27_3b, N27_1, h, h0, h1, h2, h3, ld1_ptr, g, ldS, ldK, Nat.zero_add, purK_some, resK_some, boolK_some, condK_true, condK_false, wantV_tt, wantV_tf, wantV_ft, wantV_ff, wantV_t, wantV_f, wantV_skip, Bool.not_true, Bool.not_false, gPur_true, gPur_false, gEff_true, gEff_false, gRes_true, gRes_false, pickA_true, pickA_false, extA_0, extA_1, extA_2, retK_one, retK_none, retK_two, valK_fn, valR_fn, cond_true, cond_false, bin_add, bin_sub, bin_mul, bin_eql, bin_neq, bin_lss, bin_leq, bin_gtr, bin_geq, bin_seql, bin_sneq, un_not_t, un_not_f, un_not, cvI_int, cvT_str, nilChk_ptr, nilChk_xp, addA_ptr, lenT_str, Bool.true_or, Bool.or_true, Bool.false_or, Bool.or_false, Bool.true_and, Bool.and_true, Bool.false_and, Bool.and_false, decide_true, decide_false, Int.reduceEq, Int.reduceLT, Int.reduceLE, Int.reduceNe, Int.reduceAdd, Int.reduceSub, Int.reduceMul, Int.reduceNeg, List.nil_append, List.append_nil, List.cons_append]
            exact .intro ⟨rfl, f⟩
          · simp only [N27_3b, N27_1, h, h0, h1, h2, h3, ld1_ptr, g, ldS, ldK, Nat.zero_add, purK_some, resK_some, boolK_some, condK_true, condK_false, wantV_tt, wantV_tf, wantV_ft, wantV_ff, wantV_t, wantV_f, wantV_skip, Bool.not_true, Bool.not_false, gPur_true, gPur_false, gEff_true, gEff_false, gRes_true, gRes_false, pickA_true, pickA_false, extA_0, extA_1, extA_2, retK_one, retK_none, retK_two, valK_fn, valR_fn, cond_true, cond_false, bin_add, bin_sub, bin_mul, bin_eql, bin_neq, bin_lss, bin_leq, bin_gtr, bin_geq, bin_seql, bin_sneq, un_not_t, un_not_f, un_not, cvI_int, cvT_str, nilChk_ptr, nilChk_xp, addA_ptr, lenT_str, Bool.true_or, Bool.or_true, Bool.false_or, Bool.or_false, Bool.true_and, Bool.and_true, Bool.false_and, Bool.and_false, decide_true, decide_false, Int.reduceEq, Int.reduceLT, Int.reduceLE, Int.reduceNe, Int.reduceAdd, Int.reduceSub, Int.reduceMul, Int.reduceNeg, List.nil_append, List.append_nil, List.cons_append]
            exact .intro ⟨rfl, f⟩
        · simp only [N27_3b, N27_1, h, h0, h1, h2, ld1_ptr, g, ldS, ldK, Nat.zero_add, purK_some, resK_some, boolK_some, condK_true, condK_false, wantV_tt, wantV_tf, wantV_ft, wantV_ff, wantV_t, wantV_f, wantV_skip, Bool.not_true, Bool.not_false, gPur_true, gPur_false, gEff_true, gEff_false, gRes_true, gRes_false, pickA_true, pickA_false, extA_0, extA_1, extA_2, retK_one, retK_none, retK_two, valK_fn, valR_fn, cond_true, cond_false, bin_add, bin_sub, bin_mul, bin_eql, bin_neq, bin_lss, bin_leq, bin_gtr, bin_geq, bin_seql, bin_sneq, un_not_t, un_not_f, un_not, cvI_int, cvT_str, nilChk_ptr, nilChk_xp, addA_ptr, lenT_str, Bool.true_or, Bool.or_true, Bool.false_or, Bool.or_false, Bool.true_and, Bool.and_true, Bool.false_and, Bool.and_false, decide_true, decide_false, Int.reduceEq, Int.reduceLT, Int.reduceLE, Int.reduceNe, Int.reduceAdd, Int.reduceSub, Int.reduceMul, Int.reduceNeg, List.nil_append, List.append_nil, List.cons_append]
          exact .intro ⟨rfl, f⟩
      · simp only [N27_3b, N27_1, h, h0, h1, ld1_ptr, g, ldS, ldK, Nat.zero_add, purK_some, resK_some, boolK_some, condK_true, condK_false, wantV_tt, wantV_tf, wantV_ft, wantV_ff, wantV_t, wantV_f, wantV_skip, Bool.not_true, Bool.not_false, gPur_true, gPur_false, gEff_true, gEff_false, gRes_true, gRes_false, pickA_true, pickA_false, extA_0, extA_1, extA_2, retK_one, retK_none, retK_two, valK_fn, valR_fn, cond_true, cond_false, bin_add, bin_sub, bin_mul, bin_eql, bin_neq, bin_lss, bin_leq, bin_gtr, bin_geq, bin_seql, bin_sneq, un_not_t, un_not_f, un_not, cvI_int, cvT_str, nilChk_ptr, nilChk_xp, addA_ptr, lenT_str, Bool.true_or, Bool.or_true, Bool.false_or, Bool.or_false, Bool.true_and, Bool.and_true, Bool.false_and, Bool.and_false, decide_true, decide_false, Int.reduceEq, Int.reduceLT, Int.reduceLE, Int.reduceNe, Int.reduceAdd, Int.reduceSub, Int.reduceMul, Int.reduceNeg, List.nil_append, List.append_nil, List.cons_append]
        exact .intro ⟨rfl, f⟩
    · simp only [N27_3b, N27_1, h, h0, ld1_ptr, g, ldS, ldK, Nat.zero_add, purK_some, resK_some, boolK_some, condK_true, condK_false, wantV_tt, wantV_tf, wantV_ft, wantV_ff, wantV_t, wantV_f, wantV_skip, Bool.not_true, Bool.not_false, gPur_true, gPur_false, gEff_true, gEff_false, gRes_true, gRes_false, pickA_true, pickA_false, extA_0, extA_1, extA_2, retK_one, retK_none, retK_two, valK_fn, valR_fn, cond_true, cond_false, bin_add, bin_sub, bin_mul, bin_eql, bin_neq, bin_lss, bin_leq, bin_gtr, bin_geq, bin_seql, bin_sneq, un_not_t, un_not_f, un_not, cvI_int, cvT_str, nilChk_ptr, nilChk_xp, addA_ptr, lenT_str, Bool.true_or, Bool.or_true, Bool.false_or, Bool.or_false, Bool.true_and, Bool.and_true, Bool.false_and, Bool.and_false, decide_true, decide_false, Int.reduceEq, Int.reduceLT, Int.reduceLE, Int.reduceNe, Int.reduceAdd, Int.reduceSub, Int.reduceMul, Int.reduceNeg, List.nil_append, List.append_nil, List.cons_append]
      exact .intro ⟨rfl, f⟩
end
end Go.Proofs.Ytcjicmabhejllaa

-- part PsN
/- Schedules: the program's, the reference's; whether two are the same. -/
set_option linter.unusedVariables false
set_option linter.unusedSimpArgs false
namespace Go.Proofs.Ytcjicmabhejllaa
attribute [local congr] Go.Ev.cond_congr1
open Go.Ev Go.RowKit
def orow (q : StepV × AV) : List AV := q.1.row q.2
/-- Steps in a slice, each with its picks. -/
def RowsS (ρ : Addr → Option Value) (H : Heap) (x : AV) (ps : List (StepV × AV)) : Prop := Els ρ H 8 x (ps.map orow) ∧ ∀ q ∈ ps, Els ρ H 1 q.2 (prow q.1.picks)
/-- .. which grows behind z. -/
structure PL (H : Heap) (z : Nat) (y : AV) (ps : List (StepV × AV)) : Prop where
  out : GE H 42 8 y (ps.map orow)
  own : ∀ t, y.lies t → z ≤ t
  ins : ∀ q ∈ ps, Grow H 3 1 q.2 (prow q.1.picks) ∧ ∀ t, q.2.lies t → z ≤ t ∧ ¬ y.lies t
theorem PL.rows {ρ : Addr → Option Value} {H : Heap} {z : Nat} {y : AV} {ps : List (StepV × AV)} (h : PL H z y ps) : RowsS ρ H y ps := ⟨h.out.toEls, fun q hq => (h.ins q hq).1.toEls⟩
theorem PL.frame {H H' : Heap} {z : Nat} {y : AV} {ps : List (StepV × AV)} (h : PL H z y ps) {S : Nat → Prop} (f : Fr S H H') (hs : ∀ t, z ≤ t → ¬ S t) : PL H' z y ps :=
  ⟨h.out.frame S f fun t ht => hs t (h.own t ht), h.own, fun q hq => ⟨(h.ins q hq).1.frame S f fun t ht => hs t ((h.ins q hq).2 t ht).1, (h.ins q hq).2⟩⟩
theorem PL.frame0 {H H' : Heap} {z : Nat} {y : AV} {ps : List (StepV × AV)} (h : PL H z y ps) (f : Fr Nop H H') : PL H' z y ps := h.frame f fun _ _ q => q
theorem RowsS.frame0 {ρ : Addr → Option Value} {H H' : Heap} {x : AV} {ps : List (StepV × AV)} (h : RowsS ρ H x ps) (f : Fr Nop H H') : RowsS ρ H' x ps := ⟨h.1.frame0 f, fun q hq => (h.2 q hq).frame0 f⟩
theorem orow_solid (q : StepV × AV) (h : scal q.2 = true) : (orow q).all AV.solid = true := q.1.row_solid h
theorem PL.push {ρ : Addr → Option Value} {Q : AV → Heap → Prop} {K : AV → Heap → Res} {H : Heap} {z : Nat} {y y1 : AV} {ps : List (StepV × AV)} {d : StepV} (h : PL H z y ps) (hy : Grow H 3 1 y1 (prow d.picks)) (ho : ∀ t, y1.lies t → z ≤ t ∧ ¬ y.lies t) (hz : z ≤ H.sz) (hl : ps.length < 20000)
    (hk : ∀ y' H', PL H' z y' (ps ++ [(d, y1)]) → Fr (fun t => z ≤ t) H H' → Ret Q (K y' H')) :
    Ret Q (effK H (bldS H 42 8 Z8 1 [(0, 8, .agg (d.row y1))]) fun x70 H => effK H (apA ρ 0 H 42 8 96 y x70) K) := by
  have hs := d.row_solid (Grow.scal hy).1
  rw [bldS_1 H 42 8 Z8 (d.row y1) rfl rfl hs, effK_new]
  have f1 : Fr Nop H (H.new (.cells 0 42 (0, 0) false (d.row y1))) := Fr.new Nop H _
  have hlt : ∀ (x : AV) els, GE H 42 8 x els → ∀ t, x.lies t → t < H.sz := fun x els hG t ht => (hG.toEls (ρ := ρ)).lies_lt t ht
  have el : Els ρ (H.new (.cells 0 42 (0, 0) false (d.row y1))) 8 (.sl H.sz 0 0 1 1 false) [d.row y1] := Els.of_cells (els := [d.row y1]) (e := 42) (fr := (0, 0)) (g := false) (by rw [szn]; omega) (by rw [Heap.get_new_same]; simp) (by intro r hr; simp at hr; subst hr; rfl)
  refine Ret.appE (h.out.frame Nop f1 fun _ _ q => q) el (by simp) (by intro r hr; simp at hr; subst hr; exact hs) (by simp; omega) (by simp; omega) ?_
  intro y' H' G' f' hy'
  have f02 : Fr y.lies H H' := (f1.mono fun t _ q => q.elim : Fr y.lies H _).trans f'
  refine hk y' H' ⟨?_, ?_, ?_⟩ (f02.mono fun t _ q => h.own t q)
  · simp only [List.map_append, List.map_cons, List.map_nil, orow]; exact G'
  · intro t ht
    rcases hy' t ht with q | q
    · exact h.own t q
    · rw [szn] at q; omega
  · intro q hq
    have aux : ∀ yq els, Grow H 3 1 yq els → (∀ t, yq.lies t → z ≤ t ∧ ¬ y.lies t) → Grow H' 3 1 yq els ∧ ∀ t, yq.lies t → z ≤ t ∧ ¬ y'.lies t := by
      intro yq els hG hn
      refine ⟨hG.frame _ f02 fun t ht => (hn t ht).2, fun t ht => ⟨(hn t ht).1, fun h' => ?_⟩⟩
      rcases hy' t h' with e | e
      · exact (hn t ht).2 e
      · rw [szn] at e
        have := (hG.toEls (ρ := ρ)).lies_lt t ht
        omega
    rcases List.mem_append.1 hq with hq | hq
    · exact aux _ _ (h.ins q hq).1 (h.ins q hq).2
    · simp at hq; subst hq
      exact aux _ _ hy ho
/-- So many steps of a plan. -/
def stepsP (p : PlanD) : Nat → Int → List StepV
  | 0, _ => []
  | n + 1, x => (stepP p x).1 :: stepsP p n (stepP p x).2
def stateP (p : PlanD) : Nat → Int → Int
  | 0, x => x
  | n + 1, x => stateP p n (stepP p x).2
theorem stepsP_succ (p : PlanD) : ∀ (n : Nat) (x : Int), stepsP p (n + 1) x = stepsP p n x ++ [(stepP p (stateP p n x)).1]
  | 0, x => rfl
  | n + 1, x => by rw [stepsP, stepsP_succ p n, stepsP, List.cons_append]; rfl
theorem stateP_succ (p : PlanD) : ∀ (n : Nat) (x : Int), stateP p (n + 1) x = (stepP p (stateP p n x)).2
  | 0, x => rfl
  | n + 1, x => by rw [stateP, stateP_succ p n]; rfl
theorem stepsP_len (p : PlanD) : ∀ (n : Nat) (x : Int), (stepsP p n x).length = n
  | 0, x => rfl
  | n + 1, x => by rw [stepsP, List.length_cons, stepsP_len]
theorem stepsP_take (p : PlanD) : ∀ (m n : Nat) (x : Int), m ≤ n → (stepsP p n x).take m = stepsP p m x
  | 0, n, x, _ => by simp [stepsP]
  | m + 1, 0, x, h => by omega
  | m + 1, n + 1, x, h => by rw [stepsP, stepsP, List.take_succ_cons, stepsP_take p m n _ (by omega)]
theorem pickGo_range : ∀ (n : Nat) (x : Int), u64r x → u64r (pickGo n x).2
  | 0, x, h => h
  | n + 1, x, _ => pickGo_range n (nx x) (nx_range x)
theorem opP_range (K x : Int) (hx : u64r x) : u64r (opP K x).2 := by
  unfold opP; simp only
  split
  · exact nx_range _
  · split <;> exact nx_range _
theorem stepP_range (p : PlanD) (x : Int) (hx : u64r x) : u64r (stepP p x).2 := by
  unfold stepP; simp only
  split
  · exact opP_range _ _ (nx_range _)
  split
  · exact nx_range _
  split
  · exact nx_range _
  split
  · exact nx_range _
  split
  · exact pickGo_range _ _ (nx_range _)
  · exact nx_range _
theorem stateP_range (p : PlanD) : ∀ (n : Nat) (x : Int), u64r x → u64r (stateP p n x)
  | 0, x, h => h
  | n + 1, x, h => stateP_range p n _ (stepP_range p x h)
section
variable {ρ : Addr → Option Value} {k : Nat} {H : Heap}
theorem ldPl (p : PlanD) (hW : p.W.length = 10) : ldCN 13 0 0 (.cells 0 46 (0, 0) false p.cells) = some (.agg p.cells) := by
  have : p.cells.length = 13 := by simp [PlanD.cells, wts_len, hW]
  rw [ldCN_cells _ _ _ _ _ _ _ (by omega), List.drop_zero, List.take_of_length_le (by omega)]
theorem steps_spec (p : PlanD) (hW : p.W.length = 10) (hx : u64r p.seed) (n : Int) (hk : 300 ≤ k) (hn : n ≤ 10000 → n.toNat + 10 ≤ k) :
    Ret (fun v H' => (okB p = false ∧ v = .tup [.nils, .int .i64 1] ∧ Fr Nop H H') ∨ (okB p = true ∧ (n < 0 ∨ 10000 < n) ∧ v = .tup [.nils, .int .i64 5] ∧ Fr Nop H H') ∨
      (okB p = true ∧ 0 ≤ n ∧ n ≤ 10000 ∧ ∃ y ps, v = .tup [y, .int .i64 0] ∧ PL H' H.sz y ps ∧ ps.map Prod.fst = stepsP p n.toNat p.seed ∧ Fr Nop H H')) (evCall (cx ρ) k 0 25 [.agg p.cells, .int .i64 n] H) := by
  obtain ⟨k, rfl⟩ : ∃ q, k = q + 1 := ⟨k - 1, by omega⟩
  rw [E25]
  simp only [L25, boxA_agg _ _ _ p.solid]
  refine (St.start Nop H).newP fun n2 H1 s1 hz f1 => ?_
  simp only [ldN_ptr, s1.at 0 rfl, ldPl p hW, purK_some, resK_some, boolK_some, condK_true, condK_false, wantV_tt, wantV_tf, wantV_ft, wantV_ff, wantV_t, wantV_f, wantV_skip, Bool.not_true, Bool.not_false, gPur_true, gPur_false, gEff_true, gEff_false, gRes_true, gRes_false, pickA_true, pickA_false, extA_0, extA_1, extA_2, retK_one, retK_none, retK_two, valK_fn, valR_fn, cond_true, cond_false, bin_add, bin_sub, bin_mul, bin_eql, bin_neq, bin_lss, bin_leq, bin_gtr, bin_geq, bin_seql, bin_sneq, un_not_t, un_not_f, un_not, cvI_int, cvT_str, nilChk_ptr, nilChk_xp, addA_ptr, lenT_str, Bool.true_or, Bool.or_true, Bool.false_or, Bool.or_false, Bool.true_and, Bool.and_true, Bool.false_and, Bool.and_false, decide_true, decide_false, Int.reduceEq, Int.reduceLT, Int.reduceLE, Int.reduceNe, Int.reduceAdd, Int.reduceSub, Int.reduceMul, Int.reduceNeg, List.nil_append, List.append_nil, List.cons_append]
  refine Ret.bind (right_spec p hW (by omega)) ?_
  rintro v H2 ⟨rfl, f2⟩
  have s2 := s1.frame0 f2
  cases hb : okB p
  · try simp only [purK_some, resK_some, boolK_some, condK_true, condK_false, wantV_tt, wantV_tf, wantV_ft, wantV_ff, wantV_t, wantV_f, wantV_skip, Bool.not_true, Bool.not_false, gPur_true, gPur_false, gEff_true, gEff_false, gRes_true, gRes_false, pickA_true, pickA_false, extA_0, extA_1, extA_2, retK_one, retK_none, retK_two, valK_fn, valR_fn, cond_true, cond_false, bin_add, bin_sub, bin_mul, bin_eql, bin_neq, bin_lss, bin_leq, bin_gtr, bin_geq, bin_seql, bin_sneq, un_not_t, un_not_f, un_not, cvI_int, cvT_str, nilChk_ptr, nilChk_xp, addA_ptr, lenT_str, Bool.true_or, Bool.or_true, Bool.false_or, Bool.or_false, Bool.true_and, Bool.and_true, Bool.false_and, Bool.and_false, decide_true, decide_false, Int.reduceEq, Int.reduceLT, Int.reduceLE, Int.reduceNe, Int.reduceAdd, Int.reduceSub, Int.reduceMul, Int.reduceNeg, List.nil_append, List.append_nil, List.cons_append]
    exact .intro (Or.inl ⟨by trivial, rfl, f1.trans f2⟩)
  · by_cases h1 : n < 0
    · simp only [h1, purK_some, resK_some, boolK_some, condK_true, condK_false, wantV_tt, wantV_tf, wantV_ft, wantV_ff, wantV_t, wantV_f, wantV_skip, Bool.not_true, Bool.not_false, gPur_true, gPur_false, gEff_true, gEff_false, gRes_true, gRes_false, pickA_true, pickA_false, extA_0, extA_1, extA_2, retK_one, retK_none, retK_two, valK_fn, valR_fn, cond_true, cond_false, bin_add, bin_sub, bin_mul, bin_eql, bin_neq, bin_lss, bin_leq, bin_gtr, bin_geq, bin_seql, bin_sneq, un_not_t, un_not_f, un_not, cvI_int, cvT_str, nilChk_ptr, nilChk_xp, addA_ptr, lenT_str, Bool.true_or, Bool.or_true, Bool.false_or, Bool.or_false, Bool.true_and, Bool.and_true, Bool.false_and, Bool.and_false, decide_true, decide_false, Int.reduceEq, Int.reduceLT, Int.reduceLE, Int.reduceNe, Int.reduceAdd, Int.reduceSub, Int.reduceMul, Int.reduceNeg, List.nil_append, List.append_nil, List.cons_append]
      exact .intro (Or.inr (Or.inl ⟨by trivial, Or.inl (by first | trivial | omega), rfl, f1.trans f2⟩))
    · by_cases h2 : 10000 < n
      · simp only [h1, h2, purK_some, resK_some, boolK_some, condK_true, condK_false, wantV_tt, wantV_tf, wantV_ft, wantV_ff, wantV_t, wantV_f, wantV_skip, Bool.not_true, Bool.not_false, gPur_true, gPur_false, gEff_true, gEff_false, gRes_true, gRes_false, pickA_true, pickA_false, extA_0, extA_1, extA_2, retK_one, retK_none, retK_two, valK_fn, valR_fn, cond_true, cond_false, bin_add, bin_sub, bin_mul, bin_eql, bin_neq, bin_lss, bin_leq, bin_gtr, bin_geq, bin_seql, bin_sneq, un_not_t, un_not_f, un_not, cvI_int, cvT_str, nilChk_ptr, nilChk_xp, addA_ptr, lenT_str, Bool.true_or, Bool.or_true, Bool.false_or, Bool.or_false, Bool.true_and, Bool.and_true, Bool.false_and, Bool.and_false, decide_true, decide_false, Int.reduceEq, Int.reduceLT, Int.reduceLE, Int.reduceNe, Int.reduceAdd, Int.reduceSub, Int.reduceMul, Int.reduceNeg, List.nil_append, List.append_nil, List.cons_append]
        exact .intro (Or.inr (Or.inl ⟨by trivial, Or.inr (by first | trivial | omega), rfl, f1.trans f2⟩))
      · have hp := (okB_iff p hW).1 hb
        have l0 : ldC 0 0 (.cells 0 46 (0, 0) false p.cells) = some (.int .u64 p.seed) := by rw [ldC_cells]; rfl
        simp only [h1, h2, ld1_ptr, s2.at 0 rfl, l0, newCells_eq, Nat.zero_add, Nat.add_zero, purK_some, resK_some, boolK_some, condK_true, condK_false, wantV_tt, wantV_tf, wantV_ft, wantV_ff, wantV_t, wantV_f, wantV_skip, Bool.not_true, Bool.not_false, gPur_true, gPur_false, gEff_true, gEff_false, gRes_true, gRes_false, pickA_true, pickA_false, extA_0, extA_1, extA_2, retK_one, retK_none, retK_two, valK_fn, valR_fn, cond_true, cond_false, bin_add, bin_sub, bin_mul, bin_eql, bin_neq, bin_lss, bin_leq, bin_gtr, bin_geq, bin_seql, bin_sneq, un_not_t, un_not_f, un_not, cvI_int, cvT_str, nilChk_ptr, nilChk_xp, addA_ptr, lenT_str, Bool.true_or, Bool.or_true, Bool.false_or, Bool.or_false, Bool.true_and, Bool.and_true, Bool.false_and, Bool.and_false, decide_true, decide_false, Int.reduceEq, Int.reduceLT, Int.reduceLE, Int.reduceNe, Int.reduceAdd, Int.reduceSub, Int.reduceMul, Int.reduceNeg, List.nil_append, List.append_nil, List.cons_append]
        refine s2.newP fun n6 H3 s3 hz3 f3 => ?_
        refine s3.st 1 rfl rfl (by decide) fun H4 s4 z4 f4 => ?_
        simp only [N25_2, N25_3]
        have n62 : n2 ≠ n6 := by have := s4.nd; simp at this; exact this
        have l2 := s4.lt' 0 rfl
        have l6 := s4.lt' 1 rfl
        have g2 : H4.get n2 = planO p := s4.at 0 rfl
        have g6 : H4.get n6 = .cells 0 62 (0, 0) false [.int .u64 p.seed] := s4.at 1 rfl
        have f04 : Fr Nop H H4 := s4.fr
        obtain ⟨m0, rfl⟩ : ∃ m0 : Nat, n = m0 := ⟨n.toNat, by omega⟩
        replace hn := hn (by omega)
        rw [Int.toNat_natCast] at hn
        refine Ret.loop (fun m y H' => ∃ i : Nat, ∃ ys ps, y = (ys, .int .i64 i) ∧ m = m0 - i ∧ i ≤ m0 ∧ PL H' H4.sz ys ps ∧ ps.map Prod.fst = stepsP p i p.seed ∧ H'.get n2 = planO p ∧ H'.get n6 = .cells 0 62 (0, 0) false [.int .u64 (stateP p i p.seed)] ∧ Fr (fun t => t = n6) H4 H')
          ?_ m0 k _ H4 ⟨0, .nils, [], rfl, rfl, by omega, ⟨Or.inr (Grow.nils ..), fun t q => q.elim, by simp⟩, rfl, g2, g6, Fr.refl ..⟩ (by omega)
        rintro m y H' kn ⟨i, ys, ps, rfl, hm, hi, hPL, hps, gp, gd, fr⟩ next
        have hlen : ps.length = i := by rw [← stepsP_len p i p.seed, ← hps, List.length_map]
        by_cases hl : i < m0
        · have h : (i : Int) < m0 := by omega
          simp only [N25_3b, h, ldN_ptr, gp, planO, ldPl p hW, purK_some, resK_some, boolK_some, condK_true, condK_false, wantV_tt, wantV_tf, wantV_ft, wantV_ff, wantV_t, wantV_f, wantV_skip, Bool.not_true, Bool.not_false, gPur_true, gPur_false, gEff_true, gEff_false, gRes_true, gRes_false, pickA_true, pickA_false, extA_0, extA_1, extA_2, retK_one, retK_none, retK_two, valK_fn, valR_fn, cond_true, cond_false, bin_add, bin_sub, bin_mul, bin_eql, bin_neq, bin_lss, bin_leq, bin_gtr, bin_geq, bin_seql, bin_sneq, un_not_t, un_not_f, un_not, cvI_int, cvT_str, nilChk_ptr, nilChk_xp, addA_ptr, lenT_str, Bool.true_or, Bool.or_true, Bool.false_or, Bool.or_false, Bool.true_and, Bool.and_true, Bool.false_and, Bool.and_false, decide_true, decide_false, Int.reduceEq, Int.reduceLT, Int.reduceLE, Int.reduceNe, Int.reduceAdd, Int.reduceSub, Int.reduceMul, Int.reduceNeg, List.nil_append, List.append_nil, List.cons_append]
          have zz := fr.sz
          have sp := step_spec (ρ := ρ) p hp (stateP p i p.seed) (Nat.lt_of_lt_of_le l6 zz) gd (k - 60)
          rw [show k - 60 + 60 = k by omega] at sp
          refine Ret.bind (Q := StepQ H' n6 0 62 false (stepP p (stateP p i p.seed))) ?_ ?_
          · obtain ⟨H5, y5, e, r1, r2, r3, r4⟩ := sp
            exact ⟨_, _, e, y5, rfl, r1, r2, r3, r4⟩
          · rintro v H5 ⟨y1, rfl, r1, r2, r3, r4⟩
            have hPL5 := hPL.frame r4 fun t ht => by omega
            refine hPL5.push r2 (fun t ht => ⟨by have := r3 t ht; omega, fun q => ?_⟩) (by have := r4.sz; omega) (by omega) ?_
            · have := (hPL.out.toEls (ρ := ρ)).lies_lt t q
              have := r3 t ht
              omega
            · intro y' H6 hP6 f6
              have w : wrapK .i64 ((i : Int) + 1) = ((i + 1 : Nat) : Int) := wrap_succN i (by omega)
              simp only [w, purK_some, resK_some, boolK_some, condK_true, condK_false, wantV_tt, wantV_tf, wantV_ft, wantV_ff, wantV_t, wantV_f, wantV_skip, Bool.not_true, Bool.not_false, gPur_true, gPur_false, gEff_true, gEff_false, gRes_true, gRes_false, pickA_true, pickA_false, extA_0, extA_1, extA_2, retK_one, retK_none, retK_two, valK_fn, valR_fn, cond_true, cond_false, bin_add, bin_sub, bin_mul, bin_eql, bin_neq, bin_lss, bin_leq, bin_gtr, bin_geq, bin_seql, bin_sneq, un_not_t, un_not_f, un_not, cvI_int, cvT_str, nilChk_ptr, nilChk_xp, addA_ptr, lenT_str, Bool.true_or, Bool.or_true, Bool.false_or, Bool.or_false, Bool.true_and, Bool.and_true, Bool.false_and, Bool.and_false, decide_true, decide_false, Int.reduceEq, Int.reduceLT, Int.reduceLE, Int.reduceNe, Int.reduceAdd, Int.reduceSub, Int.reduceMul, Int.reduceNeg, List.nil_append, List.append_nil, List.cons_append]
              clear w
              refine next (m - 1) _ H6 (by omega) ⟨i + 1, y', _, rfl, by omega, by omega, hP6, ?_, ?_, ?_, ?_⟩
              · rw [List.map_append, hps, stepsP_succ]; rfl
              · have l5 : n2 < H5.sz := by have := r4.sz; omega
                rw [f6.get n2 l5 (by omega), r4.get n2 (by omega) n62, gp]
              · have l5 : n6 < H5.sz := by have := r4.sz; omega
                rw [f6.get n6 l5 (by omega), r1, stateP_succ]
              · exact (fr.trans r4).trans' f6 fun t ht q => by omega
        · obtain rfl : i = m0 := by omega
          have h : ¬ (i : Int) < i := by omega
          simp only [N25_3b, N25_1, h, purK_some, resK_some, boolK_some, condK_true, condK_false, wantV_tt, wantV_tf, wantV_ft, wantV_ff, wantV_t, wantV_f, wantV_skip, Bool.not_true, Bool.not_false, gPur_true, gPur_false, gEff_true, gEff_false, gRes_true, gRes_false, pickA_true, pickA_false, extA_0, extA_1, extA_2, retK_one, retK_none, retK_two, valK_fn, valR_fn, cond_true, cond_false, bin_add, bin_sub, bin_mul, bin_eql, bin_neq, bin_lss, bin_leq, bin_gtr, bin_geq, bin_seql, bin_sneq, un_not_t, un_not_f, un_not, cvI_int, cvT_str, nilChk_ptr, nilChk_xp, addA_ptr, lenT_str, Bool.true_or, Bool.or_true, Bool.false_or, Bool.or_false, Bool.true_and, Bool.and_true, Bool.false_and, Bool.and_false, decide_true, decide_false, Int.reduceEq, Int.reduceLT, Int.reduceLE, Int.reduceNe, Int.reduceAdd, Int.reduceSub, Int.reduceMul, Int.reduceNeg, List.nil_append, List.append_nil, List.cons_append]
          have h04 := f04.sz
          refine .intro (Or.inr (Or.inr ⟨by trivial, by omega, by omega, ys, ps, rfl, ⟨hPL.out, fun t ht => Nat.le_trans h04 (hPL.own t ht), fun q hq => ⟨(hPL.ins q hq).1, fun t ht => ⟨Nat.le_trans h04 ((hPL.ins q hq).2 t ht).1, ((hPL.ins q hq).2 t ht).2⟩⟩⟩, hps, ?_⟩))
          have o6 : H.sz ≤ n6 := by rcases s4.own (n6, _) (List.mem_of_getElem? (i := 1) rfl) with q | q; exact q.elim; exact q
          exact f04.trans' fr fun t ht q => by omega
end
end Go.Proofs.Ytcjicmabhejllaa
