/- Part 6: Ext FB RecA HisA HisB HisC. -/
import Derived.Test.YtkmohjddojpdjaaBnB
import Derived.Test.YtkmohjddojpdjaaBnE
import Derived.KernelRfl
import Derived.Test.YtkmohjddojpdjaaBnC
import Derived.WalkKit
-- part Ext
/- The functions without a Go body are the ones that the evaluator knows. -/
namespace Go.Proofs.Ytkmohjddojpdjaa
open Go.Ev Go.RowKit
set_option maxRecDepth 1000000 in
theorem cx_ext (ρ : Addr → Option Value) : ExtOK (cx ρ) := by
  intro f k h
  unfold cx xk at h
  simp only at h
  split at h <;> first | (cases h; done) | (obtain rfl := Option.some.inj h; exact ⟨_, rfl, by kernel_rfl, by kernel_rfl, by kernel_rfl, by kernel_rfl⟩)
end Go.Proofs.Ytkmohjddojpdjaa

-- part FB
/- field.Bytes: the bytes of words. -/
set_option linter.unusedVariables false
set_option linter.unusedSimpArgs false
namespace Go.Proofs.Ytkmohjddojpdjaa
attribute [local congr] Go.Ev.cond_congr1
open Go.Ev Go.RowKit
section
variable {ρ : Addr → Option Value} {k : Nat} {H : Heap}
/-- The bytes of words, the first n. -/
theorem bytes_spec {x : AV} (ws : List Int) (hx : Els ρ H 1 x (urow ws)) (hw : ∀ w ∈ ws, U64 w) (hlen : ws.length < 100000) (n : Nat) (hn : n ≤ 8 * ws.length) (hk : 8 * ws.length + 10 ≤ k) :
    Ret (fun v H' => Fr Nop H H' ∧ ((¬ (ws.length = (n + 7) / 8) ∨ ((wbytes ws).drop n).any (· ≠ 0) = true) ∧ v = .tup [.str (ba []), .int .i64 4] ∨ (ws.length = (n + 7) / 8 ∧ ((wbytes ws).drop n).any (· ≠ 0) = false) ∧ v = .tup [.str (ba ((wbytes ws).take n)), .int .i64 0])) (evCall (cx ρ) k 0 77 [x, .int .i64 n] H) := by
  obtain ⟨k, rfl⟩ : ∃ q, k = q + 1 := ⟨k - 1, by omega⟩
  have lx := hx.lenS
  rw [urow_len] at lx
  obtain ⟨N, hN⟩ : ∃ N, N = 8 * ws.length := ⟨_, rfl⟩
  have c0 : ¬ (n : Int) < 0 := by omega
  have c1 : ¬ (N : Int) < (n : Int) := by omega
  have mk : ∀ H : Heap, mkS H 5 1 1 [.int .u8 0] (.int .i64 N) (.int .i64 N) = some (.sl H.sz 0 0 N N false, .new (.cells 0 5 (0, 0) false (repeatL [.int .u8 0] N))) := fun H => by
    have a1 : decide ((0 : Int) ≤ N) = true := by simp
    have a2 : decide ((N : Int) ≤ N) = true := by simp
    have a3 : decide ((N : Int) * (1 : Nat) ≤ 281474976710656) = true := by simp; omega
    have a4 : decide ((N : Int) ≤ 9223372036854775807) = true := by simp; omega
    simp only [mkS, a1, a2, a3, a4, Bool.and_self, cond_true, Int.toNat_natCast]
    rfl
  have rep0 : repeatL [AV.int .u8 0] N = (List.range N).map fun j => if j < 0 then byteCell (wbyte ws j) else .int .u8 0 := by
    apply List.ext_getElem
    · rw [repeatL_one]; simp
    · intro i h1 h2
      simp [repeatL_one]
  rw [E77]
  simp only [L77, c0, c1, lx, q_N ws.length (by omega), ← hN, mk, purK_some, resK_some, boolK_some, condK_true, condK_false, wantV_tt, wantV_tf, wantV_ft, wantV_ff, wantV_t, wantV_f, wantV_skip, Bool.not_true, Bool.not_false, gPur_true, gPur_false, gEff_true, gEff_false, gRes_true, gRes_false, pickA_true, pickA_false, extA_0, extA_1, extA_2, retK_one, retK_none, retK_two, valK_fn, valR_fn, cond_true, cond_false, bin_add, bin_sub, bin_mul, bin_eql, bin_neq, bin_lss, bin_leq, bin_gtr, bin_geq, bin_seql, bin_sneq, un_not_t, un_not_f, un_not, cvI_int, cvT_str, nilChk_ptr, nilChk_xp, addA_ptr, lenT_str, Bool.true_or, Bool.or_true, Bool.false_or, Bool.or_false, Bool.true_and, Bool.and_true, Bool.false_and, Bool.and_false, decide_true, decide_false, Int.reduceEq, Int.reduceLT, Int.reduceLE, Int.reduceNe, Int.reduceAdd, Int.reduceSub, Int.reduceMul, Int.reduceNeg, List.nil_append, List.append_nil, List.cons_append, ba_size, ba_inj, emp1, emp2]
  refine (St.start Nop H).newS fun b H1 s1 hz1 f1 => ?_
  rw [rep0] at s1
  simp only [lenS, N77_5, N77_6, purK_some, resK_some, boolK_some, condK_true, condK_false, wantV_tt, wantV_tf, wantV_ft, wantV_ff, wantV_t, wantV_f, wantV_skip, Bool.not_true, Bool.not_false, gPur_true, gPur_false, gEff_true, gEff_false, gRes_true, gRes_false, pickA_true, pickA_false, extA_0, extA_1, extA_2, retK_one, retK_none, retK_two, valK_fn, valR_fn, cond_true, cond_false, bin_add, bin_sub, bin_mul, bin_eql, bin_neq, bin_lss, bin_leq, bin_gtr, bin_geq, bin_seql, bin_sneq, un_not_t, un_not_f, un_not, cvI_int, cvT_str, nilChk_ptr, nilChk_xp, addA_ptr, lenT_str, Bool.true_or, Bool.or_true, Bool.false_or, Bool.or_false, Bool.true_and, Bool.and_true, Bool.false_and, Bool.and_false, decide_true, decide_false, Int.reduceEq, Int.reduceLT, Int.reduceLE, Int.reduceNe, Int.reduceAdd, Int.reduceSub, Int.reduceMul, Int.reduceNeg, List.nil_append, List.append_nil, List.cons_append, ba_size, ba_inj, emp1, emp2]
  refine Ret.loop (fun m y H' => ∃ i : Nat, y = .int .i64 i ∧ m = N - i ∧ i ≤ N ∧ St Nop H [(b, .cells 0 5 (0, 0) false ((List.range N).map fun j => if j < i then byteCell (wbyte ws j) else .int .u8 0))] H' ∧ Fr (fun t => t = b) H1 H') ?_ N k _ H1 ⟨0, rfl, rfl, by omega, s1, Fr.refl ..⟩ (by omega)
  rintro m y H' kn ⟨i, rfl, hm, hi, s, fr⟩ next
  by_cases h : i < N
  · have h' : (i : Int) < N := by omega
    have n8 : (8 : Int) ≠ 0 := by decide
    have hq : i / 8 < ws.length := by omega
    have hX := (hx.frame0 f1).frame _ fr fun t ht e => by have := hx.lies_lt t ht; omega
    have e1 := hX.ix .i64 ((i / 8 : Nat) : Int) (by omega) (by rw [urow_len]; omega)
    rw [Int.toNat_natCast] at e1
    have e2 := hX.ld1 (i / 8) 0 (by rw [urow_len]; exact hq) (by decide)
    have e3 : (urow ws)[i / 8]'(by rw [urow_len]; exact hq) = [.int .u64 ws[i / 8]] := by simp [urow]
    rw [e3, List.getElem?_cons_zero] at e2
    have hwr := hw _ (List.getElem_mem hq)
    have hm8 : i % 8 < 8 := Nat.mod_lt _ (by omega)
    have q4 : (0 : Int) ≤ ((i % 8 : Nat) : Int) * 8 := by omega
    have q5 := byte_val ws[i / 8] hwr (i % 8) hm8
    have q6 : (UInt8.ofNat (ws[i / 8].toNat / 256 ^ (i % 8) % 256)) = wbyte ws i := by simp [wbyte, List.getD, hq]
    rw [q6] at q5
    have e4 : ixS 1 (.sl b 0 0 N N false) (.int .i64 i) = some (.ptr b 0 i) := by
      have a1 : decide ((0 : Int) ≤ i) = true := by simp
      have a2 : decide ((i : Int) < N) = true := by simpa using h
      simp [ixS, Ev.asInt, elAt, a1, h, addA]
    simp only [N77_6b, h', bin_quo _ _ _ _ _ _ n8, bin_rem _ _ _ _ _ _ n8, q_div i (by omega), q_mod, q_mul (i % 8) hm8, e1, e2, bin_shr _ _ _ _ _ _ _ q4, q5, e4, purK_some, resK_some, boolK_some, condK_true, condK_false, wantV_tt, wantV_tf, wantV_ft, wantV_ff, wantV_t, wantV_f, wantV_skip, Bool.not_true, Bool.not_false, gPur_true, gPur_false, gEff_true, gEff_false, gRes_true, gRes_false, pickA_true, pickA_false, extA_0, extA_1, extA_2, retK_one, retK_none, retK_two, valK_fn, valR_fn, cond_true, cond_false, bin_add, bin_sub, bin_mul, bin_eql, bin_neq, bin_lss, bin_leq, bin_gtr, bin_geq, bin_seql, bin_sneq, un_not_t, un_not_f, un_not, cvI_int, cvT_str, nilChk_ptr, nilChk_xp, addA_ptr, lenT_str, Bool.true_or, Bool.or_true, Bool.false_or, Bool.or_false, Bool.true_and, Bool.and_true, Bool.false_and, Bool.and_false, decide_true, decide_false, Int.reduceEq, Int.reduceLT, Int.reduceLE, Int.reduceNe, Int.reduceAdd, Int.reduceSub, Int.reduceMul, Int.reduceNeg, List.nil_append, List.append_nil, List.cons_append, ba_size, ba_inj, emp1, emp2]
    clear q5
    refine s.st 0 rfl rfl (by simpa using h) fun H2 s2 z2 f2 => ?_
    simp only [wrap_succN i (by omega : i + 1 < 9223372036854775808), purK_some, resK_some, boolK_some, condK_true, condK_false, wantV_tt, wantV_tf, wantV_ft, wantV_ff, wantV_t, wantV_f, wantV_skip, Bool.not_true, Bool.not_false, gPur_true, gPur_false, gEff_true, gEff_false, gRes_true, gRes_false, pickA_true, pickA_false, extA_0, extA_1, extA_2, retK_one, retK_none, retK_two, valK_fn, valR_fn, cond_true, cond_false, bin_add, bin_sub, bin_mul, bin_eql, bin_neq, bin_lss, bin_leq, bin_gtr, bin_geq, bin_seql, bin_sneq, un_not_t, un_not_f, un_not, cvI_int, cvT_str, nilChk_ptr, nilChk_xp, addA_ptr, lenT_str, Bool.true_or, Bool.or_true, Bool.false_or, Bool.or_false, Bool.true_and, Bool.and_true, Bool.false_and, Bool.and_false, decide_true, decide_false, Int.reduceEq, Int.reduceLT, Int.reduceLE, Int.reduceNe, Int.reduceAdd, Int.reduceSub, Int.reduceMul, Int.reduceNeg, List.nil_append, List.append_nil, List.cons_append, ba_size, ba_inj, emp1, emp2]
    refine next (m - 1) _ H2 (by omega) ⟨i + 1, rfl, by omega, by omega, ?_, fr.trans f2⟩
    rw [range_set] at s2
    have : (fun j => if j = i then AV.int .u8 (wbyte ws i).toNat else if j < i then byteCell (wbyte ws j) else .int .u8 0) = fun j => if j < i + 1 then byteCell (wbyte ws j) else .int .u8 0 := by
      funext j
      by_cases h1 : j = i
      · subst h1; simp [byteCell]
      · by_cases h2 : j < i
        · have : j < i + 1 := by omega
          simp [h1, h2, this]
        · have : ¬ j < i + 1 := by omega
          simp [h1, h2, this]
    rw [this] at s2
    exact s2
  · obtain rfl : i = N := by omega
    have h' : ¬ ((i : Nat) : Int) < (i : Nat) := by omega
    have hcells : ((List.range i).map fun j => if j < i then byteCell (wbyte ws j) else .int .u8 0) = (wbytes ws).map byteCell := by
      unfold wbytes
      rw [← hN, List.map_map]
      apply List.map_congr_left
      intro j hj
      rw [List.mem_range] at hj
      simp [hj]
    rw [hcells] at s
    have hbl : (wbytes ws).length = i := by rw [wbytes_len, hN]
    have hE : Els ρ H' 1 (.sl b 0 0 i i false) (brow (wbytes ws)) := by
      have := Els.of_cells (ρ := ρ) (H := H') (l := b) (v := 0) (e := 5) (fr := (0, 0)) (g := false) (m := false) (els := brow (wbytes ws)) (sz := 1) (s.lt' 0 rfl) (by rw [s.at 0 rfl, brow_flat]) (brow_one _)
      rwa [brow_len, hbl] at this
    have n8 : (8 : Int) ≠ 0 := by decide
    simp only [N77_6b, N77_1, h', lx, q_up n (by omega), q_div (n + 7) (by omega), bin_quo _ _ _ _ _ _ n8, purK_some, resK_some, boolK_some, condK_true, condK_false, wantV_tt, wantV_tf, wantV_ft, wantV_ff, wantV_t, wantV_f, wantV_skip, Bool.not_true, Bool.not_false, gPur_true, gPur_false, gEff_true, gEff_false, gRes_true, gRes_false, pickA_true, pickA_false, extA_0, extA_1, extA_2, retK_one, retK_none, retK_two, valK_fn, valR_fn, cond_true, cond_false, bin_add, bin_sub, bin_mul, bin_eql, bin_neq, bin_lss, bin_leq, bin_gtr, bin_geq, bin_seql, bin_sneq, un_not_t, un_not_f, un_not, cvI_int, cvT_str, nilChk_ptr, nilChk_xp, addA_ptr, lenT_str, Bool.true_or, Bool.or_true, Bool.false_or, Bool.or_false, Bool.true_and, Bool.and_true, Bool.false_and, Bool.and_false, decide_true, decide_false, Int.reduceEq, Int.reduceLT, Int.reduceLE, Int.reduceNe, Int.reduceAdd, Int.reduceSub, Int.reduceMul, Int.reduceNeg, List.nil_append, List.append_nil, List.cons_append, ba_size, ba_inj, emp1, emp2]
    by_cases hq : ws.length = (n + 7) / 8
    · have hq' : ¬ ((ws.length : Nat) : Int) ≠ (((n + 7) / 8 : Nat) : Int) := by omega
      obtain ⟨y, ey, hy, _⟩ := hE.cut (lo := n) (hi := i) (by omega) (by rw [brow_len, hbl]; exact Nat.le_refl _) (some (.int .i64 n)) none (Or.inr ⟨_, rfl⟩) (Or.inl ⟨rfl, by rw [brow_len, hbl]⟩) (fun n => by simp)
      obtain ⟨z, ez, hz, _⟩ := hE.cut (lo := 0) (hi := n) (by omega) (by rw [brow_len, hbl]; omega) none (some (.int .i64 n)) (Or.inl ⟨rfl, rfl⟩) (Or.inr ⟨_, rfl⟩) (fun n => by simp)
      have hy' : Els ρ H' 1 y (brow ((wbytes ws).drop n)) := by
        have : ((brow (wbytes ws)).drop n).take (i - n) = brow ((wbytes ws).drop n) := by
          rw [List.take_of_length_le (by rw [List.length_drop, brow_len, hbl]; exact Nat.le_refl _)]
          unfold brow; rw [List.map_drop]
        rwa [this] at hy
      have hz' : Els ρ H' 1 z (brow ((wbytes ws).take n)) := by
        have : ((brow (wbytes ws)).drop 0).take (n - 0) = brow ((wbytes ws).take n) := by
          rw [List.drop_zero, Nat.sub_zero]; unfold brow; rw [List.map_take]
        rwa [this] at hz
      have ly := hy'.lenS
      rw [brow_len] at ly
      obtain ⟨R, hR⟩ : ∃ R, R = (wbytes ws).drop n := ⟨_, rfl⟩
      rw [← hR] at hy' ly
      have hRl : R.length < 1000000 := by rw [hR, List.length_drop, hbl]; omega
      have hns : ∀ m, z ≠ .sx m := slS_notSx ez
      have ez' := b2s_brow hz' hns
      simp only [hq', ey, ly, N77_3, N77_4, purK_some, resK_some, boolK_some, condK_true, condK_false, wantV_tt, wantV_tf, wantV_ft, wantV_ff, wantV_t, wantV_f, wantV_skip, Bool.not_true, Bool.not_false, gPur_true, gPur_false, gEff_true, gEff_false, gRes_true, gRes_false, pickA_true, pickA_false, extA_0, extA_1, extA_2, retK_one, retK_none, retK_two, valK_fn, valR_fn, cond_true, cond_false, bin_add, bin_sub, bin_mul, bin_eql, bin_neq, bin_lss, bin_leq, bin_gtr, bin_geq, bin_seql, bin_sneq, un_not_t, un_not_f, un_not, cvI_int, cvT_str, nilChk_ptr, nilChk_xp, addA_ptr, lenT_str, Bool.true_or, Bool.or_true, Bool.false_or, Bool.or_false, Bool.true_and, Bool.and_true, Bool.false_and, Bool.and_false, decide_true, decide_false, Int.reduceEq, Int.reduceLT, Int.reduceLE, Int.reduceNe, Int.reduceAdd, Int.reduceSub, Int.reduceMul, Int.reduceNeg, List.nil_append, List.append_nil, List.cons_append, ba_size, ba_inj, emp1, emp2]
      refine Ret.loop (fun m y H'' => ∃ j : Nat, y = .int .i64 j ∧ m = R.length - j ∧ j ≤ R.length ∧ H'' = H' ∧ (R.take j).any (· ≠ 0) = false) ?_ R.length k _ H' ⟨0, rfl, rfl, by omega, rfl, by simp⟩ (by rw [hR, List.length_drop, hbl]; omega)
      rintro m2 y2 H'' kn2 ⟨j, rfl, hm2, hj, rfl, hall⟩ next2
      by_cases h2 : j < R.length
      · have h2' : (j : Int) < R.length := by omega
        have e1 := hy'.ix .i64 j (by omega) (by rw [brow_len]; omega)
        rw [Int.toNat_natCast] at e1
        have e2 := hy'.ld1 j 0 (by rw [brow_len]; exact h2) (by decide)
        have e3 : (brow R)[j]'(by rw [brow_len]; exact h2) = [byteCell R[j]] := by simp [brow]
        rw [e3, List.getElem?_cons_zero] at e2
        unfold byteCell at e2
        have ht : (R.take (j + 1)).any (· ≠ 0) = ((R.take j).any (· ≠ 0) || decide (R[j] ≠ 0)) := by
          rw [List.take_succ_eq_append_getElem h2, List.any_append]; simp
        simp only [N77_4b, h2', e1, e2, purK_some, resK_some, boolK_some, condK_true, condK_false, wantV_tt, wantV_tf, wantV_ft, wantV_ff, wantV_t, wantV_f, wantV_skip, Bool.not_true, Bool.not_false, gPur_true, gPur_false, gEff_true, gEff_false, gRes_true, gRes_false, pickA_true, pickA_false, extA_0, extA_1, extA_2, retK_one, retK_none, retK_two, valK_fn, valR_fn, cond_true, cond_false, bin_add, bin_sub, bin_mul, bin_eql, bin_neq, bin_lss, bin_leq, bin_gtr, bin_geq, bin_seql, bin_sneq, un_not_t, un_not_f, un_not, cvI_int, cvT_str, nilChk_ptr, nilChk_xp, addA_ptr, lenT_str, Bool.true_or, Bool.or_true, Bool.false_or, Bool.or_false, Bool.true_and, Bool.and_true, Bool.false_and, Bool.and_false, decide_true, decide_false, Int.reduceEq, Int.reduceLT, Int.reduceLE, Int.reduceNe, Int.reduceAdd, Int.reduceSub, Int.reduceMul, Int.reduceNeg, List.nil_append, List.append_nil, List.cons_append, ba_size, ba_inj, emp1, emp2]
        refine Ret.condD (fun hb => ?_) (fun hb => ?_)
        · refine .intro ⟨s.fr, Or.inl ⟨Or.inr ?_, rfl⟩⟩
          rw [← hR, List.any_eq_true]
          exact ⟨R[j], List.getElem_mem h2, by simp; intro e; rw [e] at hb; exact hb rfl⟩
        · simp only [wrap_succN j (by omega : j + 1 < 9223372036854775808), purK_some, resK_some, boolK_some, condK_true, condK_false, wantV_tt, wantV_tf, wantV_ft, wantV_ff, wantV_t, wantV_f, wantV_skip, Bool.not_true, Bool.not_false, gPur_true, gPur_false, gEff_true, gEff_false, gRes_true, gRes_false, pickA_true, pickA_false, extA_0, extA_1, extA_2, retK_one, retK_none, retK_two, valK_fn, valR_fn, cond_true, cond_false, bin_add, bin_sub, bin_mul, bin_eql, bin_neq, bin_lss, bin_leq, bin_gtr, bin_geq, bin_seql, bin_sneq, un_not_t, un_not_f, un_not, cvI_int, cvT_str, nilChk_ptr, nilChk_xp, addA_ptr, lenT_str, Bool.true_or, Bool.or_true, Bool.false_or, Bool.or_false, Bool.true_and, Bool.and_true, Bool.false_and, Bool.and_false, decide_true, decide_false, Int.reduceEq, Int.reduceLT, Int.reduceLE, Int.reduceNe, Int.reduceAdd, Int.reduceSub, Int.reduceMul, Int.reduceNeg, List.nil_append, List.append_nil, List.cons_append, ba_size, ba_inj, emp1, emp2]
          refine next2 (m2 - 1) _ H'' (by omega) ⟨j + 1, rfl, by omega, by omega, rfl, ?_⟩
          rw [ht, hall]
          simp only [Bool.false_or, decide_eq_false_iff_not, ne_eq, Classical.not_not]
          apply UInt8.toNat_inj.1
          have : ¬ ((R[j].toNat : Int) ≠ 0) := hb
          show R[j].toNat = 0
          omega
      · obtain rfl : j = R.length := by omega
        have h2' : ¬ ((R.length : Nat) : Int) < (R.length : Nat) := by omega
        rw [List.take_length] at hall
        simp only [N77_4b, N77_2, h2', ez, ez', purK_some, resK_some, boolK_some, condK_true, condK_false, wantV_tt, wantV_tf, wantV_ft, wantV_ff, wantV_t, wantV_f, wantV_skip, Bool.not_true, Bool.not_false, gPur_true, gPur_false, gEff_true, gEff_false, gRes_true, gRes_false, pickA_true, pickA_false, extA_0, extA_1, extA_2, retK_one, retK_none, retK_two, valK_fn, valR_fn, cond_true, cond_false, bin_add, bin_sub, bin_mul, bin_eql, bin_neq, bin_lss, bin_leq, bin_gtr, bin_geq, bin_seql, bin_sneq, un_not_t, un_not_f, un_not, cvI_int, cvT_str, nilChk_ptr, nilChk_xp, addA_ptr, lenT_str, Bool.true_or, Bool.or_true, Bool.false_or, Bool.or_false, Bool.true_and, Bool.and_true, Bool.false_and, Bool.and_false, decide_true, decide_false, Int.reduceEq, Int.reduceLT, Int.reduceLE, Int.reduceNe, Int.reduceAdd, Int.reduceSub, Int.reduceMul, Int.reduceNeg, List.nil_append, List.append_nil, List.cons_append, ba_size, ba_inj, emp1, emp2]
        exact .intro ⟨s.fr, Or.inr ⟨⟨hq, by rw [← hR]; exact hall⟩, rfl⟩⟩
    · have hq' : ((ws.length : Nat) : Int) ≠ (((n + 7) / 8 : Nat) : Int) := by omega
      simp only [hq', ne_eq, not_false_eq_true, purK_some, resK_some, boolK_some, condK_true, condK_false, wantV_tt, wantV_tf, wantV_ft, wantV_ff, wantV_t, wantV_f, wantV_skip, Bool.not_true, Bool.not_false, gPur_true, gPur_false, gEff_true, gEff_false, gRes_true, gRes_false, pickA_true, pickA_false, extA_0, extA_1, extA_2, retK_one, retK_none, retK_two, valK_fn, valR_fn, cond_true, cond_false, bin_add, bin_sub, bin_mul, bin_eql, bin_neq, bin_lss, bin_leq, bin_gtr, bin_geq, bin_seql, bin_sneq, un_not_t, un_not_f, un_not, cvI_int, cvT_str, nilChk_ptr, nilChk_xp, addA_ptr, lenT_str, Bool.true_or, Bool.or_true, Bool.false_or, Bool.or_false, Bool.true_and, Bool.and_true, Bool.false_and, Bool.and_false, decide_true, decide_false, Int.reduceEq, Int.reduceLT, Int.reduceLE, Int.reduceNe, Int.reduceAdd, Int.reduceSub, Int.reduceMul, Int.reduceNeg, List.nil_append, List.append_nil, List.cons_append, ba_size, ba_inj, emp1, emp2]
      exact .intro ⟨s.fr, Or.inl ⟨Or.inl hq, rfl⟩⟩
end
end Go.Proofs.Ytkmohjddojpdjaa

-- part RecA
/- A value's number, a number's value: the program's and the reference's. -/
set_option linter.unusedVariables false
set_option linter.unusedSimpArgs false
namespace Go.Proofs.Ytkmohjddojpdjaa
attribute [local congr] Go.Ev.cond_congr1
open Go.Ev Go.RowKit
/-- A value's number. -/
def numV (v : List UInt8) : Nat := if v.length = 8 then numB v else 0
theorem numV_lt (v : List UInt8) : numV v < 18446744073709551616 := by
  unfold numV; split
  · rename_i h
    have := numB_lt v
    rw [h] at this
    have h8 : 256 ^ 8 = 18446744073709551616 := by decide
    omega
  · omega
def addV (v : List UInt8) (n : Int) : List UInt8 := w8 (wrapK .u64 ((numV v : Int) + n))
section
variable {ρ : Addr → Option Value} {k : Nat} {H : Heap}
theorem words8_spec (v : List UInt8) (hv : v.length = 8) (hk : 20 ≤ k) : Ret (fun r H' => ∃ n, r = .sl n 0 0 1 1 false ∧ H'.get n = .cells 0 49 (0, 0) false [.int .u64 (numB v)] ∧ n < H'.sz ∧ Fr Nop H H') (evCall (cx ρ) k 0 96 [.str (ba v)] H) := by
  obtain ⟨k, rfl⟩ : ∃ q, k = q + 1 := ⟨k - 1, by omega⟩
  have n8 : (8 : Int) ≠ 0 := by decide
  have mk : ∀ H : Heap, mkS H 49 1 8 [.int .u64 0] (.int .i64 1) (.int .i64 1) = some (.sl H.sz 0 0 1 1 false, .new (.cells 0 49 (0, 0) false [.int .u64 0])) := fun H => rfl
  have l8 : ((8 : Nat) : Int) = 8 := rfl
  have w1 : wrapK .i64 (16 : Int) = 16 := by decide
  have w2 : wrapK .i64 (15 : Int) = 15 := by decide
  have w3 : wrapK .i64 ((15 : Int).tdiv 8) = 1 := by decide
  rw [E96]
  simp only [L96, hv, l8, w1, w2, bin_quo _ _ _ _ _ _ n8, w3, mk, purK_some, resK_some, boolK_some, condK_true, condK_false, wantV_tt, wantV_tf, wantV_ft, wantV_ff, wantV_t, wantV_f, wantV_skip, Bool.not_true, Bool.not_false, gPur_true, gPur_false, gEff_true, gEff_false, gRes_true, gRes_false, pickA_true, pickA_false, extA_0, extA_1, extA_2, retK_one, retK_none, retK_two, valK_fn, valR_fn, cond_true, cond_false, bin_add, bin_sub, bin_mul, bin_eql, bin_neq, bin_lss, bin_leq, bin_gtr, bin_geq, bin_seql, bin_sneq, un_not_t, un_not_f, un_not, cvI_int, cvT_str, nilChk_ptr, nilChk_xp, addA_ptr, lenT_str, Bool.true_or, Bool.or_true, Bool.false_or, Bool.or_false, Bool.true_and, Bool.and_true, Bool.false_and, Bool.and_false, decide_true, decide_false, Int.reduceEq, Int.reduceLT, Int.reduceLE, Int.reduceNe, Int.reduceAdd, Int.reduceSub, Int.reduceMul, Int.reduceNeg, List.nil_append, List.append_nil, List.cons_append, ba_size, ba_inj, emp1, emp2]
  clear w1 w2 w3
  refine (St.start Nop H).newS fun n H1 s1 hz1 f1 => ?_
  simp only [N96_2, N96_3]
  refine Ret.loop (fun m (y : AV) H' => ∃ i : Nat, y = .int .i64 i ∧ m = 8 - i ∧ i ≤ 8 ∧ St Nop H [(n, .cells 0 49 (0, 0) false [.int .u64 (numB (v.take i))])] H') ?_ 8 k _ H1 ⟨0, rfl, rfl, by omega, s1⟩ (by omega)
  rintro m y H' kn ⟨i, rfl, hm, hi, s⟩ next
  by_cases h : i < 8
  · have h' : (i : Int) < 8 := by omega
    have hiv : i < v.length := by omega
    have e1 := ixT_ba v .i64 i hiv
    have z8 : i / 8 = 0 := by omega
    have m8 : i % 8 = i := by omega
    have ixz : ixS 1 (.sl n 0 0 1 1 false) (.int .i64 ((0 : Nat) : Int)) = some (.ptr n 0 0) := rfl
    have lz : ldC 0 0 (.cells 0 49 (0, 0) false [.int .u64 (numB (v.take i))]) = some (.int .u64 (numB (v.take i))) := by rw [ldC_cells]; rfl
    have hb := v[i].toNat_lt
    have q0 : (0 : Int) ≤ ((i : Nat) : Int) * 8 := by omega
    have hn : numB (v.take i) < 256 ^ i := by
      have := numB_lt (v.take i)
      rwa [List.length_take, Nat.min_eq_left (by omega)] at this
    have hsn : numB (v.take (i + 1)) = numB (v.take i) + 256 ^ i * v[i].toNat := by
      rw [List.take_succ_eq_append_getElem hiv, numB_snoc, List.length_take, Nat.min_eq_left (by omega)]
    simp only [N96_3b, h', bin_quo _ _ _ _ _ _ n8, bin_rem _ _ _ _ _ _ n8, q_div i (by omega), q_mod, z8, m8, q_mul i h, ixz, ld1_ptr, s.at 0 rfl, lz, e1, wrap_u64 (v[i].toNat : Int) (by omega), bin_shl _ _ _ _ _ _ _ q0, shl_val v[i].toNat i h hb, bin_or, or_add _ i _ h hn hb, ← hsn, purK_some, resK_some, boolK_some, condK_true, condK_false, wantV_tt, wantV_tf, wantV_ft, wantV_ff, wantV_t, wantV_f, wantV_skip, Bool.not_true, Bool.not_false, gPur_true, gPur_false, gEff_true, gEff_false, gRes_true, gRes_false, pickA_true, pickA_false, extA_0, extA_1, extA_2, retK_one, retK_none, retK_two, valK_fn, valR_fn, cond_true, cond_false, bin_add, bin_sub, bin_mul, bin_eql, bin_neq, bin_lss, bin_leq, bin_gtr, bin_geq, bin_seql, bin_sneq, un_not_t, un_not_f, un_not, cvI_int, cvT_str, nilChk_ptr, nilChk_xp, addA_ptr, lenT_str, Bool.true_or, Bool.or_true, Bool.false_or, Bool.or_false, Bool.true_and, Bool.and_true, Bool.false_and, Bool.and_false, decide_true, decide_false, Int.reduceEq, Int.reduceLT, Int.reduceLE, Int.reduceNe, Int.reduceAdd, Int.reduceSub, Int.reduceMul, Int.reduceNeg, List.nil_append, List.append_nil, List.cons_append, ba_size, ba_inj, emp1, emp2]
    refine s.st 0 rfl rfl (show 0 < 1 by decide) fun H2 s2 z2 f2 => ?_
    simp only [wrap_succN i (by omega : i + 1 < 9223372036854775808), purK_some, resK_some, boolK_some, condK_true, condK_false, wantV_tt, wantV_tf, wantV_ft, wantV_ff, wantV_t, wantV_f, wantV_skip, Bool.not_true, Bool.not_false, gPur_true, gPur_false, gEff_true, gEff_false, gRes_true, gRes_false, pickA_true, pickA_false, extA_0, extA_1, extA_2, retK_one, retK_none, retK_two, valK_fn, valR_fn, cond_true, cond_false, bin_add, bin_sub, bin_mul, bin_eql, bin_neq, bin_lss, bin_leq, bin_gtr, bin_geq, bin_seql, bin_sneq, un_not_t, un_not_f, un_not, cvI_int, cvT_str, nilChk_ptr, nilChk_xp, addA_ptr, lenT_str, Bool.true_or, Bool.or_true, Bool.false_or, Bool.or_false, Bool.true_and, Bool.and_true, Bool.false_and, Bool.and_false, decide_true, decide_false, Int.reduceEq, Int.reduceLT, Int.reduceLE, Int.reduceNe, Int.reduceAdd, Int.reduceSub, Int.reduceMul, Int.reduceNeg, List.nil_append, List.append_nil, List.cons_append]
    exact next (m - 1) _ H2 (by omega) ⟨i + 1, rfl, by omega, by omega, s2⟩
  · obtain rfl : i = 8 := by omega
    have h' : ¬ ((8 : Nat) : Int) < 8 := by omega
    rw [List.take_of_length_le (by omega)] at s
    simp only [N96_3b, N96_1, h', purK_some, resK_some, boolK_some, condK_true, condK_false, wantV_tt, wantV_tf, wantV_ft, wantV_ff, wantV_t, wantV_f, wantV_skip, Bool.not_true, Bool.not_false, gPur_true, gPur_false, gEff_true, gEff_false, gRes_true, gRes_false, pickA_true, pickA_false, extA_0, extA_1, extA_2, retK_one, retK_none, retK_two, valK_fn, valR_fn, cond_true, cond_false, bin_add, bin_sub, bin_mul, bin_eql, bin_neq, bin_lss, bin_leq, bin_gtr, bin_geq, bin_seql, bin_sneq, un_not_t, un_not_f, un_not, cvI_int, cvT_str, nilChk_ptr, nilChk_xp, addA_ptr, lenT_str, Bool.true_or, Bool.or_true, Bool.false_or, Bool.or_false, Bool.true_and, Bool.and_true, Bool.false_and, Bool.and_false, decide_true, decide_false, Int.reduceEq, Int.reduceLT, Int.reduceLE, Int.reduceNe, Int.reduceAdd, Int.reduceSub, Int.reduceMul, Int.reduceNeg, List.nil_append, List.append_nil, List.cons_append]
    exact .intro ⟨n, rfl, s.at 0 rfl, s.lt' 0 rfl, s.fr⟩
theorem num_spec (v : List UInt8) (hk : 30 ≤ k) : Ret (fun r H' => r = .int .u64 (numV v) ∧ Fr Nop H H') (evCall (cx ρ) k 0 73 [.str (ba v)] H) := by
  obtain ⟨k, rfl⟩ : ∃ q, k = q + 1 := ⟨k - 1, by omega⟩
  rw [E73]
  unfold numV
  by_cases h : v.length = 8
  · have h' : ¬ (v.length : Int) ≠ 8 := by omega
    simp only [L73, h', purK_some, resK_some, boolK_some, condK_true, condK_false, wantV_tt, wantV_tf, wantV_ft, wantV_ff, wantV_t, wantV_f, wantV_skip, Bool.not_true, Bool.not_false, gPur_true, gPur_false, gEff_true, gEff_false, gRes_true, gRes_false, pickA_true, pickA_false, extA_0, extA_1, extA_2, retK_one, retK_none, retK_two, valK_fn, valR_fn, cond_true, cond_false, bin_add, bin_sub, bin_mul, bin_eql, bin_neq, bin_lss, bin_leq, bin_gtr, bin_geq, bin_seql, bin_sneq, un_not_t, un_not_f, un_not, cvI_int, cvT_str, nilChk_ptr, nilChk_xp, addA_ptr, lenT_str, Bool.true_or, Bool.or_true, Bool.false_or, Bool.or_false, Bool.true_and, Bool.and_true, Bool.false_and, Bool.and_false, decide_true, decide_false, Int.reduceEq, Int.reduceLT, Int.reduceLE, Int.reduceNe, Int.reduceAdd, Int.reduceSub, Int.reduceMul, Int.reduceNeg, List.nil_append, List.append_nil, List.cons_append, ba_size, ba_inj, emp1, emp2]
    refine Ret.bind (words8_spec v h (by omega)) ?_
    rintro r H1 ⟨n, rfl, g, hn, f1⟩
    have ixz : ixS 1 (.sl n 0 0 1 1 false) (.int .i64 0) = some (.ptr n 0 0) := rfl
    have lz : ldC 0 0 (.cells 0 49 (0, 0) false [.int .u64 (numB v)]) = some (.int .u64 (numB v)) := by rw [ldC_cells]; rfl
    simp only [ixz, ld1_ptr, g, lz, purK_some, resK_some, boolK_some, condK_true, condK_false, wantV_tt, wantV_tf, wantV_ft, wantV_ff, wantV_t, wantV_f, wantV_skip, Bool.not_true, Bool.not_false, gPur_true, gPur_false, gEff_true, gEff_false, gRes_true, gRes_false, pickA_true, pickA_false, extA_0, extA_1, extA_2, retK_one, retK_none, retK_two, valK_fn, valR_fn, cond_true, cond_false, bin_add, bin_sub, bin_mul, bin_eql, bin_neq, bin_lss, bin_leq, bin_gtr, bin_geq, bin_seql, bin_sneq, un_not_t, un_not_f, un_not, cvI_int, cvT_str, nilChk_ptr, nilChk_xp, addA_ptr, lenT_str, Bool.true_or, Bool.or_true, Bool.false_or, Bool.or_false, Bool.true_and, Bool.and_true, Bool.false_and, Bool.and_false, decide_true, decide_false, Int.reduceEq, Int.reduceLT, Int.reduceLE, Int.reduceNe, Int.reduceAdd, Int.reduceSub, Int.reduceMul, Int.reduceNeg, List.nil_append, List.append_nil, List.cons_append]
    exact .intro ⟨by rw [if_pos h], f1⟩
  · have h' : (v.length : Int) ≠ 8 := by omega
    simp only [L73, h', ne_eq, not_false_eq_true, purK_some, resK_some, boolK_some, condK_true, condK_false, wantV_tt, wantV_tf, wantV_ft, wantV_ff, wantV_t, wantV_f, wantV_skip, Bool.not_true, Bool.not_false, gPur_true, gPur_false, gEff_true, gEff_false, gRes_true, gRes_false, pickA_true, pickA_false, extA_0, extA_1, extA_2, retK_one, retK_none, retK_two, valK_fn, valR_fn, cond_true, cond_false, bin_add, bin_sub, bin_mul, bin_eql, bin_neq, bin_lss, bin_leq, bin_gtr, bin_geq, bin_seql, bin_sneq, un_not_t, un_not_f, un_not, cvI_int, cvT_str, nilChk_ptr, nilChk_xp, addA_ptr, lenT_str, Bool.true_or, Bool.or_true, Bool.false_or, Bool.or_false, Bool.true_and, Bool.and_true, Bool.false_and, Bool.and_false, decide_true, decide_false, Int.reduceEq, Int.reduceLT, Int.reduceLE, Int.reduceNe, Int.reduceAdd, Int.reduceSub, Int.reduceMul, Int.reduceNeg, List.nil_append, List.append_nil, List.cons_append, ba_size, ba_inj, emp1, emp2]
    exact .intro ⟨by rw [if_neg h]; rfl, Fr.refl ..⟩
theorem val_spec (n : Int) (hn : U64 n) (hk : 40 ≤ k) : Ret (fun v H' => v = .str (ba (w8 n)) ∧ Fr Nop H H') (evCall (cx ρ) k 0 72 [.int .u64 n] H) := by
  obtain ⟨k, rfl⟩ : ∃ q, k = q + 1 := ⟨k - 1, by omega⟩
  have bl : ∀ H : Heap, bldS H 49 1 [.int .u64 0] 1 [(0, 1, .int .u64 n)] = some (.sl H.sz 0 0 1 1 false, .new (.cells 0 49 (0, 0) false [.int .u64 n])) := fun H => rfl
  rw [E72]
  simp only [L72, bl]
  refine (St.start Nop H).newS fun b H1 s1 hz1 f1 => ?_
  have hE : Els ρ H1 1 (.sl b 0 0 1 1 false) (urow [n]) := Els.of_cells (els := urow [n]) (e := 49) (fr := (0, 0)) (g := false) (s1.lt' 0 rfl) (by rw [s1.at 0 rfl]; rfl) (by intro r hr; simp [urow] at hr; subst hr; rfl)
  refine Ret.bind (bytes_spec (k := k) [n] hE (by simpa using hn) (show 1 < 100000 by decide) 8 (show 8 ≤ 8 * 1 by decide) (by simp; omega)) ?_
  rintro v H2 ⟨f2, (⟨h, rfl⟩ | ⟨h, rfl⟩)⟩
  · exfalso
    rcases h with h | h
    · exact h (show 1 = (8 + 7) / 8 by decide)
    · rw [List.drop_of_length_le (by rw [wbytes_len]; exact (show 8 * 1 ≤ 8 by decide))] at h
      simp at h
  · have : (wbytes [n]).take 8 = w8 n := List.take_of_length_le (by rw [wbytes_len]; exact (show 8 * 1 ≤ 8 by decide))
    simp only [this, purK_some, resK_some, boolK_some, condK_true, condK_false, wantV_tt, wantV_tf, wantV_ft, wantV_ff, wantV_t, wantV_f, wantV_skip, Bool.not_true, Bool.not_false, gPur_true, gPur_false, gEff_true, gEff_false, gRes_true, gRes_false, pickA_true, pickA_false, extA_0, extA_1, extA_2, retK_one, retK_none, retK_two, valK_fn, valR_fn, cond_true, cond_false, bin_add, bin_sub, bin_mul, bin_eql, bin_neq, bin_lss, bin_leq, bin_gtr, bin_geq, bin_seql, bin_sneq, un_not_t, un_not_f, un_not, cvI_int, cvT_str, nilChk_ptr, nilChk_xp, addA_ptr, lenT_str, Bool.true_or, Bool.or_true, Bool.false_or, Bool.or_false, Bool.true_and, Bool.and_true, Bool.false_and, Bool.and_false, decide_true, decide_false, Int.reduceEq, Int.reduceLT, Int.reduceLE, Int.reduceNe, Int.reduceAdd, Int.reduceSub, Int.reduceMul, Int.reduceNeg, List.nil_append, List.append_nil, List.cons_append, ba_size, ba_inj, emp1, emp2]
    exact .intro ⟨rfl, f1.trans f2⟩
theorem adds_spec (v : List UInt8) (n : Int) (hk : 50 ≤ k) : Ret (fun r H' => r = .str (ba (addV v n)) ∧ Fr Nop H H') (evCall (cx ρ) k 0 52 [.str (ba v), .int .u64 n] H) := by
  obtain ⟨k, rfl⟩ : ∃ q, k = q + 1 := ⟨k - 1, by omega⟩
  rw [E52]
  simp only [L52]
  refine Ret.bind (num_spec v (by omega)) ?_
  rintro r H1 ⟨rfl, f1⟩
  simp only [purK_some, resK_some, boolK_some, condK_true, condK_false, wantV_tt, wantV_tf, wantV_ft, wantV_ff, wantV_t, wantV_f, wantV_skip, Bool.not_true, Bool.not_false, gPur_true, gPur_false, gEff_true, gEff_false, gRes_true, gRes_false, pickA_true, pickA_false, extA_0, extA_1, extA_2, retK_one, retK_none, retK_two, valK_fn, valR_fn, cond_true, cond_false, bin_add, bin_sub, bin_mul, bin_eql, bin_neq, bin_lss, bin_leq, bin_gtr, bin_geq, bin_seql, bin_sneq, un_not_t, un_not_f, un_not, cvI_int, cvT_str, nilChk_ptr, nilChk_xp, addA_ptr, lenT_str, Bool.true_or, Bool.or_true, Bool.false_or, Bool.or_false, Bool.true_and, Bool.and_true, Bool.false_and, Bool.and_false, decide_true, decide_false, Int.reduceEq, Int.reduceLT, Int.reduceLE, Int.reduceNe, Int.reduceAdd, Int.reduceSub, Int.reduceMul, Int.reduceNeg, List.nil_append, List.append_nil, List.cons_append]
  refine Ret.bind (val_spec _ (wrap_u64_range _) (by omega)) ?_
  rintro r H2 ⟨rfl, f2⟩
  try simp only [purK_some, resK_some, boolK_some, condK_true, condK_false, wantV_tt, wantV_tf, wantV_ft, wantV_ff, wantV_t, wantV_f, wantV_skip, Bool.not_true, Bool.not_false, gPur_true, gPur_false, gEff_true, gEff_false, gRes_true, gRes_false, pickA_true, pickA_false, extA_0, extA_1, extA_2, retK_one, retK_none, retK_two, valK_fn, valR_fn, cond_true, cond_false, bin_add, bin_sub, bin_mul, bin_eql, bin_neq, bin_lss, bin_leq, bin_gtr, bin_geq, bin_seql, bin_sneq, un_not_t, un_not_f, un_not, cvI_int, cvT_str, nilChk_ptr, nilChk_xp, addA_ptr, lenT_str, Bool.true_or, Bool.or_true, Bool.false_or, Bool.or_false, Bool.true_and, Bool.and_true, Bool.false_and, Bool.and_false, decide_true, decide_false, Int.reduceEq, Int.reduceLT, Int.reduceLE, Int.reduceNe, Int.reduceAdd, Int.reduceSub, Int.reduceMul, Int.reduceNeg, List.nil_append, List.append_nil, List.cons_append]
  exact .intro ⟨rfl, f1.trans f2⟩
theorem rnum_spec (v : List UInt8) (hk : 30 ≤ k) : Ret (fun r H' => r = .int .u64 (numV v) ∧ H' = H) (evCall (cx ρ) k 0 53 [.str (ba v)] H) := by
  obtain ⟨k, rfl⟩ : ∃ q, k = q + 1 := ⟨k - 1, by omega⟩
  rw [E53]
  unfold numV
  by_cases h : v.length = 8
  · have h' : ¬ (v.length : Int) ≠ 8 := by omega
    simp only [L53, h', N53_2, N53_3, purK_some, resK_some, boolK_some, condK_true, condK_false, wantV_tt, wantV_tf, wantV_ft, wantV_ff, wantV_t, wantV_f, wantV_skip, Bool.not_true, Bool.not_false, gPur_true, gPur_false, gEff_true, gEff_false, gRes_true, gRes_false, pickA_true, pickA_false, extA_0, extA_1, extA_2, retK_one, retK_none, retK_two, valK_fn, valR_fn, cond_true, cond_false, bin_add, bin_sub, bin_mul, bin_eql, bin_neq, bin_lss, bin_leq, bin_gtr, bin_geq, bin_seql, bin_sneq, un_not_t, un_not_f, un_not, cvI_int, cvT_str, nilChk_ptr, nilChk_xp, addA_ptr, lenT_str, Bool.true_or, Bool.or_true, Bool.false_or, Bool.or_false, Bool.true_and, Bool.and_true, Bool.false_and, Bool.and_false, decide_true, decide_false, Int.reduceEq, Int.reduceLT, Int.reduceLE, Int.reduceNe, Int.reduceAdd, Int.reduceSub, Int.reduceMul, Int.reduceNeg, List.nil_append, List.append_nil, List.cons_append, ba_size, ba_inj, emp1, emp2]
    refine Ret.loop (fun m (y : AV × AV) H' => ∃ i : Nat, y = (.int .u64 (numB (v.drop i)), .int .i64 ((i : Int) - 1)) ∧ m = i ∧ i ≤ 8 ∧ H' = H) ?_ 8 k _ H ⟨8, by rw [List.drop_of_length_le (by omega)]; rfl, rfl, by omega, rfl⟩ (by omega)
    rintro m y H' kn ⟨i, rfl, hm, hi, rfl⟩ next
    match i, hi, hm with
    | 0, _, _ =>
      have c : ¬ (0 : Int) ≤ ((0 : Nat) : Int) - 1 := by omega
      simp only [N53_3b, N53_1, c, List.drop_zero, purK_some, resK_some, boolK_some, condK_true, condK_false, wantV_tt, wantV_tf, wantV_ft, wantV_ff, wantV_t, wantV_f, wantV_skip, Bool.not_true, Bool.not_false, gPur_true, gPur_false, gEff_true, gEff_false, gRes_true, gRes_false, pickA_true, pickA_false, extA_0, extA_1, extA_2, retK_one, retK_none, retK_two, valK_fn, valR_fn, cond_true, cond_false, bin_add, bin_sub, bin_mul, bin_eql, bin_neq, bin_lss, bin_leq, bin_gtr, bin_geq, bin_seql, bin_sneq, un_not_t, un_not_f, un_not, cvI_int, cvT_str, nilChk_ptr, nilChk_xp, addA_ptr, lenT_str, Bool.true_or, Bool.or_true, Bool.false_or, Bool.or_false, Bool.true_and, Bool.and_true, Bool.false_and, Bool.and_false, decide_true, decide_false, Int.reduceEq, Int.reduceLT, Int.reduceLE, Int.reduceNe, Int.reduceAdd, Int.reduceSub, Int.reduceMul, Int.reduceNeg, List.nil_append, List.append_nil, List.cons_append]
      exact .intro ⟨by rw [if_pos h], rfl⟩
    | i + 1, hi, hm =>
      have c : (0 : Int) ≤ ((i + 1 : Nat) : Int) - 1 := by omega
      have ci : ((i + 1 : Nat) : Int) - 1 = (i : Int) := by omega
      have hiv : i < v.length := by omega
      have e1 := ixT_ba v .i64 i hiv
      have hd : v.drop i = v[i] :: v.drop (i + 1) := List.drop_eq_getElem_cons hiv
      have hb := v[i].toNat_lt
      have hn : numB (v.drop (i + 1)) < 256 ^ 7 := by
        have h1 := numB_lt (v.drop (i + 1))
        rw [List.length_drop] at h1
        exact Nat.lt_of_lt_of_le h1 (Nat.pow_le_pow_right (by decide) (by omega))
      have h7 : 256 ^ 7 = 72057594037927936 := by decide
      have hs : numB (v.drop i) = v[i].toNat + 256 * numB (v.drop (i + 1)) := by rw [hd, numB]
      have w1 : wrapK .u64 (wrapK .u64 ((numB (v.drop (i + 1)) : Int) * 256) + v[i].toNat) = ((numB (v.drop i) : Nat) : Int) := by
        rw [wrap_u64 ((numB (v.drop (i + 1)) : Int) * 256) (by omega), wrap_u64 _ (by omega)]; omega
      have w2 : wrapK .i64 ((i : Int) - 1) = (i : Int) - 1 := wrap_i64 _ (by clear w1; omega)
      simp only [N53_3b, ci, (show (0 : Int) ≤ (i : Int) by clear w1 w2; omega), e1, wrap_u64 (v[i].toNat : Int) (by clear w1 w2; omega), w1, w2, purK_some, resK_some, boolK_some, condK_true, condK_false, wantV_tt, wantV_tf, wantV_ft, wantV_ff, wantV_t, wantV_f, wantV_skip, Bool.not_true, Bool.not_false, gPur_true, gPur_false, gEff_true, gEff_false, gRes_true, gRes_false, pickA_true, pickA_false, extA_0, extA_1, extA_2, retK_one, retK_none, retK_two, valK_fn, valR_fn, cond_true, cond_false, bin_add, bin_sub, bin_mul, bin_eql, bin_neq, bin_lss, bin_leq, bin_gtr, bin_geq, bin_seql, bin_sneq, un_not_t, un_not_f, un_not, cvI_int, cvT_str, nilChk_ptr, nilChk_xp, addA_ptr, lenT_str, Bool.true_or, Bool.or_true, Bool.false_or, Bool.or_false, Bool.true_and, Bool.and_true, Bool.false_and, Bool.and_false, decide_true, decide_false, Int.reduceEq, Int.reduceLT, Int.reduceLE, Int.reduceNe, Int.reduceAdd, Int.reduceSub, Int.reduceMul, Int.reduceNeg, List.nil_append, List.append_nil, List.cons_append]
      clear w1 w2
      exact next i _ H' (by omega) ⟨i, rfl, rfl, by omega, rfl⟩
  · have h' : (v.length : Int) ≠ 8 := by omega
    simp only [L53, h', ne_eq, not_false_eq_true, purK_some, resK_some, boolK_some, condK_true, condK_false, wantV_tt, wantV_tf, wantV_ft, wantV_ff, wantV_t, wantV_f, wantV_skip, Bool.not_true, Bool.not_false, gPur_true, gPur_false, gEff_true, gEff_false, gRes_true, gRes_false, pickA_true, pickA_false, extA_0, extA_1, extA_2, retK_one, retK_none, retK_two, valK_fn, valR_fn, cond_true, cond_false, bin_add, bin_sub, bin_mul, bin_eql, bin_neq, bin_lss, bin_leq, bin_gtr, bin_geq, bin_seql, bin_sneq, un_not_t, un_not_f, un_not, cvI_int, cvT_str, nilChk_ptr, nilChk_xp, addA_ptr, lenT_str, Bool.true_or, Bool.or_true, Bool.false_or, Bool.or_false, Bool.true_and, Bool.and_true, Bool.false_and, Bool.and_false, decide_true, decide_false, Int.reduceEq, Int.reduceLT, Int.reduceLE, Int.reduceNe, Int.reduceAdd, Int.reduceSub, Int.reduceMul, Int.reduceNeg, List.nil_append, List.append_nil, List.cons_append, ba_size, ba_inj, emp1, emp2]
    exact .intro ⟨by rw [if_neg h]; rfl, rfl⟩
theorem rval_spec (n : Int) (hn : U64 n) (hk : 40 ≤ k) : Ret (fun v H' => v = .str (ba (w8 n)) ∧ Fr Nop H H') (evCall (cx ρ) k 0 54 [.int .u64 n] H) := by
  obtain ⟨k, rfl⟩ : ∃ q, k = q + 1 := ⟨k - 1, by omega⟩
  obtain ⟨S, rfl⟩ : ∃ S : Nat, n = S := ⟨n.toNat, by have := hn.1; omega⟩
  have hSl : S < 18446744073709551616 := by have := hn.2; omega
  have b0 : bldS H 5 1 [.int .u8 0] 0 [] = some (.sl H.sz 0 0 0 0 false, .new (.cells 0 5 (0, 0) false [])) := rfl
  rw [E54]
  simp only [L54, b0]
  refine (St.start Nop H).newS fun ny H1 s1 hz1 f1 => ?_
  have hge : GE H1 5 1 (.sl ny 0 0 0 0 false) (brow []) := Or.inl ⟨rfl, rfl, rfl, rfl, s1.lt' 0 rfl, _, _, _, _, s1.at 0 rfl, by simp⟩
  simp only [N54_2, N54_3]
  refine Ret.loop (fun m (y : AV × AV × AV) H' => ∃ (i : Nat) (yb : AV), y = (.int .u64 ((S / 256 ^ i : Nat) : Int), yb, .int .i64 i) ∧ m = 8 - i ∧ i ≤ 8 ∧ GE H' 5 1 yb (brow ((w8 S).take i)) ∧ (∀ t, yb.lies t → H.sz ≤ t) ∧ Fr (fun t => H.sz ≤ t) H H') ?_ 8 k _ H1 ⟨0, _, by simp, rfl, by omega, hge, fun t ht => by have e : ny = t := ht; omega, f1.mono fun t _ q => q.elim⟩ (by omega)
  rintro m y H' kn ⟨i, yb, rfl, hm, hi, hG, hy, fr⟩ next
  by_cases h : i < 8
  · have h' : (i : Int) < 8 := by omega
    have n0 : (256 : Int) ≠ 0 := by decide
    have hq256 : S / 256 ^ i % 256 < 256 := Nat.mod_lt _ (by decide)
    have bl : ∀ b : UInt8, bldS H' 5 1 [.int .u8 0] 1 [(0, 1, .int .u8 b.toNat)] = some (.sl H'.sz 0 0 1 1 false, .new (.cells 0 5 (0, 0) false [.int .u8 b.toNat])) := fun b => rfl
    simp only [N54_3b, h', bin_rem _ _ _ _ _ _ n0, bin_quo _ _ _ _ _ _ n0, rs1, rs2 _ hq256, rs3 S i hSl, bl, purK_some, resK_some, boolK_some, condK_true, condK_false, wantV_tt, wantV_tf, wantV_ft, wantV_ff, wantV_t, wantV_f, wantV_skip, Bool.not_true, Bool.not_false, gPur_true, gPur_false, gEff_true, gEff_false, gRes_true, gRes_false, pickA_true, pickA_false, extA_0, extA_1, extA_2, retK_one, retK_none, retK_two, valK_fn, valR_fn, cond_true, cond_false, bin_add, bin_sub, bin_mul, bin_eql, bin_neq, bin_lss, bin_leq, bin_gtr, bin_geq, bin_seql, bin_sneq, un_not_t, un_not_f, un_not, cvI_int, cvT_str, nilChk_ptr, nilChk_xp, addA_ptr, lenT_str, Bool.true_or, Bool.or_true, Bool.false_or, Bool.or_false, Bool.true_and, Bool.and_true, Bool.false_and, Bool.and_false, decide_true, decide_false, Int.reduceEq, Int.reduceLT, Int.reduceLE, Int.reduceNe, Int.reduceAdd, Int.reduceSub, Int.reduceMul, Int.reduceNeg, List.nil_append, List.append_nil, List.cons_append]
    refine (St.start Nop H').newS fun b H2 s2 hz2 f2 => ?_
    have hE : Els ρ H2 1 (.sl b 0 0 1 1 false) (brow [UInt8.ofNat (S / 256 ^ i % 256)]) := Els.of_cells (els := brow [_]) (e := 5) (fr := (0, 0)) (g := false) (s2.lt' 0 rfl) (by rw [s2.at 0 rfl]; rfl) (brow_one _)
    have hw : (w8 S).take (i + 1) = (w8 S).take i ++ [UInt8.ofNat (S / 256 ^ i % 256)] := by
      have hi8 : i < (w8 S).length := by rw [w8_len]; exact h
      rw [List.take_succ_eq_append_getElem hi8, w8_at _ i h, Int.toNat_natCast]
    have hlen : (brow ((w8 S).take i)).length ≤ 8 := by rw [brow_len, List.length_take]; omega
    refine Ret.appE (hG.frame Nop f2 fun _ _ q => q) hE (by simp [brow]) (brow_solid _) (by rw [brow_len [_]]; simp; omega) (by rw [brow_len [_]]; simp; omega) ?_
    intro y3 H3 G3 f3 hy3
    rw [← brow_app, ← hw] at G3
    have zr := fr.sz; have z2 := f2.sz
    simp only [wrap_succN i (by omega : i + 1 < 9223372036854775808), purK_some, resK_some, boolK_some, condK_true, condK_false, wantV_tt, wantV_tf, wantV_ft, wantV_ff, wantV_t, wantV_f, wantV_skip, Bool.not_true, Bool.not_false, gPur_true, gPur_false, gEff_true, gEff_false, gRes_true, gRes_false, pickA_true, pickA_false, extA_0, extA_1, extA_2, retK_one, retK_none, retK_two, valK_fn, valR_fn, cond_true, cond_false, bin_add, bin_sub, bin_mul, bin_eql, bin_neq, bin_lss, bin_leq, bin_gtr, bin_geq, bin_seql, bin_sneq, un_not_t, un_not_f, un_not, cvI_int, cvT_str, nilChk_ptr, nilChk_xp, addA_ptr, lenT_str, Bool.true_or, Bool.or_true, Bool.false_or, Bool.or_false, Bool.true_and, Bool.and_true, Bool.false_and, Bool.and_false, decide_true, decide_false, Int.reduceEq, Int.reduceLT, Int.reduceLE, Int.reduceNe, Int.reduceAdd, Int.reduceSub, Int.reduceMul, Int.reduceNeg, List.nil_append, List.append_nil, List.cons_append]
    exact next (m - 1) _ H3 (by omega) ⟨i + 1, y3, rfl, by omega, by omega, G3, fun t ht => (hy3 t ht).elim (hy t) (fun e => by omega), (fr.trans (f2.mono fun t _ q => q.elim)).trans (f3.mono fun t _ q => hy t q)⟩
  · obtain rfl : i = 8 := by omega
    have h' : ¬ ((8 : Nat) : Int) < 8 := by omega
    have ht : (w8 S).take 8 = w8 S := List.take_of_length_le (by rw [w8_len]; exact Nat.le_refl _)
    rw [ht] at hG
    have eb := b2s_brow (ρ := ρ) hG.toEls hG.notSx
    simp only [N54_3b, N54_1, h', eb, purK_some, resK_some, boolK_some, condK_true, condK_false, wantV_tt, wantV_tf, wantV_ft, wantV_ff, wantV_t, wantV_f, wantV_skip, Bool.not_true, Bool.not_false, gPur_true, gPur_false, gEff_true, gEff_false, gRes_true, gRes_false, pickA_true, pickA_false, extA_0, extA_1, extA_2, retK_one, retK_none, retK_two, valK_fn, valR_fn, cond_true, cond_false, bin_add, bin_sub, bin_mul, bin_eql, bin_neq, bin_lss, bin_leq, bin_gtr, bin_geq, bin_seql, bin_sneq, un_not_t, un_not_f, un_not, cvI_int, cvT_str, nilChk_ptr, nilChk_xp, addA_ptr, lenT_str, Bool.true_or, Bool.or_true, Bool.false_or, Bool.or_false, Bool.true_and, Bool.and_true, Bool.false_and, Bool.and_false, decide_true, decide_false, Int.reduceEq, Int.reduceLT, Int.reduceLE, Int.reduceNe, Int.reduceAdd, Int.reduceSub, Int.reduceMul, Int.reduceNeg, List.nil_append, List.append_nil, List.cons_append]
    exact .intro ⟨rfl, fr.mono fun t ht q => by omega⟩
end
end Go.Proofs.Ytkmohjddojpdjaa

-- part HisA
/- What an operation does to what a key has: the program's and the reference's. -/
set_option linter.unusedVariables false
set_option linter.unusedSimpArgs false
namespace Go.Proofs.Ytkmohjddojpdjaa
attribute [local congr] Go.Ev.cond_congr1
open Go.Ev Go.RowKit
structure OpB where
  kind : Int
  key : List UInt8
  val : List UInt8
  n : Int
deriving DecidableEq
def OpB.cells (d : OpB) : List AV := [.int .i64 d.kind, .str (ba d.key), .str (ba d.val), .int .u64 d.n]
theorem OpB.solid (d : OpB) : d.cells.all AV.solid = true := by simp only [OpB.cells, List.all_cons, List.all_nil, sol_int, sol_str, Bool.and_self]
/-- What a key has. -/
structure HasB where
  val : List UInt8
  is : Bool
deriving DecidableEq
structure OutB where
  code : Int
  val : List UInt8
deriving DecidableEq
def OutB.cells (d : OutB) : List AV := [.int .i64 d.code, .str (ba d.val)]
def HasB.cells (d : HasB) : List AV := [.str (ba d.val), .bool d.is]
theorem OutB.solid (d : OutB) : d.cells.all AV.solid = true := by simp only [OutB.cells, List.all_cons, List.all_nil, sol_int, sol_str, Bool.and_self]
theorem HasB.solid (d : HasB) : d.cells.all AV.solid = true := by simp only [HasB.cells, List.all_cons, List.all_nil, sol_bool, sol_str, Bool.and_self]
/-- What is had, as it is told: nothing where there is none. -/
def HasB.norm (h : HasB) : HasB := if h.is then h else ⟨[], false⟩
/-- An operation is done. -/
def applyH (h : HasB) (op : OpB) : HasB × OutB :=
  if op.kind = 1 then (if h.is then (h, ⟨0, h.val⟩) else (⟨[], false⟩, ⟨7, []⟩))
  else if op.kind = 2 then (⟨op.val, true⟩, ⟨0, []⟩)
  else if op.kind = 3 then (⟨addV h.norm.val op.n, true⟩, ⟨0, []⟩)
  else if op.kind = 4 then (⟨[], false⟩, ⟨0, []⟩)
  else (h.norm, ⟨1, []⟩)
section
variable {ρ : Addr → Option Value} {k : Nat} {H : Heap}
theorem eqOut (H : Heap) (o : OutB) : binA Try.prog H .eql 53 (.agg o.cells) (.agg o.cells) = some (.bool true) := by
  have : ∀ a s, binA Try.prog H .eql 53 (.agg [.int .i64 a, .str s]) (.agg [.int .i64 a, .str s]) = (bif a == a then bif s == s then some true else some false else some false).map fun b => .bool b := fun a s => by kernel_rfl
  unfold OutB.cells
  rw [this]
  simp [ba_beq]
theorem eqb (H : Heap) (a b : Bool) : binA Try.prog H .eql 4 (.bool a) (.bool b) = some (.bool (a == b)) := by cases a <;> cases b <;> kernel_rfl
theorem apply_spec (h : HasB) (op : OpB) (hk : 100 ≤ k) :
    Ret (fun v H' => v = .tup [.str (ba (applyH h op).1.val), .bool (applyH h op).1.is, .agg (applyH h op).2.cells] ∧ Fr Nop H H') (evCall (cx ρ) k 0 29 [.str (ba h.val), .bool h.is, .agg op.cells] H) := by
  obtain ⟨k, rfl⟩ : ∃ q, k = q + 1 := ⟨k - 1, by omega⟩
  rw [E29]
  simp only [L29, boxA_agg _ _ _ op.solid, newCells_eq]
  refine (St.start Nop H).newP fun n5 H1 s1 hz1 f1 => ?_
  refine s1.newP fun n8 H2 s2 hz2 f2 => ?_
  have s2' : St Nop H [(n5, .cells 0 51 (0, 0) false op.cells), (n8, .cells 0 53 (0, 0) false [.int .i64 0, .str ByteArray.empty])] H2 := s2
  have d0 : ldC 0 0 (.cells 0 51 (0, 0) false op.cells) = some (.int .i64 op.kind) := by rw [ldC_cells]; rfl
  have d2 : ldC 0 2 (.cells 0 51 (0, 0) false op.cells) = some (.str (ba op.val)) := by rw [ldC_cells]; rfl
  have d3 : ldC 0 3 (.cells 0 51 (0, 0) false op.cells) = some (.int .u64 op.n) := by rw [ldC_cells]; rfl
  have bo : ∀ (o : OutB), (bldA [.int .i64 0, .str ByteArray.empty] [(0, 1, .int .i64 o.code), (1, 1, .str (ba o.val))]) = some (.agg o.cells) := fun o => rfl
  have b7 : ∀ c : Int, (bldA [.int .i64 0, .str ByteArray.empty] [(0, 1, .int .i64 c)]) = some (.agg (OutB.cells ⟨c, []⟩)) := fun c => rfl
  have bv : ∀ v, (bldA [.int .i64 0, .str ByteArray.empty] [(1, 1, .str (ba v))]) = some (.agg (OutB.cells ⟨0, v⟩)) := fun v => rfl
  have b00 : (bldA [.int .i64 0, .str ByteArray.empty] []) = some (.agg (OutB.cells ⟨0, []⟩)) := rfl
  -- the end: the outcome is laid and read again
  have fin : ∀ {H3 : Heap} (o : OutB) (v : List UInt8) (b : Bool), St Nop H [(n5, .cells 0 51 (0, 0) false op.cells), (n8, .cells 0 53 (0, 0) false [.int .i64 0, .str ByteArray.empty])] H3 →
      Ret (fun r H' => r = .tup [.str (ba v), .bool b, .agg o.cells] ∧ Fr Nop H H') (effK H3 (stA 0 H3 2 (.ptr n8 0 0) (.agg o.cells)) fun _ H => retC (cx ρ) [none, none, some 53] [.str (ba v), .bool b, .ptr n8 0 0] H) := by
    intro H3 o v b s3
    refine s3.stN 1 rfl rfl o.solid (by decide) fun H4 s4 z4 f4 => ?_
    rw [lay_all [.int .i64 0, .str ByteArray.empty] o.cells rfl] at s4
    have e4 : ldN ρ H4 2 (.ptr n8 0 0) = some (.agg o.cells) := by rw [ldN_of 2 0 (s4.at 1 rfl) (Nat.le_refl _)]; rfl
    simp only [ldT53, e4, purK_some, resK_some, boolK_some, condK_true, condK_false, wantV_tt, wantV_tf, wantV_ft, wantV_ff, wantV_t, wantV_f, wantV_skip, Bool.not_true, Bool.not_false, gPur_true, gPur_false, gEff_true, gEff_false, gRes_true, gRes_false, pickA_true, pickA_false, extA_0, extA_1, extA_2, retK_one, retK_none, retK_two, valK_fn, valR_fn, cond_true, cond_false, bin_add, bin_sub, bin_mul, bin_eql, bin_neq, bin_lss, bin_leq, bin_gtr, bin_geq, bin_seql, bin_sneq, un_not_t, un_not_f, un_not, cvI_int, cvT_str, nilChk_ptr, nilChk_xp, addA_ptr, lenT_str, Bool.true_or, Bool.or_true, Bool.false_or, Bool.or_false, Bool.true_and, Bool.and_true, Bool.false_and, Bool.and_false, decide_true, decide_false, Int.reduceEq, Int.reduceLT, Int.reduceLE, Int.reduceNe, Int.reduceAdd, Int.reduceSub, Int.reduceMul, Int.reduceNeg, List.nil_append, List.append_nil, List.cons_append, retC_eq, retAll_nil, retAll_none, retAll_some, Option.bind_some]
    exact .intro ⟨rfl, s4.fr⟩
  have main : Ret (fun v H' => v = .tup [.str (ba (applyH h op).1.val), .bool (applyH h op).1.is, .agg (applyH h op).2.cells] ∧ Fr Nop H H') (N29_1 ρ (evCall (cx ρ) k) (evCY (cx ρ) k).2 0 k (.str (ba h.norm.val)) (.bool h.is) (.ptr n5 0 0) (.ptr n8 0 0) H2 (retC (cx ρ) [none, none, some 53])) := by
    unfold applyH
    by_cases k1 : op.kind = 1
    · simp only [N29_1, ld1_ptr, s2'.at 0 rfl, d0, k1, if_true, Nat.zero_add, purK_some, resK_some, boolK_some, condK_true, condK_false, wantV_tt, wantV_tf, wantV_ft, wantV_ff, wantV_t, wantV_f, wantV_skip, Bool.not_true, Bool.not_false, gPur_true, gPur_false, gEff_true, gEff_false, gRes_true, gRes_false, pickA_true, pickA_false, extA_0, extA_1, extA_2, retK_one, retK_none, retK_two, valK_fn, valR_fn, cond_true, cond_false, bin_add, bin_sub, bin_mul, bin_eql, bin_neq, bin_lss, bin_leq, bin_gtr, bin_geq, bin_seql, bin_sneq, un_not_t, un_not_f, un_not, cvI_int, cvT_str, nilChk_ptr, nilChk_xp, addA_ptr, lenT_str, Bool.true_or, Bool.or_true, Bool.false_or, Bool.or_false, Bool.true_and, Bool.and_true, Bool.false_and, Bool.and_false, decide_true, decide_false, Int.reduceEq, Int.reduceLT, Int.reduceLE, Int.reduceNe, Int.reduceAdd, Int.reduceSub, Int.reduceMul, Int.reduceNeg, List.nil_append, List.append_nil, List.cons_append]
      cases hi : h.is
      · simp only [b7, if_false, Bool.false_eq_true, purK_some, resK_some, boolK_some, condK_true, condK_false, wantV_tt, wantV_tf, wantV_ft, wantV_ff, wantV_t, wantV_f, wantV_skip, Bool.not_true, Bool.not_false, gPur_true, gPur_false, gEff_true, gEff_false, gRes_true, gRes_false, pickA_true, pickA_false, extA_0, extA_1, extA_2, retK_one, retK_none, retK_two, valK_fn, valR_fn, cond_true, cond_false, bin_add, bin_sub, bin_mul, bin_eql, bin_neq, bin_lss, bin_leq, bin_gtr, bin_geq, bin_seql, bin_sneq, un_not_t, un_not_f, un_not, cvI_int, cvT_str, nilChk_ptr, nilChk_xp, addA_ptr, lenT_str, Bool.true_or, Bool.or_true, Bool.false_or, Bool.or_false, Bool.true_and, Bool.and_true, Bool.false_and, Bool.and_false, decide_true, decide_false, Int.reduceEq, Int.reduceLT, Int.reduceLE, Int.reduceNe, Int.reduceAdd, Int.reduceSub, Int.reduceMul, Int.reduceNeg, List.nil_append, List.append_nil, List.cons_append, ba_size, ba_inj, emp1, emp2]
        exact fin ⟨7, []⟩ [] false s2'
      · have hn : h.norm = h := by unfold HasB.norm; rw [hi]; rfl
        simp only [bv, hn, if_true, purK_some, resK_some, boolK_some, condK_true, condK_false, wantV_tt, wantV_tf, wantV_ft, wantV_ff, wantV_t, wantV_f, wantV_skip, Bool.not_true, Bool.not_false, gPur_true, gPur_false, gEff_true, gEff_false, gRes_true, gRes_false, pickA_true, pickA_false, extA_0, extA_1, extA_2, retK_one, retK_none, retK_two, valK_fn, valR_fn, cond_true, cond_false, bin_add, bin_sub, bin_mul, bin_eql, bin_neq, bin_lss, bin_leq, bin_gtr, bin_geq, bin_seql, bin_sneq, un_not_t, un_not_f, un_not, cvI_int, cvT_str, nilChk_ptr, nilChk_xp, addA_ptr, lenT_str, Bool.true_or, Bool.or_true, Bool.false_or, Bool.or_false, Bool.true_and, Bool.and_true, Bool.false_and, Bool.and_false, decide_true, decide_false, Int.reduceEq, Int.reduceLT, Int.reduceLE, Int.reduceNe, Int.reduceAdd, Int.reduceSub, Int.reduceMul, Int.reduceNeg, List.nil_append, List.append_nil, List.cons_append, ba_size, ba_inj, emp1, emp2]
        have := fin (H3 := H2) ⟨0, h.val⟩ h.val true s2'
        obtain ⟨v, i⟩ := h
        simp only at hi
        subst hi
        exact this
    by_cases k2 : op.kind = 2
    · simp only [N29_1, ld1_ptr, s2'.at 0 rfl, d0, d2, k1, k2, if_true, if_false, b00, Nat.zero_add, Int.reduceEq, purK_some, resK_some, boolK_some, condK_true, condK_false, wantV_tt, wantV_tf, wantV_ft, wantV_ff, wantV_t, wantV_f, wantV_skip, Bool.not_true, Bool.not_false, gPur_true, gPur_false, gEff_true, gEff_false, gRes_true, gRes_false, pickA_true, pickA_false, extA_0, extA_1, extA_2, retK_one, retK_none, retK_two, valK_fn, valR_fn, cond_true, cond_false, bin_add, bin_sub, bin_mul, bin_eql, bin_neq, bin_lss, bin_leq, bin_gtr, bin_geq, bin_seql, bin_sneq, un_not_t, un_not_f, un_not, cvI_int, cvT_str, nilChk_ptr, nilChk_xp, addA_ptr, lenT_str, Bool.true_or, Bool.or_true, Bool.false_or, Bool.or_false, Bool.true_and, Bool.and_true, Bool.false_and, Bool.and_false, decide_true, decide_false, Int.reduceEq, Int.reduceLT, Int.reduceLE, Int.reduceNe, Int.reduceAdd, Int.reduceSub, Int.reduceMul, Int.reduceNeg, List.nil_append, List.append_nil, List.cons_append]
      exact fin ⟨0, []⟩ op.val true s2'
    by_cases k3 : op.kind = 3
    · simp only [N29_1, ld1_ptr, s2'.at 0 rfl, d0, d3, k1, k2, k3, if_true, if_false, Nat.zero_add, Int.reduceEq, purK_some, resK_some, boolK_some, condK_true, condK_false, wantV_tt, wantV_tf, wantV_ft, wantV_ff, wantV_t, wantV_f, wantV_skip, Bool.not_true, Bool.not_false, gPur_true, gPur_false, gEff_true, gEff_false, gRes_true, gRes_false, pickA_true, pickA_false, extA_0, extA_1, extA_2, retK_one, retK_none, retK_two, valK_fn, valR_fn, cond_true, cond_false, bin_add, bin_sub, bin_mul, bin_eql, bin_neq, bin_lss, bin_leq, bin_gtr, bin_geq, bin_seql, bin_sneq, un_not_t, un_not_f, un_not, cvI_int, cvT_str, nilChk_ptr, nilChk_xp, addA_ptr, lenT_str, Bool.true_or, Bool.or_true, Bool.false_or, Bool.or_false, Bool.true_and, Bool.and_true, Bool.false_and, Bool.and_false, decide_true, decide_false, Int.reduceEq, Int.reduceLT, Int.reduceLE, Int.reduceNe, Int.reduceAdd, Int.reduceSub, Int.reduceMul, Int.reduceNeg, List.nil_append, List.append_nil, List.cons_append]
      refine Ret.bind (adds_spec h.norm.val op.n (by omega)) ?_
      rintro r H3 ⟨rfl, f3⟩
      simp only [b00, purK_some, resK_some, boolK_some, condK_true, condK_false, wantV_tt, wantV_tf, wantV_ft, wantV_ff, wantV_t, wantV_f, wantV_skip, Bool.not_true, Bool.not_false, gPur_true, gPur_false, gEff_true, gEff_false, gRes_true, gRes_false, pickA_true, pickA_false, extA_0, extA_1, extA_2, retK_one, retK_none, retK_two, valK_fn, valR_fn, cond_true, cond_false, bin_add, bin_sub, bin_mul, bin_eql, bin_neq, bin_lss, bin_leq, bin_gtr, bin_geq, bin_seql, bin_sneq, un_not_t, un_not_f, un_not, cvI_int, cvT_str, nilChk_ptr, nilChk_xp, addA_ptr, lenT_str, Bool.true_or, Bool.or_true, Bool.false_or, Bool.or_false, Bool.true_and, Bool.and_true, Bool.false_and, Bool.and_false, decide_true, decide_false, Int.reduceEq, Int.reduceLT, Int.reduceLE, Int.reduceNe, Int.reduceAdd, Int.reduceSub, Int.reduceMul, Int.reduceNeg, List.nil_append, List.append_nil, List.cons_append]
      exact fin ⟨0, []⟩ _ true (s2'.frame0 f3)
    by_cases k4 : op.kind = 4
    · simp only [N29_1, ld1_ptr, s2'.at 0 rfl, d0, k1, k2, k3, k4, if_true, if_false, b00, Nat.zero_add, Int.reduceEq, purK_some, resK_some, boolK_some, condK_true, condK_false, wantV_tt, wantV_tf, wantV_ft, wantV_ff, wantV_t, wantV_f, wantV_skip, Bool.not_true, Bool.not_false, gPur_true, gPur_false, gEff_true, gEff_false, gRes_true, gRes_false, pickA_true, pickA_false, extA_0, extA_1, extA_2, retK_one, retK_none, retK_two, valK_fn, valR_fn, cond_true, cond_false, bin_add, bin_sub, bin_mul, bin_eql, bin_neq, bin_lss, bin_leq, bin_gtr, bin_geq, bin_seql, bin_sneq, un_not_t, un_not_f, un_not, cvI_int, cvT_str, nilChk_ptr, nilChk_xp, addA_ptr, lenT_str, Bool.true_or, Bool.or_true, Bool.false_or, Bool.or_false, Bool.true_and, Bool.and_true, Bool.false_and, Bool.and_false, decide_true, decide_false, Int.reduceEq, Int.reduceLT, Int.reduceLE, Int.reduceNe, Int.reduceAdd, Int.reduceSub, Int.reduceMul, Int.reduceNeg, List.nil_append, List.append_nil, List.cons_append, ba_size, ba_inj, emp1, emp2]
      exact fin ⟨0, []⟩ [] false s2'
    · simp only [N29_1, ld1_ptr, s2'.at 0 rfl, d0, k1, k2, k3, k4, if_true, if_false, b7, Nat.zero_add, purK_some, resK_some, boolK_some, condK_true, condK_false, wantV_tt, wantV_tf, wantV_ft, wantV_ff, wantV_t, wantV_f, wantV_skip, Bool.not_true, Bool.not_false, gPur_true, gPur_false, gEff_true, gEff_false, gRes_true, gRes_false, pickA_true, pickA_false, extA_0, extA_1, extA_2, retK_one, retK_none, retK_two, valK_fn, valR_fn, cond_true, cond_false, bin_add, bin_sub, bin_mul, bin_eql, bin_neq, bin_lss, bin_leq, bin_gtr, bin_geq, bin_seql, bin_sneq, un_not_t, un_not_f, un_not, cvI_int, cvT_str, nilChk_ptr, nilChk_xp, addA_ptr, lenT_str, Bool.true_or, Bool.or_true, Bool.false_or, Bool.or_false, Bool.true_and, Bool.and_true, Bool.false_and, Bool.and_false, decide_true, decide_false, Int.reduceEq, Int.reduceLT, Int.reduceLE, Int.reduceNe, Int.reduceAdd, Int.reduceSub, Int.reduceMul, Int.reduceNeg, List.nil_append, List.append_nil, List.cons_append]
      have hn2 : h.norm.is = h.is := by unfold HasB.norm; split; rfl; rename_i q; simpa using q
      rw [← hn2]
      exact fin ⟨1, []⟩ h.norm.val h.norm.is s2'
  cases hi : h.is
  · rw [hi] at main
    have hn : h.norm.val = [] := by unfold HasB.norm; rw [hi]; rfl
    rw [hn] at main
    simp only [purK_some, resK_some, boolK_some, condK_true, condK_false, wantV_tt, wantV_tf, wantV_ft, wantV_ff, wantV_t, wantV_f, wantV_skip, Bool.not_true, Bool.not_false, gPur_true, gPur_false, gEff_true, gEff_false, gRes_true, gRes_false, pickA_true, pickA_false, extA_0, extA_1, extA_2, retK_one, retK_none, retK_two, valK_fn, valR_fn, cond_true, cond_false, bin_add, bin_sub, bin_mul, bin_eql, bin_neq, bin_lss, bin_leq, bin_gtr, bin_geq, bin_seql, bin_sneq, un_not_t, un_not_f, un_not, cvI_int, cvT_str, nilChk_ptr, nilChk_xp, addA_ptr, lenT_str, Bool.true_or, Bool.or_true, Bool.false_or, Bool.or_false, Bool.true_and, Bool.and_true, Bool.false_and, Bool.and_false, decide_true, decide_false, Int.reduceEq, Int.reduceLT, Int.reduceLE, Int.reduceNe, Int.reduceAdd, Int.reduceSub, Int.reduceMul, Int.reduceNeg, List.nil_append, List.append_nil, List.cons_append, ba_size, ba_inj, emp1, emp2]
    exact main
  · rw [hi] at main
    have hn : h.norm.val = h.val := by unfold HasB.norm; rw [hi]; rfl
    rw [hn] at main
    simp only [purK_some, resK_some, boolK_some, condK_true, condK_false, wantV_tt, wantV_tf, wantV_ft, wantV_ff, wantV_t, wantV_f, wantV_skip, Bool.not_true, Bool.not_false, gPur_true, gPur_false, gEff_true, gEff_false, gRes_true, gRes_false, pickA_true, pickA_false, extA_0, extA_1, extA_2, retK_one, retK_none, retK_two, valK_fn, valR_fn, cond_true, cond_false, bin_add, bin_sub, bin_mul, bin_eql, bin_neq, bin_lss, bin_leq, bin_gtr, bin_geq, bin_seql, bin_sneq, un_not_t, un_not_f, un_not, cvI_int, cvT_str, nilChk_ptr, nilChk_xp, addA_ptr, lenT_str, Bool.true_or, Bool.or_true, Bool.false_or, Bool.or_false, Bool.true_and, Bool.and_true, Bool.false_and, Bool.and_false, decide_true, decide_false, Int.reduceEq, Int.reduceLT, Int.reduceLE, Int.reduceNe, Int.reduceAdd, Int.reduceSub, Int.reduceMul, Int.reduceNeg, List.nil_append, List.append_nil, List.cons_append, ba_size, ba_inj, emp1, emp2]
    exact main
theorem rapply_spec (h : HasB) (op : OpB) (hop : 1 ≤ op.kind ∧ op.kind ≤ 4) (hk : 100 ≤ k) :
    Ret (fun v H' => v = .tup [.agg (applyH h op).1.cells, .agg (applyH h op).2.cells] ∧ Fr Nop H H') (evCall (cx ρ) k 0 30 [.agg h.cells, .agg op.cells] H) := by
  obtain ⟨k, rfl⟩ : ∃ q, k = q + 1 := ⟨k - 1, by omega⟩
  rw [E30]
  simp only [L30, boxA_agg _ _ _ op.solid, boxA_agg _ _ _ h.solid, newCells_eq]
  refine (St.start Nop H).newP fun n2 H1 s1 hz1 f1 => ?_
  refine s1.newP fun n3 H2 s2 hz2 f2 => ?_
  refine s2.newP fun n4 H3 s3 hz3 f3 => ?_
  refine s3.newP fun n5 H4 s4 hz4 f4 => ?_
  have s4' : St Nop H [(n2, .cells 0 47 (0, 0) false h.cells), (n3, .cells 0 51 (0, 0) false op.cells), (n4, .cells 0 47 (0, 0) false [.str ByteArray.empty, .bool false]), (n5, .cells 0 53 (0, 0) false [.int .i64 0, .str ByteArray.empty])] H4 := s4
  have d0 : ldC 0 0 (.cells 0 51 (0, 0) false op.cells) = some (.int .i64 op.kind) := by rw [ldC_cells]; rfl
  have d2 : ldC 0 2 (.cells 0 51 (0, 0) false op.cells) = some (.str (ba op.val)) := by rw [ldC_cells]; rfl
  have d3 : ldC 0 3 (.cells 0 51 (0, 0) false op.cells) = some (.int .u64 op.n) := by rw [ldC_cells]; rfl
  have h0 : ldC 0 0 (.cells 0 47 (0, 0) false h.cells) = some (.str (ba h.val)) := by rw [ldC_cells]; rfl
  have h1 : ldC 0 1 (.cells 0 47 (0, 0) false h.cells) = some (.bool h.is) := by rw [ldC_cells]; rfl
  have hN : ldCN 2 0 0 (.cells 0 47 (0, 0) false h.cells) = some (.agg h.cells) := by rw [ldCN_cells _ _ _ _ _ _ _ (Nat.le_refl _)]; rfl
  have b7 : ∀ c : Int, (bldA [.int .i64 0, .str ByteArray.empty] [(0, 1, .int .i64 c)]) = some (.agg (OutB.cells ⟨c, []⟩)) := fun c => rfl
  have bv : ∀ v, (bldA [.int .i64 0, .str ByteArray.empty] [(1, 1, .str (ba v))]) = some (.agg (OutB.cells ⟨0, v⟩)) := fun v => rfl
  have b00 : (bldA [.int .i64 0, .str ByteArray.empty] []) = some (.agg (OutB.cells ⟨0, []⟩)) := rfl
  have bh : ∀ v b, (bldA [.str ByteArray.empty, .bool false] [(0, 1, .str (ba v)), (1, 1, .bool b)]) = some (.agg (HasB.cells ⟨v, b⟩)) := fun v b => rfl
  have bh0 : (bldA [.str ByteArray.empty, .bool false] []) = some (.agg (HasB.cells ⟨[], false⟩)) := rfl
  have fin : ∀ {H5 : Heap} (w : HasB) (o : OutB) {K : AV → Heap → Res}, St Nop H [(n2, .cells 0 47 (0, 0) false h.cells), (n3, .cells 0 51 (0, 0) false op.cells), (n4, .cells 0 47 (0, 0) false [.str ByteArray.empty, .bool false]), (n5, .cells 0 53 (0, 0) false [.int .i64 0, .str ByteArray.empty])] H5 →
      (∀ H6, St Nop H [(n2, .cells 0 47 (0, 0) false h.cells), (n3, .cells 0 51 (0, 0) false op.cells), (n4, .cells 0 47 (0, 0) false w.cells), (n5, .cells 0 53 (0, 0) false [.int .i64 0, .str ByteArray.empty])] H6 → K (.tup []) H6 = effK H6 (stA 0 H6 2 (.ptr n5 0 0) (.agg o.cells)) fun _ H => retC (cx ρ) [some 47, some 53] [.ptr n4 0 0, .ptr n5 0 0] H) →
      Ret (fun r H' => r = .tup [.agg w.cells, .agg o.cells] ∧ Fr Nop H H') (effK H5 (stA 0 H5 2 (.ptr n4 0 0) (.agg w.cells)) K) := by
    intro H5 w o K s5 hK
    refine s5.stN 2 rfl rfl w.solid (by decide) fun H6 s6 z6 f6 => ?_
    rw [lay_all [.str ByteArray.empty, .bool false] w.cells rfl] at s6
    rw [hK H6 s6]
    refine St.stN s6 3 rfl rfl o.solid (by decide) fun H7 s7 z7 f7 => ?_
    rw [lay_all [.int .i64 0, .str ByteArray.empty] o.cells rfl] at s7
    have e4 : ldN ρ H7 2 (.ptr n4 0 0) = some (.agg w.cells) := by rw [ldN_of 2 0 (s7.at 2 rfl) (Nat.le_refl _)]; rfl
    have e5 : ldN ρ H7 2 (.ptr n5 0 0) = some (.agg o.cells) := by rw [ldN_of 2 0 (s7.at 3 rfl) (Nat.le_refl _)]; rfl
    simp only [ldT47, ldT53, e4, e5, purK_some, resK_some, boolK_some, condK_true, condK_false, wantV_tt, wantV_tf, wantV_ft, wantV_ff, wantV_t, wantV_f, wantV_skip, Bool.not_true, Bool.not_false, gPur_true, gPur_false, gEff_true, gEff_false, gRes_true, gRes_false, pickA_true, pickA_false, extA_0, extA_1, extA_2, retK_one, retK_none, retK_two, valK_fn, valR_fn, cond_true, cond_false, bin_add, bin_sub, bin_mul, bin_eql, bin_neq, bin_lss, bin_leq, bin_gtr, bin_geq, bin_seql, bin_sneq, un_not_t, un_not_f, un_not, cvI_int, cvT_str, nilChk_ptr, nilChk_xp, addA_ptr, lenT_str, Bool.true_or, Bool.or_true, Bool.false_or, Bool.or_false, Bool.true_and, Bool.and_true, Bool.false_and, Bool.and_false, decide_true, decide_false, Int.reduceEq, Int.reduceLT, Int.reduceLE, Int.reduceNe, Int.reduceAdd, Int.reduceSub, Int.reduceMul, Int.reduceNeg, List.nil_append, List.append_nil, List.cons_append, retC_eq, retAll_nil, retAll_none, retAll_some, Option.bind_some]
    exact .intro ⟨rfl, s7.fr⟩
  unfold applyH
  by_cases k2 : op.kind = 2
  · have k1 : ¬ (2 : Int) = 1 := by decide
    simp only [ld1_ptr, s4'.at 1 rfl, d0, d2, k1, k2, if_true, if_false, bh, b00, Nat.zero_add, purK_some, resK_some, boolK_some, condK_true, condK_false, wantV_tt, wantV_tf, wantV_ft, wantV_ff, wantV_t, wantV_f, wantV_skip, Bool.not_true, Bool.not_false, gPur_true, gPur_false, gEff_true, gEff_false, gRes_true, gRes_false, pickA_true, pickA_false, extA_0, extA_1, extA_2, retK_one, retK_none, retK_two, valK_fn, valR_fn, cond_true, cond_false, bin_add, bin_sub, bin_mul, bin_eql, bin_neq, bin_lss, bin_leq, bin_gtr, bin_geq, bin_seql, bin_sneq, un_not_t, un_not_f, un_not, cvI_int, cvT_str, nilChk_ptr, nilChk_xp, addA_ptr, lenT_str, Bool.true_or, Bool.or_true, Bool.false_or, Bool.or_false, Bool.true_and, Bool.and_true, Bool.false_and, Bool.and_false, decide_true, decide_false, Int.reduceEq, Int.reduceLT, Int.reduceLE, Int.reduceNe, Int.reduceAdd, Int.reduceSub, Int.reduceMul, Int.reduceNeg, List.nil_append, List.append_nil, List.cons_append]
    exact fin ⟨op.val, true⟩ ⟨0, []⟩ s4' fun H6 s6 => rfl
  by_cases k3 : op.kind = 3
  · have hnum : ∀ x6 : Nat, x6 = numV h.norm.val → ∀ H5, St Nop H [(n2, .cells 0 47 (0, 0) false h.cells), (n3, .cells 0 51 (0, 0) false op.cells), (n4, .cells 0 47 (0, 0) false [.str ByteArray.empty, .bool false]), (n5, .cells 0 53 (0, 0) false [.int .i64 0, .str ByteArray.empty])] H5 →
        Ret (fun r H' => r = .tup [.agg (HasB.cells ⟨addV h.norm.val op.n, true⟩), .agg (OutB.cells ⟨0, []⟩)] ∧ Fr Nop H H') (N30_2 ρ (evCall (cx ρ) k) (evCY (cx ρ) k).2 0 k (.ptr n3 0 0) (.ptr n4 0 0) (.ptr n5 0 0) (.int .u64 x6) H5 (retC (cx ρ) [some 47, some 53])) := by
      intro x6 hx6 H5 s5
      simp only [N30_2, ld1_ptr, s5.at 1 rfl, d3, Nat.zero_add, purK_some, resK_some, boolK_some, condK_true, condK_false, wantV_tt, wantV_tf, wantV_ft, wantV_ff, wantV_t, wantV_f, wantV_skip, Bool.not_true, Bool.not_false, gPur_true, gPur_false, gEff_true, gEff_false, gRes_true, gRes_false, pickA_true, pickA_false, extA_0, extA_1, extA_2, retK_one, retK_none, retK_two, valK_fn, valR_fn, cond_true, cond_false, bin_add, bin_sub, bin_mul, bin_eql, bin_neq, bin_lss, bin_leq, bin_gtr, bin_geq, bin_seql, bin_sneq, un_not_t, un_not_f, un_not, cvI_int, cvT_str, nilChk_ptr, nilChk_xp, addA_ptr, lenT_str, Bool.true_or, Bool.or_true, Bool.false_or, Bool.or_false, Bool.true_and, Bool.and_true, Bool.false_and, Bool.and_false, decide_true, decide_false, Int.reduceEq, Int.reduceLT, Int.reduceLE, Int.reduceNe, Int.reduceAdd, Int.reduceSub, Int.reduceMul, Int.reduceNeg, List.nil_append, List.append_nil, List.cons_append]
      refine Ret.bind (rval_spec _ (wrap_u64_range _) (by omega)) ?_
      rintro r H6 ⟨rfl, f6⟩
      simp only [bh, b00, purK_some, resK_some, boolK_some, condK_true, condK_false, wantV_tt, wantV_tf, wantV_ft, wantV_ff, wantV_t, wantV_f, wantV_skip, Bool.not_true, Bool.not_false, gPur_true, gPur_false, gEff_true, gEff_false, gRes_true, gRes_false, pickA_true, pickA_false, extA_0, extA_1, extA_2, retK_one, retK_none, retK_two, valK_fn, valR_fn, cond_true, cond_false, bin_add, bin_sub, bin_mul, bin_eql, bin_neq, bin_lss, bin_leq, bin_gtr, bin_geq, bin_seql, bin_sneq, un_not_t, un_not_f, un_not, cvI_int, cvT_str, nilChk_ptr, nilChk_xp, addA_ptr, lenT_str, Bool.true_or, Bool.or_true, Bool.false_or, Bool.or_false, Bool.true_and, Bool.and_true, Bool.false_and, Bool.and_false, decide_true, decide_false, Int.reduceEq, Int.reduceLT, Int.reduceLE, Int.reduceNe, Int.reduceAdd, Int.reduceSub, Int.reduceMul, Int.reduceNeg, List.nil_append, List.append_nil, List.cons_append]
      rw [hx6]
      exact fin ⟨addV h.norm.val op.n, true⟩ ⟨0, []⟩ (s5.frame0 f6) fun H6 s6 => rfl
    have k1 : ¬ (3 : Int) = 1 := by decide
    have k2' : ¬ (3 : Int) = 2 := by decide
    simp only [ld1_ptr, s4'.at 1 rfl, s4'.at 0 rfl, d0, h0, h1, k1, k2', k3, if_true, if_false, Nat.zero_add, purK_some, resK_some, boolK_some, condK_true, condK_false, wantV_tt, wantV_tf, wantV_ft, wantV_ff, wantV_t, wantV_f, wantV_skip, Bool.not_true, Bool.not_false, gPur_true, gPur_false, gEff_true, gEff_false, gRes_true, gRes_false, pickA_true, pickA_false, extA_0, extA_1, extA_2, retK_one, retK_none, retK_two, valK_fn, valR_fn, cond_true, cond_false, bin_add, bin_sub, bin_mul, bin_eql, bin_neq, bin_lss, bin_leq, bin_gtr, bin_geq, bin_seql, bin_sneq, un_not_t, un_not_f, un_not, cvI_int, cvT_str, nilChk_ptr, nilChk_xp, addA_ptr, lenT_str, Bool.true_or, Bool.or_true, Bool.false_or, Bool.or_false, Bool.true_and, Bool.and_true, Bool.false_and, Bool.and_false, decide_true, decide_false, Int.reduceEq, Int.reduceLT, Int.reduceLE, Int.reduceNe, Int.reduceAdd, Int.reduceSub, Int.reduceMul, Int.reduceNeg, List.nil_append, List.append_nil, List.cons_append]
    cases hi : h.is
    · have hn : h.norm.val = [] := by unfold HasB.norm; rw [hi]; rfl
      simp only [purK_some, resK_some, boolK_some, condK_true, condK_false, wantV_tt, wantV_tf, wantV_ft, wantV_ff, wantV_t, wantV_f, wantV_skip, Bool.not_true, Bool.not_false, gPur_true, gPur_false, gEff_true, gEff_false, gRes_true, gRes_false, pickA_true, pickA_false, extA_0, extA_1, extA_2, retK_one, retK_none, retK_two, valK_fn, valR_fn, cond_true, cond_false, bin_add, bin_sub, bin_mul, bin_eql, bin_neq, bin_lss, bin_leq, bin_gtr, bin_geq, bin_seql, bin_sneq, un_not_t, un_not_f, un_not, cvI_int, cvT_str, nilChk_ptr, nilChk_xp, addA_ptr, lenT_str, Bool.true_or, Bool.or_true, Bool.false_or, Bool.or_false, Bool.true_and, Bool.and_true, Bool.false_and, Bool.and_false, decide_true, decide_false, Int.reduceEq, Int.reduceLT, Int.reduceLE, Int.reduceNe, Int.reduceAdd, Int.reduceSub, Int.reduceMul, Int.reduceNeg, List.nil_append, List.append_nil, List.cons_append]
      have := hnum 0 (by rw [hn]; rfl) H4 s4'
      exact this
    · have hn : h.norm.val = h.val := by unfold HasB.norm; rw [hi]; rfl
      simp only [ld1_ptr, s4'.at 0 rfl, h0, Nat.zero_add, purK_some, resK_some, boolK_some, condK_true, condK_false, wantV_tt, wantV_tf, wantV_ft, wantV_ff, wantV_t, wantV_f, wantV_skip, Bool.not_true, Bool.not_false, gPur_true, gPur_false, gEff_true, gEff_false, gRes_true, gRes_false, pickA_true, pickA_false, extA_0, extA_1, extA_2, retK_one, retK_none, retK_two, valK_fn, valR_fn, cond_true, cond_false, bin_add, bin_sub, bin_mul, bin_eql, bin_neq, bin_lss, bin_leq, bin_gtr, bin_geq, bin_seql, bin_sneq, un_not_t, un_not_f, un_not, cvI_int, cvT_str, nilChk_ptr, nilChk_xp, addA_ptr, lenT_str, Bool.true_or, Bool.or_true, Bool.false_or, Bool.or_false, Bool.true_and, Bool.and_true, Bool.false_and, Bool.and_false, decide_true, decide_false, Int.reduceEq, Int.reduceLT, Int.reduceLE, Int.reduceNe, Int.reduceAdd, Int.reduceSub, Int.reduceMul, Int.reduceNeg, List.nil_append, List.append_nil, List.cons_append]
      refine Ret.bind (rnum_spec h.val (by omega)) ?_
      rintro r H5 ⟨rfl, rfl⟩
      exact hnum _ (by rw [hn]) H5 s4'
  by_cases k4 : op.kind = 4
  · have k1 : ¬ (4 : Int) = 1 := by decide
    have k2' : ¬ (4 : Int) = 2 := by decide
    have k3' : ¬ (4 : Int) = 3 := by decide
    simp only [N30_1, ld1_ptr, s4'.at 1 rfl, d0, k1, k2', k3', k4, if_true, if_false, bh0, b00, Nat.zero_add, purK_some, resK_some, boolK_some, condK_true, condK_false, wantV_tt, wantV_tf, wantV_ft, wantV_ff, wantV_t, wantV_f, wantV_skip, Bool.not_true, Bool.not_false, gPur_true, gPur_false, gEff_true, gEff_false, gRes_true, gRes_false, pickA_true, pickA_false, extA_0, extA_1, extA_2, retK_one, retK_none, retK_two, valK_fn, valR_fn, cond_true, cond_false, bin_add, bin_sub, bin_mul, bin_eql, bin_neq, bin_lss, bin_leq, bin_gtr, bin_geq, bin_seql, bin_sneq, un_not_t, un_not_f, un_not, cvI_int, cvT_str, nilChk_ptr, nilChk_xp, addA_ptr, lenT_str, Bool.true_or, Bool.or_true, Bool.false_or, Bool.or_false, Bool.true_and, Bool.and_true, Bool.false_and, Bool.and_false, decide_true, decide_false, Int.reduceEq, Int.reduceLT, Int.reduceLE, Int.reduceNe, Int.reduceAdd, Int.reduceSub, Int.reduceMul, Int.reduceNeg, List.nil_append, List.append_nil, List.cons_append]
    exact fin ⟨[], false⟩ ⟨0, []⟩ s4' fun H6 s6 => rfl
  have k1 : op.kind = 1 := by omega
  have q2 : ¬ (1 : Int) = 2 := by decide
  have q3 : ¬ (1 : Int) = 3 := by decide
  have q4 : ¬ (1 : Int) = 4 := by decide
  cases hi : h.is
  · simp only [N30_1, ld1_ptr, s4'.at 1 rfl, s4'.at 0 rfl, d0, h1, hi, k1, q2, q3, q4, if_true, if_false, Bool.false_eq_true, bh0, b7, Nat.zero_add, purK_some, resK_some, boolK_some, condK_true, condK_false, wantV_tt, wantV_tf, wantV_ft, wantV_ff, wantV_t, wantV_f, wantV_skip, Bool.not_true, Bool.not_false, gPur_true, gPur_false, gEff_true, gEff_false, gRes_true, gRes_false, pickA_true, pickA_false, extA_0, extA_1, extA_2, retK_one, retK_none, retK_two, valK_fn, valR_fn, cond_true, cond_false, bin_add, bin_sub, bin_mul, bin_eql, bin_neq, bin_lss, bin_leq, bin_gtr, bin_geq, bin_seql, bin_sneq, un_not_t, un_not_f, un_not, cvI_int, cvT_str, nilChk_ptr, nilChk_xp, addA_ptr, lenT_str, Bool.true_or, Bool.or_true, Bool.false_or, Bool.or_false, Bool.true_and, Bool.and_true, Bool.false_and, Bool.and_false, decide_true, decide_false, Int.reduceEq, Int.reduceLT, Int.reduceLE, Int.reduceNe, Int.reduceAdd, Int.reduceSub, Int.reduceMul, Int.reduceNeg, List.nil_append, List.append_nil, List.cons_append]
    exact fin ⟨[], false⟩ ⟨7, []⟩ s4' fun H6 s6 => rfl
  · simp only [N30_1, ld1_ptr, ldN_ptr, s4'.at 1 rfl, s4'.at 0 rfl, d0, h0, h1, hN, hi, k1, q2, q3, q4, if_true, if_false, bv, Nat.zero_add, purK_some, resK_some, boolK_some, condK_true, condK_false, wantV_tt, wantV_tf, wantV_ft, wantV_ff, wantV_t, wantV_f, wantV_skip, Bool.not_true, Bool.not_false, gPur_true, gPur_false, gEff_true, gEff_false, gRes_true, gRes_false, pickA_true, pickA_false, extA_0, extA_1, extA_2, retK_one, retK_none, retK_two, valK_fn, valR_fn, cond_true, cond_false, bin_add, bin_sub, bin_mul, bin_eql, bin_neq, bin_lss, bin_leq, bin_gtr, bin_geq, bin_seql, bin_sneq, un_not_t, un_not_f, un_not, cvI_int, cvT_str, nilChk_ptr, nilChk_xp, addA_ptr, lenT_str, Bool.true_or, Bool.or_true, Bool.false_or, Bool.or_false, Bool.true_and, Bool.and_true, Bool.false_and, Bool.and_false, decide_true, decide_false, Int.reduceEq, Int.reduceLT, Int.reduceLE, Int.reduceNe, Int.reduceAdd, Int.reduceSub, Int.reduceMul, Int.reduceNeg, List.nil_append, List.append_nil, List.cons_append]
    refine fin h ⟨0, h.val⟩ s4' fun H6 s6 => ?_
    simp only [ld1_ptr, s6.at 0 rfl, h0, agn_some, eqv_str, purK_some, resK_some, boolK_some, condK_true, condK_false, wantV_tt, wantV_tf, wantV_ft, wantV_ff, wantV_t, wantV_f, wantV_skip, Bool.not_true, Bool.not_false, gPur_true, gPur_false, gEff_true, gEff_false, gRes_true, gRes_false, pickA_true, pickA_false, extA_0, extA_1, extA_2, retK_one, retK_none, retK_two, valK_fn, valR_fn, cond_true, cond_false, bin_add, bin_sub, bin_mul, bin_eql, bin_neq, bin_lss, bin_leq, bin_gtr, bin_geq, bin_seql, bin_sneq, un_not_t, un_not_f, un_not, cvI_int, cvT_str, nilChk_ptr, nilChk_xp, addA_ptr, lenT_str, Bool.true_or, Bool.or_true, Bool.false_or, Bool.or_false, Bool.true_and, Bool.and_true, Bool.false_and, Bool.and_false, decide_true, decide_false, Int.reduceEq, Int.reduceLT, Int.reduceLE, Int.reduceNe, Int.reduceAdd, Int.reduceSub, Int.reduceMul, Int.reduceNeg, List.nil_append, List.append_nil, List.cons_append]
end
end Go.Proofs.Ytkmohjddojpdjaa

-- part HisB
/- HistoryApplies: the law. -/
set_option linter.unusedVariables false
set_option linter.unusedSimpArgs false
namespace Go.Proofs.Ytkmohjddojpdjaa
attribute [local congr] Go.Ev.cond_congr1
open Go.Ev Go.RowKit
def fin : Res → AObj
  | some (.bool true, H) => bif Nat.blt 0 H.sz then H.get 0 else .hole
  | _ => .hole
theorem of_fin {r : Res} {o : AObj} (h : fin r = o) (h2 : o ≠ .hole) : ∃ H, r = some (.bool true, H) ∧ H.get 0 = o ∧ 0 < H.sz := by
  rcases r with _ | ⟨v, H⟩
  · exact absurd h.symm h2
  · cases v with
    | bool b =>
      cases b with
      | true =>
        simp only [fin] at h
        cases hb : Nat.blt 0 H.sz with
        | true => rw [hb] at h; exact ⟨H, rfl, h, Nat.le_of_ble_eq_true hb⟩
        | false => rw [hb] at h; exact absurd h.symm h2
      | false => exact absurd h.symm h2
    | _ => exact absurd h.symm h2
abbrev ρ0 : Addr → Option Value := fun _ => none
section
variable (a n : Int) (s t : ByteArray)
abbrev opC : List AV := [.int .i64 a, .str s, .str t, .int .u64 n]
abbrev opO : AObj := .cells 0 51 (0, 0) false (opC a n s t)
set_option maxRecDepth 1000000 in
theorem awake_fin : fin (fast ρ0 150 0 19 [] (Heap.nil.new (opO a n s t))) = opO a n s t := by kernel_rfl
theorem awake_run : ∃ H, evCall (cx ρ0) 150 0 19 [] (Heap.nil.new (opO a n s t)) = some (.bool true, H) ∧ H.get 0 = opO a n s t ∧ 0 < H.sz := by
  have h := awake_fin a n s t
  rw [fast_eq] at h
  exact of_fin h (by intro h; cases h)
end
theorem law_ret (h : HasB) (op : OpB) : Ret (fun v H' => v = .bool true) (evCall (cx ρ0) 151 0 6 [.str (ba h.val), .bool h.is, .agg op.cells] Heap.nil) := by
  rw [E6]
  simp only [L6, boxA_agg _ _ _ op.solid]
  rw [effK_new]
  obtain ⟨H1, e1, g1, hz1⟩ := awake_run op.kind op.n (ba op.key) (ba op.val)
  have e1' : evCall (cx ρ0) 150 0 19 [] (Heap.nil.new (.cells 0 51 (0, 0) false op.cells)) = some (.bool true, H1) := e1
  rw [e1']
  have s1 : St (fun _ => True) H1 [(0, .cells 0 51 (0, 0) false op.cells)] H1 := St.start1 hz1 g1 trivial
  have z0 : Heap.nil.sz = 0 := rfl
  have lN : ldCN 4 0 0 (.cells 0 51 (0, 0) false op.cells) = some (.agg op.cells) := by rw [ldCN_cells _ _ _ _ _ _ _ (Nat.le_refl _)]; rfl
  have d0 : ldC 0 0 (.cells 0 51 (0, 0) false op.cells) = some (.int .i64 op.kind) := by rw [ldC_cells]; rfl
  simp only [z0, ldN_ptr, s1.at 0 rfl, lN, newCells_eq, purK_some, resK_some, boolK_some, condK_true, condK_false, wantV_tt, wantV_tf, wantV_ft, wantV_ff, wantV_t, wantV_f, wantV_skip, Bool.not_true, Bool.not_false, gPur_true, gPur_false, gEff_true, gEff_false, gRes_true, gRes_false, pickA_true, pickA_false, extA_0, extA_1, extA_2, retK_one, retK_none, retK_two, valK_fn, valR_fn, cond_true, cond_false, bin_add, bin_sub, bin_mul, bin_eql, bin_neq, bin_lss, bin_leq, bin_gtr, bin_geq, bin_seql, bin_sneq, un_not_t, un_not_f, un_not, cvI_int, cvT_str, nilChk_ptr, nilChk_xp, addA_ptr, lenT_str, Bool.true_or, Bool.or_true, Bool.false_or, Bool.or_false, Bool.true_and, Bool.and_true, Bool.false_and, Bool.and_false, decide_true, decide_false, Int.reduceEq, Int.reduceLT, Int.reduceLE, Int.reduceNe, Int.reduceAdd, Int.reduceSub, Int.reduceMul, Int.reduceNeg, List.nil_append, List.append_nil, List.cons_append]
  refine Ret.bind (apply_spec h op (by decide)) ?_
  rintro v H2 ⟨rfl, f2⟩
  have s2 := s1.frame0 f2
  simp only [purK_some, resK_some, boolK_some, condK_true, condK_false, wantV_tt, wantV_tf, wantV_ft, wantV_ff, wantV_t, wantV_f, wantV_skip, Bool.not_true, Bool.not_false, gPur_true, gPur_false, gEff_true, gEff_false, gRes_true, gRes_false, pickA_true, pickA_false, extA_0, extA_1, extA_2, retK_one, retK_none, retK_two, valK_fn, valR_fn, cond_true, cond_false, bin_add, bin_sub, bin_mul, bin_eql, bin_neq, bin_lss, bin_leq, bin_gtr, bin_geq, bin_seql, bin_sneq, un_not_t, un_not_f, un_not, cvI_int, cvT_str, nilChk_ptr, nilChk_xp, addA_ptr, lenT_str, Bool.true_or, Bool.or_true, Bool.false_or, Bool.or_false, Bool.true_and, Bool.and_true, Bool.false_and, Bool.and_false, decide_true, decide_false, Int.reduceEq, Int.reduceLT, Int.reduceLE, Int.reduceNe, Int.reduceAdd, Int.reduceSub, Int.reduceMul, Int.reduceNeg, List.nil_append, List.append_nil, List.cons_append]
  refine s2.newP fun n9 H3 s3 hz3 f3 => ?_
  refine s3.stN 1 rfl rfl (OutB.solid _) (by decide) fun H4 s4 z4 f4 => ?_
  rw [lay_all [.int .i64 0, .str ByteArray.empty] (OutB.cells _) rfl] at s4
  have lO : ∀ o : OutB, ldCN 2 0 0 (.cells 0 53 (0, 0) false o.cells) = some (.agg o.cells) := fun o => by rw [ldCN_cells _ _ _ _ _ _ _ (Nat.le_refl _)]; rfl
  have g40 := s4.at 0 rfl
  have g41 := s4.at 1 rfl
  by_cases hop : 1 ≤ op.kind ∧ op.kind ≤ 4
  · have c1 : ¬ op.kind < 1 := by omega
    have c2 : ¬ 4 < op.kind := by omega
    have bh : (bldA [.str ByteArray.empty, .bool false] [(0, 1, .str (ba h.val)), (1, 1, .bool h.is)]) = some (.agg h.cells) := rfl
    have bh' : (bldA [.str (ba []), .bool false] [(0, 1, .str (ba h.val)), (1, 1, .bool h.is)]) = some (.agg h.cells) := rfl
    simp only [N6_3, N6_1, ld1_ptr, ldN_ptr, g40, d0, c1, c2, bh', lN, newCells_eq, Nat.zero_add, purK_some, resK_some, boolK_some, condK_true, condK_false, wantV_tt, wantV_tf, wantV_ft, wantV_ff, wantV_t, wantV_f, wantV_skip, Bool.not_true, Bool.not_false, gPur_true, gPur_false, gEff_true, gEff_false, gRes_true, gRes_false, pickA_true, pickA_false, extA_0, extA_1, extA_2, retK_one, retK_none, retK_two, valK_fn, valR_fn, cond_true, cond_false, bin_add, bin_sub, bin_mul, bin_eql, bin_neq, bin_lss, bin_leq, bin_gtr, bin_geq, bin_seql, bin_sneq, un_not_t, un_not_f, un_not, cvI_int, cvT_str, nilChk_ptr, nilChk_xp, addA_ptr, lenT_str, Bool.true_or, Bool.or_true, Bool.false_or, Bool.or_false, Bool.true_and, Bool.and_true, Bool.false_and, Bool.and_false, decide_true, decide_false, Int.reduceEq, Int.reduceLT, Int.reduceLE, Int.reduceNe, Int.reduceAdd, Int.reduceSub, Int.reduceMul, Int.reduceNeg, List.nil_append, List.append_nil, List.cons_append, ba_size, ba_inj, emp1, emp2]
    refine Ret.bind (rapply_spec h op hop (by decide)) ?_
    rintro v H5 ⟨rfl, f5⟩
    have s5 := s4.frame0 f5
    simp only [purK_some, resK_some, boolK_some, condK_true, condK_false, wantV_tt, wantV_tf, wantV_ft, wantV_ff, wantV_t, wantV_f, wantV_skip, Bool.not_true, Bool.not_false, gPur_true, gPur_false, gEff_true, gEff_false, gRes_true, gRes_false, pickA_true, pickA_false, extA_0, extA_1, extA_2, retK_one, retK_none, retK_two, valK_fn, valR_fn, cond_true, cond_false, bin_add, bin_sub, bin_mul, bin_eql, bin_neq, bin_lss, bin_leq, bin_gtr, bin_geq, bin_seql, bin_sneq, un_not_t, un_not_f, un_not, cvI_int, cvT_str, nilChk_ptr, nilChk_xp, addA_ptr, lenT_str, Bool.true_or, Bool.or_true, Bool.false_or, Bool.or_false, Bool.true_and, Bool.and_true, Bool.false_and, Bool.and_false, decide_true, decide_false, Int.reduceEq, Int.reduceLT, Int.reduceLE, Int.reduceNe, Int.reduceAdd, Int.reduceSub, Int.reduceMul, Int.reduceNeg, List.nil_append, List.append_nil, List.cons_append]
    refine s5.newP fun n10 H6 s6 hz6 f6 => ?_
    refine s6.newP fun n11 H7 s7 hz7 f7 => ?_
    refine s7.stN 2 rfl rfl (HasB.solid _) (by decide) fun H8 s8 z8 f8 => ?_
    refine s8.stN 3 rfl rfl (OutB.solid _) (by decide) fun H9 s9 z9 f9 => ?_
    obtain ⟨w, hw⟩ : ∃ w, w = (applyH h op).1 := ⟨_, rfl⟩
    obtain ⟨o, ho⟩ : ∃ o, o = (applyH h op).2 := ⟨_, rfl⟩
    have s9' : St (fun _ => True) H1 [(0, .cells 0 51 (0, 0) false op.cells), (n9, .cells 0 53 (0, 0) false o.cells), (n10, .cells 0 47 (0, 0) false w.cells), (n11, .cells 0 53 (0, 0) false o.cells)] H9 := by rw [hw, ho]; exact s9
    rw [← hw]
    have w0 : ldC 0 0 (.cells 0 47 (0, 0) false w.cells) = some (.str (ba w.val)) := by rw [ldC_cells]; rfl
    have w1 : ldC 0 1 (.cells 0 47 (0, 0) false w.cells) = some (.bool w.is) := by rw [ldC_cells]; rfl
    have ew : (w.is == w.is) = true := by simp
    cases hi : w.is
    · simp only [N6_2, ld1_ptr, ldN_ptr, s9'.at 1 rfl, s9'.at 2 rfl, s9'.at 3 rfl, w0, w1, hi, eqb, beq_self_eq_true, lO, eqOut, Nat.zero_add, purK_some, resK_some, boolK_some, condK_true, condK_false, wantV_tt, wantV_tf, wantV_ft, wantV_ff, wantV_t, wantV_f, wantV_skip, Bool.not_true, Bool.not_false, gPur_true, gPur_false, gEff_true, gEff_false, gRes_true, gRes_false, pickA_true, pickA_false, extA_0, extA_1, extA_2, retK_one, retK_none, retK_two, valK_fn, valR_fn, cond_true, cond_false, bin_add, bin_sub, bin_mul, bin_eql, bin_neq, bin_lss, bin_leq, bin_gtr, bin_geq, bin_seql, bin_sneq, un_not_t, un_not_f, un_not, cvI_int, cvT_str, nilChk_ptr, nilChk_xp, addA_ptr, lenT_str, Bool.true_or, Bool.or_true, Bool.false_or, Bool.or_false, Bool.true_and, Bool.and_true, Bool.false_and, Bool.and_false, decide_true, decide_false, Int.reduceEq, Int.reduceLT, Int.reduceLE, Int.reduceNe, Int.reduceAdd, Int.reduceSub, Int.reduceMul, Int.reduceNeg, List.nil_append, List.append_nil, List.cons_append, ba_size, ba_inj, emp1, emp2]
      exact .intro rfl
    · simp only [N6_2, ld1_ptr, ldN_ptr, s9'.at 1 rfl, s9'.at 2 rfl, s9'.at 3 rfl, w0, w1, hi, eqb, beq_self_eq_true, lO, eqOut, Nat.zero_add, purK_some, resK_some, boolK_some, condK_true, condK_false, wantV_tt, wantV_tf, wantV_ft, wantV_ff, wantV_t, wantV_f, wantV_skip, Bool.not_true, Bool.not_false, gPur_true, gPur_false, gEff_true, gEff_false, gRes_true, gRes_false, pickA_true, pickA_false, extA_0, extA_1, extA_2, retK_one, retK_none, retK_two, valK_fn, valR_fn, cond_true, cond_false, bin_add, bin_sub, bin_mul, bin_eql, bin_neq, bin_lss, bin_leq, bin_gtr, bin_geq, bin_seql, bin_sneq, un_not_t, un_not_f, un_not, cvI_int, cvT_str, nilChk_ptr, nilChk_xp, addA_ptr, lenT_str, Bool.true_or, Bool.or_true, Bool.false_or, Bool.or_false, Bool.true_and, Bool.and_true, Bool.false_and, Bool.and_false, decide_true, decide_false, Int.reduceEq, Int.reduceLT, Int.reduceLE, Int.reduceNe, Int.reduceAdd, Int.reduceSub, Int.reduceMul, Int.reduceNeg, List.nil_append, List.append_nil, List.cons_append, ba_size, ba_inj, emp1, emp2]
      exact .intro rfl
  · have ha : applyH h op = (h.norm, ⟨1, []⟩) := by
      unfold applyH
      rw [if_neg (by omega), if_neg (by omega), if_neg (by omega), if_neg (by omega)]
    rw [ha] at g41 ⊢
    have b7 : (bldA [.int .i64 0, .str (ba [])] [(0, 1, .int .i64 1)]) = some (.agg (OutB.cells ⟨1, []⟩)) := rfl
    have ht : ∀ (K : AV → Res), (purK (binA Try.prog H4 .lss 3 (.int .i64 op.kind) (.int .i64 1)) fun x24 =>
      purK (gPur (wantV x24 false) (some (.ptr 0 0 (0 + 0)))) fun x26 =>
      purK (gPur (wantV x24 false) (ld1 ρ0 H4 x26)) fun x27 =>
      purK (gPur (wantV x24 false) (binA Try.prog H4 .gtr 3 x27 (.int .i64 4))) fun x28 =>
      purK (pickA x24 (.bool true) x28) K) = K (.bool true) := by
      intro K
      by_cases c1 : op.kind < 1
      · simp only [c1, purK_some, resK_some, boolK_some, condK_true, condK_false, wantV_tt, wantV_tf, wantV_ft, wantV_ff, wantV_t, wantV_f, wantV_skip, Bool.not_true, Bool.not_false, gPur_true, gPur_false, gEff_true, gEff_false, gRes_true, gRes_false, pickA_true, pickA_false, extA_0, extA_1, extA_2, retK_one, retK_none, retK_two, valK_fn, valR_fn, cond_true, cond_false, bin_add, bin_sub, bin_mul, bin_eql, bin_neq, bin_lss, bin_leq, bin_gtr, bin_geq, bin_seql, bin_sneq, un_not_t, un_not_f, un_not, cvI_int, cvT_str, nilChk_ptr, nilChk_xp, addA_ptr, lenT_str, Bool.true_or, Bool.or_true, Bool.false_or, Bool.or_false, Bool.true_and, Bool.and_true, Bool.false_and, Bool.and_false, decide_true, decide_false, Int.reduceEq, Int.reduceLT, Int.reduceLE, Int.reduceNe, Int.reduceAdd, Int.reduceSub, Int.reduceMul, Int.reduceNeg, List.nil_append, List.append_nil, List.cons_append]
      · have c2 : 4 < op.kind := by omega
        simp only [c1, c2, ld1_ptr, g40, d0, Nat.zero_add, purK_some, resK_some, boolK_some, condK_true, condK_false, wantV_tt, wantV_tf, wantV_ft, wantV_ff, wantV_t, wantV_f, wantV_skip, Bool.not_true, Bool.not_false, gPur_true, gPur_false, gEff_true, gEff_false, gRes_true, gRes_false, pickA_true, pickA_false, extA_0, extA_1, extA_2, retK_one, retK_none, retK_two, valK_fn, valR_fn, cond_true, cond_false, bin_add, bin_sub, bin_mul, bin_eql, bin_neq, bin_lss, bin_leq, bin_gtr, bin_geq, bin_seql, bin_sneq, un_not_t, un_not_f, un_not, cvI_int, cvT_str, nilChk_ptr, nilChk_xp, addA_ptr, lenT_str, Bool.true_or, Bool.or_true, Bool.false_or, Bool.or_false, Bool.true_and, Bool.and_true, Bool.false_and, Bool.and_false, decide_true, decide_false, Int.reduceEq, Int.reduceLT, Int.reduceLE, Int.reduceNe, Int.reduceAdd, Int.reduceSub, Int.reduceMul, Int.reduceNeg, List.nil_append, List.append_nil, List.cons_append]
    have hisn : h.norm.is = h.is := by unfold HasB.norm; split; rfl; rename_i q; simpa using q
    have fin2 : Ret (fun v H' => v = .bool true) (N6_3 ρ0 (evCall (cx ρ0) 150) (evCY (cx ρ0) 150).2 0 150 (.str (ba h.val)) (.bool h.is) (.ptr 0 0 0) (.str (ba h.norm.val)) (.bool h.norm.is) (.ptr n9 0 0) (.bool true) H4 (fun x0_1 x1_1 x5_1 x7 x8 x9_1 H =>
      N6_1 ρ0 (evCall (cx ρ0) 150) (evCY (cx ρ0) 150).2 0 150 x0_1 x1_1 x5_1 x7 x8 x9_1 H retK) retK) := by
      rw [hisn]
      cases hi : h.is
      · simp only [N6_3, ldN_ptr, g41, lO, b7, eqb, eqOut, beq_self_eq_true, Nat.zero_add, purK_some, resK_some, boolK_some, condK_true, condK_false, wantV_tt, wantV_tf, wantV_ft, wantV_ff, wantV_t, wantV_f, wantV_skip, Bool.not_true, Bool.not_false, gPur_true, gPur_false, gEff_true, gEff_false, gRes_true, gRes_false, pickA_true, pickA_false, extA_0, extA_1, extA_2, retK_one, retK_none, retK_two, valK_fn, valR_fn, cond_true, cond_false, bin_add, bin_sub, bin_mul, bin_eql, bin_neq, bin_lss, bin_leq, bin_gtr, bin_geq, bin_seql, bin_sneq, un_not_t, un_not_f, un_not, cvI_int, cvT_str, nilChk_ptr, nilChk_xp, addA_ptr, lenT_str, Bool.true_or, Bool.or_true, Bool.false_or, Bool.or_false, Bool.true_and, Bool.and_true, Bool.false_and, Bool.and_false, decide_true, decide_false, Int.reduceEq, Int.reduceLT, Int.reduceLE, Int.reduceNe, Int.reduceAdd, Int.reduceSub, Int.reduceMul, Int.reduceNeg, List.nil_append, List.append_nil, List.cons_append, ba_size, ba_inj, emp1, emp2]
        exact .intro rfl
      · have hn : h.norm.val = h.val := by unfold HasB.norm; rw [hi]; rfl
        simp only [N6_3, ldN_ptr, g41, lO, b7, hn, eqb, eqOut, beq_self_eq_true, Nat.zero_add, purK_some, resK_some, boolK_some, condK_true, condK_false, wantV_tt, wantV_tf, wantV_ft, wantV_ff, wantV_t, wantV_f, wantV_skip, Bool.not_true, Bool.not_false, gPur_true, gPur_false, gEff_true, gEff_false, gRes_true, gRes_false, pickA_true, pickA_false, extA_0, extA_1, extA_2, retK_one, retK_none, retK_two, valK_fn, valR_fn, cond_true, cond_false, bin_add, bin_sub, bin_mul, bin_eql, bin_neq, bin_lss, bin_leq, bin_gtr, bin_geq, bin_seql, bin_sneq, un_not_t, un_not_f, un_not, cvI_int, cvT_str, nilChk_ptr, nilChk_xp, addA_ptr, lenT_str, Bool.true_or, Bool.or_true, Bool.false_or, Bool.or_false, Bool.true_and, Bool.and_true, Bool.false_and, Bool.and_false, decide_true, decide_false, Int.reduceEq, Int.reduceLT, Int.reduceLE, Int.reduceNe, Int.reduceAdd, Int.reduceSub, Int.reduceMul, Int.reduceNeg, List.nil_append, List.append_nil, List.cons_append, ba_size, ba_inj, emp1, emp2]
        exact .intro rfl
    by_cases c1 : op.kind < 1
    · simp only [ld1_ptr, g40, d0, c1, Nat.zero_add, purK_some, resK_some, boolK_some, condK_true, condK_false, wantV_tt, wantV_tf, wantV_ft, wantV_ff, wantV_t, wantV_f, wantV_skip, Bool.not_true, Bool.not_false, gPur_true, gPur_false, gEff_true, gEff_false, gRes_true, gRes_false, pickA_true, pickA_false, extA_0, extA_1, extA_2, retK_one, retK_none, retK_two, valK_fn, valR_fn, cond_true, cond_false, bin_add, bin_sub, bin_mul, bin_eql, bin_neq, bin_lss, bin_leq, bin_gtr, bin_geq, bin_seql, bin_sneq, un_not_t, un_not_f, un_not, cvI_int, cvT_str, nilChk_ptr, nilChk_xp, addA_ptr, lenT_str, Bool.true_or, Bool.or_true, Bool.false_or, Bool.or_false, Bool.true_and, Bool.and_true, Bool.false_and, Bool.and_false, decide_true, decide_false, Int.reduceEq, Int.reduceLT, Int.reduceLE, Int.reduceNe, Int.reduceAdd, Int.reduceSub, Int.reduceMul, Int.reduceNeg, List.nil_append, List.append_nil, List.cons_append]
      exact fin2
    · have c2 : 4 < op.kind := by omega
      simp only [ld1_ptr, g40, d0, c1, c2, Nat.zero_add, purK_some, resK_some, boolK_some, condK_true, condK_false, wantV_tt, wantV_tf, wantV_ft, wantV_ff, wantV_t, wantV_f, wantV_skip, Bool.not_true, Bool.not_false, gPur_true, gPur_false, gEff_true, gEff_false, gRes_true, gRes_false, pickA_true, pickA_false, extA_0, extA_1, extA_2, retK_one, retK_none, retK_two, valK_fn, valR_fn, cond_true, cond_false, bin_add, bin_sub, bin_mul, bin_eql, bin_neq, bin_lss, bin_leq, bin_gtr, bin_geq, bin_seql, bin_sneq, un_not_t, un_not_f, un_not, cvI_int, cvT_str, nilChk_ptr, nilChk_xp, addA_ptr, lenT_str, Bool.true_or, Bool.or_true, Bool.false_or, Bool.or_false, Bool.true_and, Bool.and_true, Bool.false_and, Bool.and_false, decide_true, decide_false, Int.reduceEq, Int.reduceLT, Int.reduceLE, Int.reduceNe, Int.reduceAdd, Int.reduceSub, Int.reduceMul, Int.reduceNeg, List.nil_append, List.append_nil, List.cons_append]
      exact fin2
end Go.Proofs.Ytkmohjddojpdjaa

-- part HisC
/- HistoryApplies: the call, whatever the values. -/
set_option linter.unusedVariables false
set_option linter.unusedSimpArgs false
namespace Go.Proofs.Ytkmohjddojpdjaa
open Go.Ev Go.RowKit
theorem walk (v : ByteArray) (b : Bool) (kd : Int) (key val : ByteArray) (n : Int) (W : World) : Calls Try.prog 6 #[.string v, .bool b, .agg #[.int .i64 kd, .string key, .string val, .int .u64 n]] W fun e w' => e = .returned (.bool true) ∧ Below W.heap.size W w' := by
  obtain ⟨r, H1, hrun, rfl⟩ := law_ret ⟨bs v, b⟩ ⟨kd, bs key, bs val, n⟩
  simp only [OpB.cells, ba_bs] at hrun
  exact calls_of_run_reads (C := cx ρ0) (vs := [.string v, .bool b, .agg #[.int .i64 kd, .string key, .string val, .int .u64 n]]) (fun a v e => by cases e) (by kernel_rfl) (cx_ext _) Try.func6 rfl hrun ⟨_, _, rfl, rfl, ⟨_, _, rfl, rfl, ⟨_, _, rfl, ⟨_, rfl, ⟨_, _, rfl, rfl, ⟨_, _, rfl, rfl, ⟨_, _, rfl, rfl, ⟨_, _, rfl, rfl, rfl⟩⟩⟩⟩⟩, rfl⟩⟩⟩
end Go.Proofs.Ytkmohjddojpdjaa
