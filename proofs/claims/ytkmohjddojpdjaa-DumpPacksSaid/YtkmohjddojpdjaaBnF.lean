/- Part 6 of the proof of DumpPacks: Ext DnA DnB DnBi DnC DnD DnE DnF. -/
import Derived.Test.YtkmohjddojpdjaaBnB
import Derived.Test.YtkmohjddojpdjaaBnE
import Derived.KernelRfl
import Derived.Test.YtkmohjddojpdjaaBnC
-- part Ext
/- The functions without a Go body are the ones that the evaluator knows. -/
namespace Go.Proofs.Ytkmohjddojpdjaa
open Go.Ev Go.RowKit
set_option maxRecDepth 1000000 in
theorem cx_ext (ρ : Addr → Option Value) : ExtOK (cx ρ) := by
  intro f k h
  unfold cx xk at h
  simp only at h
  split at h <;> first | (cases h; done) | (obtain rfl := Option.some.inj h; exact ⟨_, rfl, by kernel_rfl, by kernel_rfl, by kernel_rfl, by kernel_rfl⟩)
end Go.Proofs.Ytkmohjddojpdjaa

-- part DnA
/- Sums and seals: the program's and the reference's. -/
set_option linter.unusedVariables false
set_option linter.unusedSimpArgs false
namespace Go.Proofs.Ytkmohjddojpdjaa
attribute [local congr] Go.Ev.cond_congr1
open Go.Ev Go.RowKit
def U64 (x : Int) : Prop := 0 ≤ x ∧ x < 18446744073709551616
theorem bv_of {x : Int} (h : U64 x) : (BitVec.ofInt 64 x).toNat = x.toNat := by
  unfold U64 at h
  rw [BitVec.toNat_ofInt]
  congr 1
  exact Int.emod_eq_of_lt h.1 (by omega)
theorem bits_nat (op : BinOp) (a b : Int) (v : BitVec 64) (h : Go.bits op .u64 a b = wrapK .u64 (v.toNat : Int)) : Go.bits op .u64 a b = v.toNat := by rw [h, bv_u64_nat]
theorem and_bv (a b : Int) : Go.bits .and .u64 a b = ((BitVec.ofInt 64 a &&& BitVec.ofInt 64 b).toNat : Int) := by rw [← bv_u64_nat, wrapK_eq]; rfl
theorem xor_bv (a b : Int) : Go.bits .xor .u64 a b = ((BitVec.ofInt 64 a ^^^ BitVec.ofInt 64 b).toNat : Int) := by rw [← bv_u64_nat, wrapK_eq]; rfl
theorem and_one {c : Int} (h : U64 c) : Go.bits .and .u64 c 1 = c % 2 := by
  rw [and_bv, BitVec.toNat_and, bv_of h, bv_of (show U64 1 by unfold U64; omega)]
  show ((c.toNat &&& 1 : Nat) : Int) = _
  rw [Nat.and_one_is_mod]
  have := h.1
  omega
theorem xor_zero {c : Int} (h : U64 c) : Go.bits .xor .u64 c 0 = c := by
  rw [xor_bv]
  have : (BitVec.ofInt 64 0) = 0#64 := rfl
  rw [this, BitVec.xor_zero, bv_of h]
  have := h.1
  omega
theorem xor_max {c : Int} (h : U64 c) : Go.bits .xor .u64 18446744073709551615 c = 18446744073709551615 - c := by
  rw [xor_bv]
  have e : (BitVec.ofInt 64 18446744073709551615) = BitVec.allOnes 64 := rfl
  rw [e, BitVec.allOnes_xor, BitVec.toNat_not, bv_of h]
  have := h.1; have := h.2
  omega
def POLY : Int := 14514072000185962306
def crc1 (c : Int) : Int := if c % 2 = 1 then Go.bits .xor .u64 (c / 2) POLY else c / 2
def itN : Nat → Int → Int
  | 0, c => c
  | n + 1, c => crc1 (itN n c)
def crcB (c : Int) (b : UInt8) : Int := itN 8 (Go.bits .xor .u64 c b.toNat)
def crcS (l : List UInt8) : Int := l.foldl crcB 18446744073709551615
def sumL (l : List UInt8) : Int := 18446744073709551615 - crcS l
theorem crc1_range {c : Int} (h : U64 c) : U64 (crc1 c) := by
  unfold crc1
  split
  · exact xor_range _ _
  · unfold U64 at *; omega
theorem itN_range : ∀ (n : Nat) {c : Int}, U64 c → U64 (itN n c)
  | 0, _, h => h
  | n + 1, _, h => crc1_range (itN_range n h)
theorem crcB_range (c : Int) (b : UInt8) : U64 (crcB c b) := itN_range 8 (xor_range _ _)
theorem crcS_range (l : List UInt8) : U64 (crcS l) := by
  have : ∀ (l : List UInt8) (c : Int), U64 c → U64 (l.foldl crcB c) := by
    intro l
    induction l with
    | nil => intro c h; exact h
    | cons b l ih => intro c h; exact ih _ (crcB_range c b)
  exact this l _ (by unfold U64; omega)
theorem sumL_range (l : List UInt8) : U64 (sumL l) := by have := crcS_range l; unfold sumL U64 at *; omega
theorem crcS_snoc (l : List UInt8) (b : UInt8) : crcS (l ++ [b]) = crcB (crcS l) b := by simp [crcS]
theorem crcS_take (l : List UInt8) (i : Nat) (h : i < l.length) : crcS (l.take (i + 1)) = crcB (crcS (l.take i)) l[i] := by
  rw [List.take_succ_eq_append_getElem h, crcS_snoc]
theorem step_eq {c : Int} (h : U64 c) : Go.bits .xor .u64 (c / 2) (Go.bits .and .u64 14514072000185962306 (wrapK .u64 (0 - Go.bits .and .u64 c 1))) = crc1 c := by
  have h2 : U64 (c / 2) := by unfold U64 at *; omega
  rw [and_one h]
  unfold crc1
  by_cases hc : c % 2 = 1
  · rw [if_pos hc, hc]
    have : Go.bits .and .u64 14514072000185962306 (wrapK .u64 (0 - 1)) = POLY := by decide +kernel
    rw [this]
  · have : c % 2 = 0 := by omega
    rw [if_neg hc, this]
    have : Go.bits .and .u64 14514072000185962306 (wrapK .u64 (0 - 0)) = 0 := by decide +kernel
    rw [this, xor_zero h2]
section
variable {ρ : Addr → Option Value} {k : Nat} {H : Heap} {yc : YieldF}
theorem turned_spec (a b : Int) (hk : 1 ≤ k) : evCall (cx ρ) k 0 64 [.int .u64 a, .int .u64 b] H = some (.int .u64 (Go.bits .xor .u64 a b), H) := by
  obtain ⟨k, rfl⟩ : ∃ q, k = q + 1 := ⟨k - 1, by omega⟩
  rw [E64]
  simp only [L64, bin_or, bin_and, turn_xor, purK_some, resK_some, boolK_some, condK_true, condK_false, wantV_tt, wantV_tf, wantV_ft, wantV_ff, wantV_t, wantV_f, wantV_skip, Bool.not_true, Bool.not_false, gPur_true, gPur_false, gEff_true, gEff_false, gRes_true, gRes_false, pickA_true, pickA_false, extA_0, extA_1, extA_2, retK_one, retK_none, retK_two, valK_fn, valR_fn, cond_true, cond_false, bin_add, bin_sub, bin_mul, bin_eql, bin_neq, bin_lss, bin_leq, bin_gtr, bin_geq, bin_seql, bin_sneq, un_not_t, un_not_f, un_not, cvI_int, cvT_str, nilChk_ptr, nilChk_xp, addA_ptr, lenT_str, Bool.true_or, Bool.or_true, Bool.false_or, Bool.or_false, Bool.true_and, Bool.and_true, Bool.false_and, Bool.and_false, decide_true, decide_false, Int.reduceEq, Int.reduceLT, Int.reduceLE, Int.reduceNe, Int.reduceAdd, Int.reduceSub, Int.reduceMul, Int.reduceNeg, List.nil_append, List.append_nil, List.cons_append, ba_size, ba_inj, emp1, emp2]
theorem rsum_spec (l : List UInt8) (hk : l.length + 20 ≤ k) (hl : l.length < 4611686018427387904) : Ret (fun v H' => v = .int .u64 (sumL l) ∧ H' = H) (evCall (cx ρ) k 0 43 [.str (ba l)] H) := by
  obtain ⟨k, rfl⟩ : ∃ q, k = q + 1 := ⟨k - 1, by omega⟩
  rw [E43]
  simp only [L43, N43_2, N43_3]
  refine Ret.loop (fun m y H' => ∃ i : Nat, y = (.int .u64 (crcS (l.take i)), .int .i64 i) ∧ m = l.length - i ∧ i ≤ l.length ∧ H' = H) ?_ l.length k _ H ⟨0, rfl, rfl, by omega, rfl⟩ (by omega)
  rintro m y H' kn ⟨i, rfl, hm, hi, rfl⟩ next
  by_cases h : i < l.length
  · have h' : (i : Int) < l.length := by omega
    have e1 := ixT_ba l .i64 i h
    have e2 : wrapK .u64 (l[i].toNat : Int) = l[i].toNat := wrap_u64 _ (by have := l[i].toNat_lt; omega)
    simp only [N43_3b, lenT_ba, h', e1, e2, turned_spec (ρ := ρ) (k := k) _ _ (by omega), N43_5, N43_6, purK_some, resK_some, boolK_some, condK_true, condK_false, wantV_tt, wantV_tf, wantV_ft, wantV_ff, wantV_t, wantV_f, wantV_skip, Bool.not_true, Bool.not_false, gPur_true, gPur_false, gEff_true, gEff_false, gRes_true, gRes_false, pickA_true, pickA_false, extA_0, extA_1, extA_2, retK_one, retK_none, retK_two, valK_fn, valR_fn, cond_true, cond_false, bin_add, bin_sub, bin_mul, bin_eql, bin_neq, bin_lss, bin_leq, bin_gtr, bin_geq, bin_seql, bin_sneq, un_not_t, un_not_f, un_not, cvI_int, cvT_str, nilChk_ptr, nilChk_xp, addA_ptr, lenT_str, Bool.true_or, Bool.or_true, Bool.false_or, Bool.or_false, Bool.true_and, Bool.and_true, Bool.false_and, Bool.and_false, decide_true, decide_false, Int.reduceEq, Int.reduceLT, Int.reduceLE, Int.reduceNe, Int.reduceAdd, Int.reduceSub, Int.reduceMul, Int.reduceNeg, List.nil_append, List.append_nil, List.cons_append, ba_size, ba_inj, emp1, emp2]
    clear e2
    have hr := crcS_range (l.take i)
    have hx : U64 (Go.bits .xor .u64 (crcS (l.take i)) l[i].toNat) := xor_range _ _
    generalize hc0 : Go.bits .xor .u64 (crcS (l.take i)) l[i].toNat = c0 at hx ⊢
    refine Ret.loop (fun (m : Nat) (y : AV × AV) H'' => ∃ j : Nat, y = (.int .u64 (itN j c0), .int .i64 j) ∧ m = 8 - j ∧ j ≤ 8 ∧ H'' = H') ?_ 8 k _ H' ⟨0, rfl, rfl, by omega, rfl⟩ (by omega)
    rintro m2 y H'' kn2 ⟨j, rfl, hm2, hj, rfl⟩ next2
    by_cases h2 : j < 8
    · have h2' : (j : Int) < 8 := by omega
      have hc := itN_range j hx
      have n2 : (2 : Int) ≠ 0 := by decide
      have q1 : wrapK .u64 ((itN j c0).tdiv 2) = itN j c0 / 2 := shr_tdiv _ hc.1 hc.2 2 (by decide)
      have q2 : (itN j c0).tmod 2 = itN j c0 % 2 := Int.tmod_eq_emod_of_nonneg hc.1
      simp only [N43_6b, h2', bin_rem _ _ _ _ _ _ n2, bin_quo _ _ _ _ _ _ n2, q1, q2, purK_some, resK_some, boolK_some, condK_true, condK_false, wantV_tt, wantV_tf, wantV_ft, wantV_ff, wantV_t, wantV_f, wantV_skip, Bool.not_true, Bool.not_false, gPur_true, gPur_false, gEff_true, gEff_false, gRes_true, gRes_false, pickA_true, pickA_false, extA_0, extA_1, extA_2, retK_one, retK_none, retK_two, valK_fn, valR_fn, cond_true, cond_false, bin_add, bin_sub, bin_mul, bin_eql, bin_neq, bin_lss, bin_leq, bin_gtr, bin_geq, bin_seql, bin_sneq, un_not_t, un_not_f, un_not, cvI_int, cvT_str, nilChk_ptr, nilChk_xp, addA_ptr, lenT_str, Bool.true_or, Bool.or_true, Bool.false_or, Bool.or_false, Bool.true_and, Bool.and_true, Bool.false_and, Bool.and_false, decide_true, decide_false, Int.reduceEq, Int.reduceLT, Int.reduceLE, Int.reduceNe, Int.reduceAdd, Int.reduceSub, Int.reduceMul, Int.reduceNeg, List.nil_append, List.append_nil, List.cons_append, ba_size, ba_inj, emp1, emp2]
      clear q1 q2
      refine Ret.condD (fun hb => ?_) (fun hb => ?_)
      · have ec : crc1 (itN j c0) = Go.bits .xor .u64 (itN j c0 / 2) POLY := by unfold crc1; rw [if_pos hb]
        rw [turned_spec _ _ (by omega)]
        simp only [N43_7, wrap_succN j (by omega : j + 1 < 9223372036854775808), purK_some, resK_some, boolK_some, condK_true, condK_false, wantV_tt, wantV_tf, wantV_ft, wantV_ff, wantV_t, wantV_f, wantV_skip, Bool.not_true, Bool.not_false, gPur_true, gPur_false, gEff_true, gEff_false, gRes_true, gRes_false, pickA_true, pickA_false, extA_0, extA_1, extA_2, retK_one, retK_none, retK_two, valK_fn, valR_fn, cond_true, cond_false, bin_add, bin_sub, bin_mul, bin_eql, bin_neq, bin_lss, bin_leq, bin_gtr, bin_geq, bin_seql, bin_sneq, un_not_t, un_not_f, un_not, cvI_int, cvT_str, nilChk_ptr, nilChk_xp, addA_ptr, lenT_str, Bool.true_or, Bool.or_true, Bool.false_or, Bool.or_false, Bool.true_and, Bool.and_true, Bool.false_and, Bool.and_false, decide_true, decide_false, Int.reduceEq, Int.reduceLT, Int.reduceLE, Int.reduceNe, Int.reduceAdd, Int.reduceSub, Int.reduceMul, Int.reduceNeg, List.nil_append, List.append_nil, List.cons_append, ba_size, ba_inj, emp1, emp2]
        exact next2 (m2 - 1) _ H'' (by omega) ⟨j + 1, by rw [itN, ec]; rfl, by omega, by omega, rfl⟩
      · have ec : crc1 (itN j c0) = itN j c0 / 2 := by unfold crc1; rw [if_neg hb]
        simp only [N43_7, wrap_succN j (by omega : j + 1 < 9223372036854775808), purK_some, resK_some, boolK_some, condK_true, condK_false, wantV_tt, wantV_tf, wantV_ft, wantV_ff, wantV_t, wantV_f, wantV_skip, Bool.not_true, Bool.not_false, gPur_true, gPur_false, gEff_true, gEff_false, gRes_true, gRes_false, pickA_true, pickA_false, extA_0, extA_1, extA_2, retK_one, retK_none, retK_two, valK_fn, valR_fn, cond_true, cond_false, bin_add, bin_sub, bin_mul, bin_eql, bin_neq, bin_lss, bin_leq, bin_gtr, bin_geq, bin_seql, bin_sneq, un_not_t, un_not_f, un_not, cvI_int, cvT_str, nilChk_ptr, nilChk_xp, addA_ptr, lenT_str, Bool.true_or, Bool.or_true, Bool.false_or, Bool.or_false, Bool.true_and, Bool.and_true, Bool.false_and, Bool.and_false, decide_true, decide_false, Int.reduceEq, Int.reduceLT, Int.reduceLE, Int.reduceNe, Int.reduceAdd, Int.reduceSub, Int.reduceMul, Int.reduceNeg, List.nil_append, List.append_nil, List.cons_append, ba_size, ba_inj, emp1, emp2]
        exact next2 (m2 - 1) _ H'' (by omega) ⟨j + 1, by rw [itN, ec], by omega, by omega, rfl⟩
    · obtain rfl : j = 8 := by omega
      have h2' : ¬ ((8 : Nat) : Int) < 8 := by omega
      simp only [N43_6b, h2', N43_4, wrap_succN i (by omega : i + 1 < 9223372036854775808), purK_some, resK_some, boolK_some, condK_true, condK_false, wantV_tt, wantV_tf, wantV_ft, wantV_ff, wantV_t, wantV_f, wantV_skip, Bool.not_true, Bool.not_false, gPur_true, gPur_false, gEff_true, gEff_false, gRes_true, gRes_false, pickA_true, pickA_false, extA_0, extA_1, extA_2, retK_one, retK_none, retK_two, valK_fn, valR_fn, cond_true, cond_false, bin_add, bin_sub, bin_mul, bin_eql, bin_neq, bin_lss, bin_leq, bin_gtr, bin_geq, bin_seql, bin_sneq, un_not_t, un_not_f, un_not, cvI_int, cvT_str, nilChk_ptr, nilChk_xp, addA_ptr, lenT_str, Bool.true_or, Bool.or_true, Bool.false_or, Bool.or_false, Bool.true_and, Bool.and_true, Bool.false_and, Bool.and_false, decide_true, decide_false, Int.reduceEq, Int.reduceLT, Int.reduceLE, Int.reduceNe, Int.reduceAdd, Int.reduceSub, Int.reduceMul, Int.reduceNeg, List.nil_append, List.append_nil, List.cons_append, ba_size, ba_inj, emp1, emp2]
      exact next (m - 1) _ H'' (by omega) ⟨i + 1, by rw [crcS_take l i h, crcB, hc0], by omega, by omega, rfl⟩
  · obtain rfl : i = l.length := by omega
    have h' : ¬ ((l.length : Nat) : Int) < (l.length : Nat) := by omega
    have hr := sumL_range l
    rw [List.take_length]
    simp only [N43_3b, N43_1, lenT_ba, h', wrap_u64 _ (show 0 ≤ 18446744073709551615 - crcS l ∧ 18446744073709551615 - crcS l < 18446744073709551616 from hr), purK_some, resK_some, boolK_some, condK_true, condK_false, wantV_tt, wantV_tf, wantV_ft, wantV_ff, wantV_t, wantV_f, wantV_skip, Bool.not_true, Bool.not_false, gPur_true, gPur_false, gEff_true, gEff_false, gRes_true, gRes_false, pickA_true, pickA_false, extA_0, extA_1, extA_2, retK_one, retK_none, retK_two, valK_fn, valR_fn, cond_true, cond_false, bin_add, bin_sub, bin_mul, bin_eql, bin_neq, bin_lss, bin_leq, bin_gtr, bin_geq, bin_seql, bin_sneq, un_not_t, un_not_f, un_not, cvI_int, cvT_str, nilChk_ptr, nilChk_xp, addA_ptr, lenT_str, Bool.true_or, Bool.or_true, Bool.false_or, Bool.or_false, Bool.true_and, Bool.and_true, Bool.false_and, Bool.and_false, decide_true, decide_false, Int.reduceEq, Int.reduceLT, Int.reduceLE, Int.reduceNe, Int.reduceAdd, Int.reduceSub, Int.reduceMul, Int.reduceNeg, List.nil_append, List.append_nil, List.cons_append, ba_size, ba_inj, emp1, emp2]
    exact .intro ⟨rfl, rfl⟩
theorem next_spec (l : List UInt8) (hk : l.length + 20 ≤ k) (hl : l.length < 4611686018427387904) : Ret (fun v H' => v = .int .u64 (sumL l) ∧ H' = H) (evCall (cx ρ) k 0 78 [.int .u64 0, .str (ba l)] H) := by
  obtain ⟨k, rfl⟩ : ∃ q, k = q + 1 := ⟨k - 1, by omega⟩
  have u0 : unA .xor (.int .u64 0) = some (.int .u64 18446744073709551615) := by kernel_rfl
  have u1 : ∀ c, U64 c → unA .xor (.int .u64 c) = some (.int .u64 (18446744073709551615 - c)) := fun c hc => by
    have : unA .xor (.int .u64 c) = some (.int .u64 (Go.bits .xor .u64 18446744073709551615 c)) := by kernel_rfl
    rw [this, xor_max hc]
  rw [E78]
  simp only [L78, u0, lenT_ba, N78_2, N78_3, purK_some, resK_some, boolK_some, condK_true, condK_false, wantV_tt, wantV_tf, wantV_ft, wantV_ff, wantV_t, wantV_f, wantV_skip, Bool.not_true, Bool.not_false, gPur_true, gPur_false, gEff_true, gEff_false, gRes_true, gRes_false, pickA_true, pickA_false, extA_0, extA_1, extA_2, retK_one, retK_none, retK_two, valK_fn, valR_fn, cond_true, cond_false, bin_add, bin_sub, bin_mul, bin_eql, bin_neq, bin_lss, bin_leq, bin_gtr, bin_geq, bin_seql, bin_sneq, un_not_t, un_not_f, un_not, cvI_int, cvT_str, nilChk_ptr, nilChk_xp, addA_ptr, lenT_str, Bool.true_or, Bool.or_true, Bool.false_or, Bool.or_false, Bool.true_and, Bool.and_true, Bool.false_and, Bool.and_false, decide_true, decide_false, Int.reduceEq, Int.reduceLT, Int.reduceLE, Int.reduceNe, Int.reduceAdd, Int.reduceSub, Int.reduceMul, Int.reduceNeg, List.nil_append, List.append_nil, List.cons_append, ba_size, ba_inj, emp1, emp2]
  refine Ret.loop (fun m y H' => ∃ i : Nat, y = (.int .u64 (crcS (l.take i)), .int .i64 i) ∧ m = l.length - i ∧ i ≤ l.length ∧ H' = H) ?_ l.length k _ H ⟨0, rfl, rfl, by omega, rfl⟩ (by omega)
  rintro m y H' kn ⟨i, rfl, hm, hi, rfl⟩ next
  by_cases h : i < l.length
  · have h' : (i : Int) < l.length := by omega
    have e1 := ixT_ba l .i64 i h
    have e2 : wrapK .u64 (l[i].toNat : Int) = l[i].toNat := wrap_u64 _ (by have := l[i].toNat_lt; omega)
    simp only [N78_3b, h', e1, e2, bin_xor, N78_5, N78_6, purK_some, resK_some, boolK_some, condK_true, condK_false, wantV_tt, wantV_tf, wantV_ft, wantV_ff, wantV_t, wantV_f, wantV_skip, Bool.not_true, Bool.not_false, gPur_true, gPur_false, gEff_true, gEff_false, gRes_true, gRes_false, pickA_true, pickA_false, extA_0, extA_1, extA_2, retK_one, retK_none, retK_two, valK_fn, valR_fn, cond_true, cond_false, bin_add, bin_sub, bin_mul, bin_eql, bin_neq, bin_lss, bin_leq, bin_gtr, bin_geq, bin_seql, bin_sneq, un_not_t, un_not_f, un_not, cvI_int, cvT_str, nilChk_ptr, nilChk_xp, addA_ptr, lenT_str, Bool.true_or, Bool.or_true, Bool.false_or, Bool.or_false, Bool.true_and, Bool.and_true, Bool.false_and, Bool.and_false, decide_true, decide_false, Int.reduceEq, Int.reduceLT, Int.reduceLE, Int.reduceNe, Int.reduceAdd, Int.reduceSub, Int.reduceMul, Int.reduceNeg, List.nil_append, List.append_nil, List.cons_append, ba_size, ba_inj, emp1, emp2]
    clear e2
    have hx : U64 (Go.bits .xor .u64 (crcS (l.take i)) l[i].toNat) := xor_range _ _
    generalize hc0 : Go.bits .xor .u64 (crcS (l.take i)) l[i].toNat = c0 at hx ⊢
    refine Ret.loop (fun (m : Nat) (y : AV × AV) H'' => ∃ j : Nat, y = (.int .u64 (itN j c0), .int .i64 j) ∧ m = 8 - j ∧ j ≤ 8 ∧ H'' = H') ?_ 8 k _ H' ⟨0, rfl, rfl, by omega, rfl⟩ (by omega)
    rintro m2 y H'' kn2 ⟨j, rfl, hm2, hj, rfl⟩ next2
    by_cases h2 : j < 8
    · have h2' : (j : Int) < 8 := by omega
      have hc := itN_range j hx
      have g1 : (0 : Int) ≤ 1 := by decide
      have s1 : (itN j c0).fdiv (2 ^ min (1 : Int).toNat IntKind.u64.bits) = itN j c0 / 2 := Int.fdiv_eq_ediv_of_nonneg _ (by decide)
      simp only [N78_6b, h2', bin_shr _ _ _ _ _ _ _ g1, s1, bin_and, un_neg, bin_xor, step_eq hc, wrap_succN j (by omega : j + 1 < 9223372036854775808), purK_some, resK_some, boolK_some, condK_true, condK_false, wantV_tt, wantV_tf, wantV_ft, wantV_ff, wantV_t, wantV_f, wantV_skip, Bool.not_true, Bool.not_false, gPur_true, gPur_false, gEff_true, gEff_false, gRes_true, gRes_false, pickA_true, pickA_false, extA_0, extA_1, extA_2, retK_one, retK_none, retK_two, valK_fn, valR_fn, cond_true, cond_false, bin_add, bin_sub, bin_mul, bin_eql, bin_neq, bin_lss, bin_leq, bin_gtr, bin_geq, bin_seql, bin_sneq, un_not_t, un_not_f, un_not, cvI_int, cvT_str, nilChk_ptr, nilChk_xp, addA_ptr, lenT_str, Bool.true_or, Bool.or_true, Bool.false_or, Bool.or_false, Bool.true_and, Bool.and_true, Bool.false_and, Bool.and_false, decide_true, decide_false, Int.reduceEq, Int.reduceLT, Int.reduceLE, Int.reduceNe, Int.reduceAdd, Int.reduceSub, Int.reduceMul, Int.reduceNeg, List.nil_append, List.append_nil, List.cons_append, ba_size, ba_inj, emp1, emp2]
      exact next2 (m2 - 1) _ H'' (by omega) ⟨j + 1, rfl, by omega, by omega, rfl⟩
    · obtain rfl : j = 8 := by omega
      have h2' : ¬ ((8 : Nat) : Int) < 8 := by omega
      simp only [N78_6b, h2', N78_4, wrap_succN i (by omega : i + 1 < 9223372036854775808), purK_some, resK_some, boolK_some, condK_true, condK_false, wantV_tt, wantV_tf, wantV_ft, wantV_ff, wantV_t, wantV_f, wantV_skip, Bool.not_true, Bool.not_false, gPur_true, gPur_false, gEff_true, gEff_false, gRes_true, gRes_false, pickA_true, pickA_false, extA_0, extA_1, extA_2, retK_one, retK_none, retK_two, valK_fn, valR_fn, cond_true, cond_false, bin_add, bin_sub, bin_mul, bin_eql, bin_neq, bin_lss, bin_leq, bin_gtr, bin_geq, bin_seql, bin_sneq, un_not_t, un_not_f, un_not, cvI_int, cvT_str, nilChk_ptr, nilChk_xp, addA_ptr, lenT_str, Bool.true_or, Bool.or_true, Bool.false_or, Bool.or_false, Bool.true_and, Bool.and_true, Bool.false_and, Bool.and_false, decide_true, decide_false, Int.reduceEq, Int.reduceLT, Int.reduceLE, Int.reduceNe, Int.reduceAdd, Int.reduceSub, Int.reduceMul, Int.reduceNeg, List.nil_append, List.append_nil, List.cons_append, ba_size, ba_inj, emp1, emp2]
      exact next (m - 1) _ H'' (by omega) ⟨i + 1, by rw [crcS_take l i h, crcB, hc0], by omega, by omega, rfl⟩
  · obtain rfl : i = l.length := by omega
    have h' : ¬ ((l.length : Nat) : Int) < (l.length : Nat) := by omega
    rw [List.take_length]
    simp only [N78_3b, N78_1, h', u1 _ (crcS_range l), purK_some, resK_some, boolK_some, condK_true, condK_false, wantV_tt, wantV_tf, wantV_ft, wantV_ff, wantV_t, wantV_f, wantV_skip, Bool.not_true, Bool.not_false, gPur_true, gPur_false, gEff_true, gEff_false, gRes_true, gRes_false, pickA_true, pickA_false, extA_0, extA_1, extA_2, retK_one, retK_none, retK_two, valK_fn, valR_fn, cond_true, cond_false, bin_add, bin_sub, bin_mul, bin_eql, bin_neq, bin_lss, bin_leq, bin_gtr, bin_geq, bin_seql, bin_sneq, un_not_t, un_not_f, un_not, cvI_int, cvT_str, nilChk_ptr, nilChk_xp, addA_ptr, lenT_str, Bool.true_or, Bool.or_true, Bool.false_or, Bool.or_false, Bool.true_and, Bool.and_true, Bool.false_and, Bool.and_false, decide_true, decide_false, Int.reduceEq, Int.reduceLT, Int.reduceLE, Int.reduceNe, Int.reduceAdd, Int.reduceSub, Int.reduceMul, Int.reduceNeg, List.nil_append, List.append_nil, List.cons_append, ba_size, ba_inj, emp1, emp2]
    exact .intro ⟨rfl, rfl⟩
theorem sum_spec (l : List UInt8) (hk : l.length + 21 ≤ k) (hl : l.length < 4611686018427387904) : Ret (fun v H' => v = .int .u64 (sumL l) ∧ H' = H) (evCall (cx ρ) k 0 59 [.str (ba l)] H) := by
  obtain ⟨k, rfl⟩ : ∃ q, k = q + 1 := ⟨k - 1, by omega⟩
  rw [E59]
  simp only [L59]
  refine Ret.bind (next_spec l (by omega) hl) ?_
  rintro v H' ⟨rfl, rfl⟩
  try simp only [purK_some, resK_some, boolK_some, condK_true, condK_false, wantV_tt, wantV_tf, wantV_ft, wantV_ff, wantV_t, wantV_f, wantV_skip, Bool.not_true, Bool.not_false, gPur_true, gPur_false, gEff_true, gEff_false, gRes_true, gRes_false, pickA_true, pickA_false, extA_0, extA_1, extA_2, retK_one, retK_none, retK_two, valK_fn, valR_fn, cond_true, cond_false, bin_add, bin_sub, bin_mul, bin_eql, bin_neq, bin_lss, bin_leq, bin_gtr, bin_geq, bin_seql, bin_sneq, un_not_t, un_not_f, un_not, cvI_int, cvT_str, nilChk_ptr, nilChk_xp, addA_ptr, lenT_str, Bool.true_or, Bool.or_true, Bool.false_or, Bool.or_false, Bool.true_and, Bool.and_true, Bool.false_and, Bool.and_false, decide_true, decide_false, Int.reduceEq, Int.reduceLT, Int.reduceLE, Int.reduceNe, Int.reduceAdd, Int.reduceSub, Int.reduceMul, Int.reduceNeg, List.nil_append, List.append_nil, List.cons_append, ba_size, ba_inj, emp1, emp2]
  exact .intro ⟨rfl, rfl⟩
end
end Go.Proofs.Ytkmohjddojpdjaa

-- part DnB
/- Sums and seals: the program's and the reference's. -/
set_option linter.unusedVariables false
set_option linter.unusedSimpArgs false
namespace Go.Proofs.Ytkmohjddojpdjaa
attribute [local congr] Go.Ev.cond_congr1
open Go.Ev Go.RowKit
-- words and their bytes
theorem repeatL_one (x : AV) : ∀ n, repeatL [x] n = List.replicate n x
  | 0 => rfl
  | n + 1 => by rw [repeatL, repeatL_one x n]; rfl
def wbyte (ws : List Int) (i : Nat) : UInt8 := UInt8.ofNat ((ws.getD (i / 8) 0).toNat / 256 ^ (i % 8) % 256)
def wbytes (ws : List Int) : List UInt8 := (List.range (8 * ws.length)).map (wbyte ws)
theorem wbytes_len (ws : List Int) : (wbytes ws).length = 8 * ws.length := by simp [wbytes]
def w8 (n : Int) : List UInt8 := wbytes [n]
theorem w8_len (n : Int) : (w8 n).length = 8 := wbytes_len [n]
theorem w8_at (n : Int) (i : Nat) (h : i < 8) : (w8 n)[i]'(by rw [w8_len]; exact h) = UInt8.ofNat (n.toNat / 256 ^ i % 256) := by
  have a : i / 8 = 0 := by omega
  have b : i % 8 = i := by omega
  simp [w8, wbytes, wbyte, a, b]
def urow (ws : List Int) : List (List AV) := ws.map fun n => [.int .u64 n]
theorem urow_len (ws : List Int) : (urow ws).length = ws.length := List.length_map ..
theorem byte_val (w : Int) (h : U64 w) (m : Nat) (hm : m < 8) : wrapK .u8 (w.fdiv (2 ^ min (((m : Int) * 8)).toNat IntKind.u64.bits)) = (UInt8.ofNat (w.toNat / 256 ^ m % 256)).toNat := by
  have e0 : min ((m : Int) * 8).toNat IntKind.u64.bits = 8 * m := by
    have : IntKind.u64.bits = 64 := rfl
    omega
  rw [e0]
  have e1 : (2 : Int) ^ (8 * m) = ((256 ^ m : Nat) : Int) := by
    rw [Int.pow_mul]
    norm_cast
  rw [e1, Int.fdiv_eq_ediv_of_nonneg _ (Int.natCast_nonneg _)]
  obtain ⟨n, rfl⟩ : ∃ n : Nat, w = n := ⟨w.toNat, by have := h.1; omega⟩
  rw [Int.toNat_natCast, UInt8.toNat_ofNat']
  show ((n : Int) / ((256 ^ m : Nat) : Int)) % 256 = _
  have : (n : Int) / ((256 ^ m : Nat) : Int) = ((n / 256 ^ m : Nat) : Int) := rfl
  rw [this]
  omega
theorem range_set {α : Type} (f : Nat → α) (N i : Nat) (v : α) : ((List.range N).map f).set i v = (List.range N).map (fun j => if j = i then v else f j) := by
  apply List.ext_getElem?
  intro j
  rw [List.getElem?_set]
  by_cases h : i = j
  · subst h
    by_cases hi : i < N
    · simp [hi]
    · simp [hi]
  · have h' : ¬ j = i := fun e => h e.symm
    simp only [h, if_false, List.getElem?_map]
    by_cases hj : j < N
    · simp [hj, h']
    · simp [hj]
theorem q_div (i : Nat) (h : i < 1000000000) : wrapK .i64 ((i : Int).tdiv 8) = ((i / 8 : Nat) : Int) := wrap_nat (i / 8) (by omega)
theorem q_mod (i : Nat) : (i : Int).tmod 8 = ((i % 8 : Nat) : Int) := rfl
theorem q_mul (m : Nat) (h : m < 8) : wrapK .i64 ((m : Int) * 8) = (m : Int) * 8 := wrap_i64 _ (by omega)
theorem q_up (n : Nat) (h : n < 1000000000) : wrapK .i64 (wrapK .i64 ((n : Int) + 8) - 1) = ((n + 7 : Nat) : Int) := by
  rw [wrap_i64 ((n : Int) + 8) (by omega), wrap_i64 _ (by omega)]; omega
theorem q_N (n : Nat) (h : n < 1000000000) : wrapK .i64 (8 * (n : Int)) = ((8 * n : Nat) : Int) := by rw [wrap_i64 _ (by omega)]; omega
section
variable {ρ : Addr → Option Value} {k : Nat} {H : Heap}
/-- The bytes of words, the first n. -/
theorem bytes_spec {x : AV} (ws : List Int) (hx : Els ρ H 1 x (urow ws)) (hw : ∀ w ∈ ws, U64 w) (hlen : ws.length < 100000) (n : Nat) (hn : n ≤ 8 * ws.length) (hk : 8 * ws.length + 10 ≤ k) :
    Ret (fun v H' => Fr Nop H H' ∧ ((¬ (ws.length = (n + 7) / 8) ∨ ((wbytes ws).drop n).any (· ≠ 0) = true) ∧ v = .tup [.str (ba []), .int .i64 4] ∨ (ws.length = (n + 7) / 8 ∧ ((wbytes ws).drop n).any (· ≠ 0) = false) ∧ v = .tup [.str (ba ((wbytes ws).take n)), .int .i64 0])) (evCall (cx ρ) k 0 77 [x, .int .i64 n] H) := by
  obtain ⟨k, rfl⟩ : ∃ q, k = q + 1 := ⟨k - 1, by omega⟩
  have lx := hx.lenS
  rw [urow_len] at lx
  obtain ⟨N, hN⟩ : ∃ N, N = 8 * ws.length := ⟨_, rfl⟩
  have c0 : ¬ (n : Int) < 0 := by omega
  have c1 : ¬ (N : Int) < (n : Int) := by omega
  have mk : ∀ H : Heap, mkS H 5 1 1 [.int .u8 0] (.int .i64 N) (.int .i64 N) = some (.sl H.sz 0 0 N N false, .new (.cells 0 5 (0, 0) false (repeatL [.int .u8 0] N))) := fun H => by
    have a1 : decide ((0 : Int) ≤ N) = true := by simp
    have a2 : decide ((N : Int) ≤ N) = true := by simp
    have a3 : decide ((N : Int) * (1 : Nat) ≤ 281474976710656) = true := by simp; omega
    have a4 : decide ((N : Int) ≤ 9223372036854775807) = true := by simp; omega
    simp only [mkS, a1, a2, a3, a4, Bool.and_self, cond_true, Int.toNat_natCast]
    rfl
  have rep0 : repeatL [AV.int .u8 0] N = (List.range N).map fun j => if j < 0 then byteCell (wbyte ws j) else .int .u8 0 := by
    apply List.ext_getElem
    · rw [repeatL_one]; simp
    · intro i h1 h2
      simp [repeatL_one]
  rw [E77]
  simp only [L77, c0, c1, lx, q_N ws.length (by omega), ← hN, mk, purK_some, resK_some, boolK_some, condK_true, condK_false, wantV_tt, wantV_tf, wantV_ft, wantV_ff, wantV_t, wantV_f, wantV_skip, Bool.not_true, Bool.not_false, gPur_true, gPur_false, gEff_true, gEff_false, gRes_true, gRes_false, pickA_true, pickA_false, extA_0, extA_1, extA_2, retK_one, retK_none, retK_two, valK_fn, valR_fn, cond_true, cond_false, bin_add, bin_sub, bin_mul, bin_eql, bin_neq, bin_lss, bin_leq, bin_gtr, bin_geq, bin_seql, bin_sneq, un_not_t, un_not_f, un_not, cvI_int, cvT_str, nilChk_ptr, nilChk_xp, addA_ptr, lenT_str, Bool.true_or, Bool.or_true, Bool.false_or, Bool.or_false, Bool.true_and, Bool.and_true, Bool.false_and, Bool.and_false, decide_true, decide_false, Int.reduceEq, Int.reduceLT, Int.reduceLE, Int.reduceNe, Int.reduceAdd, Int.reduceSub, Int.reduceMul, Int.reduceNeg, List.nil_append, List.append_nil, List.cons_append, ba_size, ba_inj, emp1, emp2]
  refine (St.start Nop H).newS fun b H1 s1 hz1 f1 => ?_
  rw [rep0] at s1
  simp only [lenS, N77_5, N77_6, purK_some, resK_some, boolK_some, condK_true, condK_false, wantV_tt, wantV_tf, wantV_ft, wantV_ff, wantV_t, wantV_f, wantV_skip, Bool.not_true, Bool.not_false, gPur_true, gPur_false, gEff_true, gEff_false, gRes_true, gRes_false, pickA_true, pickA_false, extA_0, extA_1, extA_2, retK_one, retK_none, retK_two, valK_fn, valR_fn, cond_true, cond_false, bin_add, bin_sub, bin_mul, bin_eql, bin_neq, bin_lss, bin_leq, bin_gtr, bin_geq, bin_seql, bin_sneq, un_not_t, un_not_f, un_not, cvI_int, cvT_str, nilChk_ptr, nilChk_xp, addA_ptr, lenT_str, Bool.true_or, Bool.or_true, Bool.false_or, Bool.or_false, Bool.true_and, Bool.and_true, Bool.false_and, Bool.and_false, decide_true, decide_false, Int.reduceEq, Int.reduceLT, Int.reduceLE, Int.reduceNe, Int.reduceAdd, Int.reduceSub, Int.reduceMul, Int.reduceNeg, List.nil_append, List.append_nil, List.cons_append, ba_size, ba_inj, emp1, emp2]
  refine Ret.loop (fun m y H' => ∃ i : Nat, y = .int .i64 i ∧ m = N - i ∧ i ≤ N ∧ St Nop H [(b, .cells 0 5 (0, 0) false ((List.range N).map fun j => if j < i then byteCell (wbyte ws j) else .int .u8 0))] H' ∧ Fr (fun t => t = b) H1 H') ?_ N k _ H1 ⟨0, rfl, rfl, by omega, s1, Fr.refl ..⟩ (by omega)
  rintro m y H' kn ⟨i, rfl, hm, hi, s, fr⟩ next
  by_cases h : i < N
  · have h' : (i : Int) < N := by omega
    have n8 : (8 : Int) ≠ 0 := by decide
    have hq : i / 8 < ws.length := by omega
    have hX := (hx.frame0 f1).frame _ fr fun t ht e => by have := hx.lies_lt t ht; omega
    have e1 := hX.ix .i64 ((i / 8 : Nat) : Int) (by omega) (by rw [urow_len]; omega)
    rw [Int.toNat_natCast] at e1
    have e2 := hX.ld1 (i / 8) 0 (by rw [urow_len]; exact hq) (by decide)
    have e3 : (urow ws)[i / 8]'(by rw [urow_len]; exact hq) = [.int .u64 ws[i / 8]] := by simp [urow]
    rw [e3, List.getElem?_cons_zero] at e2
    have hwr := hw _ (List.getElem_mem hq)
    have hm8 : i % 8 < 8 := Nat.mod_lt _ (by omega)
    have q4 : (0 : Int) ≤ ((i % 8 : Nat) : Int) * 8 := by omega
    have q5 := byte_val ws[i / 8] hwr (i % 8) hm8
    have q6 : (UInt8.ofNat (ws[i / 8].toNat / 256 ^ (i % 8) % 256)) = wbyte ws i := by simp [wbyte, List.getD, hq]
    rw [q6] at q5
    have e4 : ixS 1 (.sl b 0 0 N N false) (.int .i64 i) = some (.ptr b 0 i) := by
      have a1 : decide ((0 : Int) ≤ i) = true := by simp
      have a2 : decide ((i : Int) < N) = true := by simpa using h
      simp [ixS, Ev.asInt, elAt, a1, h, addA]
    simp only [N77_6b, h', bin_quo _ _ _ _ _ _ n8, bin_rem _ _ _ _ _ _ n8, q_div i (by omega), q_mod, q_mul (i % 8) hm8, e1, e2, bin_shr _ _ _ _ _ _ _ q4, q5, e4, purK_some, resK_some, boolK_some, condK_true, condK_false, wantV_tt, wantV_tf, wantV_ft, wantV_ff, wantV_t, wantV_f, wantV_skip, Bool.not_true, Bool.not_false, gPur_true, gPur_false, gEff_true, gEff_false, gRes_true, gRes_false, pickA_true, pickA_false, extA_0, extA_1, extA_2, retK_one, retK_none, retK_two, valK_fn, valR_fn, cond_true, cond_false, bin_add, bin_sub, bin_mul, bin_eql, bin_neq, bin_lss, bin_leq, bin_gtr, bin_geq, bin_seql, bin_sneq, un_not_t, un_not_f, un_not, cvI_int, cvT_str, nilChk_ptr, nilChk_xp, addA_ptr, lenT_str, Bool.true_or, Bool.or_true, Bool.false_or, Bool.or_false, Bool.true_and, Bool.and_true, Bool.false_and, Bool.and_false, decide_true, decide_false, Int.reduceEq, Int.reduceLT, Int.reduceLE, Int.reduceNe, Int.reduceAdd, Int.reduceSub, Int.reduceMul, Int.reduceNeg, List.nil_append, List.append_nil, List.cons_append, ba_size, ba_inj, emp1, emp2]
    clear q5
    refine s.st 0 rfl rfl (by simpa using h) fun H2 s2 z2 f2 => ?_
    simp only [wrap_succN i (by omega : i + 1 < 9223372036854775808), purK_some, resK_some, boolK_some, condK_true, condK_false, wantV_tt, wantV_tf, wantV_ft, wantV_ff, wantV_t, wantV_f, wantV_skip, Bool.not_true, Bool.not_false, gPur_true, gPur_false, gEff_true, gEff_false, gRes_true, gRes_false, pickA_true, pickA_false, extA_0, extA_1, extA_2, retK_one, retK_none, retK_two, valK_fn, valR_fn, cond_true, cond_false, bin_add, bin_sub, bin_mul, bin_eql, bin_neq, bin_lss, bin_leq, bin_gtr, bin_geq, bin_seql, bin_sneq, un_not_t, un_not_f, un_not, cvI_int, cvT_str, nilChk_ptr, nilChk_xp, addA_ptr, lenT_str, Bool.true_or, Bool.or_true, Bool.false_or, Bool.or_false, Bool.true_and, Bool.and_true, Bool.false_and, Bool.and_false, decide_true, decide_false, Int.reduceEq, Int.reduceLT, Int.reduceLE, Int.reduceNe, Int.reduceAdd, Int.reduceSub, Int.reduceMul, Int.reduceNeg, List.nil_append, List.append_nil, List.cons_append, ba_size, ba_inj, emp1, emp2]
    refine next (m - 1) _ H2 (by omega) ⟨i + 1, rfl, by omega, by omega, ?_, fr.trans f2⟩
    rw [range_set] at s2
    have : (fun j => if j = i then AV.int .u8 (wbyte ws i).toNat else if j < i then byteCell (wbyte ws j) else .int .u8 0) = fun j => if j < i + 1 then byteCell (wbyte ws j) else .int .u8 0 := by
      funext j
      by_cases h1 : j = i
      · subst h1; simp [byteCell]
      · by_cases h2 : j < i
        · have : j < i + 1 := by omega
          simp [h1, h2, this]
        · have : ¬ j < i + 1 := by omega
          simp [h1, h2, this]
    rw [this] at s2
    exact s2
  · obtain rfl : i = N := by omega
    have h' : ¬ ((i : Nat) : Int) < (i : Nat) := by omega
    have hcells : ((List.range i).map fun j => if j < i then byteCell (wbyte ws j) else .int .u8 0) = (wbytes ws).map byteCell := by
      unfold wbytes
      rw [← hN, List.map_map]
      apply List.map_congr_left
      intro j hj
      rw [List.mem_range] at hj
      simp [hj]
    rw [hcells] at s
    have hbl : (wbytes ws).length = i := by rw [wbytes_len, hN]
    have hE : Els ρ H' 1 (.sl b 0 0 i i false) (brow (wbytes ws)) := by
      have := Els.of_cells (ρ := ρ) (H := H') (l := b) (v := 0) (e := 5) (fr := (0, 0)) (g := false) (m := false) (els := brow (wbytes ws)) (sz := 1) (s.lt' 0 rfl) (by rw [s.at 0 rfl, brow_flat]) (brow_one _)
      rwa [brow_len, hbl] at this
    have n8 : (8 : Int) ≠ 0 := by decide
    simp only [N77_6b, N77_1, h', lx, q_up n (by omega), q_div (n + 7) (by omega), bin_quo _ _ _ _ _ _ n8, purK_some, resK_some, boolK_some, condK_true, condK_false, wantV_tt, wantV_tf, wantV_ft, wantV_ff, wantV_t, wantV_f, wantV_skip, Bool.not_true, Bool.not_false, gPur_true, gPur_false, gEff_true, gEff_false, gRes_true, gRes_false, pickA_true, pickA_false, extA_0, extA_1, extA_2, retK_one, retK_none, retK_two, valK_fn, valR_fn, cond_true, cond_false, bin_add, bin_sub, bin_mul, bin_eql, bin_neq, bin_lss, bin_leq, bin_gtr, bin_geq, bin_seql, bin_sneq, un_not_t, un_not_f, un_not, cvI_int, cvT_str, nilChk_ptr, nilChk_xp, addA_ptr, lenT_str, Bool.true_or, Bool.or_true, Bool.false_or, Bool.or_false, Bool.true_and, Bool.and_true, Bool.false_and, Bool.and_false, decide_true, decide_false, Int.reduceEq, Int.reduceLT, Int.reduceLE, Int.reduceNe, Int.reduceAdd, Int.reduceSub, Int.reduceMul, Int.reduceNeg, List.nil_append, List.append_nil, List.cons_append, ba_size, ba_inj, emp1, emp2]
    by_cases hq : ws.length = (n + 7) / 8
    · have hq' : ¬ ((ws.length : Nat) : Int) ≠ (((n + 7) / 8 : Nat) : Int) := by omega
      obtain ⟨y, ey, hy, _⟩ := hE.cut (lo := n) (hi := i) (by omega) (by rw [brow_len, hbl]; exact Nat.le_refl _) (some (.int .i64 n)) none (Or.inr ⟨_, rfl⟩) (Or.inl ⟨rfl, by rw [brow_len, hbl]⟩) (fun n => by simp)
      obtain ⟨z, ez, hz, _⟩ := hE.cut (lo := 0) (hi := n) (by omega) (by rw [brow_len, hbl]; omega) none (some (.int .i64 n)) (Or.inl ⟨rfl, rfl⟩) (Or.inr ⟨_, rfl⟩) (fun n => by simp)
      have hy' : Els ρ H' 1 y (brow ((wbytes ws).drop n)) := by
        have : ((brow (wbytes ws)).drop n).take (i - n) = brow ((wbytes ws).drop n) := by
          rw [List.take_of_length_le (by rw [List.length_drop, brow_len, hbl]; exact Nat.le_refl _)]
          unfold brow; rw [List.map_drop]
        rwa [this] at hy
      have hz' : Els ρ H' 1 z (brow ((wbytes ws).take n)) := by
        have : ((brow (wbytes ws)).drop 0).take (n - 0) = brow ((wbytes ws).take n) := by
          rw [List.drop_zero, Nat.sub_zero]; unfold brow; rw [List.map_take]
        rwa [this] at hz
      have ly := hy'.lenS
      rw [brow_len] at ly
      obtain ⟨R, hR⟩ : ∃ R, R = (wbytes ws).drop n := ⟨_, rfl⟩
      rw [← hR] at hy' ly
      have hRl : R.length < 1000000 := by rw [hR, List.length_drop, hbl]; omega
      have hns : ∀ m, z ≠ .sx m := slS_notSx ez
      have ez' := b2s_brow hz' hns
      simp only [hq', ey, ly, N77_3, N77_4, purK_some, resK_some, boolK_some, condK_true, condK_false, wantV_tt, wantV_tf, wantV_ft, wantV_ff, wantV_t, wantV_f, wantV_skip, Bool.not_true, Bool.not_false, gPur_true, gPur_false, gEff_true, gEff_false, gRes_true, gRes_false, pickA_true, pickA_false, extA_0, extA_1, extA_2, retK_one, retK_none, retK_two, valK_fn, valR_fn, cond_true, cond_false, bin_add, bin_sub, bin_mul, bin_eql, bin_neq, bin_lss, bin_leq, bin_gtr, bin_geq, bin_seql, bin_sneq, un_not_t, un_not_f, un_not, cvI_int, cvT_str, nilChk_ptr, nilChk_xp, addA_ptr, lenT_str, Bool.true_or, Bool.or_true, Bool.false_or, Bool.or_false, Bool.true_and, Bool.and_true, Bool.false_and, Bool.and_false, decide_true, decide_false, Int.reduceEq, Int.reduceLT, Int.reduceLE, Int.reduceNe, Int.reduceAdd, Int.reduceSub, Int.reduceMul, Int.reduceNeg, List.nil_append, List.append_nil, List.cons_append, ba_size, ba_inj, emp1, emp2]
      refine Ret.loop (fun m y H'' => ∃ j : Nat, y = .int .i64 j ∧ m = R.length - j ∧ j ≤ R.length ∧ H'' = H' ∧ (R.take j).any (· ≠ 0) = false) ?_ R.length k _ H' ⟨0, rfl, rfl, by omega, rfl, by simp⟩ (by rw [hR, List.length_drop, hbl]; omega)
      rintro m2 y2 H'' kn2 ⟨j, rfl, hm2, hj, rfl, hall⟩ next2
      by_cases h2 : j < R.length
      · have h2' : (j : Int) < R.length := by omega
        have e1 := hy'.ix .i64 j (by omega) (by rw [brow_len]; omega)
        rw [Int.toNat_natCast] at e1
        have e2 := hy'.ld1 j 0 (by rw [brow_len]; exact h2) (by decide)
        have e3 : (brow R)[j]'(by rw [brow_len]; exact h2) = [byteCell R[j]] := by simp [brow]
        rw [e3, List.getElem?_cons_zero] at e2
        unfold byteCell at e2
        have ht : (R.take (j + 1)).any (· ≠ 0) = ((R.take j).any (· ≠ 0) || decide (R[j] ≠ 0)) := by
          rw [List.take_succ_eq_append_getElem h2, List.any_append]; simp
        simp only [N77_4b, h2', e1, e2, purK_some, resK_some, boolK_some, condK_true, condK_false, wantV_tt, wantV_tf, wantV_ft, wantV_ff, wantV_t, wantV_f, wantV_skip, Bool.not_true, Bool.not_false, gPur_true, gPur_false, gEff_true, gEff_false, gRes_true, gRes_false, pickA_true, pickA_false, extA_0, extA_1, extA_2, retK_one, retK_none, retK_two, valK_fn, valR_fn, cond_true, cond_false, bin_add, bin_sub, bin_mul, bin_eql, bin_neq, bin_lss, bin_leq, bin_gtr, bin_geq, bin_seql, bin_sneq, un_not_t, un_not_f, un_not, cvI_int, cvT_str, nilChk_ptr, nilChk_xp, addA_ptr, lenT_str, Bool.true_or, Bool.or_true, Bool.false_or, Bool.or_false, Bool.true_and, Bool.and_true, Bool.false_and, Bool.and_false, decide_true, decide_false, Int.reduceEq, Int.reduceLT, Int.reduceLE, Int.reduceNe, Int.reduceAdd, Int.reduceSub, Int.reduceMul, Int.reduceNeg, List.nil_append, List.append_nil, List.cons_append, ba_size, ba_inj, emp1, emp2]
        refine Ret.condD (fun hb => ?_) (fun hb => ?_)
        · refine .intro ⟨s.fr, Or.inl ⟨Or.inr ?_, rfl⟩⟩
          rw [← hR, List.any_eq_true]
          exact ⟨R[j], List.getElem_mem h2, by simp; intro e; rw [e] at hb; exact hb rfl⟩
        · simp only [wrap_succN j (by omega : j + 1 < 9223372036854775808), purK_some, resK_some, boolK_some, condK_true, condK_false, wantV_tt, wantV_tf, wantV_ft, wantV_ff, wantV_t, wantV_f, wantV_skip, Bool.not_true, Bool.not_false, gPur_true, gPur_false, gEff_true, gEff_false, gRes_true, gRes_false, pickA_true, pickA_false, extA_0, extA_1, extA_2, retK_one, retK_none, retK_two, valK_fn, valR_fn, cond_true, cond_false, bin_add, bin_sub, bin_mul, bin_eql, bin_neq, bin_lss, bin_leq, bin_gtr, bin_geq, bin_seql, bin_sneq, un_not_t, un_not_f, un_not, cvI_int, cvT_str, nilChk_ptr, nilChk_xp, addA_ptr, lenT_str, Bool.true_or, Bool.or_true, Bool.false_or, Bool.or_false, Bool.true_and, Bool.and_true, Bool.false_and, Bool.and_false, decide_true, decide_false, Int.reduceEq, Int.reduceLT, Int.reduceLE, Int.reduceNe, Int.reduceAdd, Int.reduceSub, Int.reduceMul, Int.reduceNeg, List.nil_append, List.append_nil, List.cons_append, ba_size, ba_inj, emp1, emp2]
          refine next2 (m2 - 1) _ H'' (by omega) ⟨j + 1, rfl, by omega, by omega, rfl, ?_⟩
          rw [ht, hall]
          simp only [Bool.false_or, decide_eq_false_iff_not, ne_eq, Classical.not_not]
          apply UInt8.toNat_inj.1
          have : ¬ ((R[j].toNat : Int) ≠ 0) := hb
          show R[j].toNat = 0
          omega
      · obtain rfl : j = R.length := by omega
        have h2' : ¬ ((R.length : Nat) : Int) < (R.length : Nat) := by omega
        rw [List.take_length] at hall
        simp only [N77_4b, N77_2, h2', ez, ez', purK_some, resK_some, boolK_some, condK_true, condK_false, wantV_tt, wantV_tf, wantV_ft, wantV_ff, wantV_t, wantV_f, wantV_skip, Bool.not_true, Bool.not_false, gPur_true, gPur_false, gEff_true, gEff_false, gRes_true, gRes_false, pickA_true, pickA_false, extA_0, extA_1, extA_2, retK_one, retK_none, retK_two, valK_fn, valR_fn, cond_true, cond_false, bin_add, bin_sub, bin_mul, bin_eql, bin_neq, bin_lss, bin_leq, bin_gtr, bin_geq, bin_seql, bin_sneq, un_not_t, un_not_f, un_not, cvI_int, cvT_str, nilChk_ptr, nilChk_xp, addA_ptr, lenT_str, Bool.true_or, Bool.or_true, Bool.false_or, Bool.or_false, Bool.true_and, Bool.and_true, Bool.false_and, Bool.and_false, decide_true, decide_false, Int.reduceEq, Int.reduceLT, Int.reduceLE, Int.reduceNe, Int.reduceAdd, Int.reduceSub, Int.reduceMul, Int.reduceNeg, List.nil_append, List.append_nil, List.cons_append, ba_size, ba_inj, emp1, emp2]
        exact .intro ⟨s.fr, Or.inr ⟨⟨hq, by rw [← hR]; exact hall⟩, rfl⟩⟩
    · have hq' : ((ws.length : Nat) : Int) ≠ (((n + 7) / 8 : Nat) : Int) := by omega
      simp only [hq', ne_eq, not_false_eq_true, purK_some, resK_some, boolK_some, condK_true, condK_false, wantV_tt, wantV_tf, wantV_ft, wantV_ff, wantV_t, wantV_f, wantV_skip, Bool.not_true, Bool.not_false, gPur_true, gPur_false, gEff_true, gEff_false, gRes_true, gRes_false, pickA_true, pickA_false, extA_0, extA_1, extA_2, retK_one, retK_none, retK_two, valK_fn, valR_fn, cond_true, cond_false, bin_add, bin_sub, bin_mul, bin_eql, bin_neq, bin_lss, bin_leq, bin_gtr, bin_geq, bin_seql, bin_sneq, un_not_t, un_not_f, un_not, cvI_int, cvT_str, nilChk_ptr, nilChk_xp, addA_ptr, lenT_str, Bool.true_or, Bool.or_true, Bool.false_or, Bool.or_false, Bool.true_and, Bool.and_true, Bool.false_and, Bool.and_false, decide_true, decide_false, Int.reduceEq, Int.reduceLT, Int.reduceLE, Int.reduceNe, Int.reduceAdd, Int.reduceSub, Int.reduceMul, Int.reduceNeg, List.nil_append, List.append_nil, List.cons_append, ba_size, ba_inj, emp1, emp2]
      exact .intro ⟨s.fr, Or.inl ⟨Or.inl hq, rfl⟩⟩
theorem tail_spec (n : Int) (hn : U64 n) (hk : 40 ≤ k) : Ret (fun v H' => v = .str (ba (w8 n)) ∧ Fr Nop H H') (evCall (cx ρ) k 0 58 [.int .u64 n] H) := by
  obtain ⟨k, rfl⟩ : ∃ q, k = q + 1 := ⟨k - 1, by omega⟩
  have bl : ∀ H : Heap, bldS H 49 1 [.int .u64 0] 1 [(0, 1, .int .u64 n)] = some (.sl H.sz 0 0 1 1 false, .new (.cells 0 49 (0, 0) false [.int .u64 n])) := fun H => rfl
  rw [E58]
  simp only [L58, bl]
  refine (St.start Nop H).newS fun b H1 s1 hz1 f1 => ?_
  have hE : Els ρ H1 1 (.sl b 0 0 1 1 false) (urow [n]) := Els.of_cells (els := urow [n]) (e := 49) (fr := (0, 0)) (g := false) (s1.lt' 0 rfl) (by rw [s1.at 0 rfl]; rfl) (by intro r hr; simp [urow] at hr; subst hr; rfl)
  refine Ret.bind (bytes_spec (k := k) [n] hE (by simpa using hn) (show 1 < 100000 by decide) 8 (show 8 ≤ 8 * 1 by decide) (by simp; omega)) ?_
  rintro v H2 ⟨f2, (⟨h, rfl⟩ | ⟨h, rfl⟩)⟩
  · exfalso
    rcases h with h | h
    · exact h (show 1 = (8 + 7) / 8 by decide)
    · rw [List.drop_of_length_le (by rw [wbytes_len]; exact (show 8 * 1 ≤ 8 by decide))] at h
      simp at h
  · have : (wbytes [n]).take 8 = w8 n := List.take_of_length_le (by rw [wbytes_len]; exact (show 8 * 1 ≤ 8 by decide))
    simp only [this, purK_some, resK_some, boolK_some, condK_true, condK_false, wantV_tt, wantV_tf, wantV_ft, wantV_ff, wantV_t, wantV_f, wantV_skip, Bool.not_true, Bool.not_false, gPur_true, gPur_false, gEff_true, gEff_false, gRes_true, gRes_false, pickA_true, pickA_false, extA_0, extA_1, extA_2, retK_one, retK_none, retK_two, valK_fn, valR_fn, cond_true, cond_false, bin_add, bin_sub, bin_mul, bin_eql, bin_neq, bin_lss, bin_leq, bin_gtr, bin_geq, bin_seql, bin_sneq, un_not_t, un_not_f, un_not, cvI_int, cvT_str, nilChk_ptr, nilChk_xp, addA_ptr, lenT_str, Bool.true_or, Bool.or_true, Bool.false_or, Bool.or_false, Bool.true_and, Bool.and_true, Bool.false_and, Bool.and_false, decide_true, decide_false, Int.reduceEq, Int.reduceLT, Int.reduceLE, Int.reduceNe, Int.reduceAdd, Int.reduceSub, Int.reduceMul, Int.reduceNeg, List.nil_append, List.append_nil, List.cons_append, ba_size, ba_inj, emp1, emp2]
    exact .intro ⟨rfl, f1.trans f2⟩
def sealL (l : List UInt8) : List UInt8 := l ++ w8 (sumL l)
theorem seal_spec (l : List UInt8) (hk : l.length + 50 ≤ k) (hl : l.length < 1000000) : Ret (fun v H' => v = .str (ba (sealL l)) ∧ Fr Nop H H') (evCall (cx ρ) k 0 34 [.str (ba l)] H) := by
  obtain ⟨k, rfl⟩ : ∃ q, k = q + 1 := ⟨k - 1, by omega⟩
  rw [E34]
  simp only [L34]
  refine Ret.bind (sum_spec l (by omega) (by omega)) ?_
  rintro v H1 ⟨rfl, rfl⟩
  refine Ret.bind (tail_spec (sumL l) (sumL_range l) (by omega)) ?_
  rintro v H2 ⟨rfl, f2⟩
  simp only [bin_scatB _ _ _ l (w8 (sumL l)) (by rw [w8_len]; omega), purK_some, resK_some, boolK_some, condK_true, condK_false, wantV_tt, wantV_tf, wantV_ft, wantV_ff, wantV_t, wantV_f, wantV_skip, Bool.not_true, Bool.not_false, gPur_true, gPur_false, gEff_true, gEff_false, gRes_true, gRes_false, pickA_true, pickA_false, extA_0, extA_1, extA_2, retK_one, retK_none, retK_two, valK_fn, valR_fn, cond_true, cond_false, bin_add, bin_sub, bin_mul, bin_eql, bin_neq, bin_lss, bin_leq, bin_gtr, bin_geq, bin_seql, bin_sneq, un_not_t, un_not_f, un_not, cvI_int, cvT_str, nilChk_ptr, nilChk_xp, addA_ptr, lenT_str, Bool.true_or, Bool.or_true, Bool.false_or, Bool.or_false, Bool.true_and, Bool.and_true, Bool.false_and, Bool.and_false, decide_true, decide_false, Int.reduceEq, Int.reduceLT, Int.reduceLE, Int.reduceNe, Int.reduceAdd, Int.reduceSub, Int.reduceMul, Int.reduceNeg, List.nil_append, List.append_nil, List.cons_append, ba_size, ba_inj, emp1, emp2]
  exact .intro ⟨rfl, f2⟩
theorem open_spec (l : List UInt8) (hk : l.length + 50 ≤ k) (hl : l.length < 1000000) : Ret (fun v H' => Fr Nop H H' ∧ ((¬ (8 ≤ l.length ∧ sealL (l.take (l.length - 8)) = l) ∧ ∃ e, v = .tup [.str (ba []), .int .i64 e] ∧ e ≠ 0) ∨ ((8 ≤ l.length ∧ sealL (l.take (l.length - 8)) = l) ∧ v = .tup [.str (ba (l.take (l.length - 8))), .int .i64 0]))) (evCall (cx ρ) k 0 40 [.str (ba l)] H) := by
  obtain ⟨k, rfl⟩ : ∃ q, k = q + 1 := ⟨k - 1, by omega⟩
  rw [E40]
  by_cases h8 : 8 ≤ l.length
  · obtain ⟨n, hn⟩ : ∃ n, n = l.length - 8 := ⟨_, rfl⟩
    have w1 : wrapK .i64 ((l.length : Int) - 8) = (n : Int) := by rw [wrap_i64] <;> omega
    have c1 : ¬ (n : Int) < 0 := by omega
    simp only [L40, lenT_ba, w1, c1, slT_hi l n (by omega), slT_lo l n (by omega), purK_some, resK_some, boolK_some, condK_true, condK_false, wantV_tt, wantV_tf, wantV_ft, wantV_ff, wantV_t, wantV_f, wantV_skip, Bool.not_true, Bool.not_false, gPur_true, gPur_false, gEff_true, gEff_false, gRes_true, gRes_false, pickA_true, pickA_false, extA_0, extA_1, extA_2, retK_one, retK_none, retK_two, valK_fn, valR_fn, cond_true, cond_false, bin_add, bin_sub, bin_mul, bin_eql, bin_neq, bin_lss, bin_leq, bin_gtr, bin_geq, bin_seql, bin_sneq, un_not_t, un_not_f, un_not, cvI_int, cvT_str, nilChk_ptr, nilChk_xp, addA_ptr, lenT_str, Bool.true_or, Bool.or_true, Bool.false_or, Bool.or_false, Bool.true_and, Bool.and_true, Bool.false_and, Bool.and_false, decide_true, decide_false, Int.reduceEq, Int.reduceLT, Int.reduceLE, Int.reduceNe, Int.reduceAdd, Int.reduceSub, Int.reduceMul, Int.reduceNeg, List.nil_append, List.append_nil, List.cons_append, ba_size, ba_inj, emp1, emp2]
    clear w1
    rw [← hn]
    have hl2 : (l.take n).length = n := by rw [List.length_take]; omega
    refine Ret.bind (sum_spec (l.take n) (by omega) (by omega)) ?_
    rintro v H1 ⟨rfl, rfl⟩
    refine Ret.bind (tail_spec (sumL (l.take n)) (sumL_range _) (by omega)) ?_
    rintro v H2 ⟨rfl, f2⟩
    simp only [ne_eq, purK_some, resK_some, boolK_some, condK_true, condK_false, wantV_tt, wantV_tf, wantV_ft, wantV_ff, wantV_t, wantV_f, wantV_skip, Bool.not_true, Bool.not_false, gPur_true, gPur_false, gEff_true, gEff_false, gRes_true, gRes_false, pickA_true, pickA_false, extA_0, extA_1, extA_2, retK_one, retK_none, retK_two, valK_fn, valR_fn, cond_true, cond_false, bin_add, bin_sub, bin_mul, bin_eql, bin_neq, bin_lss, bin_leq, bin_gtr, bin_geq, bin_seql, bin_sneq, un_not_t, un_not_f, un_not, cvI_int, cvT_str, nilChk_ptr, nilChk_xp, addA_ptr, lenT_str, Bool.true_or, Bool.or_true, Bool.false_or, Bool.or_false, Bool.true_and, Bool.and_true, Bool.false_and, Bool.and_false, decide_true, decide_false, Int.reduceEq, Int.reduceLT, Int.reduceLE, Int.reduceNe, Int.reduceAdd, Int.reduceSub, Int.reduceMul, Int.reduceNeg, List.nil_append, List.append_nil, List.cons_append, ba_size, ba_inj, emp1, emp2]
    have key : sealL (l.take n) = l ↔ w8 (sumL (l.take n)) = l.drop n := by
      unfold sealL
      constructor
      · intro h
        have := congrArg (List.drop n) h
        rwa [List.drop_left' hl2] at this
      · intro h
        rw [h, List.take_append_drop]
    refine Ret.condD (fun hb => ?_) (fun hb => ?_)
    · exact .intro ⟨f2, Or.inl ⟨fun h => hb (key.1 h.2), 4, rfl, by decide⟩⟩
    · exact .intro ⟨f2, Or.inr ⟨⟨h8, key.2 (Classical.not_not.1 hb)⟩, rfl⟩⟩
  · have w1 : wrapK .i64 ((l.length : Int) - 8) = (l.length : Int) - 8 := wrap_i64 _ (by omega)
    have c1 : (l.length : Int) - 8 < 0 := by omega
    simp only [L40, lenT_ba, w1, c1, purK_some, resK_some, boolK_some, condK_true, condK_false, wantV_tt, wantV_tf, wantV_ft, wantV_ff, wantV_t, wantV_f, wantV_skip, Bool.not_true, Bool.not_false, gPur_true, gPur_false, gEff_true, gEff_false, gRes_true, gRes_false, pickA_true, pickA_false, extA_0, extA_1, extA_2, retK_one, retK_none, retK_two, valK_fn, valR_fn, cond_true, cond_false, bin_add, bin_sub, bin_mul, bin_eql, bin_neq, bin_lss, bin_leq, bin_gtr, bin_geq, bin_seql, bin_sneq, un_not_t, un_not_f, un_not, cvI_int, cvT_str, nilChk_ptr, nilChk_xp, addA_ptr, lenT_str, Bool.true_or, Bool.or_true, Bool.false_or, Bool.or_false, Bool.true_and, Bool.and_true, Bool.false_and, Bool.and_false, decide_true, decide_false, Int.reduceEq, Int.reduceLT, Int.reduceLE, Int.reduceNe, Int.reduceAdd, Int.reduceSub, Int.reduceMul, Int.reduceNeg, List.nil_append, List.append_nil, List.cons_append, ba_size, ba_inj, emp1, emp2]
    exact .intro ⟨Fr.refl .., Or.inl ⟨fun h => h8 h.1, 3, rfl, by decide⟩⟩
theorem rs1 (S i : Nat) : (((S / 256 ^ i : Nat) : Int)).tmod 256 = ((S / 256 ^ i % 256 : Nat) : Int) := rfl
theorem rs2 (m : Nat) (h : m < 256) : wrapK .u8 ((m : Nat) : Int) = (UInt8.ofNat m).toNat := by
  rw [UInt8.toNat_ofNat', wrap_u8 _ (by omega)]; omega
theorem rs3 (S i : Nat) (hS : S < 18446744073709551616) : wrapK .u64 (((S / 256 ^ i : Nat) : Int).tdiv 256) = ((S / 256 ^ (i + 1) : Nat) : Int) := by
  have e : ((S / 256 ^ i : Nat) : Int).tdiv 256 = ((S / 256 ^ i / 256 : Nat) : Int) := rfl
  have le : S / 256 ^ i / 256 < 18446744073709551616 := Nat.lt_of_le_of_lt (Nat.div_le_self _ _) (Nat.lt_of_le_of_lt (Nat.div_le_self _ _) hS)
  have e2 : S / 256 ^ i / 256 = S / 256 ^ (i + 1) := by rw [Nat.div_div_eq_div_mul, ← Nat.pow_succ]
  rw [e, ← e2]
  generalize S / 256 ^ i / 256 = z at le
  exact wrap_u64 _ (by omega)
theorem rseal_spec (l : List UInt8) (hk : l.length + 50 ≤ k) (hl : l.length < 1000000) : Ret (fun v H' => v = .str (ba (sealL l)) ∧ Fr Nop H H') (evCall (cx ρ) k 0 18 [.str (ba l)] H) := by
  obtain ⟨k, rfl⟩ : ∃ q, k = q + 1 := ⟨k - 1, by omega⟩
  rw [E18]
  simp only [L18]
  refine Ret.bind (rsum_spec l (by omega) (by omega)) ?_
  rintro v H1 ⟨rfl, rfl⟩
  have hs := sumL_range l
  obtain ⟨S, hS⟩ : ∃ S : Nat, sumL l = S := ⟨(sumL l).toNat, by have := hs.1; omega⟩
  have hSl : S < 18446744073709551616 := by have := hs.2; omega
  simp only [N18_2, N18_3, hS]
  refine Ret.loop (fun m y H' => ∃ i : Nat, y = (.str (ba (l ++ (w8 S).take i)), .int .u64 ((S / 256 ^ i : Nat) : Int), .int .i64 i) ∧ m = 8 - i ∧ i ≤ 8 ∧ Fr Nop H1 H') ?_ 8 k _ H1 ⟨0, by simp, rfl, by omega, Fr.refl ..⟩ (by omega)
  rintro m y H' kn ⟨i, rfl, hm, hi, fr⟩ next
  by_cases h : i < 8
  · have h' : (i : Int) < 8 := by omega
    have n0 : (256 : Int) ≠ 0 := by decide
    have hq : S / 256 ^ i < 18446744073709551616 := Nat.lt_of_le_of_lt (Nat.div_le_self _ _) hSl
    have hq256 : S / 256 ^ i % 256 < 256 := Nat.mod_lt _ (by decide)
    have bl : ∀ b : UInt8, bldS H' 5 1 [.int .u8 0] 1 [(0, 1, .int .u8 b.toNat)] = some (.sl H'.sz 0 0 1 1 false, .new (.cells 0 5 (0, 0) false [.int .u8 b.toNat])) := fun b => rfl
    simp only [N18_3b, h', bin_rem _ _ _ _ _ _ n0, bin_quo _ _ _ _ _ _ n0, rs1, rs2 _ hq256, rs3 S i hSl, bl, purK_some, resK_some, boolK_some, condK_true, condK_false, wantV_tt, wantV_tf, wantV_ft, wantV_ff, wantV_t, wantV_f, wantV_skip, Bool.not_true, Bool.not_false, gPur_true, gPur_false, gEff_true, gEff_false, gRes_true, gRes_false, pickA_true, pickA_false, extA_0, extA_1, extA_2, retK_one, retK_none, retK_two, valK_fn, valR_fn, cond_true, cond_false, bin_add, bin_sub, bin_mul, bin_eql, bin_neq, bin_lss, bin_leq, bin_gtr, bin_geq, bin_seql, bin_sneq, un_not_t, un_not_f, un_not, cvI_int, cvT_str, nilChk_ptr, nilChk_xp, addA_ptr, lenT_str, Bool.true_or, Bool.or_true, Bool.false_or, Bool.or_false, Bool.true_and, Bool.and_true, Bool.false_and, Bool.and_false, decide_true, decide_false, Int.reduceEq, Int.reduceLT, Int.reduceLE, Int.reduceNe, Int.reduceAdd, Int.reduceSub, Int.reduceMul, Int.reduceNeg, List.nil_append, List.append_nil, List.cons_append, ba_size, ba_inj, emp1, emp2]
    refine (St.start Nop H').newS fun b H2 s2 hz2 f2 => ?_
    have hE : Els ρ H2 1 (.sl b 0 0 1 1 false) (brow [UInt8.ofNat (S / 256 ^ i % 256)]) := Els.of_cells (els := brow [_]) (e := 5) (fr := (0, 0)) (g := false) (s2.lt' 0 rfl) (by rw [s2.at 0 rfl]; rfl) (brow_one _)
    have eb := b2s_brow hE (fun m => by simp)
    have hw : (w8 S).take (i + 1) = (w8 S).take i ++ [UInt8.ofNat (S / 256 ^ i % 256)] := by
      have hi8 : i < (w8 S).length := by rw [w8_len]; exact h
      rw [List.take_succ_eq_append_getElem hi8, w8_at _ i h, Int.toNat_natCast]
    have lt8 : (l ++ (w8 S).take i).length ≤ l.length + 8 := by rw [List.length_append, List.length_take, w8_len]; omega
    simp only [eb, bin_scatB _ _ _ (l ++ (w8 S).take i) [UInt8.ofNat (S / 256 ^ i % 256)] (by simp only [List.length_cons, List.length_nil]; omega), List.append_assoc, ← hw, wrap_succN i (by omega : i + 1 < 9223372036854775808), purK_some, resK_some, boolK_some, condK_true, condK_false, wantV_tt, wantV_tf, wantV_ft, wantV_ff, wantV_t, wantV_f, wantV_skip, Bool.not_true, Bool.not_false, gPur_true, gPur_false, gEff_true, gEff_false, gRes_true, gRes_false, pickA_true, pickA_false, extA_0, extA_1, extA_2, retK_one, retK_none, retK_two, valK_fn, valR_fn, cond_true, cond_false, bin_add, bin_sub, bin_mul, bin_eql, bin_neq, bin_lss, bin_leq, bin_gtr, bin_geq, bin_seql, bin_sneq, un_not_t, un_not_f, un_not, cvI_int, cvT_str, nilChk_ptr, nilChk_xp, addA_ptr, lenT_str, Bool.true_or, Bool.or_true, Bool.false_or, Bool.or_false, Bool.true_and, Bool.and_true, Bool.false_and, Bool.and_false, decide_true, decide_false, Int.reduceEq, Int.reduceLT, Int.reduceLE, Int.reduceNe, Int.reduceAdd, Int.reduceSub, Int.reduceMul, Int.reduceNeg, List.nil_append, List.append_nil, List.cons_append, ba_size, ba_inj, emp1, emp2]
    exact next (m - 1) _ H2 (by omega) ⟨i + 1, rfl, by omega, by omega, fr.trans f2⟩
  · obtain rfl : i = 8 := by omega
    have h' : ¬ ((8 : Nat) : Int) < 8 := by omega
    have ht : (w8 S).take 8 = w8 S := List.take_of_length_le (by rw [w8_len]; exact Nat.le_refl _)
    simp only [N18_3b, N18_1, h', ht, purK_some, resK_some, boolK_some, condK_true, condK_false, wantV_tt, wantV_tf, wantV_ft, wantV_ff, wantV_t, wantV_f, wantV_skip, Bool.not_true, Bool.not_false, gPur_true, gPur_false, gEff_true, gEff_false, gRes_true, gRes_false, pickA_true, pickA_false, extA_0, extA_1, extA_2, retK_one, retK_none, retK_two, valK_fn, valR_fn, cond_true, cond_false, bin_add, bin_sub, bin_mul, bin_eql, bin_neq, bin_lss, bin_leq, bin_gtr, bin_geq, bin_seql, bin_sneq, un_not_t, un_not_f, un_not, cvI_int, cvT_str, nilChk_ptr, nilChk_xp, addA_ptr, lenT_str, Bool.true_or, Bool.or_true, Bool.false_or, Bool.or_false, Bool.true_and, Bool.and_true, Bool.false_and, Bool.and_false, decide_true, decide_false, Int.reduceEq, Int.reduceLT, Int.reduceLE, Int.reduceNe, Int.reduceAdd, Int.reduceSub, Int.reduceMul, Int.reduceNeg, List.nil_append, List.append_nil, List.cons_append, ba_size, ba_inj, emp1, emp2]
    exact .intro ⟨by rw [sealL, hS], fr⟩
end
end Go.Proofs.Ytkmohjddojpdjaa

-- part DnBi
/- A function that is asked of the elements of a slice, one by one. -/
set_option linter.unusedVariables false
set_option linter.unusedSimpArgs false
namespace Go.Proofs.Ytkmohjddojpdjaa
attribute [local congr] Go.Ev.cond_congr1
open Go.Ev Go.RowKit
theorem cf_pair {α : Type} {ρ : Addr → Option Value} {H : Heap} {x : AV} {g : FuncId} {a c : List AV} (ds : List α) (f : α → List AV) (P : α → Bool) (k0 k : Nat)
    (hx : Els ρ H 2 x (ds.map f)) (hlen : ds.length < 4611686018427387904) (hk : k0 + ds.length + 4 ≤ k)
    (hf : ∀ d ∈ ds, ∀ H' k', Fr Nop H H' → k0 ≤ k' → Ret (fun v H'' => v = .bool (P d) ∧ Fr Nop H' H'') (evCall (cx ρ) k' 0 g (a ++ [(.agg (f d))] ++ c) H')) :
    Ret (fun v H' => v = .bool (ds.any P) ∧ Fr Nop H H') (evCall (cx ρ) k 0 38 [x, .fn (.func g) a c] H) := by
  obtain ⟨k, rfl⟩ : ∃ q, k = q + 2 := ⟨k - 2, by omega⟩
  have hl : lenS x = some (.int .i64 ds.length) := by have := hx.lenS; rwa [List.length_map] at this
  rw [E38]
  simp only [L38]
  rw [E62]
  simp only [L62, hl, N62_2, N62_3, purK_some, resK_some, boolK_some, condK_true, condK_false, wantV_tt, wantV_tf, wantV_ft, wantV_ff, wantV_t, wantV_f, wantV_skip, Bool.not_true, Bool.not_false, gPur_true, gPur_false, gEff_true, gEff_false, gRes_true, gRes_false, pickA_true, pickA_false, extA_0, extA_1, extA_2, retK_one, retK_none, retK_two, valK_fn, valR_fn, cond_true, cond_false, bin_add, bin_sub, bin_mul, bin_eql, bin_neq, bin_lss, bin_leq, bin_gtr, bin_geq, bin_seql, bin_sneq, un_not_t, un_not_f, un_not, cvI_int, cvT_str, nilChk_ptr, nilChk_xp, addA_ptr, lenT_str, Bool.true_or, Bool.or_true, Bool.false_or, Bool.or_false, Bool.true_and, Bool.and_true, Bool.false_and, Bool.and_false, decide_true, decide_false, Int.reduceEq, Int.reduceLT, Int.reduceLE, Int.reduceNe, Int.reduceAdd, Int.reduceSub, Int.reduceMul, Int.reduceNeg, List.nil_append, List.append_nil, List.cons_append]
  have main : Ret (fun v H' => (∃ j : Nat, v = .int .i64 j ∧ ds.any P = true ∧ Fr Nop H H') ∨ (v = .int .i64 (-1) ∧ ds.any P = false ∧ Fr Nop H H'))
      (loopL (fun (x_1 : AV) H kn => N62_3b ρ (evCall (cx ρ) k) (evCY (cx ρ) k).2 0 k x (.fn (.func g) a c) (.int .i64 ds.length) x_1 H (fun x8 H => kn x8 H) (fun H => N62_1 ρ (evCall (cx ρ) k) (evCY (cx ρ) k).2 0 k H retK) retK) k (.int .i64 0) H) := by
    refine Ret.loop (fun m y H' => ∃ i : Nat, y = .int .i64 i ∧ m = ds.length - i ∧ i ≤ ds.length ∧ Fr Nop H H' ∧ (ds.take i).any P = false) ?_ ds.length k _ H ⟨0, rfl, by omega, by omega, Fr.refl .., by simp⟩ (by omega)
    rintro m y H' kn ⟨i, rfl, hm, hi, fr, hall⟩ next
    simp only [N62_3b, purK_some, resK_some, boolK_some, condK_true, condK_false, wantV_tt, wantV_tf, wantV_ft, wantV_ff, wantV_t, wantV_f, wantV_skip, Bool.not_true, Bool.not_false, gPur_true, gPur_false, gEff_true, gEff_false, gRes_true, gRes_false, pickA_true, pickA_false, extA_0, extA_1, extA_2, retK_one, retK_none, retK_two, valK_fn, valR_fn, cond_true, cond_false, bin_add, bin_sub, bin_mul, bin_eql, bin_neq, bin_lss, bin_leq, bin_gtr, bin_geq, bin_seql, bin_sneq, un_not_t, un_not_f, un_not, cvI_int, cvT_str, nilChk_ptr, nilChk_xp, addA_ptr, lenT_str, Bool.true_or, Bool.or_true, Bool.false_or, Bool.or_false, Bool.true_and, Bool.and_true, Bool.false_and, Bool.and_false, decide_true, decide_false, Int.reduceEq, Int.reduceLT, Int.reduceLE, Int.reduceNe, Int.reduceAdd, Int.reduceSub, Int.reduceMul, Int.reduceNeg, List.nil_append, List.append_nil, List.cons_append]
    refine Ret.condD (fun h => ?_) (fun h => ?_)
    · have hi : i < ds.length := by omega
      have hX := hx.frame0 fr
      have e1 := hX.ix .i64 i (by omega) (by simpa using h)
      rw [Int.toNat_natCast] at e1
      have e2 : ldN ρ H' 2 (elp 2 x i 0) = some (.agg (f ds[i])) := by
        have := hX.ldN i (by simpa using hi)
        rw [this]; simp
      simp only [e1, e2, purK_some, resK_some, boolK_some, condK_true, condK_false, wantV_tt, wantV_tf, wantV_ft, wantV_ff, wantV_t, wantV_f, wantV_skip, Bool.not_true, Bool.not_false, gPur_true, gPur_false, gEff_true, gEff_false, gRes_true, gRes_false, pickA_true, pickA_false, extA_0, extA_1, extA_2, retK_one, retK_none, retK_two, valK_fn, valR_fn, cond_true, cond_false, bin_add, bin_sub, bin_mul, bin_eql, bin_neq, bin_lss, bin_leq, bin_gtr, bin_geq, bin_seql, bin_sneq, un_not_t, un_not_f, un_not, cvI_int, cvT_str, nilChk_ptr, nilChk_xp, addA_ptr, lenT_str, Bool.true_or, Bool.or_true, Bool.false_or, Bool.or_false, Bool.true_and, Bool.and_true, Bool.false_and, Bool.and_false, decide_true, decide_false, Int.reduceEq, Int.reduceLT, Int.reduceLE, Int.reduceNe, Int.reduceAdd, Int.reduceSub, Int.reduceMul, Int.reduceNeg, List.nil_append, List.append_nil, List.cons_append]
      refine Ret.bind (hf ds[i] (List.getElem_mem hi) H' k fr (by omega)) ?_
      rintro v H1 ⟨rfl, f1⟩
      have ht : ds.take (i + 1) = ds.take i ++ [ds[i]] := by rw [List.take_succ_eq_append_getElem hi]
      refine Ret.cond (fun hp => ?_) (fun hp => ?_)
      · refine .intro (Or.inl ⟨i, rfl, ?_, fr.trans f1⟩)
        rw [List.any_eq_true]; exact ⟨ds[i], List.getElem_mem hi, hp⟩
      · have w : wrapK .i64 ((i : Int) + 1) = ((i + 1 : Nat) : Int) := wrap_succN i (by omega)
        simp only [w, purK_some, resK_some, boolK_some, condK_true, condK_false, wantV_tt, wantV_tf, wantV_ft, wantV_ff, wantV_t, wantV_f, wantV_skip, Bool.not_true, Bool.not_false, gPur_true, gPur_false, gEff_true, gEff_false, gRes_true, gRes_false, pickA_true, pickA_false, extA_0, extA_1, extA_2, retK_one, retK_none, retK_two, valK_fn, valR_fn, cond_true, cond_false, bin_add, bin_sub, bin_mul, bin_eql, bin_neq, bin_lss, bin_leq, bin_gtr, bin_geq, bin_seql, bin_sneq, un_not_t, un_not_f, un_not, cvI_int, cvT_str, nilChk_ptr, nilChk_xp, addA_ptr, lenT_str, Bool.true_or, Bool.or_true, Bool.false_or, Bool.or_false, Bool.true_and, Bool.and_true, Bool.false_and, Bool.and_false, decide_true, decide_false, Int.reduceEq, Int.reduceLT, Int.reduceLE, Int.reduceNe, Int.reduceAdd, Int.reduceSub, Int.reduceMul, Int.reduceNeg, List.nil_append, List.append_nil, List.cons_append]
        exact next (m - 1) _ H1 (by omega) ⟨i + 1, rfl, by omega, by omega, fr.trans f1, by rw [ht, List.any_append, hall]; simp [hp]⟩
    · have : i = ds.length := by omega
      subst this
      simp only [N62_1, purK_some, resK_some, boolK_some, condK_true, condK_false, wantV_tt, wantV_tf, wantV_ft, wantV_ff, wantV_t, wantV_f, wantV_skip, Bool.not_true, Bool.not_false, gPur_true, gPur_false, gEff_true, gEff_false, gRes_true, gRes_false, pickA_true, pickA_false, extA_0, extA_1, extA_2, retK_one, retK_none, retK_two, valK_fn, valR_fn, cond_true, cond_false, bin_add, bin_sub, bin_mul, bin_eql, bin_neq, bin_lss, bin_leq, bin_gtr, bin_geq, bin_seql, bin_sneq, un_not_t, un_not_f, un_not, cvI_int, cvT_str, nilChk_ptr, nilChk_xp, addA_ptr, lenT_str, Bool.true_or, Bool.or_true, Bool.false_or, Bool.or_false, Bool.true_and, Bool.and_true, Bool.false_and, Bool.and_false, decide_true, decide_false, Int.reduceEq, Int.reduceLT, Int.reduceLE, Int.reduceNe, Int.reduceAdd, Int.reduceSub, Int.reduceMul, Int.reduceNeg, List.nil_append, List.append_nil, List.cons_append]
      rw [List.take_length] at hall
      exact .intro (Or.inr ⟨rfl, hall, fr⟩)
  refine Ret.bind main ?_
  rintro v H' (⟨j, rfl, hj, fr⟩ | ⟨rfl, hj, fr⟩)
  · have : (0 : Int) ≤ (j : Int) := by omega
    simp only [this, purK_some, resK_some, boolK_some, condK_true, condK_false, wantV_tt, wantV_tf, wantV_ft, wantV_ff, wantV_t, wantV_f, wantV_skip, Bool.not_true, Bool.not_false, gPur_true, gPur_false, gEff_true, gEff_false, gRes_true, gRes_false, pickA_true, pickA_false, extA_0, extA_1, extA_2, retK_one, retK_none, retK_two, valK_fn, valR_fn, cond_true, cond_false, bin_add, bin_sub, bin_mul, bin_eql, bin_neq, bin_lss, bin_leq, bin_gtr, bin_geq, bin_seql, bin_sneq, un_not_t, un_not_f, un_not, cvI_int, cvT_str, nilChk_ptr, nilChk_xp, addA_ptr, lenT_str, Bool.true_or, Bool.or_true, Bool.false_or, Bool.or_false, Bool.true_and, Bool.and_true, Bool.false_and, Bool.and_false, decide_true, decide_false, Int.reduceEq, Int.reduceLT, Int.reduceLE, Int.reduceNe, Int.reduceAdd, Int.reduceSub, Int.reduceMul, Int.reduceNeg, List.nil_append, List.append_nil, List.cons_append]
    exact .intro ⟨by rw [hj], fr⟩
  · have : ¬ (0 : Int) ≤ -1 := by omega
    simp only [this, purK_some, resK_some, boolK_some, condK_true, condK_false, wantV_tt, wantV_tf, wantV_ft, wantV_ff, wantV_t, wantV_f, wantV_skip, Bool.not_true, Bool.not_false, gPur_true, gPur_false, gEff_true, gEff_false, gRes_true, gRes_false, pickA_true, pickA_false, extA_0, extA_1, extA_2, retK_one, retK_none, retK_two, valK_fn, valR_fn, cond_true, cond_false, bin_add, bin_sub, bin_mul, bin_eql, bin_neq, bin_lss, bin_leq, bin_gtr, bin_geq, bin_seql, bin_sneq, un_not_t, un_not_f, un_not, cvI_int, cvT_str, nilChk_ptr, nilChk_xp, addA_ptr, lenT_str, Bool.true_or, Bool.or_true, Bool.false_or, Bool.or_false, Bool.true_and, Bool.and_true, Bool.false_and, Bool.and_false, decide_true, decide_false, Int.reduceEq, Int.reduceLT, Int.reduceLE, Int.reduceNe, Int.reduceAdd, Int.reduceSub, Int.reduceMul, Int.reduceNeg, List.nil_append, List.append_nil, List.cons_append]
    exact .intro ⟨by rw [hj], fr⟩
end Go.Proofs.Ytkmohjddojpdjaa

-- part DnC
/- Texts that are built; lists of pairs. -/
set_option linter.unusedVariables false
set_option linter.unusedSimpArgs false
namespace Go.Proofs.Ytkmohjddojpdjaa
attribute [local congr] Go.Ev.cond_congr1
open Go.Ev Go.RowKit
/-- A builder at l: what was written; where it lies. -/
structure Bu (H : Heap) (l : Nat) (y : AV) (a : List UInt8) : Prop where
  top : H.get l = .cells 0 73 (0, 0) false [.nilp, y] ∨ H.get l = .cells 0 73 (0, 0) false [.ptr l 0 0, y]
  row : Grow H 5 1 y (brow a)
  lt : l < H.sz
  ne : ¬ y.lies l
section
variable {ρ : Addr → Option Value} {k : Nat} {H : Heap} {l : Nat} {y : AV} {a : List UInt8}
theorem eqp1 : binA Try.prog H .eql 71 .nilp .nilp = some (.bool true) := by kernel_rfl
theorem eqp2 : binA Try.prog H .eql 71 (.ptr l 0 0) .nilp = some (.bool false) := by kernel_rfl
theorem eqp3 (hv : H.ver l = 0) : binA Try.prog H .neq 71 (.ptr l 0 0) (.ptr l 0 0) = some (.bool false) := by
  have h : binA Try.prog H .neq 71 (.ptr l 0 0) (.ptr l 0 0) = (bif Nat.beq l l && Nat.beq 0 0 && (Nat.beq (H.ver l) 0) && true then some (Nat.beq 0 0) else none).map fun b => .bool !b := by kernel_rfl
  rw [h, hv]; simp
theorem ne_spec (x : AV) : evCall (cx ρ) (k + 1) 0 76 [x] H = some (x, H) := by kernel_rfl
theorem cnv1 {v e : Nat} {fr : Nat × Nat} {g : Bool} {c : List AV} (hg : H.get l = .cells v e fr g c) (hc : 0 < c.length) : convXA (cx ρ) H 71 131 (.ptr l v 0) = some (.ptr l v 0) := by
  have h : convXA (cx ρ) H 71 131 (.ptr l v 0) = (match H.get l with | .cells v' _ _ _ c => bif v' == v && true && Nat.blt 0 c.length then some (.ptr l v 0) else none | _ => none) := by kernel_rfl
  rw [h, hg]
  have : Nat.blt 0 c.length = true := by rw [Nat.blt_eq]; exact hc
  simp [this]
theorem cc0 {y : AV} (hg : H.get l = .cells 0 73 (0, 0) false [.nilp, y]) : evCall (cx ρ) (k + 2) 0 57 [.ptr l 0 0] H = some (.tup [], H.put l (.cells 0 73 (0, 0) false [.ptr l 0 0, y])) := by
  have c1 := cnv1 (ρ := ρ) hg (by simp)
  have c2 : convXA (cx ρ) H 131 71 (.ptr l 0 0) = some (.ptr l 0 0) := by
    have h : convXA (cx ρ) H 131 71 (.ptr l 0 0) = (match H.get l with | .cells v' e _ false c => bif v' == 0 && liesAt Try.prog Try.prog.depth e (c.length / Try.prog.cellsOf e) 0 73 1 then some (.ptr l 0 0) else none | _ => none) := by kernel_rfl
    rw [h, hg]
    have h2 : liesAt Try.prog Try.prog.depth 73 (2 / Try.prog.cellsOf 73) 0 73 1 = true := by kernel_rfl
    simp only [List.length_cons, List.length_nil, Nat.zero_add, h2, beq_self_eq_true, Bool.and_self, cond_true]
  rw [E57]
  simp (disch := first | ((try simp only [szn, szp, List.length_cons, List.length_nil, List.length_set, List.all_cons, List.all_nil, Bool.and_true, scal_int, sol_int, scal_bool, sol_bool, scal_str, sol_str, scal_nilp, sol_nilp, scal_ptr, sol_ptr, scal_nils, sol_nils, scal_sl, sol_sl, scal_sx, sol_sx, scal_xp, sol_xp, scal_xs, sol_xs, scal_nilm, sol_nilm, scal_mp, sol_mp, scal_nilf, sol_nilf, scal_fn, sol_fn, scal_nili, sol_nili, scal_ifc, sol_ifc]) <;> omega) | with_unfolding_all rfl) only [L57, hg, eqp1, c1, c2, ne_spec, purK_some, resK_some, boolK_some, condK_true, condK_false, wantV_tt, wantV_tf, wantV_ft, wantV_ff, wantV_t, wantV_f, wantV_skip, Bool.not_true, Bool.not_false, gPur_true, gPur_false, gEff_true, gEff_false, gRes_true, gRes_false, pickA_true, pickA_false, extA_0, extA_1, extA_2, retK_one, retK_none, retK_two, valK_fn, valR_fn, cond_true, cond_false, bin_add, bin_sub, bin_mul, bin_eql, bin_neq, bin_lss, bin_leq, bin_gtr, bin_geq, bin_seql, bin_sneq, un_not_t, un_not_f, un_not, cvI_int, cvT_str, nilChk_ptr, nilChk_xp, addA_ptr, lenT_str, Bool.true_or, Bool.or_true, Bool.false_or, Bool.or_false, Bool.true_and, Bool.and_true, Bool.false_and, Bool.and_false, decide_true, decide_false, Int.reduceEq, Int.reduceLT, Int.reduceLE, Int.reduceNe, Int.reduceAdd, Int.reduceSub, Int.reduceMul, Int.reduceNeg, List.nil_append, List.append_nil, List.cons_append, effK_new, effK_put, effK_nothing, on_new, on_put, on_nothing, ld1_ptr, ldN_ptr, stA_one_ptr, stA_agg_ptr, ldC_cells, ldCN_cells, stC_one, stC_many, lay_all, lay_one, newCells_eq, get_new_at, get_put_at, Heap.get_new_ne, Heap.get_put_ne, szn, szp, box1, boxA_agg, List.getElem?_cons_zero, List.getElem?_cons_succ, List.drop_zero, List.drop_succ_cons, List.take_zero, List.take_succ_cons, List.set_cons_zero, List.set_cons_succ, Nat.zero_add, Nat.add_zero, Nat.reduceAdd]
theorem cc1 {y : AV} (hg : H.get l = .cells 0 73 (0, 0) false [.ptr l 0 0, y]) : evCall (cx ρ) (k + 2) 0 57 [.ptr l 0 0] H = some (.tup [], H) := by
  have hv : H.ver l = 0 := by simp [Heap.ver, hg, AObj.ver]
  rw [E57]
  simp (disch := first | ((try simp only [szn, szp, List.length_cons, List.length_nil, List.length_set, List.all_cons, List.all_nil, Bool.and_true, scal_int, sol_int, scal_bool, sol_bool, scal_str, sol_str, scal_nilp, sol_nilp, scal_ptr, sol_ptr, scal_nils, sol_nils, scal_sl, sol_sl, scal_sx, sol_sx, scal_xp, sol_xp, scal_xs, sol_xs, scal_nilm, sol_nilm, scal_mp, sol_mp, scal_nilf, sol_nilf, scal_fn, sol_fn, scal_nili, sol_nili, scal_ifc, sol_ifc]) <;> omega) | with_unfolding_all rfl) only [L57, hg, eqp2, eqp3 hv, purK_some, resK_some, boolK_some, condK_true, condK_false, wantV_tt, wantV_tf, wantV_ft, wantV_ff, wantV_t, wantV_f, wantV_skip, Bool.not_true, Bool.not_false, gPur_true, gPur_false, gEff_true, gEff_false, gRes_true, gRes_false, pickA_true, pickA_false, extA_0, extA_1, extA_2, retK_one, retK_none, retK_two, valK_fn, valR_fn, cond_true, cond_false, bin_add, bin_sub, bin_mul, bin_eql, bin_neq, bin_lss, bin_leq, bin_gtr, bin_geq, bin_seql, bin_sneq, un_not_t, un_not_f, un_not, cvI_int, cvT_str, nilChk_ptr, nilChk_xp, addA_ptr, lenT_str, Bool.true_or, Bool.or_true, Bool.false_or, Bool.or_false, Bool.true_and, Bool.and_true, Bool.false_and, Bool.and_false, decide_true, decide_false, Int.reduceEq, Int.reduceLT, Int.reduceLE, Int.reduceNe, Int.reduceAdd, Int.reduceSub, Int.reduceMul, Int.reduceNeg, List.nil_append, List.append_nil, List.cons_append, effK_new, effK_put, effK_nothing, on_new, on_put, on_nothing, ld1_ptr, ldN_ptr, stA_one_ptr, stA_agg_ptr, ldC_cells, ldCN_cells, stC_one, stC_many, lay_all, lay_one, newCells_eq, get_new_at, get_put_at, Heap.get_new_ne, Heap.get_put_ne, szn, szp, box1, boxA_agg, List.getElem?_cons_zero, List.getElem?_cons_succ, List.drop_zero, List.drop_succ_cons, List.take_zero, List.take_succ_cons, List.set_cons_zero, List.set_cons_succ, Nat.zero_add, Nat.add_zero, Nat.reduceAdd]
theorem cc_spec (h : Bu H l y a) (hk : 2 ≤ k) : Ret (fun v H' => H'.get l = .cells 0 73 (0, 0) false [.ptr l 0 0, y] ∧ Grow H' 5 1 y (brow a) ∧ H'.sz = H.sz ∧ Fr (fun t => t = l) H H') (evCall (cx ρ) k 0 57 [.ptr l 0 0] H) := by
  obtain ⟨k, rfl⟩ : ∃ q, k = q + 2 := ⟨k - 2, by omega⟩
  rcases h.top with hg | hg
  · rw [cc0 hg]
    have f : Fr (fun t => t = l) H (H.put l (.cells 0 73 (0, 0) false [.ptr l 0 0, y])) := Fr.put _ _ _ fun _ => rfl
    exact .intro ⟨Heap.get_put_same .., h.row.frame _ f fun t ht e => by subst e; exact h.ne ht, rfl, f⟩
  · rw [cc1 hg]
    exact .intro ⟨hg, h.row, rfl, Fr.refl ..⟩
theorem scal_bd {p : AV} (hp : scal p = true) (hy : scal y = true) : ([p, y]).all AV.solid = true := by
  simp only [List.all_cons, List.all_nil, scal_solid hp, scal_solid hy, Bool.and_self]
theorem GrowScal {H : Heap} {e sz : Nat} {y : AV} {els : List (List AV)} (h : Grow H e sz y els) : Go.Ev.scal y = true ∧ AV.eqv y y = true := by
  cases y <;> first | exact h.elim | exact ⟨rfl, by simp [AV.eqv]⟩
abbrev BuQ (H : Heap) (l : Nat) (y : AV) (a : List UInt8) (H' : Heap) : Prop := ∃ y', Bu H' l y' a ∧ Fr (fun t => t = l ∨ y.lies t) H H' ∧ ∀ t, y'.lies t → y.lies t ∨ H.sz ≤ t
theorem wb_spec (h : Bu H l y a) (b : UInt8) (hk : 5 ≤ k) (ha : a.length < 1000000) : Ret (fun v H' => v = .nili ∧ BuQ H l y (a ++ [b]) H') (evCall (cx ρ) k 0 32 [.ptr l 0 0, .int .u8 b.toNat] H) := by
  obtain ⟨k, rfl⟩ : ∃ q, k = q + 1 := ⟨k - 1, by omega⟩
  rw [E32]
  simp only [L32]
  refine Ret.bind (cc_spec h (by omega)) ?_
  rintro v H1 ⟨g1, r1, z1, f1⟩
  have l1 : ldC 0 1 (.cells 0 73 (0, 0) false [.ptr l 0 0, y]) = some y := by rw [ldC_cells]; rfl
  have bl : bldS H1 5 1 [.int .u8 0] 1 [(0, 1, .int .u8 b.toNat)] = some (.sl H1.sz 0 0 1 1 false, .new (.cells 0 5 (0, 0) false [.int .u8 b.toNat])) := rfl
  simp only [ld1_ptr, g1, l1, bl, effK_new, Nat.zero_add, purK_some, resK_some, boolK_some, condK_true, condK_false, wantV_tt, wantV_tf, wantV_ft, wantV_ff, wantV_t, wantV_f, wantV_skip, Bool.not_true, Bool.not_false, gPur_true, gPur_false, gEff_true, gEff_false, gRes_true, gRes_false, pickA_true, pickA_false, extA_0, extA_1, extA_2, retK_one, retK_none, retK_two, valK_fn, valR_fn, cond_true, cond_false, bin_add, bin_sub, bin_mul, bin_eql, bin_neq, bin_lss, bin_leq, bin_gtr, bin_geq, bin_seql, bin_sneq, un_not_t, un_not_f, un_not, cvI_int, cvT_str, nilChk_ptr, nilChk_xp, addA_ptr, lenT_str, Bool.true_or, Bool.or_true, Bool.false_or, Bool.or_false, Bool.true_and, Bool.and_true, Bool.false_and, Bool.and_false, decide_true, decide_false, Int.reduceEq, Int.reduceLT, Int.reduceLE, Int.reduceNe, Int.reduceAdd, Int.reduceSub, Int.reduceMul, Int.reduceNeg, List.nil_append, List.append_nil, List.cons_append]
  obtain ⟨H2, hH2⟩ : ∃ H2, H2 = H1.new (.cells 0 5 (0, 0) false [.int .u8 b.toNat]) := ⟨_, rfl⟩
  rw [← hH2]
  have f2 : Fr Nop H1 H2 := hH2 ▸ Fr.new Nop H1 _
  have z2 : H2.sz = H1.sz + 1 := by rw [hH2, szn]
  have hl := h.lt
  have g2 : H2.get l = .cells 0 73 (0, 0) false [.ptr l 0 0, y] := by rw [f2.get l (by omega) (fun q => q), g1]
  have hE : Els ρ H2 1 (.sl H1.sz 0 0 1 1 false) (brow [b]) := Els.of_cells (els := brow [b]) (e := 5) (fr := (0, 0)) (g := false) (by omega) (by rw [hH2, Heap.get_new_same]; rfl) (brow_one _)
  refine Ret.app (r1.frame Nop f2 fun _ _ q => q) hE (brow_solid _) (by simp [brow_len]; omega) (by simp [brow_len]; omega) ?_
  intro y' H3 G3 f3 hy' sc
  have g3 : H3.get l = .cells 0 73 (0, 0) false [.ptr l 0 0, y] := by rw [f3.get l (by omega) h.ne, g2]
  have sc' : ∀ o, stA 0 H3 1 (.ptr l 0 o) y' = stC l 0 o [y'] (H3.get l) := fun o => stA_one_ptr H3 l 0 o y' sc
  have st : stC l 0 1 [y'] (.cells 0 73 (0, 0) false [.ptr l 0 0, y]) = some (.tup [], .put l (.cells 0 73 (0, 0) false [.ptr l 0 0, y'])) := by rw [stC_one _ _ _ _ _ _ _ sc (show 1 < 2 by decide)]; rfl
  simp only [sc', g3, st, effK_put, Nat.zero_add, purK_some, resK_some, boolK_some, condK_true, condK_false, wantV_tt, wantV_tf, wantV_ft, wantV_ff, wantV_t, wantV_f, wantV_skip, Bool.not_true, Bool.not_false, gPur_true, gPur_false, gEff_true, gEff_false, gRes_true, gRes_false, pickA_true, pickA_false, extA_0, extA_1, extA_2, retK_one, retK_none, retK_two, valK_fn, valR_fn, cond_true, cond_false, bin_add, bin_sub, bin_mul, bin_eql, bin_neq, bin_lss, bin_leq, bin_gtr, bin_geq, bin_seql, bin_sneq, un_not_t, un_not_f, un_not, cvI_int, cvT_str, nilChk_ptr, nilChk_xp, addA_ptr, lenT_str, Bool.true_or, Bool.or_true, Bool.false_or, Bool.or_false, Bool.true_and, Bool.and_true, Bool.false_and, Bool.and_false, decide_true, decide_false, Int.reduceEq, Int.reduceLT, Int.reduceLE, Int.reduceNe, Int.reduceAdd, Int.reduceSub, Int.reduceMul, Int.reduceNeg, List.nil_append, List.append_nil, List.cons_append]
  have f4 : Fr (fun t => t = l) H3 (H3.put l (.cells 0 73 (0, 0) false [.ptr l 0 0, y'])) := Fr.put _ _ _ fun _ => rfl
  have hne' : ¬ y'.lies l := fun q => by
    rcases hy' l q with q | q
    · exact h.ne q
    · omega
  refine .intro ⟨rfl, y', ⟨Or.inr (Heap.get_put_same ..), ?_, ?_, hne'⟩, ?_, ?_⟩
  · rw [brow_app]; exact G3.frame _ f4 fun t ht e => by subst e; exact hne' ht
  · have := f3.sz; have := f4.sz; omega
  · exact (((f1.mono fun t _ q => Or.inl q).trans (f2.mono fun t _ q => q.elim)).trans (f3.mono fun t _ q => Or.inr q)).trans (f4.mono fun t _ q => Or.inl q)
  · intro t ht
    rcases hy' t ht with q | q
    · exact Or.inl q
    · exact Or.inr (by omega)
theorem ws_spec (h : Bu H l y a) (s : List UInt8) (hk : 5 ≤ k) (ha : a.length < 1000000) (hs : s.length < 1000000) : Ret (fun v H' => v = .tup [.int .i64 s.length, .nili] ∧ BuQ H l y (a ++ s) H') (evCall (cx ρ) k 0 33 [.ptr l 0 0, .str (ba s)] H) := by
  obtain ⟨k, rfl⟩ : ∃ q, k = q + 1 := ⟨k - 1, by omega⟩
  rw [E33]
  simp only [L33]
  refine Ret.bind (cc_spec h (by omega)) ?_
  rintro v H1 ⟨g1, r1, z1, f1⟩
  have l1 : ldC 0 1 (.cells 0 73 (0, 0) false [.ptr l 0 0, y]) = some y := by rw [ldC_cells]; rfl
  simp only [ld1_ptr, g1, l1, Nat.zero_add, purK_some, resK_some, boolK_some, condK_true, condK_false, wantV_tt, wantV_tf, wantV_ft, wantV_ff, wantV_t, wantV_f, wantV_skip, Bool.not_true, Bool.not_false, gPur_true, gPur_false, gEff_true, gEff_false, gRes_true, gRes_false, pickA_true, pickA_false, extA_0, extA_1, extA_2, retK_one, retK_none, retK_two, valK_fn, valR_fn, cond_true, cond_false, bin_add, bin_sub, bin_mul, bin_eql, bin_neq, bin_lss, bin_leq, bin_gtr, bin_geq, bin_seql, bin_sneq, un_not_t, un_not_f, un_not, cvI_int, cvT_str, nilChk_ptr, nilChk_xp, addA_ptr, lenT_str, Bool.true_or, Bool.or_true, Bool.false_or, Bool.or_false, Bool.true_and, Bool.and_true, Bool.false_and, Bool.and_false, decide_true, decide_false, Int.reduceEq, Int.reduceLT, Int.reduceLE, Int.reduceNe, Int.reduceAdd, Int.reduceSub, Int.reduceMul, Int.reduceNeg, List.nil_append, List.append_nil, List.cons_append]
  have hl := h.lt
  refine Ret.appS r1 (by omega) (by omega) ?_
  intro y' H3 G3 f3 hy' sc
  have g3 : H3.get l = .cells 0 73 (0, 0) false [.ptr l 0 0, y] := by rw [f3.get l (by omega) h.ne, g1]
  have sc' : ∀ o, stA 0 H3 1 (.ptr l 0 o) y' = stC l 0 o [y'] (H3.get l) := fun o => stA_one_ptr H3 l 0 o y' sc
  have st : stC l 0 1 [y'] (.cells 0 73 (0, 0) false [.ptr l 0 0, y]) = some (.tup [], .put l (.cells 0 73 (0, 0) false [.ptr l 0 0, y'])) := by rw [stC_one _ _ _ _ _ _ _ sc (show 1 < 2 by decide)]; rfl
  simp only [sc', g3, st, effK_put, Nat.zero_add, purK_some, resK_some, boolK_some, condK_true, condK_false, wantV_tt, wantV_tf, wantV_ft, wantV_ff, wantV_t, wantV_f, wantV_skip, Bool.not_true, Bool.not_false, gPur_true, gPur_false, gEff_true, gEff_false, gRes_true, gRes_false, pickA_true, pickA_false, extA_0, extA_1, extA_2, retK_one, retK_none, retK_two, valK_fn, valR_fn, cond_true, cond_false, bin_add, bin_sub, bin_mul, bin_eql, bin_neq, bin_lss, bin_leq, bin_gtr, bin_geq, bin_seql, bin_sneq, un_not_t, un_not_f, un_not, cvI_int, cvT_str, nilChk_ptr, nilChk_xp, addA_ptr, lenT_str, Bool.true_or, Bool.or_true, Bool.false_or, Bool.or_false, Bool.true_and, Bool.and_true, Bool.false_and, Bool.and_false, decide_true, decide_false, Int.reduceEq, Int.reduceLT, Int.reduceLE, Int.reduceNe, Int.reduceAdd, Int.reduceSub, Int.reduceMul, Int.reduceNeg, List.nil_append, List.append_nil, List.cons_append, ba_size, ba_inj, emp1, emp2]
  have f4 : Fr (fun t => t = l) H3 (H3.put l (.cells 0 73 (0, 0) false [.ptr l 0 0, y'])) := Fr.put _ _ _ fun _ => rfl
  have hne' : ¬ y'.lies l := fun q => by
    rcases hy' l q with q | q
    · exact h.ne q
    · omega
  refine .intro ⟨rfl, y', ⟨Or.inr (Heap.get_put_same ..), ?_, ?_, hne'⟩, ?_, ?_⟩
  · exact G3.frame _ f4 fun t ht e => by subst e; exact hne' ht
  · have := f3.sz; have := f4.sz; omega
  · exact ((f1.mono fun t _ q => Or.inl q).trans (f3.mono fun t _ q => Or.inr q)).trans (f4.mono fun t _ q => Or.inl q)
  · intro t ht
    rcases hy' t ht with q | q
    · exact Or.inl q
    · exact Or.inr (by omega)
theorem str_spec (h : Bu H l y a) (ha : a ≠ []) (hk : 1 ≤ k) (hl : a.length < 1000000) : Ret (fun v H' => v = .str (ba a) ∧ Fr (fun t => y.lies t) H H') (evCall (cx ρ) k 0 35 [.ptr l 0 0] H) := by
  obtain ⟨k, rfl⟩ : ∃ q, k = q + 1 := ⟨k - 1, by omega⟩
  have hr := h.row
  have h0 : 0 < a.length := List.length_pos_iff.2 ha
  obtain ⟨p, hg⟩ : ∃ p, H.get l = .cells 0 73 (0, 0) false [p, y] := h.top.elim (fun h => ⟨_, h⟩) (fun h => ⟨_, h⟩)
  have l1 : ldC 0 1 (.cells 0 73 (0, 0) false [p, y]) = some y := by rw [ldC_cells]; rfl
  rw [E35]
  cases y with
  | nils =>
    have : brow a = [] := hr
    exact absurd (by simpa [brow] using this) ha
  | sl t v o n c m =>
    obtain ⟨rfl, rfl, rfl, rfl, hlt, h5, g, hgt⟩ := hr
    have e1 : builtinA (cx ρ) 0 H .unsafeSliceData #[65] [.sl t v 0 (brow a).length (brow a).length true] = some (.ptr t v 0, .nothing) := by
      have q : Nat.beq (brow a).length 0 = false := by
        cases hq : Nat.beq (brow a).length 0 with
        | false => rfl
        | true => have := Nat.eq_of_beq_eq_true hq; rw [brow_len] at this; omega
      show (sliceDataA (.sl t v 0 (brow a).length (brow a).length true)).map Go.Ev.nothing = _
      simp only [sliceDataA, q, cond_false, Option.map_some]; rfl
    have hp : Try.prog.underlying 113 = some (.pointer 5) := by kernel_rfl
    have hc : Try.prog.cellsOf 5 = 1 := by kernel_rfl
    have e2 : builtinA (cx ρ) 0 H .unsafeString #[113, 3] [.ptr t v 0, .int .i64 (brow a).length] = some (.str (ba a), .put t (.cells v 5 (0, (brow a).length) g (brow a).flatten)) := by
      show (bif Nat.beq (#[113, 3] : Array Nat).size 2 then unsafeStringA (cx ρ) 0 H 113 (.ptr t v 0) (.int .i64 (brow a).length) else none) = _
      have b1 : (((brow a).length : Int) == 0) = false := by rw [brow_len]; simp; omega
      have b3 : Nat.ble (brow a).length (brow a).flatten.length = true := Nat.ble_eq_true_of_le (by rw [brow_flat, brow_len, List.length_map]; exact Nat.le_refl _)
      have b4 : (0 : Int) < ((brow a).length : Int) := by rw [brow_len]; omega
      have b5 : ((brow a).length : Int) ≤ 9223372036854775807 := by rw [brow_len]; omega
      have b6 : (brow a).flatten.take (brow a).length = a.map byteCell := by rw [brow_flat, brow_len]; exact List.take_of_length_le (by simp)
      have b7 : Nat.ble 0 t = true := Nat.ble_eq_true_of_le (by omega)
      have b8 : Nat.ble 0 (brow a).length = true := Nat.ble_eq_true_of_le (by omega)
      have b9 : (Nat.beq 2 2) = true := rfl
      show (bif Nat.beq 2 2 then unsafeStringA (cx ρ) 0 H 113 (.ptr t v 0) (.int .i64 (brow a).length) else none) = _
      have hc' : (cx ρ).P.cellsOf 5 = 1 := hc
      have hp' : (cx ρ).P.underlying 113 = some (.pointer 5) := hp
      simp only [b9, cond_true, unsafeStringA, b1, cond_false, hp', hgt, hc', b3, b4, b5, b7, b8, Int.toNat_natCast, Bool.or_true, beq_self_eq_true, Nat.beq_refl, decide_true, Bool.and_self, b6, bytesOf_map, Option.map_some, ba]
    have ey : ∀ n, AV.eqv (.int .i64 n) (.int .i64 n) = true := eqv_int .i64
    simp only [L35, ld1_ptr, hg, l1, lenS, e1, effK_nothing, agn_some, eqv_sl, ey, e2, effK_put, Nat.zero_add, purK_some, resK_some, boolK_some, condK_true, condK_false, wantV_tt, wantV_tf, wantV_ft, wantV_ff, wantV_t, wantV_f, wantV_skip, Bool.not_true, Bool.not_false, gPur_true, gPur_false, gEff_true, gEff_false, gRes_true, gRes_false, pickA_true, pickA_false, extA_0, extA_1, extA_2, retK_one, retK_none, retK_two, valK_fn, valR_fn, cond_true, cond_false, bin_add, bin_sub, bin_mul, bin_eql, bin_neq, bin_lss, bin_leq, bin_gtr, bin_geq, bin_seql, bin_sneq, un_not_t, un_not_f, un_not, cvI_int, cvT_str, nilChk_ptr, nilChk_xp, addA_ptr, lenT_str, Bool.true_or, Bool.or_true, Bool.false_or, Bool.or_false, Bool.true_and, Bool.and_true, Bool.false_and, Bool.and_false, decide_true, decide_false, Int.reduceEq, Int.reduceLT, Int.reduceLE, Int.reduceNe, Int.reduceAdd, Int.reduceSub, Int.reduceMul, Int.reduceNeg, List.nil_append, List.append_nil, List.cons_append]
    exact .intro ⟨rfl, Fr.put _ _ _ fun _ => rfl⟩
  | _ => exact hr.elim
end
-- pairs
structure PairD where
  key : List UInt8
  val : List UInt8
deriving DecidableEq
def PairD.cells (d : PairD) : List AV := [.str (ba d.key), .str (ba d.val)]
theorem PairD.solid (d : PairD) : d.cells.all AV.solid = true := by simp only [PairD.cells, List.all_cons, List.all_nil, sol_str, Bool.and_self]
def Rise (ks : List (List UInt8)) : Prop := ∀ (j : Nat) (h : j + 1 < ks.length), Op.bytesLess ks[j] ks[j + 1] = true
structure OkP (ds : List PairD) : Prop where
  len : ds.length ≤ 1000
  rise : Rise (ds.map PairD.key)
  each : ∀ d ∈ ds, d.key ≠ [] ∧ d.key.length ≤ 64 ∧ d.val.length ≤ 128
section
variable {ρ : Addr → Option Value} {k : Nat} {H : Heap} {x : AV} {ds : List PairD}
theorem ofp_spec (d : PairD) (hk : 1 ≤ k) : Ret (fun v H' => v = .str (ba d.key) ∧ Fr Nop H H') (evCall (cx ρ) k 0 61 [.agg d.cells] H) := by
  obtain ⟨k, rfl⟩ : ∃ q, k = q + 1 := ⟨k - 1, by omega⟩
  rw [E61]
  simp only [L61, boxA_agg _ _ _ d.solid]
  refine (St.start Nop H).newP fun n H1 s hz f => ?_
  have l0 : ldC 0 0 (.cells 0 70 (0, 0) false d.cells) = some (.str (ba d.key)) := by rw [ldC_cells]; rfl
  simp only [ld1_ptr, s.at 0 rfl, l0, Nat.zero_add, purK_some, resK_some, boolK_some, condK_true, condK_false, wantV_tt, wantV_tf, wantV_ft, wantV_ff, wantV_t, wantV_f, wantV_skip, Bool.not_true, Bool.not_false, gPur_true, gPur_false, gEff_true, gEff_false, gRes_true, gRes_false, pickA_true, pickA_false, extA_0, extA_1, extA_2, retK_one, retK_none, retK_two, valK_fn, valR_fn, cond_true, cond_false, bin_add, bin_sub, bin_mul, bin_eql, bin_neq, bin_lss, bin_leq, bin_gtr, bin_geq, bin_seql, bin_sneq, un_not_t, un_not_f, un_not, cvI_int, cvT_str, nilChk_ptr, nilChk_xp, addA_ptr, lenT_str, Bool.true_or, Bool.or_true, Bool.false_or, Bool.or_false, Bool.true_and, Bool.and_true, Bool.false_and, Bool.and_false, decide_true, decide_false, Int.reduceEq, Int.reduceLT, Int.reduceLE, Int.reduceNe, Int.reduceAdd, Int.reduceSub, Int.reduceMul, Int.reduceNeg, List.nil_append, List.append_nil, List.cons_append]
  exact .intro ⟨rfl, f⟩
theorem rise_take (ks : List (List UInt8)) (i : Nat) (h : ∀ j, (hj : j + 1 < ks.length) → j + 1 < i → Op.bytesLess ks[j] ks[j + 1] = true) (hi : ks.length ≤ i) : Rise ks := fun j hj => h j hj (by omega)
theorem rising_spec (hx : Els ρ H 2 x (ds.map PairD.cells)) (hl : ds.length < 100000) (hk : ds.length + 10 ≤ k) : Ret (fun v H' => ∃ b, v = .bool b ∧ (b = true ↔ Rise (ds.map PairD.key)) ∧ Fr Nop H H') (evCall (cx ρ) k 0 60 [x, .fn (.func 61) [] []] H) := by
  obtain ⟨k, rfl⟩ : ∃ q, k = q + 1 := ⟨k - 1, by omega⟩
  rw [E60]
  simp only [L60, N60_2, N60_3]
  refine Ret.loop (fun m (y : AV) H' => ∃ i : Nat, y = .int .i64 i ∧ m = ds.length + 1 - i ∧ 1 ≤ i ∧ i ≤ ds.length + 1 ∧ (∀ j, (hj : j + 1 < (ds.map PairD.key).length) → j + 1 < i → Op.bytesLess (ds.map PairD.key)[j] (ds.map PairD.key)[j + 1] = true) ∧ Fr Nop H H') ?_ ds.length k _ H ⟨1, rfl, by omega, by omega, by omega, fun j hj h => by omega, Fr.refl ..⟩ (by omega)
  rintro m y H' kn ⟨i, rfl, hm, hi1, hi, hall, fr⟩ next
  have hX := hx.frame0 fr
  have lx := hX.lenS
  rw [List.length_map] at lx
  by_cases h : i < ds.length
  · have h' : (i : Int) < ds.length := by omega
    have w1 : (wrapK .i64 ((i : Int) - 1)) = ((i - 1 : Nat) : Int) := wrap_predN i hi1 (by omega)
    have e1 := hX.ix .i64 ((i - 1 : Nat) : Int) (by omega) (by rw [List.length_map]; omega)
    have e2 := hX.ix .i64 (i : Int) (by omega) (by rw [List.length_map]; exact h')
    rw [Int.toNat_natCast] at e1 e2
    have n1 := hX.ldN (i - 1) (by rw [List.length_map]; omega)
    have n2 := hX.ldN i (by rw [List.length_map]; exact h)
    rw [List.getElem_map] at n1 n2
    simp only [N60_3b, lx, h', w1, e1, e2, n1, n2, purK_some, resK_some, boolK_some, condK_true, condK_false, wantV_tt, wantV_tf, wantV_ft, wantV_ff, wantV_t, wantV_f, wantV_skip, Bool.not_true, Bool.not_false, gPur_true, gPur_false, gEff_true, gEff_false, gRes_true, gRes_false, pickA_true, pickA_false, extA_0, extA_1, extA_2, retK_one, retK_none, retK_two, valK_fn, valR_fn, cond_true, cond_false, bin_add, bin_sub, bin_mul, bin_eql, bin_neq, bin_lss, bin_leq, bin_gtr, bin_geq, bin_seql, bin_sneq, un_not_t, un_not_f, un_not, cvI_int, cvT_str, nilChk_ptr, nilChk_xp, addA_ptr, lenT_str, Bool.true_or, Bool.or_true, Bool.false_or, Bool.or_false, Bool.true_and, Bool.and_true, Bool.false_and, Bool.and_false, decide_true, decide_false, Int.reduceEq, Int.reduceLT, Int.reduceLE, Int.reduceNe, Int.reduceAdd, Int.reduceSub, Int.reduceMul, Int.reduceNeg, List.nil_append, List.append_nil, List.cons_append]
    clear w1
    refine Ret.bind (ofp_spec ds[i - 1] (by omega)) ?_
    rintro v H1 ⟨rfl, f1⟩
    have n2' := (hX.frame0 f1).ldN i (by rw [List.length_map]; exact h)
    rw [List.getElem_map] at n2'
    have ag : agn (some (.agg ds[i].cells)) (.agg ds[i].cells) = true := by
      rw [agn_some, PairD.cells, eqv_agg, eqvs_cons, eqvs_cons, eqvs_nil, eqv_str, eqv_str]; rfl
    simp only [n2', ag, purK_some, resK_some, boolK_some, condK_true, condK_false, wantV_tt, wantV_tf, wantV_ft, wantV_ff, wantV_t, wantV_f, wantV_skip, Bool.not_true, Bool.not_false, gPur_true, gPur_false, gEff_true, gEff_false, gRes_true, gRes_false, pickA_true, pickA_false, extA_0, extA_1, extA_2, retK_one, retK_none, retK_two, valK_fn, valR_fn, cond_true, cond_false, bin_add, bin_sub, bin_mul, bin_eql, bin_neq, bin_lss, bin_leq, bin_gtr, bin_geq, bin_seql, bin_sneq, un_not_t, un_not_f, un_not, cvI_int, cvT_str, nilChk_ptr, nilChk_xp, addA_ptr, lenT_str, Bool.true_or, Bool.or_true, Bool.false_or, Bool.or_false, Bool.true_and, Bool.and_true, Bool.false_and, Bool.and_false, decide_true, decide_false, Int.reduceEq, Int.reduceLT, Int.reduceLE, Int.reduceNe, Int.reduceAdd, Int.reduceSub, Int.reduceMul, Int.reduceNeg, List.nil_append, List.append_nil, List.cons_append]
    refine Ret.bind (ofp_spec ds[i] (by omega)) ?_
    rintro v H2 ⟨rfl, f2⟩
    simp only [bin_sgeB, purK_some, resK_some, boolK_some, condK_true, condK_false, wantV_tt, wantV_tf, wantV_ft, wantV_ff, wantV_t, wantV_f, wantV_skip, Bool.not_true, Bool.not_false, gPur_true, gPur_false, gEff_true, gEff_false, gRes_true, gRes_false, pickA_true, pickA_false, extA_0, extA_1, extA_2, retK_one, retK_none, retK_two, valK_fn, valR_fn, cond_true, cond_false, bin_add, bin_sub, bin_mul, bin_eql, bin_neq, bin_lss, bin_leq, bin_gtr, bin_geq, bin_seql, bin_sneq, un_not_t, un_not_f, un_not, cvI_int, cvT_str, nilChk_ptr, nilChk_xp, addA_ptr, lenT_str, Bool.true_or, Bool.or_true, Bool.false_or, Bool.or_false, Bool.true_and, Bool.and_true, Bool.false_and, Bool.and_false, decide_true, decide_false, Int.reduceEq, Int.reduceLT, Int.reduceLE, Int.reduceNe, Int.reduceAdd, Int.reduceSub, Int.reduceMul, Int.reduceNeg, List.nil_append, List.append_nil, List.cons_append]
    have ek : ∀ j (hj : j < (ds.map PairD.key).length), (ds.map PairD.key)[j] = (ds[j]'(by simpa using hj)).key := fun j hj => List.getElem_map ..
    refine Ret.cond (fun hb => ?_) (fun hb => ?_)
    · refine .intro ⟨false, rfl, ⟨fun h => (by cases h), fun hr => ?_⟩, (fr.trans f1).trans f2⟩
      have := hr (i - 1) (by rw [List.length_map]; omega)
      rw [ek, ek] at this
      have e : i - 1 + 1 = i := by omega
      simp only [e] at this
      rw [this] at hb
      cases hb
    · simp only [wrap_succN i (by omega : i + 1 < 9223372036854775808), purK_some, resK_some, boolK_some, condK_true, condK_false, wantV_tt, wantV_tf, wantV_ft, wantV_ff, wantV_t, wantV_f, wantV_skip, Bool.not_true, Bool.not_false, gPur_true, gPur_false, gEff_true, gEff_false, gRes_true, gRes_false, pickA_true, pickA_false, extA_0, extA_1, extA_2, retK_one, retK_none, retK_two, valK_fn, valR_fn, cond_true, cond_false, bin_add, bin_sub, bin_mul, bin_eql, bin_neq, bin_lss, bin_leq, bin_gtr, bin_geq, bin_seql, bin_sneq, un_not_t, un_not_f, un_not, cvI_int, cvT_str, nilChk_ptr, nilChk_xp, addA_ptr, lenT_str, Bool.true_or, Bool.or_true, Bool.false_or, Bool.or_false, Bool.true_and, Bool.and_true, Bool.false_and, Bool.and_false, decide_true, decide_false, Int.reduceEq, Int.reduceLT, Int.reduceLE, Int.reduceNe, Int.reduceAdd, Int.reduceSub, Int.reduceMul, Int.reduceNeg, List.nil_append, List.append_nil, List.cons_append]
      refine next (m - 1) _ H2 (by omega) ⟨i + 1, rfl, by omega, by omega, by omega, fun j hj hji => ?_, (fr.trans f1).trans f2⟩
      by_cases e : j + 1 < i
      · exact hall j hj e
      · have e2 : j = i - 1 := by omega
        subst e2
        have e3 : i - 1 + 1 = i := by omega
        rw [ek, ek]
        simp only [e3]
        simpa using hb
  · have h' : ¬ (i : Int) < ds.length := by omega
    simp only [N60_3b, N60_1, lx, h', purK_some, resK_some, boolK_some, condK_true, condK_false, wantV_tt, wantV_tf, wantV_ft, wantV_ff, wantV_t, wantV_f, wantV_skip, Bool.not_true, Bool.not_false, gPur_true, gPur_false, gEff_true, gEff_false, gRes_true, gRes_false, pickA_true, pickA_false, extA_0, extA_1, extA_2, retK_one, retK_none, retK_two, valK_fn, valR_fn, cond_true, cond_false, bin_add, bin_sub, bin_mul, bin_eql, bin_neq, bin_lss, bin_leq, bin_gtr, bin_geq, bin_seql, bin_sneq, un_not_t, un_not_f, un_not, cvI_int, cvT_str, nilChk_ptr, nilChk_xp, addA_ptr, lenT_str, Bool.true_or, Bool.or_true, Bool.false_or, Bool.or_false, Bool.true_and, Bool.and_true, Bool.false_and, Bool.and_false, decide_true, decide_false, Int.reduceEq, Int.reduceLT, Int.reduceLE, Int.reduceNe, Int.reduceAdd, Int.reduceSub, Int.reduceMul, Int.reduceNeg, List.nil_append, List.append_nil, List.cons_append]
    exact .intro ⟨true, rfl, ⟨fun _ => fun j hj => hall j hj (by rw [List.length_map] at hj; omega), fun _ => rfl⟩, fr⟩
theorem rright_spec (hx : Els ρ H 2 x (ds.map PairD.cells)) (hl : ds.length < 100000) (hk : ds.length + 10 ≤ k) : Ret (fun v H' => ∃ b, v = .bool b ∧ (b = true ↔ Rise (ds.map PairD.key)) ∧ H' = H) (evCall (cx ρ) k 0 39 [x] H) := by
  obtain ⟨k, rfl⟩ : ∃ q, k = q + 1 := ⟨k - 1, by omega⟩
  have lx := hx.lenS
  rw [List.length_map] at lx
  rw [E39]
  simp only [L39, N39_2, N39_3]
  refine Ret.loop (fun m (y : AV) H' => ∃ i : Nat, y = .int .i64 i ∧ m = ds.length - i ∧ i ≤ ds.length ∧ (∀ j, (hj : j + 1 < (ds.map PairD.key).length) → j < i → Op.bytesLess (ds.map PairD.key)[j] (ds.map PairD.key)[j + 1] = true) ∧ H' = H) ?_ ds.length k _ H ⟨0, rfl, rfl, by omega, fun j hj h => by omega, rfl⟩ (by omega)
  rintro m y H' kn ⟨i, rfl, hm, hi, hall, rfl⟩ next
  have ws := wrap_succN i (by omega : i + 1 < 9223372036854775808)
  by_cases h : i + 1 < ds.length
  · have h' : ((i + 1 : Nat) : Int) < ds.length := by clear ws; omega
    have e1 := hx.ix .i64 (i : Int) (by clear ws; omega) (by clear ws; rw [List.length_map]; omega)
    have e2 := hx.ix .i64 ((i + 1 : Nat) : Int) (by clear ws; omega) (by clear ws; rw [List.length_map]; exact h')
    rw [Int.toNat_natCast] at e1 e2
    have hi' : i < (ds.map PairD.cells).length := by clear ws; rw [List.length_map]; omega
    have hi2 : i + 1 < (ds.map PairD.cells).length := by clear ws; rw [List.length_map]; omega
    have a1 := elp_add hx i 0 0 hi'
    have a2 := elp_add hx (i + 1) 0 0 hi2
    have n1 := hx.ld1 i 0 hi' (by decide)
    have n2 := hx.ld1 (i + 1) 0 hi2 (by decide)
    rw [List.getElem_map] at n1 n2
    simp only [PairD.cells, List.getElem?_cons_zero] at n1 n2
    simp only [N39_3b, lx, ws, h', e1, e2, a1, a2, n1, n2, bin_sgeB, Nat.add_zero, purK_some, resK_some, boolK_some, condK_true, condK_false, wantV_tt, wantV_tf, wantV_ft, wantV_ff, wantV_t, wantV_f, wantV_skip, Bool.not_true, Bool.not_false, gPur_true, gPur_false, gEff_true, gEff_false, gRes_true, gRes_false, pickA_true, pickA_false, extA_0, extA_1, extA_2, retK_one, retK_none, retK_two, valK_fn, valR_fn, cond_true, cond_false, bin_add, bin_sub, bin_mul, bin_eql, bin_neq, bin_lss, bin_leq, bin_gtr, bin_geq, bin_seql, bin_sneq, un_not_t, un_not_f, un_not, cvI_int, cvT_str, nilChk_ptr, nilChk_xp, addA_ptr, lenT_str, Bool.true_or, Bool.or_true, Bool.false_or, Bool.or_false, Bool.true_and, Bool.and_true, Bool.false_and, Bool.and_false, decide_true, decide_false, Int.reduceEq, Int.reduceLT, Int.reduceLE, Int.reduceNe, Int.reduceAdd, Int.reduceSub, Int.reduceMul, Int.reduceNeg, List.nil_append, List.append_nil, List.cons_append]
    clear ws
    have ek : ∀ j (hj : j < (ds.map PairD.key).length), (ds.map PairD.key)[j] = (ds[j]'(by simpa using hj)).key := fun j hj => List.getElem_map ..
    refine Ret.cond (fun hb => ?_) (fun hb => ?_)
    · refine .intro ⟨false, rfl, ⟨fun h => (by cases h), fun hr => ?_⟩, rfl⟩
      have := hr i (by rw [List.length_map]; omega)
      rw [ek, ek] at this
      rw [this] at hb
      cases hb
    · refine next (m - 1) _ H' (by omega) ⟨i + 1, rfl, by omega, by omega, fun j hj hji => ?_, rfl⟩
      by_cases e : j < i
      · exact hall j hj e
      · have e2 : j = i := by omega
        subst e2
        rw [ek, ek]
        simpa using hb
  · have h' : ¬ ((i + 1 : Nat) : Int) < ds.length := by clear ws; omega
    simp only [N39_3b, N39_1, lx, ws, h', purK_some, resK_some, boolK_some, condK_true, condK_false, wantV_tt, wantV_tf, wantV_ft, wantV_ff, wantV_t, wantV_f, wantV_skip, Bool.not_true, Bool.not_false, gPur_true, gPur_false, gEff_true, gEff_false, gRes_true, gRes_false, pickA_true, pickA_false, extA_0, extA_1, extA_2, retK_one, retK_none, retK_two, valK_fn, valR_fn, cond_true, cond_false, bin_add, bin_sub, bin_mul, bin_eql, bin_neq, bin_lss, bin_leq, bin_gtr, bin_geq, bin_seql, bin_sneq, un_not_t, un_not_f, un_not, cvI_int, cvT_str, nilChk_ptr, nilChk_xp, addA_ptr, lenT_str, Bool.true_or, Bool.or_true, Bool.false_or, Bool.or_false, Bool.true_and, Bool.and_true, Bool.false_and, Bool.and_false, decide_true, decide_false, Int.reduceEq, Int.reduceLT, Int.reduceLE, Int.reduceNe, Int.reduceAdd, Int.reduceSub, Int.reduceMul, Int.reduceNeg, List.nil_append, List.append_nil, List.cons_append]
    exact .intro ⟨true, rfl, ⟨fun _ => fun j hj => hall j hj (by rw [List.length_map] at hj; clear ws; omega), fun _ => rfl⟩, rfl⟩
def oddP (d : PairD) : Bool := decide (d.key = []) || decide (64 < (d.key.length : Int)) || decide (128 < (d.val.length : Int))
theorem odd_spec (d : PairD) (hk : 1 ≤ k) : Ret (fun v H' => v = .bool (oddP d) ∧ Fr Nop H H') (evCall (cx ρ) k 0 36 ([] ++ [.agg d.cells] ++ []) H) := by
  obtain ⟨k, rfl⟩ : ∃ q, k = q + 1 := ⟨k - 1, by omega⟩
  show Ret _ (evCall (cx ρ) (k + 1) 0 36 [.agg d.cells] H)
  rw [E36]
  simp only [L36, boxA_agg _ _ _ d.solid]
  refine (St.start Nop H).newP fun n H1 s hz f => ?_
  have l0 : ldC 0 0 (.cells 0 70 (0, 0) false d.cells) = some (.str (ba d.key)) := by rw [ldC_cells]; rfl
  have l1 : ldC 0 1 (.cells 0 70 (0, 0) false d.cells) = some (.str (ba d.val)) := by rw [ldC_cells]; rfl
  unfold oddP
  by_cases h1 : d.key = []
  · simp only [ld1_ptr, s.at 0 rfl, l0, l1, h1, Nat.zero_add, purK_some, resK_some, boolK_some, condK_true, condK_false, wantV_tt, wantV_tf, wantV_ft, wantV_ff, wantV_t, wantV_f, wantV_skip, Bool.not_true, Bool.not_false, gPur_true, gPur_false, gEff_true, gEff_false, gRes_true, gRes_false, pickA_true, pickA_false, extA_0, extA_1, extA_2, retK_one, retK_none, retK_two, valK_fn, valR_fn, cond_true, cond_false, bin_add, bin_sub, bin_mul, bin_eql, bin_neq, bin_lss, bin_leq, bin_gtr, bin_geq, bin_seql, bin_sneq, un_not_t, un_not_f, un_not, cvI_int, cvT_str, nilChk_ptr, nilChk_xp, addA_ptr, lenT_str, Bool.true_or, Bool.or_true, Bool.false_or, Bool.or_false, Bool.true_and, Bool.and_true, Bool.false_and, Bool.and_false, decide_true, decide_false, Int.reduceEq, Int.reduceLT, Int.reduceLE, Int.reduceNe, Int.reduceAdd, Int.reduceSub, Int.reduceMul, Int.reduceNeg, List.nil_append, List.append_nil, List.cons_append, ba_size, ba_inj, emp1, emp2]
    exact .intro ⟨rfl, f⟩
  · by_cases h2 : (64 : Int) < (d.key.length : Int)
    · simp only [ld1_ptr, s.at 0 rfl, l0, l1, h1, h2, Nat.zero_add, purK_some, resK_some, boolK_some, condK_true, condK_false, wantV_tt, wantV_tf, wantV_ft, wantV_ff, wantV_t, wantV_f, wantV_skip, Bool.not_true, Bool.not_false, gPur_true, gPur_false, gEff_true, gEff_false, gRes_true, gRes_false, pickA_true, pickA_false, extA_0, extA_1, extA_2, retK_one, retK_none, retK_two, valK_fn, valR_fn, cond_true, cond_false, bin_add, bin_sub, bin_mul, bin_eql, bin_neq, bin_lss, bin_leq, bin_gtr, bin_geq, bin_seql, bin_sneq, un_not_t, un_not_f, un_not, cvI_int, cvT_str, nilChk_ptr, nilChk_xp, addA_ptr, lenT_str, Bool.true_or, Bool.or_true, Bool.false_or, Bool.or_false, Bool.true_and, Bool.and_true, Bool.false_and, Bool.and_false, decide_true, decide_false, Int.reduceEq, Int.reduceLT, Int.reduceLE, Int.reduceNe, Int.reduceAdd, Int.reduceSub, Int.reduceMul, Int.reduceNeg, List.nil_append, List.append_nil, List.cons_append, ba_size, ba_inj, emp1, emp2]
      exact .intro ⟨rfl, f⟩
    · simp only [ld1_ptr, s.at 0 rfl, l0, l1, h1, h2, Nat.zero_add, purK_some, resK_some, boolK_some, condK_true, condK_false, wantV_tt, wantV_tf, wantV_ft, wantV_ff, wantV_t, wantV_f, wantV_skip, Bool.not_true, Bool.not_false, gPur_true, gPur_false, gEff_true, gEff_false, gRes_true, gRes_false, pickA_true, pickA_false, extA_0, extA_1, extA_2, retK_one, retK_none, retK_two, valK_fn, valR_fn, cond_true, cond_false, bin_add, bin_sub, bin_mul, bin_eql, bin_neq, bin_lss, bin_leq, bin_gtr, bin_geq, bin_seql, bin_sneq, un_not_t, un_not_f, un_not, cvI_int, cvT_str, nilChk_ptr, nilChk_xp, addA_ptr, lenT_str, Bool.true_or, Bool.or_true, Bool.false_or, Bool.or_false, Bool.true_and, Bool.and_true, Bool.false_and, Bool.and_false, decide_true, decide_false, Int.reduceEq, Int.reduceLT, Int.reduceLE, Int.reduceNe, Int.reduceAdd, Int.reduceSub, Int.reduceMul, Int.reduceNeg, List.nil_append, List.append_nil, List.cons_append, ba_size, ba_inj, emp1, emp2]
      exact .intro ⟨rfl, f⟩
theorem odd_all (ds : List PairD) : ds.any oddP = false ↔ ∀ d ∈ ds, d.key ≠ [] ∧ d.key.length ≤ 64 ∧ d.val.length ≤ 128 := by
  rw [List.any_eq_false]
  constructor
  · intro h d hd
    have := h d hd
    simp [oddP] at this
    exact ⟨this.1.1, by omega, by omega⟩
  · intro h d hd
    have := h d hd
    simp [oddP]
    exact ⟨⟨this.1, by omega⟩, by omega⟩
theorem right_spec (hx : Els ρ H 2 x (ds.map PairD.cells)) (hl : ds.length < 100000) (hk : ds.length + 20 ≤ k) : Ret (fun v H' => ∃ b, v = .bool b ∧ (b = true ↔ OkP ds) ∧ Fr Nop H H') (evCall (cx ρ) k 0 13 [x] H) := by
  obtain ⟨k, rfl⟩ : ∃ q, k = q + 1 := ⟨k - 1, by omega⟩
  have lx := hx.lenS
  rw [List.length_map] at lx
  rw [E13]
  by_cases h1 : (ds.length : Int) ≤ 1000
  · simp only [L13, lx, h1, purK_some, resK_some, boolK_some, condK_true, condK_false, wantV_tt, wantV_tf, wantV_ft, wantV_ff, wantV_t, wantV_f, wantV_skip, Bool.not_true, Bool.not_false, gPur_true, gPur_false, gEff_true, gEff_false, gRes_true, gRes_false, pickA_true, pickA_false, extA_0, extA_1, extA_2, retK_one, retK_none, retK_two, valK_fn, valR_fn, cond_true, cond_false, bin_add, bin_sub, bin_mul, bin_eql, bin_neq, bin_lss, bin_leq, bin_gtr, bin_geq, bin_seql, bin_sneq, un_not_t, un_not_f, un_not, cvI_int, cvT_str, nilChk_ptr, nilChk_xp, addA_ptr, lenT_str, Bool.true_or, Bool.or_true, Bool.false_or, Bool.or_false, Bool.true_and, Bool.and_true, Bool.false_and, Bool.and_false, decide_true, decide_false, Int.reduceEq, Int.reduceLT, Int.reduceLE, Int.reduceNe, Int.reduceAdd, Int.reduceSub, Int.reduceMul, Int.reduceNeg, List.nil_append, List.append_nil, List.cons_append]
    have hd : Ret (fun v H' => ∃ b, v = .bool b ∧ (b = true ↔ Rise (ds.map PairD.key)) ∧ Fr Nop H H') (evCall (cx ρ) k 0 37 [x] H) := by
      obtain ⟨k, rfl⟩ : ∃ q, k = q + 1 := ⟨k - 1, by omega⟩
      rw [E37]
      simp only [L37]
      refine Ret.bind (rising_spec hx hl (by omega)) ?_
      rintro v H1 ⟨b, rfl, hb, f1⟩
      try simp only [purK_some, resK_some, boolK_some, condK_true, condK_false, wantV_tt, wantV_tf, wantV_ft, wantV_ff, wantV_t, wantV_f, wantV_skip, Bool.not_true, Bool.not_false, gPur_true, gPur_false, gEff_true, gEff_false, gRes_true, gRes_false, pickA_true, pickA_false, extA_0, extA_1, extA_2, retK_one, retK_none, retK_two, valK_fn, valR_fn, cond_true, cond_false, bin_add, bin_sub, bin_mul, bin_eql, bin_neq, bin_lss, bin_leq, bin_gtr, bin_geq, bin_seql, bin_sneq, un_not_t, un_not_f, un_not, cvI_int, cvT_str, nilChk_ptr, nilChk_xp, addA_ptr, lenT_str, Bool.true_or, Bool.or_true, Bool.false_or, Bool.or_false, Bool.true_and, Bool.and_true, Bool.false_and, Bool.and_false, decide_true, decide_false, Int.reduceEq, Int.reduceLT, Int.reduceLE, Int.reduceNe, Int.reduceAdd, Int.reduceSub, Int.reduceMul, Int.reduceNeg, List.nil_append, List.append_nil, List.cons_append]
      exact .intro ⟨b, rfl, hb, f1⟩
    refine Ret.bind hd ?_
    rintro v H1 ⟨b, rfl, hb, f1⟩
    cases b
    · simp only [purK_some, resK_some, boolK_some, condK_true, condK_false, wantV_tt, wantV_tf, wantV_ft, wantV_ff, wantV_t, wantV_f, wantV_skip, Bool.not_true, Bool.not_false, gPur_true, gPur_false, gEff_true, gEff_false, gRes_true, gRes_false, pickA_true, pickA_false, extA_0, extA_1, extA_2, retK_one, retK_none, retK_two, valK_fn, valR_fn, cond_true, cond_false, bin_add, bin_sub, bin_mul, bin_eql, bin_neq, bin_lss, bin_leq, bin_gtr, bin_geq, bin_seql, bin_sneq, un_not_t, un_not_f, un_not, cvI_int, cvT_str, nilChk_ptr, nilChk_xp, addA_ptr, lenT_str, Bool.true_or, Bool.or_true, Bool.false_or, Bool.or_false, Bool.true_and, Bool.and_true, Bool.false_and, Bool.and_false, decide_true, decide_false, Int.reduceEq, Int.reduceLT, Int.reduceLE, Int.reduceNe, Int.reduceAdd, Int.reduceSub, Int.reduceMul, Int.reduceNeg, List.nil_append, List.append_nil, List.cons_append]
      exact .intro ⟨false, rfl, ⟨fun h => (by cases h), fun h => hb.2 h.rise⟩, f1⟩
    · simp only [purK_some, resK_some, boolK_some, condK_true, condK_false, wantV_tt, wantV_tf, wantV_ft, wantV_ff, wantV_t, wantV_f, wantV_skip, Bool.not_true, Bool.not_false, gPur_true, gPur_false, gEff_true, gEff_false, gRes_true, gRes_false, pickA_true, pickA_false, extA_0, extA_1, extA_2, retK_one, retK_none, retK_two, valK_fn, valR_fn, cond_true, cond_false, bin_add, bin_sub, bin_mul, bin_eql, bin_neq, bin_lss, bin_leq, bin_gtr, bin_geq, bin_seql, bin_sneq, un_not_t, un_not_f, un_not, cvI_int, cvT_str, nilChk_ptr, nilChk_xp, addA_ptr, lenT_str, Bool.true_or, Bool.or_true, Bool.false_or, Bool.or_false, Bool.true_and, Bool.and_true, Bool.false_and, Bool.and_false, decide_true, decide_false, Int.reduceEq, Int.reduceLT, Int.reduceLE, Int.reduceNe, Int.reduceAdd, Int.reduceSub, Int.reduceMul, Int.reduceNeg, List.nil_append, List.append_nil, List.cons_append]
      refine Ret.bind (cf_pair (c := []) (a := []) ds PairD.cells oddP 1 k (hx.frame0 f1) (by omega) (by omega) fun d _ H' k' _ hk' => odd_spec d hk') ?_
      rintro v H2 ⟨rfl, f2⟩
      simp only [purK_some, resK_some, boolK_some, condK_true, condK_false, wantV_tt, wantV_tf, wantV_ft, wantV_ff, wantV_t, wantV_f, wantV_skip, Bool.not_true, Bool.not_false, gPur_true, gPur_false, gEff_true, gEff_false, gRes_true, gRes_false, pickA_true, pickA_false, extA_0, extA_1, extA_2, retK_one, retK_none, retK_two, valK_fn, valR_fn, cond_true, cond_false, bin_add, bin_sub, bin_mul, bin_eql, bin_neq, bin_lss, bin_leq, bin_gtr, bin_geq, bin_seql, bin_sneq, un_not_t, un_not_f, un_not, cvI_int, cvT_str, nilChk_ptr, nilChk_xp, addA_ptr, lenT_str, Bool.true_or, Bool.or_true, Bool.false_or, Bool.or_false, Bool.true_and, Bool.and_true, Bool.false_and, Bool.and_false, decide_true, decide_false, Int.reduceEq, Int.reduceLT, Int.reduceLE, Int.reduceNe, Int.reduceAdd, Int.reduceSub, Int.reduceMul, Int.reduceNeg, List.nil_append, List.append_nil, List.cons_append]
      refine .intro ⟨!ds.any oddP, rfl, ?_, f1.trans f2⟩
      rw [Bool.not_eq_true', odd_all]
      exact ⟨fun h => ⟨by omega, hb.1 rfl, h⟩, fun h => h.each⟩
  · simp only [L13, lx, h1, purK_some, resK_some, boolK_some, condK_true, condK_false, wantV_tt, wantV_tf, wantV_ft, wantV_ff, wantV_t, wantV_f, wantV_skip, Bool.not_true, Bool.not_false, gPur_true, gPur_false, gEff_true, gEff_false, gRes_true, gRes_false, pickA_true, pickA_false, extA_0, extA_1, extA_2, retK_one, retK_none, retK_two, valK_fn, valR_fn, cond_true, cond_false, bin_add, bin_sub, bin_mul, bin_eql, bin_neq, bin_lss, bin_leq, bin_gtr, bin_geq, bin_seql, bin_sneq, un_not_t, un_not_f, un_not, cvI_int, cvT_str, nilChk_ptr, nilChk_xp, addA_ptr, lenT_str, Bool.true_or, Bool.or_true, Bool.false_or, Bool.or_false, Bool.true_and, Bool.and_true, Bool.false_and, Bool.and_false, decide_true, decide_false, Int.reduceEq, Int.reduceLT, Int.reduceLE, Int.reduceNe, Int.reduceAdd, Int.reduceSub, Int.reduceMul, Int.reduceNeg, List.nil_append, List.append_nil, List.cons_append]
    exact .intro ⟨false, rfl, ⟨fun h => (by cases h), fun h => absurd h.len (by omega)⟩, Fr.refl ..⟩
theorem rrr_spec (hx : Els ρ H 2 x (ds.map PairD.cells)) (hl : ds.length < 100000) (hk : ds.length + 20 ≤ k) : Ret (fun v H' => ∃ b, v = .bool b ∧ (b = true ↔ OkP ds) ∧ H' = H) (evCall (cx ρ) k 0 14 [x] H) := by
  obtain ⟨k, rfl⟩ : ∃ q, k = q + 1 := ⟨k - 1, by omega⟩
  have lx := hx.lenS
  rw [List.length_map] at lx
  rw [E14]
  by_cases h1 : (1000 : Int) < (ds.length : Int)
  · simp only [L14, lx, h1, purK_some, resK_some, boolK_some, condK_true, condK_false, wantV_tt, wantV_tf, wantV_ft, wantV_ff, wantV_t, wantV_f, wantV_skip, Bool.not_true, Bool.not_false, gPur_true, gPur_false, gEff_true, gEff_false, gRes_true, gRes_false, pickA_true, pickA_false, extA_0, extA_1, extA_2, retK_one, retK_none, retK_two, valK_fn, valR_fn, cond_true, cond_false, bin_add, bin_sub, bin_mul, bin_eql, bin_neq, bin_lss, bin_leq, bin_gtr, bin_geq, bin_seql, bin_sneq, un_not_t, un_not_f, un_not, cvI_int, cvT_str, nilChk_ptr, nilChk_xp, addA_ptr, lenT_str, Bool.true_or, Bool.or_true, Bool.false_or, Bool.or_false, Bool.true_and, Bool.and_true, Bool.false_and, Bool.and_false, decide_true, decide_false, Int.reduceEq, Int.reduceLT, Int.reduceLE, Int.reduceNe, Int.reduceAdd, Int.reduceSub, Int.reduceMul, Int.reduceNeg, List.nil_append, List.append_nil, List.cons_append]
    exact .intro ⟨false, rfl, ⟨fun h => (by cases h), fun h => absurd h.len (by omega)⟩, rfl⟩
  simp only [L14, lx, h1, purK_some, resK_some, boolK_some, condK_true, condK_false, wantV_tt, wantV_tf, wantV_ft, wantV_ff, wantV_t, wantV_f, wantV_skip, Bool.not_true, Bool.not_false, gPur_true, gPur_false, gEff_true, gEff_false, gRes_true, gRes_false, pickA_true, pickA_false, extA_0, extA_1, extA_2, retK_one, retK_none, retK_two, valK_fn, valR_fn, cond_true, cond_false, bin_add, bin_sub, bin_mul, bin_eql, bin_neq, bin_lss, bin_leq, bin_gtr, bin_geq, bin_seql, bin_sneq, un_not_t, un_not_f, un_not, cvI_int, cvT_str, nilChk_ptr, nilChk_xp, addA_ptr, lenT_str, Bool.true_or, Bool.or_true, Bool.false_or, Bool.or_false, Bool.true_and, Bool.and_true, Bool.false_and, Bool.and_false, decide_true, decide_false, Int.reduceEq, Int.reduceLT, Int.reduceLE, Int.reduceNe, Int.reduceAdd, Int.reduceSub, Int.reduceMul, Int.reduceNeg, List.nil_append, List.append_nil, List.cons_append]
  refine Ret.bind (rright_spec hx hl (by omega)) ?_
  rintro v H1 ⟨b, rfl, hb, rfl⟩
  cases b
  · simp only [purK_some, resK_some, boolK_some, condK_true, condK_false, wantV_tt, wantV_tf, wantV_ft, wantV_ff, wantV_t, wantV_f, wantV_skip, Bool.not_true, Bool.not_false, gPur_true, gPur_false, gEff_true, gEff_false, gRes_true, gRes_false, pickA_true, pickA_false, extA_0, extA_1, extA_2, retK_one, retK_none, retK_two, valK_fn, valR_fn, cond_true, cond_false, bin_add, bin_sub, bin_mul, bin_eql, bin_neq, bin_lss, bin_leq, bin_gtr, bin_geq, bin_seql, bin_sneq, un_not_t, un_not_f, un_not, cvI_int, cvT_str, nilChk_ptr, nilChk_xp, addA_ptr, lenT_str, Bool.true_or, Bool.or_true, Bool.false_or, Bool.or_false, Bool.true_and, Bool.and_true, Bool.false_and, Bool.and_false, decide_true, decide_false, Int.reduceEq, Int.reduceLT, Int.reduceLE, Int.reduceNe, Int.reduceAdd, Int.reduceSub, Int.reduceMul, Int.reduceNeg, List.nil_append, List.append_nil, List.cons_append]
    exact .intro ⟨false, rfl, ⟨fun h => (by cases h), fun h => hb.2 h.rise⟩, rfl⟩
  simp only [N14_2, N14_3, purK_some, resK_some, boolK_some, condK_true, condK_false, wantV_tt, wantV_tf, wantV_ft, wantV_ff, wantV_t, wantV_f, wantV_skip, Bool.not_true, Bool.not_false, gPur_true, gPur_false, gEff_true, gEff_false, gRes_true, gRes_false, pickA_true, pickA_false, extA_0, extA_1, extA_2, retK_one, retK_none, retK_two, valK_fn, valR_fn, cond_true, cond_false, bin_add, bin_sub, bin_mul, bin_eql, bin_neq, bin_lss, bin_leq, bin_gtr, bin_geq, bin_seql, bin_sneq, un_not_t, un_not_f, un_not, cvI_int, cvT_str, nilChk_ptr, nilChk_xp, addA_ptr, lenT_str, Bool.true_or, Bool.or_true, Bool.false_or, Bool.or_false, Bool.true_and, Bool.and_true, Bool.false_and, Bool.and_false, decide_true, decide_false, Int.reduceEq, Int.reduceLT, Int.reduceLE, Int.reduceNe, Int.reduceAdd, Int.reduceSub, Int.reduceMul, Int.reduceNeg, List.nil_append, List.append_nil, List.cons_append]
  refine Ret.loop (fun m (y : AV) H' => ∃ i : Nat, y = .int .i64 i ∧ m = ds.length - i ∧ i ≤ ds.length ∧ (∀ d ∈ ds.take i, d.key ≠ [] ∧ d.key.length ≤ 64 ∧ d.val.length ≤ 128) ∧ H' = H1) ?_ ds.length k _ H1 ⟨0, rfl, rfl, by omega, by simp, rfl⟩ (by omega)
  rintro m y H' kn ⟨i, rfl, hm, hi, hall, rfl⟩ next
  by_cases h : i < ds.length
  · have h' : (i : Int) < ds.length := by omega
    have hi' : i < (ds.map PairD.cells).length := by rw [List.length_map]; exact h
    have e1 := hx.ix .i64 (i : Int) (by omega) (by rw [List.length_map]; exact h')
    rw [Int.toNat_natCast] at e1
    have a1 := elp_add hx i 0 0 hi'
    have a2 := elp_add hx i 0 1 hi'
    have n1 := hx.ld1 i 0 hi' (by decide)
    have n2 := hx.ld1 i 1 hi' (by decide)
    rw [List.getElem_map] at n1 n2
    simp only [PairD.cells, List.getElem?_cons_zero, List.getElem?_cons_succ] at n1 n2
    have bad : ¬ (ds[i].key ≠ [] ∧ ds[i].key.length ≤ 64 ∧ ds[i].val.length ≤ 128) → ¬ OkP ds := fun hn ho => hn (ho.each _ (List.getElem_mem h))
    have e0 : (ds[i].key.length : Int) < 1 ↔ ds[i].key = [] := by rw [← List.length_eq_zero_iff]; omega
    by_cases c1 : (ds[i].key.length : Int) < 1
    · simp only [N14_3b, N14_5, lx, h', e1, a1, a2, n1, n2, c1, Nat.zero_add, purK_some, resK_some, boolK_some, condK_true, condK_false, wantV_tt, wantV_tf, wantV_ft, wantV_ff, wantV_t, wantV_f, wantV_skip, Bool.not_true, Bool.not_false, gPur_true, gPur_false, gEff_true, gEff_false, gRes_true, gRes_false, pickA_true, pickA_false, extA_0, extA_1, extA_2, retK_one, retK_none, retK_two, valK_fn, valR_fn, cond_true, cond_false, bin_add, bin_sub, bin_mul, bin_eql, bin_neq, bin_lss, bin_leq, bin_gtr, bin_geq, bin_seql, bin_sneq, un_not_t, un_not_f, un_not, cvI_int, cvT_str, nilChk_ptr, nilChk_xp, addA_ptr, lenT_str, Bool.true_or, Bool.or_true, Bool.false_or, Bool.or_false, Bool.true_and, Bool.and_true, Bool.false_and, Bool.and_false, decide_true, decide_false, Int.reduceEq, Int.reduceLT, Int.reduceLE, Int.reduceNe, Int.reduceAdd, Int.reduceSub, Int.reduceMul, Int.reduceNeg, List.nil_append, List.append_nil, List.cons_append, ba_size, ba_inj, emp1, emp2]
      exact .intro ⟨false, rfl, ⟨fun h => (by cases h), fun ho => absurd ho (bad fun q => q.1 (e0.1 c1))⟩, rfl⟩
    by_cases c2 : (64 : Int) < (ds[i].key.length : Int)
    · simp only [N14_3b, N14_5, lx, h', e1, a1, a2, n1, n2, c1, c2, Nat.zero_add, purK_some, resK_some, boolK_some, condK_true, condK_false, wantV_tt, wantV_tf, wantV_ft, wantV_ff, wantV_t, wantV_f, wantV_skip, Bool.not_true, Bool.not_false, gPur_true, gPur_false, gEff_true, gEff_false, gRes_true, gRes_false, pickA_true, pickA_false, extA_0, extA_1, extA_2, retK_one, retK_none, retK_two, valK_fn, valR_fn, cond_true, cond_false, bin_add, bin_sub, bin_mul, bin_eql, bin_neq, bin_lss, bin_leq, bin_gtr, bin_geq, bin_seql, bin_sneq, un_not_t, un_not_f, un_not, cvI_int, cvT_str, nilChk_ptr, nilChk_xp, addA_ptr, lenT_str, Bool.true_or, Bool.or_true, Bool.false_or, Bool.or_false, Bool.true_and, Bool.and_true, Bool.false_and, Bool.and_false, decide_true, decide_false, Int.reduceEq, Int.reduceLT, Int.reduceLE, Int.reduceNe, Int.reduceAdd, Int.reduceSub, Int.reduceMul, Int.reduceNeg, List.nil_append, List.append_nil, List.cons_append, ba_size, ba_inj, emp1, emp2]
      exact .intro ⟨false, rfl, ⟨fun h => (by cases h), fun ho => absurd ho (bad fun q => by omega)⟩, rfl⟩
    by_cases c3 : (128 : Int) < (ds[i].val.length : Int)
    · simp only [N14_3b, N14_5, lx, h', e1, a1, a2, n1, n2, c1, c2, c3, Nat.zero_add, purK_some, resK_some, boolK_some, condK_true, condK_false, wantV_tt, wantV_tf, wantV_ft, wantV_ff, wantV_t, wantV_f, wantV_skip, Bool.not_true, Bool.not_false, gPur_true, gPur_false, gEff_true, gEff_false, gRes_true, gRes_false, pickA_true, pickA_false, extA_0, extA_1, extA_2, retK_one, retK_none, retK_two, valK_fn, valR_fn, cond_true, cond_false, bin_add, bin_sub, bin_mul, bin_eql, bin_neq, bin_lss, bin_leq, bin_gtr, bin_geq, bin_seql, bin_sneq, un_not_t, un_not_f, un_not, cvI_int, cvT_str, nilChk_ptr, nilChk_xp, addA_ptr, lenT_str, Bool.true_or, Bool.or_true, Bool.false_or, Bool.or_false, Bool.true_and, Bool.and_true, Bool.false_and, Bool.and_false, decide_true, decide_false, Int.reduceEq, Int.reduceLT, Int.reduceLE, Int.reduceNe, Int.reduceAdd, Int.reduceSub, Int.reduceMul, Int.reduceNeg, List.nil_append, List.append_nil, List.cons_append, ba_size, ba_inj, emp1, emp2]
      exact .intro ⟨false, rfl, ⟨fun h => (by cases h), fun ho => absurd ho (bad fun q => by omega)⟩, rfl⟩
    simp only [N14_3b, N14_5, N14_4, lx, h', e1, a1, a2, n1, n2, c1, c2, c3, wrap_succN i (by omega : i + 1 < 9223372036854775808), Nat.zero_add, purK_some, resK_some, boolK_some, condK_true, condK_false, wantV_tt, wantV_tf, wantV_ft, wantV_ff, wantV_t, wantV_f, wantV_skip, Bool.not_true, Bool.not_false, gPur_true, gPur_false, gEff_true, gEff_false, gRes_true, gRes_false, pickA_true, pickA_false, extA_0, extA_1, extA_2, retK_one, retK_none, retK_two, valK_fn, valR_fn, cond_true, cond_false, bin_add, bin_sub, bin_mul, bin_eql, bin_neq, bin_lss, bin_leq, bin_gtr, bin_geq, bin_seql, bin_sneq, un_not_t, un_not_f, un_not, cvI_int, cvT_str, nilChk_ptr, nilChk_xp, addA_ptr, lenT_str, Bool.true_or, Bool.or_true, Bool.false_or, Bool.or_false, Bool.true_and, Bool.and_true, Bool.false_and, Bool.and_false, decide_true, decide_false, Int.reduceEq, Int.reduceLT, Int.reduceLE, Int.reduceNe, Int.reduceAdd, Int.reduceSub, Int.reduceMul, Int.reduceNeg, List.nil_append, List.append_nil, List.cons_append, ba_size, ba_inj, emp1, emp2]
    refine next (m - 1) _ H' (by omega) ⟨i + 1, rfl, by omega, by omega, fun d hd => ?_, rfl⟩
    rw [List.take_succ_eq_append_getElem h] at hd
    rcases List.mem_append.1 hd with hd | hd
    · exact hall d hd
    · simp at hd; subst hd
      exact ⟨fun q => c1 (e0.2 q), by omega, by omega⟩
  · obtain rfl : i = ds.length := by omega
    have h' : ¬ ((ds.length : Nat) : Int) < (ds.length : Nat) := by omega
    rw [List.take_length] at hall
    simp only [N14_3b, N14_1, lx, h', purK_some, resK_some, boolK_some, condK_true, condK_false, wantV_tt, wantV_tf, wantV_ft, wantV_ff, wantV_t, wantV_f, wantV_skip, Bool.not_true, Bool.not_false, gPur_true, gPur_false, gEff_true, gEff_false, gRes_true, gRes_false, pickA_true, pickA_false, extA_0, extA_1, extA_2, retK_one, retK_none, retK_two, valK_fn, valR_fn, cond_true, cond_false, bin_add, bin_sub, bin_mul, bin_eql, bin_neq, bin_lss, bin_leq, bin_gtr, bin_geq, bin_seql, bin_sneq, un_not_t, un_not_f, un_not, cvI_int, cvT_str, nilChk_ptr, nilChk_xp, addA_ptr, lenT_str, Bool.true_or, Bool.or_true, Bool.false_or, Bool.or_false, Bool.true_and, Bool.and_true, Bool.false_and, Bool.and_false, decide_true, decide_false, Int.reduceEq, Int.reduceLT, Int.reduceLE, Int.reduceNe, Int.reduceAdd, Int.reduceSub, Int.reduceMul, Int.reduceNeg, List.nil_append, List.append_nil, List.cons_append]
    exact .intro ⟨true, rfl, ⟨fun _ => ⟨by omega, hb.1 rfl, hall⟩, fun _ => rfl⟩, rfl⟩
/-- More than is gone through, or not. -/
theorem far_spec (hx : Els ρ H 2 x (ds.map PairD.cells)) (hk : 2000 ≤ k) : Ret (fun v H' => ∃ b, v = .bool b ∧ (b = false → ds.length ≤ 1100 ∧ ∀ d ∈ ds, d.key.length ≤ 200 ∧ d.val.length ≤ 200) ∧ H' = H) (evCall (cx ρ) k 0 10 [x] H) := by
  obtain ⟨k, rfl⟩ : ∃ q, k = q + 1 := ⟨k - 1, by omega⟩
  have lx := hx.lenS
  rw [List.length_map] at lx
  have main : ds.length ≤ 1100 → Ret (fun v H' => ∃ b, v = .bool b ∧ (b = false → ds.length ≤ 1100 ∧ ∀ d ∈ ds, d.key.length ≤ 200 ∧ d.val.length ≤ 200) ∧ H' = H) (N10_2 ρ (evCall (cx ρ) k) (evCY (cx ρ) k).2 0 k x (.int .i64 0) H (fun H => N10_1 ρ (evCall (cx ρ) k) (evCY (cx ρ) k).2 0 k H retK) retK) := by
    intro hl
    simp only [N10_2, N10_3]
    refine Ret.loop (fun m (y : AV) H' => ∃ i : Nat, y = .int .i64 i ∧ m = ds.length - i ∧ i ≤ ds.length ∧ (∀ d ∈ ds.take i, d.key.length ≤ 200 ∧ d.val.length ≤ 200) ∧ H' = H) ?_ ds.length k _ H ⟨0, rfl, rfl, by omega, by simp, rfl⟩ (by omega)
    rintro m y H' kn ⟨i, rfl, hm, hi, hall, rfl⟩ next
    by_cases h : i < ds.length
    · have h' : (i : Int) < ds.length := by omega
      have hi' : i < (ds.map PairD.cells).length := by rw [List.length_map]; exact h
      have e1 := hx.ix .i64 (i : Int) (by omega) (by rw [List.length_map]; exact h')
      rw [Int.toNat_natCast] at e1
      have a1 := elp_add hx i 0 0 hi'
      have a2 := elp_add hx i 0 1 hi'
      have n1 := hx.ld1 i 0 hi' (by decide)
      have n2 := hx.ld1 i 1 hi' (by decide)
      rw [List.getElem_map] at n1 n2
      simp only [PairD.cells, List.getElem?_cons_zero, List.getElem?_cons_succ] at n1 n2
      by_cases c2 : (200 : Int) < (ds[i].key.length : Int)
      · simp only [N10_3b, lx, h', e1, a1, a2, n1, n2, c2, Nat.zero_add, purK_some, resK_some, boolK_some, condK_true, condK_false, wantV_tt, wantV_tf, wantV_ft, wantV_ff, wantV_t, wantV_f, wantV_skip, Bool.not_true, Bool.not_false, gPur_true, gPur_false, gEff_true, gEff_false, gRes_true, gRes_false, pickA_true, pickA_false, extA_0, extA_1, extA_2, retK_one, retK_none, retK_two, valK_fn, valR_fn, cond_true, cond_false, bin_add, bin_sub, bin_mul, bin_eql, bin_neq, bin_lss, bin_leq, bin_gtr, bin_geq, bin_seql, bin_sneq, un_not_t, un_not_f, un_not, cvI_int, cvT_str, nilChk_ptr, nilChk_xp, addA_ptr, lenT_str, Bool.true_or, Bool.or_true, Bool.false_or, Bool.or_false, Bool.true_and, Bool.and_true, Bool.false_and, Bool.and_false, decide_true, decide_false, Int.reduceEq, Int.reduceLT, Int.reduceLE, Int.reduceNe, Int.reduceAdd, Int.reduceSub, Int.reduceMul, Int.reduceNeg, List.nil_append, List.append_nil, List.cons_append, ba_size, ba_inj, emp1, emp2]
        exact .intro ⟨true, rfl, fun h => (by cases h), rfl⟩
      by_cases c3 : (200 : Int) < (ds[i].val.length : Int)
      · simp only [N10_3b, lx, h', e1, a1, a2, n1, n2, c2, c3, Nat.zero_add, purK_some, resK_some, boolK_some, condK_true, condK_false, wantV_tt, wantV_tf, wantV_ft, wantV_ff, wantV_t, wantV_f, wantV_skip, Bool.not_true, Bool.not_false, gPur_true, gPur_false, gEff_true, gEff_false, gRes_true, gRes_false, pickA_true, pickA_false, extA_0, extA_1, extA_2, retK_one, retK_none, retK_two, valK_fn, valR_fn, cond_true, cond_false, bin_add, bin_sub, bin_mul, bin_eql, bin_neq, bin_lss, bin_leq, bin_gtr, bin_geq, bin_seql, bin_sneq, un_not_t, un_not_f, un_not, cvI_int, cvT_str, nilChk_ptr, nilChk_xp, addA_ptr, lenT_str, Bool.true_or, Bool.or_true, Bool.false_or, Bool.or_false, Bool.true_and, Bool.and_true, Bool.false_and, Bool.and_false, decide_true, decide_false, Int.reduceEq, Int.reduceLT, Int.reduceLE, Int.reduceNe, Int.reduceAdd, Int.reduceSub, Int.reduceMul, Int.reduceNeg, List.nil_append, List.append_nil, List.cons_append, ba_size, ba_inj, emp1, emp2]
        exact .intro ⟨true, rfl, fun h => (by cases h), rfl⟩
      simp only [N10_3b, lx, h', e1, a1, a2, n1, n2, c2, c3, wrap_succN i (by omega : i + 1 < 9223372036854775808), Nat.zero_add, purK_some, resK_some, boolK_some, condK_true, condK_false, wantV_tt, wantV_tf, wantV_ft, wantV_ff, wantV_t, wantV_f, wantV_skip, Bool.not_true, Bool.not_false, gPur_true, gPur_false, gEff_true, gEff_false, gRes_true, gRes_false, pickA_true, pickA_false, extA_0, extA_1, extA_2, retK_one, retK_none, retK_two, valK_fn, valR_fn, cond_true, cond_false, bin_add, bin_sub, bin_mul, bin_eql, bin_neq, bin_lss, bin_leq, bin_gtr, bin_geq, bin_seql, bin_sneq, un_not_t, un_not_f, un_not, cvI_int, cvT_str, nilChk_ptr, nilChk_xp, addA_ptr, lenT_str, Bool.true_or, Bool.or_true, Bool.false_or, Bool.or_false, Bool.true_and, Bool.and_true, Bool.false_and, Bool.and_false, decide_true, decide_false, Int.reduceEq, Int.reduceLT, Int.reduceLE, Int.reduceNe, Int.reduceAdd, Int.reduceSub, Int.reduceMul, Int.reduceNeg, List.nil_append, List.append_nil, List.cons_append, ba_size, ba_inj, emp1, emp2]
      refine next (m - 1) _ H' (by omega) ⟨i + 1, rfl, by omega, by omega, fun d hd => ?_, rfl⟩
      rw [List.take_succ_eq_append_getElem h] at hd
      rcases List.mem_append.1 hd with hd | hd
      · exact hall d hd
      · simp at hd; subst hd
        exact ⟨by omega, by omega⟩
    · obtain rfl : i = ds.length := by omega
      have h' : ¬ ((ds.length : Nat) : Int) < (ds.length : Nat) := by omega
      rw [List.take_length] at hall
      simp only [N10_3b, N10_1, lx, h', purK_some, resK_some, boolK_some, condK_true, condK_false, wantV_tt, wantV_tf, wantV_ft, wantV_ff, wantV_t, wantV_f, wantV_skip, Bool.not_true, Bool.not_false, gPur_true, gPur_false, gEff_true, gEff_false, gRes_true, gRes_false, pickA_true, pickA_false, extA_0, extA_1, extA_2, retK_one, retK_none, retK_two, valK_fn, valR_fn, cond_true, cond_false, bin_add, bin_sub, bin_mul, bin_eql, bin_neq, bin_lss, bin_leq, bin_gtr, bin_geq, bin_seql, bin_sneq, un_not_t, un_not_f, un_not, cvI_int, cvT_str, nilChk_ptr, nilChk_xp, addA_ptr, lenT_str, Bool.true_or, Bool.or_true, Bool.false_or, Bool.or_false, Bool.true_and, Bool.and_true, Bool.false_and, Bool.and_false, decide_true, decide_false, Int.reduceEq, Int.reduceLT, Int.reduceLE, Int.reduceNe, Int.reduceAdd, Int.reduceSub, Int.reduceMul, Int.reduceNeg, List.nil_append, List.append_nil, List.cons_append]
      exact .intro ⟨false, rfl, fun _ => ⟨hl, hall⟩, rfl⟩
  rw [E10]
  by_cases c1 : (60 : Int) < (ds.length : Int)
  · by_cases c2 : (ds.length : Int) ≤ 1000
    · simp only [L10, lx, c1, c2, purK_some, resK_some, boolK_some, condK_true, condK_false, wantV_tt, wantV_tf, wantV_ft, wantV_ff, wantV_t, wantV_f, wantV_skip, Bool.not_true, Bool.not_false, gPur_true, gPur_false, gEff_true, gEff_false, gRes_true, gRes_false, pickA_true, pickA_false, extA_0, extA_1, extA_2, retK_one, retK_none, retK_two, valK_fn, valR_fn, cond_true, cond_false, bin_add, bin_sub, bin_mul, bin_eql, bin_neq, bin_lss, bin_leq, bin_gtr, bin_geq, bin_seql, bin_sneq, un_not_t, un_not_f, un_not, cvI_int, cvT_str, nilChk_ptr, nilChk_xp, addA_ptr, lenT_str, Bool.true_or, Bool.or_true, Bool.false_or, Bool.or_false, Bool.true_and, Bool.and_true, Bool.false_and, Bool.and_false, decide_true, decide_false, Int.reduceEq, Int.reduceLT, Int.reduceLE, Int.reduceNe, Int.reduceAdd, Int.reduceSub, Int.reduceMul, Int.reduceNeg, List.nil_append, List.append_nil, List.cons_append]
      exact .intro ⟨true, rfl, fun h => (by cases h), rfl⟩
    · by_cases c3 : (1100 : Int) < (ds.length : Int)
      · simp only [L10, lx, c1, c2, c3, purK_some, resK_some, boolK_some, condK_true, condK_false, wantV_tt, wantV_tf, wantV_ft, wantV_ff, wantV_t, wantV_f, wantV_skip, Bool.not_true, Bool.not_false, gPur_true, gPur_false, gEff_true, gEff_false, gRes_true, gRes_false, pickA_true, pickA_false, extA_0, extA_1, extA_2, retK_one, retK_none, retK_two, valK_fn, valR_fn, cond_true, cond_false, bin_add, bin_sub, bin_mul, bin_eql, bin_neq, bin_lss, bin_leq, bin_gtr, bin_geq, bin_seql, bin_sneq, un_not_t, un_not_f, un_not, cvI_int, cvT_str, nilChk_ptr, nilChk_xp, addA_ptr, lenT_str, Bool.true_or, Bool.or_true, Bool.false_or, Bool.or_false, Bool.true_and, Bool.and_true, Bool.false_and, Bool.and_false, decide_true, decide_false, Int.reduceEq, Int.reduceLT, Int.reduceLE, Int.reduceNe, Int.reduceAdd, Int.reduceSub, Int.reduceMul, Int.reduceNeg, List.nil_append, List.append_nil, List.cons_append]
        exact .intro ⟨true, rfl, fun h => (by cases h), rfl⟩
      · simp only [L10, lx, c1, c2, c3, purK_some, resK_some, boolK_some, condK_true, condK_false, wantV_tt, wantV_tf, wantV_ft, wantV_ff, wantV_t, wantV_f, wantV_skip, Bool.not_true, Bool.not_false, gPur_true, gPur_false, gEff_true, gEff_false, gRes_true, gRes_false, pickA_true, pickA_false, extA_0, extA_1, extA_2, retK_one, retK_none, retK_two, valK_fn, valR_fn, cond_true, cond_false, bin_add, bin_sub, bin_mul, bin_eql, bin_neq, bin_lss, bin_leq, bin_gtr, bin_geq, bin_seql, bin_sneq, un_not_t, un_not_f, un_not, cvI_int, cvT_str, nilChk_ptr, nilChk_xp, addA_ptr, lenT_str, Bool.true_or, Bool.or_true, Bool.false_or, Bool.or_false, Bool.true_and, Bool.and_true, Bool.false_and, Bool.and_false, decide_true, decide_false, Int.reduceEq, Int.reduceLT, Int.reduceLE, Int.reduceNe, Int.reduceAdd, Int.reduceSub, Int.reduceMul, Int.reduceNeg, List.nil_append, List.append_nil, List.cons_append]
        exact main (by omega)
  · have c3 : ¬ (1100 : Int) < (ds.length : Int) := by omega
    simp only [L10, lx, c1, c3, purK_some, resK_some, boolK_some, condK_true, condK_false, wantV_tt, wantV_tf, wantV_ft, wantV_ff, wantV_t, wantV_f, wantV_skip, Bool.not_true, Bool.not_false, gPur_true, gPur_false, gEff_true, gEff_false, gRes_true, gRes_false, pickA_true, pickA_false, extA_0, extA_1, extA_2, retK_one, retK_none, retK_two, valK_fn, valR_fn, cond_true, cond_false, bin_add, bin_sub, bin_mul, bin_eql, bin_neq, bin_lss, bin_leq, bin_gtr, bin_geq, bin_seql, bin_sneq, un_not_t, un_not_f, un_not, cvI_int, cvT_str, nilChk_ptr, nilChk_xp, addA_ptr, lenT_str, Bool.true_or, Bool.or_true, Bool.false_or, Bool.or_false, Bool.true_and, Bool.and_true, Bool.false_and, Bool.and_false, decide_true, decide_false, Int.reduceEq, Int.reduceLT, Int.reduceLE, Int.reduceNe, Int.reduceAdd, Int.reduceSub, Int.reduceMul, Int.reduceNeg, List.nil_append, List.append_nil, List.cons_append]
    exact main (by omega)
theorem neqP (H : Heap) (d : PairD) : binA Try.prog H .neq 70 (.agg d.cells) (.agg d.cells) = some (.bool false) := by
  have : ∀ s t, binA Try.prog H .neq 70 (.agg [.str s, .str t]) (.agg [.str s, .str t]) = (bif s == s then bif t == t then some true else some false else some false).map fun b => .bool !b := fun s t => by kernel_rfl
  unfold PairD.cells
  rw [this]
  simp [ba_beq]
theorem same_spec {y : AV} (hx : Els ρ H 2 x (ds.map PairD.cells)) (hy : Els ρ H 2 y (ds.map PairD.cells)) (hl : ds.length < 100000) (hk : ds.length + 10 ≤ k) : Ret (fun v H' => v = .bool true ∧ H' = H) (evCall (cx ρ) k 0 16 [x, y] H) := by
  obtain ⟨k, rfl⟩ : ∃ q, k = q + 1 := ⟨k - 1, by omega⟩
  have lx := hx.lenS
  have ly := hy.lenS
  rw [List.length_map] at lx ly
  rw [E16]
  simp only [L16, lx, ly, ne_eq, not_true, N16_2, N16_3, purK_some, resK_some, boolK_some, condK_true, condK_false, wantV_tt, wantV_tf, wantV_ft, wantV_ff, wantV_t, wantV_f, wantV_skip, Bool.not_true, Bool.not_false, gPur_true, gPur_false, gEff_true, gEff_false, gRes_true, gRes_false, pickA_true, pickA_false, extA_0, extA_1, extA_2, retK_one, retK_none, retK_two, valK_fn, valR_fn, cond_true, cond_false, bin_add, bin_sub, bin_mul, bin_eql, bin_neq, bin_lss, bin_leq, bin_gtr, bin_geq, bin_seql, bin_sneq, un_not_t, un_not_f, un_not, cvI_int, cvT_str, nilChk_ptr, nilChk_xp, addA_ptr, lenT_str, Bool.true_or, Bool.or_true, Bool.false_or, Bool.or_false, Bool.true_and, Bool.and_true, Bool.false_and, Bool.and_false, decide_true, decide_false, Int.reduceEq, Int.reduceLT, Int.reduceLE, Int.reduceNe, Int.reduceAdd, Int.reduceSub, Int.reduceMul, Int.reduceNeg, List.nil_append, List.append_nil, List.cons_append]
  refine Ret.loop (fun m (y' : AV) H' => ∃ i : Nat, y' = .int .i64 i ∧ m = ds.length - i ∧ i ≤ ds.length ∧ H' = H) ?_ ds.length k _ H ⟨0, rfl, rfl, by omega, rfl⟩ (by omega)
  rintro m y' H' kn ⟨i, rfl, hm, hi, rfl⟩ next
  by_cases h : i < ds.length
  · have h' : (i : Int) < ds.length := by omega
    have hi' : i < (ds.map PairD.cells).length := by rw [List.length_map]; exact h
    have e1 := hx.ix .i64 (i : Int) (by omega) (by rw [List.length_map]; exact h')
    have e2 := hy.ix .i64 (i : Int) (by omega) (by rw [List.length_map]; exact h')
    rw [Int.toNat_natCast] at e1 e2
    have n1 := hx.ldN i hi'
    have n2 := hy.ldN i hi'
    rw [List.getElem_map] at n1 n2
    simp only [N16_3b, lx, h', e1, e2, n1, n2, neqP, wrap_succN i (by omega : i + 1 < 9223372036854775808), purK_some, resK_some, boolK_some, condK_true, condK_false, wantV_tt, wantV_tf, wantV_ft, wantV_ff, wantV_t, wantV_f, wantV_skip, Bool.not_true, Bool.not_false, gPur_true, gPur_false, gEff_true, gEff_false, gRes_true, gRes_false, pickA_true, pickA_false, extA_0, extA_1, extA_2, retK_one, retK_none, retK_two, valK_fn, valR_fn, cond_true, cond_false, bin_add, bin_sub, bin_mul, bin_eql, bin_neq, bin_lss, bin_leq, bin_gtr, bin_geq, bin_seql, bin_sneq, un_not_t, un_not_f, un_not, cvI_int, cvT_str, nilChk_ptr, nilChk_xp, addA_ptr, lenT_str, Bool.true_or, Bool.or_true, Bool.false_or, Bool.or_false, Bool.true_and, Bool.and_true, Bool.false_and, Bool.and_false, decide_true, decide_false, Int.reduceEq, Int.reduceLT, Int.reduceLE, Int.reduceNe, Int.reduceAdd, Int.reduceSub, Int.reduceMul, Int.reduceNeg, List.nil_append, List.append_nil, List.cons_append]
    exact next (m - 1) _ H' (by omega) ⟨i + 1, rfl, by omega, by omega, rfl⟩
  · have h' : ¬ (i : Int) < ds.length := by omega
    simp only [N16_3b, N16_1, lx, h', purK_some, resK_some, boolK_some, condK_true, condK_false, wantV_tt, wantV_tf, wantV_ft, wantV_ff, wantV_t, wantV_f, wantV_skip, Bool.not_true, Bool.not_false, gPur_true, gPur_false, gEff_true, gEff_false, gRes_true, gRes_false, pickA_true, pickA_false, extA_0, extA_1, extA_2, retK_one, retK_none, retK_two, valK_fn, valR_fn, cond_true, cond_false, bin_add, bin_sub, bin_mul, bin_eql, bin_neq, bin_lss, bin_leq, bin_gtr, bin_geq, bin_seql, bin_sneq, un_not_t, un_not_f, un_not, cvI_int, cvT_str, nilChk_ptr, nilChk_xp, addA_ptr, lenT_str, Bool.true_or, Bool.or_true, Bool.false_or, Bool.or_false, Bool.true_and, Bool.and_true, Bool.false_and, Bool.and_false, decide_true, decide_false, Int.reduceEq, Int.reduceLT, Int.reduceLE, Int.reduceNe, Int.reduceAdd, Int.reduceSub, Int.reduceMul, Int.reduceNeg, List.nil_append, List.append_nil, List.cons_append]
    exact .intro ⟨rfl, rfl⟩
end
end Go.Proofs.Ytkmohjddojpdjaa

-- part DnD
/- Lists of pairs are packed: the program's and the reference's bytes. -/
set_option linter.unusedVariables false
set_option linter.unusedSimpArgs false
namespace Go.Proofs.Ytkmohjddojpdjaa
attribute [local congr] Go.Ev.cond_congr1
open Go.Ev Go.RowKit
def pairB (d : PairD) : List UInt8 := [UInt8.ofNat d.key.length, UInt8.ofNat d.val.length] ++ d.key ++ d.val
def headB (n : Nat) : List UInt8 := [UInt8.ofNat (n % 256), UInt8.ofNat (n / 256)]
def packB (ds : List PairD) : List UInt8 := headB ds.length ++ ds.flatMap pairB
theorem pairB_len (d : PairD) : (pairB d).length = 2 + d.key.length + d.val.length := by simp [pairB]; omega
theorem flat_take (ds : List PairD) (i : Nat) (h : i < ds.length) : (ds.take (i + 1)).flatMap pairB = (ds.take i).flatMap pairB ++ pairB ds[i] := by
  rw [List.take_succ_eq_append_getElem h, List.flatMap_append]; simp
theorem flat_len (ds : List PairD) (h : ∀ d ∈ ds, d.key.length ≤ 200 ∧ d.val.length ≤ 200) : (ds.flatMap pairB).length ≤ 402 * ds.length := by
  induction ds with
  | nil => simp
  | cons d ds ih =>
    have := ih fun d hd => h d (by simp [hd])
    have := h d (by simp)
    simp only [List.flatMap_cons, List.length_append, pairB_len, List.length_cons]
    omega
theorem Bu.frame {H H' : Heap} {l : Nat} {y : AV} {a : List UInt8} (h : Bu H l y a) {S : Nat → Prop} (f : Fr S H H') (h1 : ¬ S l) (h2 : ∀ t, y.lies t → ¬ S t) : Bu H' l y a :=
  ⟨h.top.elim (fun g => Or.inl (by rw [f.get l h.lt h1, g])) (fun g => Or.inr (by rw [f.get l h.lt h1, g])), h.row.frame S f h2, Nat.lt_of_lt_of_le h.lt f.sz, h.ne⟩
section
variable {ρ : Addr → Option Value} {k : Nat} {H : Heap} {x : AV} {ds : List PairD}
theorem Bu.lies_lt {l : Nat} {y : AV} {a : List UInt8} (h : Bu H l y a) (t : Nat) (ht : y.lies t) : t < H.sz := (h.row.toEls (ρ := fun _ => none)).lies_lt t ht
/-- What lies apart from a builder stays as it is while it is written. -/
theorem Bu.keep {l n : Nat} {y y' : AV} {H' : Heap} {o : AObj} (g : H.get n = o) (hn : n < H.sz) (hl : n ≠ l) (hy : ¬ y.lies n) (f : Fr (fun t => t = l ∨ y.lies t) H H') (hy' : ∀ t, y'.lies t → y.lies t ∨ H.sz ≤ t) : H'.get n = o ∧ n < H'.sz ∧ ¬ y'.lies n :=
  ⟨by rw [f.get n hn (fun q => q.elim hl hy), g], Nat.lt_of_lt_of_le hn f.sz, fun q => (hy' n q).elim hy (fun q => by omega)⟩
theorem pack_spec (hx : Els ρ H 2 x (ds.map PairD.cells)) (hlx : ∀ t, x.lies t → t < H.sz) (hl : ds.length ≤ 1100) (hd : ∀ d ∈ ds, d.key.length ≤ 200 ∧ d.val.length ≤ 200) (hk : 600000 ≤ k) :
    Ret (fun v H' => ((OkP ds ∧ v = .tup [.str (ba (sealL (packB ds))), .int .i64 0]) ∨ (¬ OkP ds ∧ v = .tup [.str (ba []), .int .i64 1])) ∧ Fr Nop H H') (evCall (cx ρ) k 0 11 [x] H) := by
  obtain ⟨k, rfl⟩ : ∃ q, k = q + 1 := ⟨k - 1, by omega⟩
  rw [E11]
  simp only [L11]
  refine Ret.bind (right_spec hx (by omega) (by omega)) ?_
  rintro v H1 ⟨b, rfl, hb, f1⟩
  cases b
  · simp only [purK_some, resK_some, boolK_some, condK_true, condK_false, wantV_tt, wantV_tf, wantV_ft, wantV_ff, wantV_t, wantV_f, wantV_skip, Bool.not_true, Bool.not_false, gPur_true, gPur_false, gEff_true, gEff_false, gRes_true, gRes_false, pickA_true, pickA_false, extA_0, extA_1, extA_2, retK_one, retK_none, retK_two, valK_fn, valR_fn, cond_true, cond_false, bin_add, bin_sub, bin_mul, bin_eql, bin_neq, bin_lss, bin_leq, bin_gtr, bin_geq, bin_seql, bin_sneq, un_not_t, un_not_f, un_not, cvI_int, cvT_str, nilChk_ptr, nilChk_xp, addA_ptr, lenT_str, Bool.true_or, Bool.or_true, Bool.false_or, Bool.or_false, Bool.true_and, Bool.and_true, Bool.false_and, Bool.and_false, decide_true, decide_false, Int.reduceEq, Int.reduceLT, Int.reduceLE, Int.reduceNe, Int.reduceAdd, Int.reduceSub, Int.reduceMul, Int.reduceNeg, List.nil_append, List.append_nil, List.cons_append, ba_size, ba_inj, emp1, emp2]
    exact .intro ⟨Or.inr ⟨fun h => (by have := hb.2 h; cases this), rfl⟩, f1⟩
  have hok : OkP ds := hb.1 rfl
  have hlen := hok.len
  simp only [newCells_eq, purK_some, resK_some, boolK_some, condK_true, condK_false, wantV_tt, wantV_tf, wantV_ft, wantV_ff, wantV_t, wantV_f, wantV_skip, Bool.not_true, Bool.not_false, gPur_true, gPur_false, gEff_true, gEff_false, gRes_true, gRes_false, pickA_true, pickA_false, extA_0, extA_1, extA_2, retK_one, retK_none, retK_two, valK_fn, valR_fn, cond_true, cond_false, bin_add, bin_sub, bin_mul, bin_eql, bin_neq, bin_lss, bin_leq, bin_gtr, bin_geq, bin_seql, bin_sneq, un_not_t, un_not_f, un_not, cvI_int, cvT_str, nilChk_ptr, nilChk_xp, addA_ptr, lenT_str, Bool.true_or, Bool.or_true, Bool.false_or, Bool.or_false, Bool.true_and, Bool.and_true, Bool.false_and, Bool.and_false, decide_true, decide_false, Int.reduceEq, Int.reduceLT, Int.reduceLE, Int.reduceNe, Int.reduceAdd, Int.reduceSub, Int.reduceMul, Int.reduceNeg, List.nil_append, List.append_nil, List.cons_append]
  refine (St.start Nop H1).newP fun l H2 s2 hz2 f2 => ?_
  have hx2 := (hx.frame0 f1).frame0 f2
  have lx := hx2.lenS
  rw [List.length_map] at lx
  have n256 : (256 : Int) ≠ 0 := by decide
  have t1 : (ds.length : Int).tmod 256 = ((ds.length % 256 : Nat) : Int) := tmodN ds.length 256
  have t2 : wrapK .i64 ((ds.length : Int).tdiv 256) = ((ds.length / 256 : Nat) : Int) := tdivN ds.length 256 (by omega)
  simp only [lx, bin_rem _ _ _ _ _ _ n256, t1, u8n, purK_some, resK_some, boolK_some, condK_true, condK_false, wantV_tt, wantV_tf, wantV_ft, wantV_ff, wantV_t, wantV_f, wantV_skip, Bool.not_true, Bool.not_false, gPur_true, gPur_false, gEff_true, gEff_false, gRes_true, gRes_false, pickA_true, pickA_false, extA_0, extA_1, extA_2, retK_one, retK_none, retK_two, valK_fn, valR_fn, cond_true, cond_false, bin_add, bin_sub, bin_mul, bin_eql, bin_neq, bin_lss, bin_leq, bin_gtr, bin_geq, bin_seql, bin_sneq, un_not_t, un_not_f, un_not, cvI_int, cvT_str, nilChk_ptr, nilChk_xp, addA_ptr, lenT_str, Bool.true_or, Bool.or_true, Bool.false_or, Bool.or_false, Bool.true_and, Bool.and_true, Bool.false_and, Bool.and_false, decide_true, decide_false, Int.reduceEq, Int.reduceLT, Int.reduceLE, Int.reduceNe, Int.reduceAdd, Int.reduceSub, Int.reduceMul, Int.reduceNeg, List.nil_append, List.append_nil, List.cons_append]
  have b0 : Bu H2 l .nils [] := ⟨Or.inl (s2.at 0 rfl), Grow.nils .., s2.lt' 0 rfl, fun q => q⟩
  refine Ret.bind (wb_spec b0 _ (by clear t2; omega) (by simp)) ?_
  rintro v H3 ⟨rfl, y3, b3, f3, l3⟩
  have hl2 := s2.lt' 0 rfl
  have hxl : ∀ {y : AV} {Ha : Heap}, H1.sz ≤ Ha.sz → (∀ t, y.lies t → H1.sz ≤ t) → ∀ t, x.lies t → ¬ (t = l ∨ y.lies t) := fun {y} {Ha} _ hy t ht q => by
    have a1 := hlx t ht
    have a2 := f1.sz
    rcases q with q | q
    · clear t2; omega
    · have := hy t q; clear t2; omega
  have o3 : ∀ t, y3.lies t → H1.sz ≤ t := fun t ht => (l3 t ht).elim (fun q => q.elim) (fun q => by have := f2.sz; clear t2; omega)
  have hx3 := hx2.frame _ f3 (hxl (y := .nils) (Ha := H2) f2.sz (fun t q => q.elim))
  have lx3 := hx3.lenS
  rw [List.length_map] at lx3
  simp only [lx3, bin_quo _ _ _ _ _ _ n256, t2, u8n, purK_some, resK_some, boolK_some, condK_true, condK_false, wantV_tt, wantV_tf, wantV_ft, wantV_ff, wantV_t, wantV_f, wantV_skip, Bool.not_true, Bool.not_false, gPur_true, gPur_false, gEff_true, gEff_false, gRes_true, gRes_false, pickA_true, pickA_false, extA_0, extA_1, extA_2, retK_one, retK_none, retK_two, valK_fn, valR_fn, cond_true, cond_false, bin_add, bin_sub, bin_mul, bin_eql, bin_neq, bin_lss, bin_leq, bin_gtr, bin_geq, bin_seql, bin_sneq, un_not_t, un_not_f, un_not, cvI_int, cvT_str, nilChk_ptr, nilChk_xp, addA_ptr, lenT_str, Bool.true_or, Bool.or_true, Bool.false_or, Bool.or_false, Bool.true_and, Bool.and_true, Bool.false_and, Bool.and_false, decide_true, decide_false, Int.reduceEq, Int.reduceLT, Int.reduceLE, Int.reduceNe, Int.reduceAdd, Int.reduceSub, Int.reduceMul, Int.reduceNeg, List.nil_append, List.append_nil, List.cons_append]
  clear t1 t2
  refine Ret.bind (wb_spec b3 _ (by omega) (by simp)) ?_
  rintro v H4 ⟨rfl, y4, b4, f4, l4⟩
  have z23 := f3.sz
  have z34 := f4.sz
  have z12 := f2.sz
  have o4 : ∀ t, y4.lies t → H1.sz ≤ t := fun t ht => (l4 t ht).elim (o3 t) (fun q => by omega)
  have hx4 := hx3.frame _ f4 (hxl (y := y3) (Ha := H3) (by omega) o3)
  have lx4 := hx4.lenS
  rw [List.length_map] at lx4
  simp only [lx4, N11_2, N11_3, purK_some, resK_some, boolK_some, condK_true, condK_false, wantV_tt, wantV_tf, wantV_ft, wantV_ff, wantV_t, wantV_f, wantV_skip, Bool.not_true, Bool.not_false, gPur_true, gPur_false, gEff_true, gEff_false, gRes_true, gRes_false, pickA_true, pickA_false, extA_0, extA_1, extA_2, retK_one, retK_none, retK_two, valK_fn, valR_fn, cond_true, cond_false, bin_add, bin_sub, bin_mul, bin_eql, bin_neq, bin_lss, bin_leq, bin_gtr, bin_geq, bin_seql, bin_sneq, un_not_t, un_not_f, un_not, cvI_int, cvT_str, nilChk_ptr, nilChk_xp, addA_ptr, lenT_str, Bool.true_or, Bool.or_true, Bool.false_or, Bool.or_false, Bool.true_and, Bool.and_true, Bool.false_and, Bool.and_false, decide_true, decide_false, Int.reduceEq, Int.reduceLT, Int.reduceLE, Int.reduceNe, Int.reduceAdd, Int.reduceSub, Int.reduceMul, Int.reduceNeg, List.nil_append, List.append_nil, List.cons_append]
  have f14 : Fr (fun t => H1.sz ≤ t) H1 H4 := ((f2.mono fun t _ q => q.elim).trans (f3.mono fun t _ q => q.elim (fun e => by omega) (fun e => e.elim))).trans (f4.mono fun t _ q => q.elim (fun e => by omega) (o3 t))
  have fb := flat_len ds hd
  refine Ret.loop (fun m (y : AV) H' => ∃ i : Nat, ∃ yb, y = .int .i64 i ∧ m = ds.length - i ∧ i ≤ ds.length ∧ Bu H' l yb (headB ds.length ++ (ds.take i).flatMap pairB) ∧ (∀ t, yb.lies t → H1.sz ≤ t) ∧ Fr (fun t => H1.sz ≤ t) H1 H') ?_ ds.length k _ H4 ⟨0, y4, rfl, rfl, by omega, by simpa [headB] using b4, o4, f14⟩ (by omega)
  rintro m y H' kn ⟨i, yb, rfl, hm, hi, hB, ho, fr⟩ next
  by_cases h : i < ds.length
  · have h' : (i : Int) < ds.length := by omega
    have hX := (hx.frame0 f1).frame _ fr fun t ht q => by have := hlx t ht; have := f1.sz; omega
    have hi' : i < (ds.map PairD.cells).length := by rw [List.length_map]; exact h
    have e1 := hX.ix .i64 (i : Int) (by omega) (by rw [List.length_map]; exact h')
    rw [Int.toNat_natCast] at e1
    have n1 := hX.ldN i hi'
    rw [List.getElem_map] at n1
    have hdi := hd _ (List.getElem_mem h)
    have ft := flat_take ds i h
    have fl : ((ds.take i).flatMap pairB).length ≤ 402 * ds.length := by
      have := flat_len (ds.take i) fun d hd' => hd d (List.mem_of_mem_take hd')
      rw [List.length_take] at this
      omega
    generalize ds[i] = d at *
    simp only [N11_3b, h', e1, n1, newCells_eq, purK_some, resK_some, boolK_some, condK_true, condK_false, wantV_tt, wantV_tf, wantV_ft, wantV_ff, wantV_t, wantV_f, wantV_skip, Bool.not_true, Bool.not_false, gPur_true, gPur_false, gEff_true, gEff_false, gRes_true, gRes_false, pickA_true, pickA_false, extA_0, extA_1, extA_2, retK_one, retK_none, retK_two, valK_fn, valR_fn, cond_true, cond_false, bin_add, bin_sub, bin_mul, bin_eql, bin_neq, bin_lss, bin_leq, bin_gtr, bin_geq, bin_seql, bin_sneq, un_not_t, un_not_f, un_not, cvI_int, cvT_str, nilChk_ptr, nilChk_xp, addA_ptr, lenT_str, Bool.true_or, Bool.or_true, Bool.false_or, Bool.or_false, Bool.true_and, Bool.and_true, Bool.false_and, Bool.and_false, decide_true, decide_false, Int.reduceEq, Int.reduceLT, Int.reduceLE, Int.reduceNe, Int.reduceAdd, Int.reduceSub, Int.reduceMul, Int.reduceNeg, List.nil_append, List.append_nil, List.cons_append]
    refine (St.start Nop H').newP fun n5 H5 s5 hz5 f5 => ?_
    refine s5.stN 0 rfl rfl d.solid (by decide) fun H6 s6 z6 f6 => ?_
    rw [lay_all [.str ByteArray.empty, .str ByteArray.empty] d.cells rfl] at s6
    have hB6 : Bu H6 l yb (headB ds.length ++ (ds.take i).flatMap pairB) := (hB.frame f5 (fun q => q) fun _ _ q => q).frame f6 (by have := hB.lt; omega) fun t ht => by have := hB.lies_lt t ht; omega
    have g6 := s6.at 0 rfl
    have d0 : ldC 0 0 (.cells 0 70 (0, 0) false d.cells) = some (.str (ba d.key)) := by rw [ldC_cells]; rfl
    have d1 : ldC 0 1 (.cells 0 70 (0, 0) false d.cells) = some (.str (ba d.val)) := by rw [ldC_cells]; rfl
    have k6 : n5 < H6.sz ∧ n5 ≠ l ∧ ¬ yb.lies n5 := ⟨s6.lt' 0 rfl, by have := hB.lt; omega, fun q => by have := hB.lies_lt n5 q; omega⟩
    have hh : (headB ds.length).length = 2 := rfl
    simp only [ld1_ptr, g6, d0, u8n, Nat.zero_add, purK_some, resK_some, boolK_some, condK_true, condK_false, wantV_tt, wantV_tf, wantV_ft, wantV_ff, wantV_t, wantV_f, wantV_skip, Bool.not_true, Bool.not_false, gPur_true, gPur_false, gEff_true, gEff_false, gRes_true, gRes_false, pickA_true, pickA_false, extA_0, extA_1, extA_2, retK_one, retK_none, retK_two, valK_fn, valR_fn, cond_true, cond_false, bin_add, bin_sub, bin_mul, bin_eql, bin_neq, bin_lss, bin_leq, bin_gtr, bin_geq, bin_seql, bin_sneq, un_not_t, un_not_f, un_not, cvI_int, cvT_str, nilChk_ptr, nilChk_xp, addA_ptr, lenT_str, Bool.true_or, Bool.or_true, Bool.false_or, Bool.or_false, Bool.true_and, Bool.and_true, Bool.false_and, Bool.and_false, decide_true, decide_false, Int.reduceEq, Int.reduceLT, Int.reduceLE, Int.reduceNe, Int.reduceAdd, Int.reduceSub, Int.reduceMul, Int.reduceNeg, List.nil_append, List.append_nil, List.cons_append, ba_size, ba_inj, emp1, emp2]
    refine Ret.bind (wb_spec hB6 _ (by omega) (by simp only [List.length_append]; omega)) ?_
    rintro v H7 ⟨rfl, y7, b7, f7, l7⟩
    have k7 := Bu.keep g6 k6.1 k6.2.1 k6.2.2 f7 l7
    simp only [ld1_ptr, k7.1, d1, u8n, Nat.zero_add, purK_some, resK_some, boolK_some, condK_true, condK_false, wantV_tt, wantV_tf, wantV_ft, wantV_ff, wantV_t, wantV_f, wantV_skip, Bool.not_true, Bool.not_false, gPur_true, gPur_false, gEff_true, gEff_false, gRes_true, gRes_false, pickA_true, pickA_false, extA_0, extA_1, extA_2, retK_one, retK_none, retK_two, valK_fn, valR_fn, cond_true, cond_false, bin_add, bin_sub, bin_mul, bin_eql, bin_neq, bin_lss, bin_leq, bin_gtr, bin_geq, bin_seql, bin_sneq, un_not_t, un_not_f, un_not, cvI_int, cvT_str, nilChk_ptr, nilChk_xp, addA_ptr, lenT_str, Bool.true_or, Bool.or_true, Bool.false_or, Bool.or_false, Bool.true_and, Bool.and_true, Bool.false_and, Bool.and_false, decide_true, decide_false, Int.reduceEq, Int.reduceLT, Int.reduceLE, Int.reduceNe, Int.reduceAdd, Int.reduceSub, Int.reduceMul, Int.reduceNeg, List.nil_append, List.append_nil, List.cons_append, ba_size, ba_inj, emp1, emp2]
    refine Ret.bind (wb_spec b7 _ (by omega) (by simp only [List.length_append, List.length_cons, List.length_nil]; omega)) ?_
    rintro v H8 ⟨rfl, y8, b8, f8, l8⟩
    have k8 := Bu.keep k7.1 k7.2.1 k6.2.1 k7.2.2 f8 l8
    simp only [ld1_ptr, k8.1, d0, Nat.zero_add, purK_some, resK_some, boolK_some, condK_true, condK_false, wantV_tt, wantV_tf, wantV_ft, wantV_ff, wantV_t, wantV_f, wantV_skip, Bool.not_true, Bool.not_false, gPur_true, gPur_false, gEff_true, gEff_false, gRes_true, gRes_false, pickA_true, pickA_false, extA_0, extA_1, extA_2, retK_one, retK_none, retK_two, valK_fn, valR_fn, cond_true, cond_false, bin_add, bin_sub, bin_mul, bin_eql, bin_neq, bin_lss, bin_leq, bin_gtr, bin_geq, bin_seql, bin_sneq, un_not_t, un_not_f, un_not, cvI_int, cvT_str, nilChk_ptr, nilChk_xp, addA_ptr, lenT_str, Bool.true_or, Bool.or_true, Bool.false_or, Bool.or_false, Bool.true_and, Bool.and_true, Bool.false_and, Bool.and_false, decide_true, decide_false, Int.reduceEq, Int.reduceLT, Int.reduceLE, Int.reduceNe, Int.reduceAdd, Int.reduceSub, Int.reduceMul, Int.reduceNeg, List.nil_append, List.append_nil, List.cons_append]
    refine Ret.bind (ws_spec b8 d.key (by omega) (by simp only [List.length_append, List.length_cons, List.length_nil]; omega) (by omega)) ?_
    rintro v H9 ⟨rfl, y9, b9, f9, l9⟩
    have k9 := Bu.keep k8.1 k8.2.1 k6.2.1 k8.2.2 f9 l9
    simp only [ld1_ptr, k9.1, d1, Nat.zero_add, purK_some, resK_some, boolK_some, condK_true, condK_false, wantV_tt, wantV_tf, wantV_ft, wantV_ff, wantV_t, wantV_f, wantV_skip, Bool.not_true, Bool.not_false, gPur_true, gPur_false, gEff_true, gEff_false, gRes_true, gRes_false, pickA_true, pickA_false, extA_0, extA_1, extA_2, retK_one, retK_none, retK_two, valK_fn, valR_fn, cond_true, cond_false, bin_add, bin_sub, bin_mul, bin_eql, bin_neq, bin_lss, bin_leq, bin_gtr, bin_geq, bin_seql, bin_sneq, un_not_t, un_not_f, un_not, cvI_int, cvT_str, nilChk_ptr, nilChk_xp, addA_ptr, lenT_str, Bool.true_or, Bool.or_true, Bool.false_or, Bool.or_false, Bool.true_and, Bool.and_true, Bool.false_and, Bool.and_false, decide_true, decide_false, Int.reduceEq, Int.reduceLT, Int.reduceLE, Int.reduceNe, Int.reduceAdd, Int.reduceSub, Int.reduceMul, Int.reduceNeg, List.nil_append, List.append_nil, List.cons_append]
    refine Ret.bind (ws_spec b9 d.val (by omega) (by simp only [List.length_append, List.length_cons, List.length_nil]; omega) (by omega)) ?_
    rintro v H10 ⟨rfl, y10, b10, f10, l10⟩
    simp only [wrap_succN i (by omega : i + 1 < 9223372036854775808), purK_some, resK_some, boolK_some, condK_true, condK_false, wantV_tt, wantV_tf, wantV_ft, wantV_ff, wantV_t, wantV_f, wantV_skip, Bool.not_true, Bool.not_false, gPur_true, gPur_false, gEff_true, gEff_false, gRes_true, gRes_false, pickA_true, pickA_false, extA_0, extA_1, extA_2, retK_one, retK_none, retK_two, valK_fn, valR_fn, cond_true, cond_false, bin_add, bin_sub, bin_mul, bin_eql, bin_neq, bin_lss, bin_leq, bin_gtr, bin_geq, bin_seql, bin_sneq, un_not_t, un_not_f, un_not, cvI_int, cvT_str, nilChk_ptr, nilChk_xp, addA_ptr, lenT_str, Bool.true_or, Bool.or_true, Bool.false_or, Bool.or_false, Bool.true_and, Bool.and_true, Bool.false_and, Bool.and_false, decide_true, decide_false, Int.reduceEq, Int.reduceLT, Int.reduceLE, Int.reduceNe, Int.reduceAdd, Int.reduceSub, Int.reduceMul, Int.reduceNeg, List.nil_append, List.append_nil, List.cons_append]
    have zr := fr.sz
    have z5 := f5.sz; have zz6 := f6.sz; have z7 := f7.sz; have z8 := f8.sz; have z9 := f9.sz
    have q7 : ∀ t, y7.lies t → H1.sz ≤ t := fun t ht => (l7 t ht).elim (ho t) (fun q => by omega)
    have q8 : ∀ t, y8.lies t → H1.sz ≤ t := fun t ht => (l8 t ht).elim (q7 t) (fun q => by omega)
    have q9 : ∀ t, y9.lies t → H1.sz ≤ t := fun t ht => (l9 t ht).elim (q8 t) (fun q => by omega)
    have q10 : ∀ t, y10.lies t → H1.sz ≤ t := fun t ht => (l10 t ht).elim (q9 t) (fun q => by omega)
    have ff : ∀ {y : AV} {Ha Hb : Heap}, Fr (fun t => t = l ∨ y.lies t) Ha Hb → (∀ t, y.lies t → H1.sz ≤ t) → Fr (fun t => H1.sz ≤ t) Ha Hb := fun f hy => f.mono fun t _ q => q.elim (fun e => by omega) (hy t)
    refine next (m - 1) _ H10 (by omega) ⟨i + 1, y10, rfl, by omega, by omega, ?_, q10, ?_⟩
    · rw [ft]
      have : headB ds.length ++ ((ds.take i).flatMap pairB ++ pairB d) = headB ds.length ++ (ds.take i).flatMap pairB ++ [UInt8.ofNat d.key.length] ++ [UInt8.ofNat d.val.length] ++ d.key ++ d.val := by simp [pairB]
      rw [this]; exact b10
    · exact (((((fr.trans (f5.mono fun t _ q => q.elim)).trans (f6.mono fun t _ q => by omega)).trans (ff f7 ho)).trans (ff f8 q7)).trans (ff f9 q8)).trans (ff f10 q9)
  · obtain rfl : i = ds.length := by omega
    have h' : ¬ ((ds.length : Nat) : Int) < (ds.length : Nat) := by omega
    rw [List.take_length] at hB
    have hp : headB ds.length ++ ds.flatMap pairB = packB ds := rfl
    rw [hp] at hB
    have hpl : (packB ds).length ≤ 500000 := by rw [← hp, List.length_append]; have : (headB ds.length).length = 2 := rfl; omega
    simp only [N11_3b, N11_1, h', purK_some, resK_some, boolK_some, condK_true, condK_false, wantV_tt, wantV_tf, wantV_ft, wantV_ff, wantV_t, wantV_f, wantV_skip, Bool.not_true, Bool.not_false, gPur_true, gPur_false, gEff_true, gEff_false, gRes_true, gRes_false, pickA_true, pickA_false, extA_0, extA_1, extA_2, retK_one, retK_none, retK_two, valK_fn, valR_fn, cond_true, cond_false, bin_add, bin_sub, bin_mul, bin_eql, bin_neq, bin_lss, bin_leq, bin_gtr, bin_geq, bin_seql, bin_sneq, un_not_t, un_not_f, un_not, cvI_int, cvT_str, nilChk_ptr, nilChk_xp, addA_ptr, lenT_str, Bool.true_or, Bool.or_true, Bool.false_or, Bool.or_false, Bool.true_and, Bool.and_true, Bool.false_and, Bool.and_false, decide_true, decide_false, Int.reduceEq, Int.reduceLT, Int.reduceLE, Int.reduceNe, Int.reduceAdd, Int.reduceSub, Int.reduceMul, Int.reduceNeg, List.nil_append, List.append_nil, List.cons_append]
    refine Ret.bind (str_spec hB (by simp [packB, headB]) (by omega) (by omega)) ?_
    rintro v H5 ⟨rfl, f5⟩
    refine Ret.bind (seal_spec (packB ds) (by omega) (by omega)) ?_
    rintro v H6 ⟨rfl, f6⟩
    try simp only [purK_some, resK_some, boolK_some, condK_true, condK_false, wantV_tt, wantV_tf, wantV_ft, wantV_ff, wantV_t, wantV_f, wantV_skip, Bool.not_true, Bool.not_false, gPur_true, gPur_false, gEff_true, gEff_false, gRes_true, gRes_false, pickA_true, pickA_false, extA_0, extA_1, extA_2, retK_one, retK_none, retK_two, valK_fn, valR_fn, cond_true, cond_false, bin_add, bin_sub, bin_mul, bin_eql, bin_neq, bin_lss, bin_leq, bin_gtr, bin_geq, bin_seql, bin_sneq, un_not_t, un_not_f, un_not, cvI_int, cvT_str, nilChk_ptr, nilChk_xp, addA_ptr, lenT_str, Bool.true_or, Bool.or_true, Bool.false_or, Bool.or_false, Bool.true_and, Bool.and_true, Bool.false_and, Bool.and_false, decide_true, decide_false, Int.reduceEq, Int.reduceLT, Int.reduceLE, Int.reduceNe, Int.reduceAdd, Int.reduceSub, Int.reduceMul, Int.reduceNeg, List.nil_append, List.append_nil, List.cons_append]
    exact .intro ⟨Or.inl ⟨hok, rfl⟩, f1.trans' ((fr.trans (f5.mono fun t _ q => ho t q)).trans (f6.mono fun t _ q => q.elim)) fun t ht q => by have := f1.sz; omega⟩
theorem awake_spec (hk : 700000 ≤ k) : Ret (fun v H' => v = .bool true ∧ Fr Nop H H') (evCall (cx ρ) k 0 9 [] H) := by
  obtain ⟨k, rfl⟩ : ∃ q, k = q + 1 := ⟨k - 1, by omega⟩
  rw [E9]
  simp only [L9]
  have ok0 : OkP [] := ⟨by simp, fun j h => by simp at h, by simp⟩
  refine Ret.bind (pack_spec (x := .nils) (ds := []) Els.nils (fun t q => q.elim) (by simp) (by simp) (by omega)) ?_
  rintro v H1 ⟨(⟨_, rfl⟩ | ⟨h, _⟩), f1⟩
  · have hl : (sealL (packB [])).length = 10 := by unfold sealL; rw [List.length_append, w8_len]; rfl
    have c10 : ((10 : Nat) : Int) = 10 := rfl
    simp only [hl, c10, purK_some, resK_some, boolK_some, condK_true, condK_false, wantV_tt, wantV_tf, wantV_ft, wantV_ff, wantV_t, wantV_f, wantV_skip, Bool.not_true, Bool.not_false, gPur_true, gPur_false, gEff_true, gEff_false, gRes_true, gRes_false, pickA_true, pickA_false, extA_0, extA_1, extA_2, retK_one, retK_none, retK_two, valK_fn, valR_fn, cond_true, cond_false, bin_add, bin_sub, bin_mul, bin_eql, bin_neq, bin_lss, bin_leq, bin_gtr, bin_geq, bin_seql, bin_sneq, un_not_t, un_not_f, un_not, cvI_int, cvT_str, nilChk_ptr, nilChk_xp, addA_ptr, lenT_str, Bool.true_or, Bool.or_true, Bool.false_or, Bool.or_false, Bool.true_and, Bool.and_true, Bool.false_and, Bool.and_false, decide_true, decide_false, Int.reduceEq, Int.reduceLT, Int.reduceLE, Int.reduceNe, Int.reduceAdd, Int.reduceSub, Int.reduceMul, Int.reduceNeg, List.nil_append, List.append_nil, List.cons_append, ba_size, ba_inj, emp1, emp2]
    exact .intro ⟨rfl, f1⟩
  · exact absurd ok0 h
theorem rpack_spec (hx : Els ρ H 2 x (ds.map PairD.cells)) (hlx : ∀ t, x.lies t → t < H.sz) (hl : ds.length ≤ 1100) (hd : ∀ d ∈ ds, d.key.length ≤ 200 ∧ d.val.length ≤ 200) (hk : 600000 ≤ k) :
    Ret (fun v H' => ((OkP ds ∧ v = .tup [.str (ba (sealL (packB ds))), .int .i64 0]) ∨ (¬ OkP ds ∧ v = .tup [.str (ba []), .int .i64 1])) ∧ Fr Nop H H') (evCall (cx ρ) k 0 12 [x] H) := by
  obtain ⟨k, rfl⟩ : ∃ q, k = q + 1 := ⟨k - 1, by omega⟩
  have lx := hx.lenS
  rw [List.length_map] at lx
  rw [E12]
  simp only [L12]
  refine Ret.bind (rrr_spec hx (by omega) (by omega)) ?_
  rintro v H1 ⟨b, rfl, hb, rfl⟩
  cases b
  · simp only [purK_some, resK_some, boolK_some, condK_true, condK_false, wantV_tt, wantV_tf, wantV_ft, wantV_ff, wantV_t, wantV_f, wantV_skip, Bool.not_true, Bool.not_false, gPur_true, gPur_false, gEff_true, gEff_false, gRes_true, gRes_false, pickA_true, pickA_false, extA_0, extA_1, extA_2, retK_one, retK_none, retK_two, valK_fn, valR_fn, cond_true, cond_false, bin_add, bin_sub, bin_mul, bin_eql, bin_neq, bin_lss, bin_leq, bin_gtr, bin_geq, bin_seql, bin_sneq, un_not_t, un_not_f, un_not, cvI_int, cvT_str, nilChk_ptr, nilChk_xp, addA_ptr, lenT_str, Bool.true_or, Bool.or_true, Bool.false_or, Bool.or_false, Bool.true_and, Bool.and_true, Bool.false_and, Bool.and_false, decide_true, decide_false, Int.reduceEq, Int.reduceLT, Int.reduceLE, Int.reduceNe, Int.reduceAdd, Int.reduceSub, Int.reduceMul, Int.reduceNeg, List.nil_append, List.append_nil, List.cons_append, ba_size, ba_inj, emp1, emp2]
    exact .intro ⟨Or.inr ⟨fun h => (by have := hb.2 h; cases this), rfl⟩, Fr.refl ..⟩
  have hok : OkP ds := hb.1 rfl
  have hlen := hok.len
  have n256 : (256 : Int) ≠ 0 := by decide
  have t1 : (ds.length : Int).tmod 256 = ((ds.length % 256 : Nat) : Int) := tmodN ds.length 256
  have t2 : wrapK .i64 ((ds.length : Int).tdiv 256) = ((ds.length / 256 : Nat) : Int) := tdivN ds.length 256 (by omega)
  have bl : ∀ (H : Heap) (a b : UInt8), bldS H 5 1 [.int .u8 0] 2 [(0, 1, .int .u8 a.toNat), (1, 1, .int .u8 b.toNat)] = some (.sl H.sz 0 0 2 2 false, .new (.cells 0 5 (0, 0) false [.int .u8 a.toNat, .int .u8 b.toNat])) := fun _ _ _ => rfl
  simp only [lx, bin_rem _ _ _ _ _ _ n256, bin_quo _ _ _ _ _ _ n256, t1, t2, u8n, bl, purK_some, resK_some, boolK_some, condK_true, condK_false, wantV_tt, wantV_tf, wantV_ft, wantV_ff, wantV_t, wantV_f, wantV_skip, Bool.not_true, Bool.not_false, gPur_true, gPur_false, gEff_true, gEff_false, gRes_true, gRes_false, pickA_true, pickA_false, extA_0, extA_1, extA_2, retK_one, retK_none, retK_two, valK_fn, valR_fn, cond_true, cond_false, bin_add, bin_sub, bin_mul, bin_eql, bin_neq, bin_lss, bin_leq, bin_gtr, bin_geq, bin_seql, bin_sneq, un_not_t, un_not_f, un_not, cvI_int, cvT_str, nilChk_ptr, nilChk_xp, addA_ptr, lenT_str, Bool.true_or, Bool.or_true, Bool.false_or, Bool.or_false, Bool.true_and, Bool.and_true, Bool.false_and, Bool.and_false, decide_true, decide_false, Int.reduceEq, Int.reduceLT, Int.reduceLE, Int.reduceNe, Int.reduceAdd, Int.reduceSub, Int.reduceMul, Int.reduceNeg, List.nil_append, List.append_nil, List.cons_append]
  clear t1 t2
  refine (St.start Nop H1).newS fun n4 H2 s2 hz2 f2 => ?_
  simp only [N12_2, N12_3]
  have fb := flat_len ds hd
  have hh : (headB ds.length).length = 2 := rfl
  have gf0 : GF H2 5 1 (.sl n4 0 0 2 2 false) (brow (headB ds.length ++ (ds.take 0).flatMap pairB)) := Or.inl ⟨rfl, rfl, rfl, rfl, s2.lt' 0 rfl, brow_one _, (0, 0), false, by rw [s2.at 0 rfl]; rfl⟩
  refine Ret.loop (fun m (y : AV × AV) H' => ∃ i : Nat, ∃ yb, y = (yb, .int .i64 i) ∧ m = ds.length - i ∧ i ≤ ds.length ∧ GF H' 5 1 yb (brow (headB ds.length ++ (ds.take i).flatMap pairB)) ∧ (∀ t, yb.lies t → H1.sz ≤ t) ∧ Fr (fun t => H1.sz ≤ t) H1 H') ?_ ds.length k _ H2 ⟨0, _, rfl, rfl, by omega, gf0, fun t ht => by have e : n4 = t := ht; omega, f2.mono fun t _ q => q.elim⟩ (by omega)
  rintro m y H' kn ⟨i, yb, rfl, hm, hi, hB, ho, fr⟩ next
  have hX := hx.frame _ fr fun t ht q => by have := hlx t ht; omega
  have lx' := hX.lenS
  rw [List.length_map] at lx'
  by_cases h : i < ds.length
  · have h' : (i : Int) < ds.length := by omega
    have hi' : i < (ds.map PairD.cells).length := by rw [List.length_map]; exact h
    have e1 := hX.ix .i64 (i : Int) (by omega) (by rw [List.length_map]; exact h')
    rw [Int.toNat_natCast] at e1
    have a1 := elp_add hX i 0 0 hi'
    have a2 := elp_add hX i 0 1 hi'
    have lds : ∀ Ha, Els ρ Ha 2 x (ds.map PairD.cells) → ld1 ρ Ha (elp 2 x i 0) = some (.str (ba ds[i].key)) ∧ ld1 ρ Ha (elp 2 x i 1) = some (.str (ba ds[i].val)) := by
      intro Ha hE
      have n1 := hE.ld1 i 0 hi' (by decide)
      have n2 := hE.ld1 i 1 hi' (by decide)
      rw [List.getElem_map] at n1 n2
      simp only [PairD.cells, List.getElem?_cons_zero, List.getElem?_cons_succ] at n1 n2
      exact ⟨n1, n2⟩
    have hdi := hd _ (List.getElem_mem h)
    have ft := flat_take ds i h
    have fl : ((ds.take i).flatMap pairB).length ≤ 402 * ds.length := by
      have := flat_len (ds.take i) fun d hd' => hd d (List.mem_of_mem_take hd')
      rw [List.length_take] at this
      omega
    have la := lds H' hX
    have bl0 : (brow (headB ds.length ++ (ds.take i).flatMap pairB)).length ≤ 500000 := by rw [brow_len, List.length_append]; omega
    generalize ds[i] = d at *
    simp only [N12_3b, lx', h', e1, a1, a2, la.1, la.2, u8n, bl, Nat.zero_add, purK_some, resK_some, boolK_some, condK_true, condK_false, wantV_tt, wantV_tf, wantV_ft, wantV_ff, wantV_t, wantV_f, wantV_skip, Bool.not_true, Bool.not_false, gPur_true, gPur_false, gEff_true, gEff_false, gRes_true, gRes_false, pickA_true, pickA_false, extA_0, extA_1, extA_2, retK_one, retK_none, retK_two, valK_fn, valR_fn, cond_true, cond_false, bin_add, bin_sub, bin_mul, bin_eql, bin_neq, bin_lss, bin_leq, bin_gtr, bin_geq, bin_seql, bin_sneq, un_not_t, un_not_f, un_not, cvI_int, cvT_str, nilChk_ptr, nilChk_xp, addA_ptr, lenT_str, Bool.true_or, Bool.or_true, Bool.false_or, Bool.or_false, Bool.true_and, Bool.and_true, Bool.false_and, Bool.and_false, decide_true, decide_false, Int.reduceEq, Int.reduceLT, Int.reduceLE, Int.reduceNe, Int.reduceAdd, Int.reduceSub, Int.reduceMul, Int.reduceNeg, List.nil_append, List.append_nil, List.cons_append, ba_size, ba_inj, emp1, emp2]
    refine (St.start Nop H').mkS rfl fun n5 H5 s5 hz5 f5 => ?_
    have hX5 := hX.frame0 f5
    have lb := lds H5 hX5
    simp only [lb.1, lb.2, a1, a2, u8n, Nat.zero_add, purK_some, resK_some, boolK_some, condK_true, condK_false, wantV_tt, wantV_tf, wantV_ft, wantV_ff, wantV_t, wantV_f, wantV_skip, Bool.not_true, Bool.not_false, gPur_true, gPur_false, gEff_true, gEff_false, gRes_true, gRes_false, pickA_true, pickA_false, extA_0, extA_1, extA_2, retK_one, retK_none, retK_two, valK_fn, valR_fn, cond_true, cond_false, bin_add, bin_sub, bin_mul, bin_eql, bin_neq, bin_lss, bin_leq, bin_gtr, bin_geq, bin_seql, bin_sneq, un_not_t, un_not_f, un_not, cvI_int, cvT_str, nilChk_ptr, nilChk_xp, addA_ptr, lenT_str, Bool.true_or, Bool.or_true, Bool.false_or, Bool.or_false, Bool.true_and, Bool.and_true, Bool.false_and, Bool.and_false, decide_true, decide_false, Int.reduceEq, Int.reduceLT, Int.reduceLE, Int.reduceNe, Int.reduceAdd, Int.reduceSub, Int.reduceMul, Int.reduceNeg, List.nil_append, List.append_nil, List.cons_append, ba_size, ba_inj, emp1, emp2, agn_some, eqv_int, eqv_bool, eqv_str, eqv_nilp, eqv_ptr, eqv_nils, eqv_sl, eqv_sx, eqv_xp, eqv_xs, eqv_nilm, eqv_mp, eqv_nilf, eqv_nili, eqv_tup0, eqv_agg, eqv_tup, eqvs_nil, eqvs_cons, Bool.and_self]
    have hE5 : Els ρ H5 1 (.sl n5 0 0 2 2 false) (brow [UInt8.ofNat d.key.length, UInt8.ofNat d.val.length]) := Els.of_cells (els := brow [_, _]) (e := 5) (fr := (0, 0)) (g := false) (s5.lt' 0 rfl) (by rw [s5.at 0 rfl]; rfl) (brow_one _)
    have hne5 : ∀ t, yb.lies t → t ≠ n5 := fun t ht e => by have := (hB.toEls (ρ := ρ)).lies_lt t ht; omega
    refine Ret.appF (hB.frame Nop f5 fun _ _ q => q) hE5 (by simp [brow]) (brow_solid _) (by rw [brow_len [_, _]]; simp; omega) (by rw [brow_len [_, _]]; simp; omega) ?_
    intro y6 H6 G6 f6 l6 _
    rw [← brow_app] at G6
    have hX6 := hX5.frame _ f6 fun t ht q => by have := hlx t ht; have := ho t q; omega
    have e6 := hX6.ix .i64 (i : Int) (by omega) (by rw [List.length_map]; exact h')
    rw [Int.toNat_natCast] at e6
    have lc := lds H6 hX6
    simp only [e6, a1, lc.1, Nat.zero_add, purK_some, resK_some, boolK_some, condK_true, condK_false, wantV_tt, wantV_tf, wantV_ft, wantV_ff, wantV_t, wantV_f, wantV_skip, Bool.not_true, Bool.not_false, gPur_true, gPur_false, gEff_true, gEff_false, gRes_true, gRes_false, pickA_true, pickA_false, extA_0, extA_1, extA_2, retK_one, retK_none, retK_two, valK_fn, valR_fn, cond_true, cond_false, bin_add, bin_sub, bin_mul, bin_eql, bin_neq, bin_lss, bin_leq, bin_gtr, bin_geq, bin_seql, bin_sneq, un_not_t, un_not_f, un_not, cvI_int, cvT_str, nilChk_ptr, nilChk_xp, addA_ptr, lenT_str, Bool.true_or, Bool.or_true, Bool.false_or, Bool.or_false, Bool.true_and, Bool.and_true, Bool.false_and, Bool.and_false, decide_true, decide_false, Int.reduceEq, Int.reduceLT, Int.reduceLE, Int.reduceNe, Int.reduceAdd, Int.reduceSub, Int.reduceMul, Int.reduceNeg, List.nil_append, List.append_nil, List.cons_append]
    have bl1 : (headB ds.length ++ (ds.take i).flatMap pairB ++ [UInt8.ofNat d.key.length, UInt8.ofNat d.val.length]).length ≤ 500002 := by simp only [List.length_append, List.length_cons, List.length_nil]; omega
    refine Ret.appS G6 (by omega) (by omega) ?_
    intro y7 H7 G7 f7 l7 _
    have zr := fr.sz
    have z5 := f5.sz; have z6 := f6.sz; have z7 := f7.sz
    have q6 : ∀ t, y6.lies t → H1.sz ≤ t := fun t ht => (l6 t ht).elim (ho t) (fun q => by omega)
    have q7 : ∀ t, y7.lies t → H1.sz ≤ t := fun t ht => (l7 t ht).elim (q6 t) (fun q => by omega)
    have hX7 := hX6.frame _ f7 fun t ht q => by have := hlx t ht; have := q6 t q; omega
    have e7 := hX7.ix .i64 (i : Int) (by omega) (by rw [List.length_map]; exact h')
    rw [Int.toNat_natCast] at e7
    have ld := lds H7 hX7
    simp only [N12_5, e7, a2, ld.2, Nat.zero_add, purK_some, resK_some, boolK_some, condK_true, condK_false, wantV_tt, wantV_tf, wantV_ft, wantV_ff, wantV_t, wantV_f, wantV_skip, Bool.not_true, Bool.not_false, gPur_true, gPur_false, gEff_true, gEff_false, gRes_true, gRes_false, pickA_true, pickA_false, extA_0, extA_1, extA_2, retK_one, retK_none, retK_two, valK_fn, valR_fn, cond_true, cond_false, bin_add, bin_sub, bin_mul, bin_eql, bin_neq, bin_lss, bin_leq, bin_gtr, bin_geq, bin_seql, bin_sneq, un_not_t, un_not_f, un_not, cvI_int, cvT_str, nilChk_ptr, nilChk_xp, addA_ptr, lenT_str, Bool.true_or, Bool.or_true, Bool.false_or, Bool.or_false, Bool.true_and, Bool.and_true, Bool.false_and, Bool.and_false, decide_true, decide_false, Int.reduceEq, Int.reduceLT, Int.reduceLE, Int.reduceNe, Int.reduceAdd, Int.reduceSub, Int.reduceMul, Int.reduceNeg, List.nil_append, List.append_nil, List.cons_append]
    have bl2 : (headB ds.length ++ (ds.take i).flatMap pairB ++ [UInt8.ofNat d.key.length, UInt8.ofNat d.val.length] ++ d.key).length ≤ 500202 := by rw [List.length_append]; omega
    refine Ret.appS G7 (by omega) (by omega) ?_
    intro y8 H8 G8 f8 l8 _
    have q8 : ∀ t, y8.lies t → H1.sz ≤ t := fun t ht => (l8 t ht).elim (q7 t) (fun q => by omega)
    simp only [N12_4, wrap_succN i (by omega : i + 1 < 9223372036854775808), purK_some, resK_some, boolK_some, condK_true, condK_false, wantV_tt, wantV_tf, wantV_ft, wantV_ff, wantV_t, wantV_f, wantV_skip, Bool.not_true, Bool.not_false, gPur_true, gPur_false, gEff_true, gEff_false, gRes_true, gRes_false, pickA_true, pickA_false, extA_0, extA_1, extA_2, retK_one, retK_none, retK_two, valK_fn, valR_fn, cond_true, cond_false, bin_add, bin_sub, bin_mul, bin_eql, bin_neq, bin_lss, bin_leq, bin_gtr, bin_geq, bin_seql, bin_sneq, un_not_t, un_not_f, un_not, cvI_int, cvT_str, nilChk_ptr, nilChk_xp, addA_ptr, lenT_str, Bool.true_or, Bool.or_true, Bool.false_or, Bool.or_false, Bool.true_and, Bool.and_true, Bool.false_and, Bool.and_false, decide_true, decide_false, Int.reduceEq, Int.reduceLT, Int.reduceLE, Int.reduceNe, Int.reduceAdd, Int.reduceSub, Int.reduceMul, Int.reduceNeg, List.nil_append, List.append_nil, List.cons_append]
    refine next (m - 1) _ H8 (by omega) ⟨i + 1, y8, rfl, by omega, by omega, Or.inr ?_, q8, ?_⟩
    · rw [ft]
      have : headB ds.length ++ ((ds.take i).flatMap pairB ++ pairB d) = headB ds.length ++ (ds.take i).flatMap pairB ++ [UInt8.ofNat d.key.length, UInt8.ofNat d.val.length] ++ d.key ++ d.val := by simp [pairB]
      rw [this]; exact G8
    · exact (((fr.trans (f5.mono fun t _ q => q.elim)).trans (f6.mono fun t _ q => ho t q)).trans (f7.mono fun t _ q => q6 t q)).trans (f8.mono fun t _ q => q7 t q)
  · obtain rfl : i = ds.length := by omega
    have h' : ¬ ((ds.length : Nat) : Int) < (ds.length : Nat) := by omega
    rw [List.take_length] at hB
    have hp : headB ds.length ++ ds.flatMap pairB = packB ds := rfl
    rw [hp] at hB
    have hpl : (packB ds).length ≤ 500000 := by rw [← hp, List.length_append]; omega
    have eb := b2s_brow (ρ := ρ) hB.toEls hB.notSx
    simp only [N12_3b, N12_1, lx', h', eb, purK_some, resK_some, boolK_some, condK_true, condK_false, wantV_tt, wantV_tf, wantV_ft, wantV_ff, wantV_t, wantV_f, wantV_skip, Bool.not_true, Bool.not_false, gPur_true, gPur_false, gEff_true, gEff_false, gRes_true, gRes_false, pickA_true, pickA_false, extA_0, extA_1, extA_2, retK_one, retK_none, retK_two, valK_fn, valR_fn, cond_true, cond_false, bin_add, bin_sub, bin_mul, bin_eql, bin_neq, bin_lss, bin_leq, bin_gtr, bin_geq, bin_seql, bin_sneq, un_not_t, un_not_f, un_not, cvI_int, cvT_str, nilChk_ptr, nilChk_xp, addA_ptr, lenT_str, Bool.true_or, Bool.or_true, Bool.false_or, Bool.or_false, Bool.true_and, Bool.and_true, Bool.false_and, Bool.and_false, decide_true, decide_false, Int.reduceEq, Int.reduceLT, Int.reduceLE, Int.reduceNe, Int.reduceAdd, Int.reduceSub, Int.reduceMul, Int.reduceNeg, List.nil_append, List.append_nil, List.cons_append]
    refine Ret.bind (rseal_spec (packB ds) (by omega) (by omega)) ?_
    rintro v H6 ⟨rfl, f6⟩
    try simp only [purK_some, resK_some, boolK_some, condK_true, condK_false, wantV_tt, wantV_tf, wantV_ft, wantV_ff, wantV_t, wantV_f, wantV_skip, Bool.not_true, Bool.not_false, gPur_true, gPur_false, gEff_true, gEff_false, gRes_true, gRes_false, pickA_true, pickA_false, extA_0, extA_1, extA_2, retK_one, retK_none, retK_two, valK_fn, valR_fn, cond_true, cond_false, bin_add, bin_sub, bin_mul, bin_eql, bin_neq, bin_lss, bin_leq, bin_gtr, bin_geq, bin_seql, bin_sneq, un_not_t, un_not_f, un_not, cvI_int, cvT_str, nilChk_ptr, nilChk_xp, addA_ptr, lenT_str, Bool.true_or, Bool.or_true, Bool.false_or, Bool.or_false, Bool.true_and, Bool.and_true, Bool.false_and, Bool.and_false, decide_true, decide_false, Int.reduceEq, Int.reduceLT, Int.reduceLE, Int.reduceNe, Int.reduceAdd, Int.reduceSub, Int.reduceMul, Int.reduceNeg, List.nil_append, List.append_nil, List.cons_append]
    exact .intro ⟨Or.inl ⟨hok, rfl⟩, (fr.trans (f6.mono fun t _ q => q.elim)).mono fun t ht q => by omega⟩
end
end Go.Proofs.Ytkmohjddojpdjaa

-- part DnE
/- strings.Repeat of one byte; a cutter's taking. -/
set_option linter.unusedVariables false
set_option linter.unusedSimpArgs false
namespace Go.Proofs.Ytkmohjddojpdjaa
attribute [local congr] Go.Ev.cond_congr1
open Go.Ev Go.RowKit
structure Bd (H : Heap) (l b : Nat) (w : UInt8) (j n m : Nat) : Prop where
  top : H.get l = .cells 0 73 (0, 0) false [.ptr l 0 0, .sl b 0 0 j (j + n) true]
  row : H.get b = .cells 0 5 (0, m) true (rowOf w j n)
  lt : l < H.sz
  lt2 : b < H.sz
  ne : l ≠ b
  le : m ≤ j
section
variable {ρ : Addr → Option Value} {k : Nat} {H : Heap} {l b : Nat} {w : UInt8} {j n m : Nat}
theorem len_spec (h : Bd H l b w j n m) : evCall (cx ρ) (k + 1) 0 82 [.ptr l 0 0] H = some (.int .i64 j, H) := by
  have hg := h.top
  rw [E82]
  simp (disch := first | ((try simp only [szn, szp, List.length_cons, List.length_nil, List.length_set, List.all_cons, List.all_nil, Bool.and_true, scal_int, sol_int, scal_bool, sol_bool, scal_str, sol_str, scal_nilp, sol_nilp, scal_ptr, sol_ptr, scal_nils, sol_nils, scal_sl, sol_sl, scal_sx, sol_sx, scal_xp, sol_xp, scal_xs, sol_xs, scal_nilm, sol_nilm, scal_mp, sol_mp, scal_nilf, sol_nilf, scal_fn, sol_fn, scal_nili, sol_nili, scal_ifc, sol_ifc]) <;> omega) | with_unfolding_all rfl) only [L82, hg, lenS, purK_some, resK_some, boolK_some, condK_true, condK_false, wantV_tt, wantV_tf, wantV_ft, wantV_ff, wantV_t, wantV_f, wantV_skip, Bool.not_true, Bool.not_false, gPur_true, gPur_false, gEff_true, gEff_false, gRes_true, gRes_false, pickA_true, pickA_false, extA_0, extA_1, extA_2, retK_one, retK_none, retK_two, valK_fn, valR_fn, cond_true, cond_false, bin_add, bin_sub, bin_mul, bin_eql, bin_neq, bin_lss, bin_leq, bin_gtr, bin_geq, bin_seql, bin_sneq, un_not_t, un_not_f, un_not, cvI_int, cvT_str, nilChk_ptr, nilChk_xp, addA_ptr, lenT_str, Bool.true_or, Bool.or_true, Bool.false_or, Bool.or_false, Bool.true_and, Bool.and_true, Bool.false_and, Bool.and_false, decide_true, decide_false, Int.reduceEq, Int.reduceLT, Int.reduceLE, Int.reduceNe, Int.reduceAdd, Int.reduceSub, Int.reduceMul, Int.reduceNeg, List.nil_append, List.append_nil, List.cons_append, effK_new, effK_put, effK_nothing, on_new, on_put, on_nothing, ld1_ptr, ldN_ptr, stA_one_ptr, stA_agg_ptr, ldC_cells, ldCN_cells, stC_one, stC_many, lay_all, lay_one, newCells_eq, get_new_at, get_put_at, Heap.get_new_ne, Heap.get_put_ne, szn, szp, box1, boxA_agg, List.getElem?_cons_zero, List.getElem?_cons_succ, List.drop_zero, List.drop_succ_cons, List.take_zero, List.take_succ_cons, List.set_cons_zero, List.set_cons_succ, Nat.zero_add, Nat.add_zero, Nat.reduceAdd]
theorem wsr_spec (h : Bd H l b w j n m) (c : Nat) (hc : c ≤ n) (hn : j + n < 9223372036854775807) : ∃ H', evCall (cx ρ) (k + 3) 0 33 [.ptr l 0 0, .str (rep w c)] H = some (.tup [.int .i64 c, .nili], H') ∧ Bd H' l b w (j + c) (n - c) m ∧ Fr (fun t => t = l ∨ t = b) H H' := by
  have hg := h.top
  have hne := h.ne
  have ap := apA_rep (ρ := ρ) (by_ := 1) (mm := true) h.row h.le hc
  have hg2 : (H.put b (.cells 0 5 (0, m) true (rowOf w (j + c) (n - c)))).get l = .cells 0 73 (0, 0) false [.ptr l 0 0, .sl b 0 0 j (j + n) true] := by rw [Heap.get_put, if_neg hne, hg]
  refine ⟨(H.put b (.cells 0 5 (0, m) true (rowOf w (j + c) (n - c)))).put l (.cells 0 73 (0, 0) false [.ptr l 0 0, .sl b 0 0 (j + c) (j + n) true]), ?_, ⟨?_, ?_, ?_, ?_, hne, ?_⟩, ?_⟩
  · rw [E33]
    simp (disch := first | ((try simp only [szn, szp, List.length_cons, List.length_nil, List.length_set, List.all_cons, List.all_nil, Bool.and_true, scal_int, sol_int, scal_bool, sol_bool, scal_str, sol_str, scal_nilp, sol_nilp, scal_ptr, sol_ptr, scal_nils, sol_nils, scal_sl, sol_sl, scal_sx, sol_sx, scal_xp, sol_xp, scal_xs, sol_xs, scal_nilm, sol_nilm, scal_mp, sol_mp, scal_nilf, sol_nilf, scal_fn, sol_fn, scal_nili, sol_nili, scal_ifc, sol_ifc]) <;> omega) | with_unfolding_all rfl) only [L33, cc1 hg, hg, ap, hg2, effK_put, rep_size, purK_some, resK_some, boolK_some, condK_true, condK_false, wantV_tt, wantV_tf, wantV_ft, wantV_ff, wantV_t, wantV_f, wantV_skip, Bool.not_true, Bool.not_false, gPur_true, gPur_false, gEff_true, gEff_false, gRes_true, gRes_false, pickA_true, pickA_false, extA_0, extA_1, extA_2, retK_one, retK_none, retK_two, valK_fn, valR_fn, cond_true, cond_false, bin_add, bin_sub, bin_mul, bin_eql, bin_neq, bin_lss, bin_leq, bin_gtr, bin_geq, bin_seql, bin_sneq, un_not_t, un_not_f, un_not, cvI_int, cvT_str, nilChk_ptr, nilChk_xp, addA_ptr, lenT_str, Bool.true_or, Bool.or_true, Bool.false_or, Bool.or_false, Bool.true_and, Bool.and_true, Bool.false_and, Bool.and_false, decide_true, decide_false, Int.reduceEq, Int.reduceLT, Int.reduceLE, Int.reduceNe, Int.reduceAdd, Int.reduceSub, Int.reduceMul, Int.reduceNeg, List.nil_append, List.append_nil, List.cons_append, effK_new, effK_put, effK_nothing, on_new, on_put, on_nothing, ld1_ptr, ldN_ptr, stA_one_ptr, stA_agg_ptr, ldC_cells, ldCN_cells, stC_one, stC_many, lay_all, lay_one, newCells_eq, get_new_at, get_put_at, Heap.get_new_ne, Heap.get_put_ne, szn, szp, box1, boxA_agg, List.getElem?_cons_zero, List.getElem?_cons_succ, List.drop_zero, List.drop_succ_cons, List.take_zero, List.take_succ_cons, List.set_cons_zero, List.set_cons_succ, Nat.zero_add, Nat.add_zero, Nat.reduceAdd]
  · rw [Heap.get_put_same, show j + n = j + c + (n - c) by omega]
  · rw [Heap.get_put, if_neg (Ne.symm hne), Heap.get_put_same]
  · rw [szp, szp]; exact h.lt
  · rw [szp, szp]; exact h.lt2
  · have := h.le; omega
  · exact (Fr.put _ _ _ (S := fun t => t = l ∨ t = b) fun _ => Or.inr rfl).trans (Fr.put _ _ _ fun _ => Or.inl rfl)
theorem mnz_spec (hn : (n : Int) ≤ 281474976710656) : evCall (cx ρ) (k + 1) 0 108 [.int .i64 n] H = some (.sl H.sz 0 0 n n true, H.new (.cells 0 5 (0, 0) true (List.replicate n .any))) := by
  have h : evCall (cx ρ) (k + 1) 0 108 [.int .i64 n] H = (noZeroA Try.prog H 65 n).bind fun r => applyK false H r.2 fun H => some (r.1, H) := by kernel_rfl
  have hu : Try.prog.underlying 65 = some (.slice 5) := by kernel_rfl
  have hs : szA Try.prog 5 = some 1 := by kernel_rfl
  have h1 : (0 : Int) ≤ n := by omega
  rw [h]
  simp only [noZeroA, hu, hs, Option.bind_some, Nat.beq_refl, h1, hn, decide_true, Bool.and_self, cond_true, Int.toNat_natCast]
  rfl
theorem cp_spec {b v o c e : Nat} {g mm : Bool} {cs : List AV} (hg : H.get b = .cells v e (0, 0) g cs) (ho : o ≤ cs.length) : builtinA (cx ρ) 0 H .copy #[65, 65] [.sl b v o 0 c mm, .nils] = some (.int .i64 0, .put b (.cells v e (0, 0) g cs)) := by
  have h : builtinA (cx ρ) 0 H .copy #[65, 65] [.sl b v o 0 c mm, .nils] = (storeN 0 H [] (.ptr b v o)).map fun f => (.int .i64 0, f) := by kernel_rfl
  rw [h, storeN_of [] o hg (by simpa using ho) rfl]
  simp [layA]
theorem grow_spec (n : Nat) (hn : n < 1000) (h0 : 0 < n) (hl : l < H.sz) (hg : H.get l = .cells 0 73 (0, 0) false [.nilp, .nils]) :
    ∃ H', evCall (cx ρ) (k + 4) 0 81 [.ptr l 0 0, .int .i64 n] H = some (.tup [], H') ∧ Bd H' l H.sz w 0 n 0 ∧ Fr (fun t => t = l) H H' := by
  obtain ⟨H1, hH1⟩ : ∃ H1, H1 = H.put l (.cells 0 73 (0, 0) false [.ptr l 0 0, .nils]) := ⟨_, rfl⟩
  have hz1 : H1.sz = H.sz := by rw [hH1, szp]
  have g1 : H1.get l = .cells 0 73 (0, 0) false [.ptr l 0 0, .nils] := by rw [hH1, Heap.get_put_same]
  obtain ⟨H2, hH2⟩ : ∃ H2, H2 = H1.new (.cells 0 5 (0, 0) true (List.replicate n .any)) := ⟨_, rfl⟩
  have hz2 : H2.sz = H.sz + 1 := by rw [hH2, szn, hz1]
  have g2 : H2.get l = .cells 0 73 (0, 0) false [.ptr l 0 0, .nils] := by rw [hH2, Heap.get_new, if_neg (by omega), g1]
  have g2b : H2.get H.sz = .cells 0 5 (0, 0) true (List.replicate n .any) := by rw [hH2, ← hz1, Heap.get_new_same]
  obtain ⟨H3, hH3⟩ : ∃ H3, H3 = H2.put H.sz (.cells 0 5 (0, 0) true (List.replicate n .any)) := ⟨_, rfl⟩
  have hz3 : H3.sz = H.sz + 1 := by rw [hH3, szp, hz2]
  have g3 : H3.get l = .cells 0 73 (0, 0) false [.ptr l 0 0, .nils] := by rw [hH3, Heap.get_put, if_neg (by omega), g2]
  have g3b : H3.get H.sz = .cells 0 5 (0, 0) true (List.replicate n .any) := by rw [hH3, Heap.get_put_same]
  have e1 := cc0 (ρ := ρ) (k := k + 1) hg
  have e2 := mnz_spec (ρ := ρ) (k := k + 1) (H := H1) (n := n) (by omega)
  have e3 := cp_spec (ρ := ρ) (H := H2) (c := n) (mm := true) (o := 0) g2b (by omega)
  have e4 : slS 1 (.sl H.sz 0 0 n n true) none (some (.int .i64 0)) none = some (.sl H.sz 0 0 0 n true) := by
    have q : Nat.ble n n = true := Nat.ble_eq_true_of_le (Nat.le_refl _)
    have q2 : ((0 : Nat) == n) = false := by simp; omega
    have q3 : (0 : Int) ≤ n := by omega
    simp [slS, sliceSl, boundsA, boundA, Ev.asInt, q, q2, q3]
  have h1 : ¬ (n : Int) < 0 := by omega
  have h2 : (0 : Int) < n := by omega
  have h3 : wrapK .i64 (n : Int) = n := wrap_nat n (by omega)
  refine ⟨H3.put l (.cells 0 73 (0, 0) false [.ptr l 0 0, .sl H.sz 0 0 0 n true]), ?_, ⟨?_, ?_, ?_, ?_, ?_, ?_⟩, ?_⟩
  · rw [E81]
    have hgr : evCall (cx ρ) (k + 3) 0 101 [.ptr l 0 0, .int .i64 n] H1 = some (.tup [], H3.put l (.cells 0 73 (0, 0) false [.ptr l 0 0, .sl H.sz 0 0 0 n true])) := by
      rw [E101]
      have w0 : wrapK .i64 (0 : Int) = 0 := by decide
      simp (disch := first | ((try simp only [szn, szp, List.length_cons, List.length_nil, List.length_set, List.all_cons, List.all_nil, Bool.and_true, scal_int, sol_int, scal_bool, sol_bool, scal_str, sol_str, scal_nilp, sol_nilp, scal_ptr, sol_ptr, scal_nils, sol_nils, scal_sl, sol_sl, scal_sx, sol_sx, scal_xp, sol_xp, scal_xs, sol_xs, scal_nilm, sol_nilm, scal_mp, sol_mp, scal_nilf, sol_nilf, scal_fn, sol_fn, scal_nili, sol_nili, scal_ifc, sol_ifc]) <;> omega) | with_unfolding_all rfl) only [L101, g1, capS, lenS, w0, h3, Int.zero_add, Int.natCast_zero, e2, ← hH2, g2, hz1, agn_some, eqv_int, eqv_nils, eqv_sl, e4, e3, effK_put, ← hH3, g3, purK_some, resK_some, boolK_some, condK_true, condK_false, wantV_tt, wantV_tf, wantV_ft, wantV_ff, wantV_t, wantV_f, wantV_skip, Bool.not_true, Bool.not_false, gPur_true, gPur_false, gEff_true, gEff_false, gRes_true, gRes_false, pickA_true, pickA_false, extA_0, extA_1, extA_2, retK_one, retK_none, retK_two, valK_fn, valR_fn, cond_true, cond_false, bin_add, bin_sub, bin_mul, bin_eql, bin_neq, bin_lss, bin_leq, bin_gtr, bin_geq, bin_seql, bin_sneq, un_not_t, un_not_f, un_not, cvI_int, cvT_str, nilChk_ptr, nilChk_xp, addA_ptr, lenT_str, Bool.true_or, Bool.or_true, Bool.false_or, Bool.or_false, Bool.true_and, Bool.and_true, Bool.false_and, Bool.and_false, decide_true, decide_false, Int.reduceEq, Int.reduceLT, Int.reduceLE, Int.reduceNe, Int.reduceAdd, Int.reduceSub, Int.reduceMul, Int.reduceNeg, List.nil_append, List.append_nil, List.cons_append, effK_new, effK_put, effK_nothing, on_new, on_put, on_nothing, ld1_ptr, ldN_ptr, stA_one_ptr, stA_agg_ptr, ldC_cells, ldCN_cells, stC_one, stC_many, lay_all, lay_one, newCells_eq, get_new_at, get_put_at, Heap.get_new_ne, Heap.get_put_ne, szn, szp, box1, boxA_agg, List.getElem?_cons_zero, List.getElem?_cons_succ, List.drop_zero, List.drop_succ_cons, List.take_zero, List.take_succ_cons, List.set_cons_zero, List.set_cons_succ, Nat.zero_add, Nat.add_zero, Nat.reduceAdd]
    have w0 : wrapK .i64 (0 : Int) = 0 := by decide
    simp (disch := first | ((try simp only [szn, szp, List.length_cons, List.length_nil, List.length_set, List.all_cons, List.all_nil, Bool.and_true, scal_int, sol_int, scal_bool, sol_bool, scal_str, sol_str, scal_nilp, sol_nilp, scal_ptr, sol_ptr, scal_nils, sol_nils, scal_sl, sol_sl, scal_sx, sol_sx, scal_xp, sol_xp, scal_xs, sol_xs, scal_nilm, sol_nilm, scal_mp, sol_mp, scal_nilf, sol_nilf, scal_fn, sol_fn, scal_nili, sol_nili, scal_ifc, sol_ifc]) <;> omega) | with_unfolding_all rfl) only [L81, N81_1, e1, ← hH1, h1, g1, capS, lenS, Int.natCast_zero, w0, h2, hgr, purK_some, resK_some, boolK_some, condK_true, condK_false, wantV_tt, wantV_tf, wantV_ft, wantV_ff, wantV_t, wantV_f, wantV_skip, Bool.not_true, Bool.not_false, gPur_true, gPur_false, gEff_true, gEff_false, gRes_true, gRes_false, pickA_true, pickA_false, extA_0, extA_1, extA_2, retK_one, retK_none, retK_two, valK_fn, valR_fn, cond_true, cond_false, bin_add, bin_sub, bin_mul, bin_eql, bin_neq, bin_lss, bin_leq, bin_gtr, bin_geq, bin_seql, bin_sneq, un_not_t, un_not_f, un_not, cvI_int, cvT_str, nilChk_ptr, nilChk_xp, addA_ptr, lenT_str, Bool.true_or, Bool.or_true, Bool.false_or, Bool.or_false, Bool.true_and, Bool.and_true, Bool.false_and, Bool.and_false, decide_true, decide_false, Int.reduceEq, Int.reduceLT, Int.reduceLE, Int.reduceNe, Int.reduceAdd, Int.reduceSub, Int.reduceMul, Int.reduceNeg, List.nil_append, List.append_nil, List.cons_append, effK_new, effK_put, effK_nothing, on_new, on_put, on_nothing, ld1_ptr, ldN_ptr, stA_one_ptr, stA_agg_ptr, ldC_cells, ldCN_cells, stC_one, stC_many, lay_all, lay_one, newCells_eq, get_new_at, get_put_at, Heap.get_new_ne, Heap.get_put_ne, szn, szp, box1, boxA_agg, List.getElem?_cons_zero, List.getElem?_cons_succ, List.drop_zero, List.drop_succ_cons, List.take_zero, List.take_succ_cons, List.set_cons_zero, List.set_cons_succ, Nat.zero_add, Nat.add_zero, Nat.reduceAdd]
  · rw [Heap.get_put_same, Nat.zero_add]
  · rw [Heap.get_put, if_neg (by omega), g3b]; simp [rowOf]
  · rw [szp]; omega
  · rw [szp]; omega
  · omega
  · omega
  · have f1 : Fr (fun t => t = l) H H1 := hH1 ▸ Fr.put _ _ _ fun _ => rfl
    have f2 : Fr (fun t => t = l) H1 H2 := hH2 ▸ Fr.new _ _ _
    have f3 : Fr (fun t => t = H.sz) H2 H3 := hH3 ▸ Fr.put _ _ _ fun _ => rfl
    have f4 : Fr (fun t => t = l) H3 (H3.put l (.cells 0 73 (0, 0) false [.ptr l 0 0, .sl H.sz 0 0 0 n true])) := Fr.put _ _ _ fun _ => rfl
    exact (((f1.trans f2).trans' f3 (fun t ht q => by omega)).trans f4)
theorem strr_spec (h : Bd H l b w j n m) (h0 : 0 < j) (hn : j + n < 1000) : ∃ H', evCall (cx ρ) (k + 1) 0 35 [.ptr l 0 0] H = some (.str (rep w j), H') ∧ Bd H' l b w j n j ∧ Fr (fun t => t = b) H H' := by
  have hg := h.top
  have e1 : builtinA (cx ρ) 0 H .unsafeSliceData #[65] [.sl b 0 0 j (j + n) true] = some (.ptr b 0 0, .nothing) := by
    have q : Nat.beq (j + n) 0 = false := by
      cases hq : Nat.beq (j + n) 0 with
      | false => rfl
      | true => have := Nat.eq_of_beq_eq_true hq; omega
    show (sliceDataA (.sl b 0 0 j (j + n) true)).map Go.Ev.nothing = _
    simp only [sliceDataA, q, cond_false, Option.map_some]; rfl
  have hp : Try.prog.underlying 113 = some (.pointer 5) := by kernel_rfl
  have hc : Try.prog.cellsOf 5 = 1 := by kernel_rfl
  have e2 : builtinA (cx ρ) 0 H .unsafeString #[113, 3] [.ptr b 0 0, .int .i64 j] = some (.str (rep w j), .put b (.cells 0 5 (0, j) true (rowOf w j n))) := by
    show (bif Nat.beq 2 2 then unsafeStringA (cx ρ) 0 H 113 (.ptr b 0 0) (.int .i64 j) else none) = _
    have b9 : Nat.beq 2 2 = true := rfl
    have hp' : (cx ρ).P.underlying 113 = some (.pointer 5) := hp
    have hc' : (cx ρ).P.cellsOf 5 = 1 := hc
    rw [b9, cond_true]
    exact usA_of hp' hc' h.row h.le h0 (by omega)
  refine ⟨H.put b (.cells 0 5 (0, j) true (rowOf w j n)), ?_, ⟨?_, ?_, ?_, ?_, h.ne, ?_⟩, ?_⟩
  · rw [E35]
    simp (disch := first | ((try simp only [szn, szp, List.length_cons, List.length_nil, List.length_set, List.all_cons, List.all_nil, Bool.and_true, scal_int, sol_int, scal_bool, sol_bool, scal_str, sol_str, scal_nilp, sol_nilp, scal_ptr, sol_ptr, scal_nils, sol_nils, scal_sl, sol_sl, scal_sx, sol_sx, scal_xp, sol_xp, scal_xs, sol_xs, scal_nilm, sol_nilm, scal_mp, sol_mp, scal_nilf, sol_nilf, scal_fn, sol_fn, scal_nili, sol_nili, scal_ifc, sol_ifc]) <;> omega) | with_unfolding_all rfl) only [L35, hg, lenS, e1, effK_nothing, agn_some, eqv_int, eqv_nils, eqv_sl, e2, effK_put, purK_some, resK_some, boolK_some, condK_true, condK_false, wantV_tt, wantV_tf, wantV_ft, wantV_ff, wantV_t, wantV_f, wantV_skip, Bool.not_true, Bool.not_false, gPur_true, gPur_false, gEff_true, gEff_false, gRes_true, gRes_false, pickA_true, pickA_false, extA_0, extA_1, extA_2, retK_one, retK_none, retK_two, valK_fn, valR_fn, cond_true, cond_false, bin_add, bin_sub, bin_mul, bin_eql, bin_neq, bin_lss, bin_leq, bin_gtr, bin_geq, bin_seql, bin_sneq, un_not_t, un_not_f, un_not, cvI_int, cvT_str, nilChk_ptr, nilChk_xp, addA_ptr, lenT_str, Bool.true_or, Bool.or_true, Bool.false_or, Bool.or_false, Bool.true_and, Bool.and_true, Bool.false_and, Bool.and_false, decide_true, decide_false, Int.reduceEq, Int.reduceLT, Int.reduceLE, Int.reduceNe, Int.reduceAdd, Int.reduceSub, Int.reduceMul, Int.reduceNeg, List.nil_append, List.append_nil, List.cons_append, effK_new, effK_put, effK_nothing, on_new, on_put, on_nothing, ld1_ptr, ldN_ptr, stA_one_ptr, stA_agg_ptr, ldC_cells, ldCN_cells, stC_one, stC_many, lay_all, lay_one, newCells_eq, get_new_at, get_put_at, Heap.get_new_ne, Heap.get_put_ne, szn, szp, box1, boxA_agg, List.getElem?_cons_zero, List.getElem?_cons_succ, List.drop_zero, List.drop_succ_cons, List.take_zero, List.take_succ_cons, List.set_cons_zero, List.set_cons_succ, Nat.zero_add, Nat.add_zero, Nat.reduceAdd]
  · rw [Heap.get_put, if_neg h.ne, hg]
  · rw [Heap.get_put_same]
  · rw [szp]; exact h.lt
  · rw [szp]; exact h.lt2
  · omega
  · exact Fr.put _ _ _ fun _ => rfl
theorem and_mask {n : Nat} (h : n < 4294967296) : Go.bits .and .u64 (n : Int) 4294967295 = n := by
  rw [and_bv, BitVec.toNat_and, bv_of (show U64 n by unfold U64; omega), bv_of (show U64 4294967295 by unfold U64; omega)]
  have e : (4294967295 : Int).toNat = 2 ^ 32 - 1 := by decide
  rw [Int.toNat_natCast, e, Nat.and_two_pow_sub_one_eq_mod, Nat.mod_eq_of_lt (by omega)]
theorem mul_spec (n : Nat) (hn : n < 1000) : evCall (cx ρ) (k + 2) 0 79 [.int .u64 1, .int .u64 n] H = some (.tup [.int .u64 0, .int .u64 n], H) := by
  have g : (0 : Int) ≤ 32 := by decide
  have s1 : ∀ a : Int, a.fdiv (2 ^ min (32 : Int).toNat IntKind.u64.bits) = a / 4294967296 := fun a => Int.fdiv_eq_ediv_of_nonneg a (by decide)
  have a1 : Go.bits .and .u64 1 4294967295 = 1 := by decide +kernel
  have a0 : Go.bits .and .u64 0 4294967295 = 0 := by decide +kernel
  have a2 := and_mask (n := n) (by omega)
  have d1 : (1 : Int) / 4294967296 = 0 := by decide
  have d2 : (n : Int) / 4294967296 = 0 := by omega
  have d0 : (0 : Int) / 4294967296 = 0 := by decide
  have u0 : wrapK .u64 0 = 0 := by decide
  have un : wrapK .u64 (n : Int) = n := wrap_u64 _ (by omega)
  rw [E79]
  simp only [L79, N79_1, E99, L99, N99_1, bin_and, bin_shr _ _ _ _ _ _ _ g, s1, a0, a1, a2, d0, d1, d2, u0, un, Int.one_mul, Int.zero_mul, Int.mul_zero, Int.add_zero, Int.zero_add, purK_some, resK_some, boolK_some, condK_true, condK_false, wantV_tt, wantV_tf, wantV_ft, wantV_ff, wantV_t, wantV_f, wantV_skip, Bool.not_true, Bool.not_false, gPur_true, gPur_false, gEff_true, gEff_false, gRes_true, gRes_false, pickA_true, pickA_false, extA_0, extA_1, extA_2, retK_one, retK_none, retK_two, valK_fn, valR_fn, cond_true, cond_false, bin_add, bin_sub, bin_mul, bin_eql, bin_neq, bin_lss, bin_leq, bin_gtr, bin_geq, bin_seql, bin_sneq, un_not_t, un_not_f, un_not, cvI_int, cvT_str, nilChk_ptr, nilChk_xp, addA_ptr, lenT_str, Bool.true_or, Bool.or_true, Bool.false_or, Bool.or_false, Bool.true_and, Bool.and_true, Bool.false_and, Bool.and_false, decide_true, decide_false, Int.reduceEq, Int.reduceLT, Int.reduceLE, Int.reduceNe, Int.reduceAdd, Int.reduceSub, Int.reduceMul, Int.reduceNeg, List.nil_append, List.append_nil, List.cons_append]
theorem min_of (a b c : Int) : foldsA minA [.int .i64 a, .int .i64 b, .int .i64 c] = some (.int .i64 (if c < (if b < a then b else a) then c else if b < a then b else a)) := (rfl)
theorem slT_rep (w : UInt8) (j c : Nat) (h : c ≤ j) : slT (.str (rep w j)) none (some (.int .i64 c)) = some (.str (rep w c)) := by
  have h1 : (0 : Int) ≤ c := by omega
  simp [slT, boundsA, boundA, Ev.asInt, rep_size, h, h1, rep_cut]
theorem repj (call : CallF) (yc : YieldF) (x0 x7 : AV) (kn : AV → AV → Heap → Res) (R : List AV → Heap → Res) : N63_9 ρ call yc 0 k x0 x7 (.bool false) H kn R = kn x0 x7 H := (rfl)
theorem rep_spec (w : UInt8) (h1 : (w.toNat : Int) = 0) (n : Nat) (hn : n < 500) (k : Nat) (hk : 600 ≤ k) :
    ∃ H', evCall (cx ρ) (k + 30) 0 63 [.str (rep w 1), .int .i64 n] H = some (.str (rep w n), H') ∧ Fr Nop H H' := by
  rw [E63]
  have hn0 : n = 0 ∨ n = 1 ∨ 2 ≤ n := by omega
  rcases hn0 with rfl | rfl | h2n
  · refine ⟨H, ?_, Fr.refl ..⟩
    simp only [L63, Int.natCast_zero, purK_some, resK_some, boolK_some, condK_true, condK_false, wantV_tt, wantV_tf, wantV_ft, wantV_ff, wantV_t, wantV_f, wantV_skip, Bool.not_true, Bool.not_false, gPur_true, gPur_false, gEff_true, gEff_false, gRes_true, gRes_false, pickA_true, pickA_false, extA_0, extA_1, extA_2, retK_one, retK_none, retK_two, valK_fn, valR_fn, cond_true, cond_false, bin_add, bin_sub, bin_mul, bin_eql, bin_neq, bin_lss, bin_leq, bin_gtr, bin_geq, bin_seql, bin_sneq, un_not_t, un_not_f, un_not, cvI_int, cvT_str, nilChk_ptr, nilChk_xp, addA_ptr, lenT_str, Bool.true_or, Bool.or_true, Bool.false_or, Bool.or_false, Bool.true_and, Bool.and_true, Bool.false_and, Bool.and_false, decide_true, decide_false, Int.reduceEq, Int.reduceLT, Int.reduceLE, Int.reduceNe, Int.reduceAdd, Int.reduceSub, Int.reduceMul, Int.reduceNeg, List.nil_append, List.append_nil, List.cons_append]
    rfl
  · refine ⟨H, ?_, Fr.refl ..⟩
    simp only [L63, Int.natCast_one, purK_some, resK_some, boolK_some, condK_true, condK_false, wantV_tt, wantV_tf, wantV_ft, wantV_ff, wantV_t, wantV_f, wantV_skip, Bool.not_true, Bool.not_false, gPur_true, gPur_false, gEff_true, gEff_false, gRes_true, gRes_false, pickA_true, pickA_false, extA_0, extA_1, extA_2, retK_one, retK_none, retK_two, valK_fn, valR_fn, cond_true, cond_false, bin_add, bin_sub, bin_mul, bin_eql, bin_neq, bin_lss, bin_leq, bin_gtr, bin_geq, bin_seql, bin_sneq, un_not_t, un_not_f, un_not, cvI_int, cvT_str, nilChk_ptr, nilChk_xp, addA_ptr, lenT_str, Bool.true_or, Bool.or_true, Bool.false_or, Bool.or_false, Bool.true_and, Bool.and_true, Bool.false_and, Bool.and_false, decide_true, decide_false, Int.reduceEq, Int.reduceLT, Int.reduceLE, Int.reduceNe, Int.reduceAdd, Int.reduceSub, Int.reduceMul, Int.reduceNeg, List.nil_append, List.append_nil, List.cons_append]
  have c1 : ¬ (n : Int) = 0 := by omega
  have c2 : ¬ (n : Int) = 1 := by omega
  have c3 : ¬ (n : Int) < 0 := by omega
  have c4 : ¬ (9223372036854775807 : Int) < (n : Int) := by omega
  have c5 : ¬ (8192 : Int) < (n : Int) := by omega
  have u1 : wrapK .u64 (n : Int) = n := wrap_u64 _ (by omega)
  have u2 : wrapK .i64 (n : Int) = n := wrap_nat n (by omega)
  have u3 : wrapK .u64 ((1 : Nat) : Int) = 1 := by decide
  have mul := mul_spec (ρ := ρ) (k := k + 27) (H := H) n (by omega)
  have x0 : ixT (.str (rep w 1)) (.int .i64 0) = some (.int .u8 w.toNat) := by
    rw [ixT_str _ _ _ (by decide) (by rw [rep_size]; decide)]; rfl
  have d1 : ¬ (w.toNat : Int) = 32 := by omega
  have d2 : ¬ (w.toNat : Int) = 45 := by omega
  have d3 : ¬ (w.toNat : Int) = 48 := by omega
  have d4 : ¬ (w.toNat : Int) = 61 := by omega
  have d5 : ¬ (w.toNat : Int) = 9 := by omega
  have o1 : ¬ ((1 : Nat) : Int) = 0 := by omega
  obtain ⟨HA, hHA⟩ : ∃ HA, HA = H.new (.cells 0 73 (0, 0) false [.nilp, .nils]) := ⟨_, rfl⟩
  have gA : HA.get H.sz = .cells 0 73 (0, 0) false [.nilp, .nils] := by rw [hHA, Heap.get_new_same]
  have zA : HA.sz = H.sz + 1 := by rw [hHA, szn]
  obtain ⟨HB, eB, bB, fB⟩ := grow_spec (ρ := ρ) (k := k + 25) (w := w) (l := H.sz) n (by omega) (by omega) (by omega) gA
  obtain ⟨HC, eC, bC, fC⟩ := wsr_spec (ρ := ρ) (k := k + 26) bB 1 (by omega) (by omega)
  have fAll : Fr Nop H HC := by
    have f1 : Fr Nop H HA := hHA ▸ Fr.new _ _ _
    have f2 : Fr Nop H HB := f1.trans' fB fun t ht q => by omega
    exact f2.trans' fC fun t ht q => by omega
  have hstart : L63 ρ (evCall (cx ρ) (k + 29)) (evCY (cx ρ) (k + 29)).2 0 (k + 29) (.str (rep w 1)) (.int .i64 n) H = N63_6 ρ (evCall (cx ρ) (k + 29)) (evCY (cx ρ) (k + 29)).2 0 (k + 29) (.int .i64 n) (.int .i64 n) (.ptr H.sz 0 0) HC retK := by
    simp (disch := first | ((try simp only [szn, szp, List.length_cons, List.length_nil, List.length_set, List.all_cons, List.all_nil, Bool.and_true, scal_int, sol_int, scal_bool, sol_bool, scal_str, sol_str, scal_nilp, sol_nilp, scal_ptr, sol_ptr, scal_nils, sol_nils, scal_sl, sol_sl, scal_sx, sol_sx, scal_xp, sol_xp, scal_xs, sol_xs, scal_nilm, sol_nilm, scal_mp, sol_mp, scal_nilf, sol_nilf, scal_fn, sol_fn, scal_nili, sol_nili, scal_ifc, sol_ifc]) <;> omega) | with_unfolding_all rfl) only [L63, N63_1, N63_2, N63_3, N63_4, N63_5, repj, N63_12, c1, c2, c3, c4, c5, u1, u2, u3, rep_size, mul, x0, d1, d2, d3, d4, d5, o1, newCells_eq, ← hHA, eB, eC, purK_some, resK_some, boolK_some, condK_true, condK_false, wantV_tt, wantV_tf, wantV_ft, wantV_ff, wantV_t, wantV_f, wantV_skip, Bool.not_true, Bool.not_false, gPur_true, gPur_false, gEff_true, gEff_false, gRes_true, gRes_false, pickA_true, pickA_false, extA_0, extA_1, extA_2, retK_one, retK_none, retK_two, valK_fn, valR_fn, cond_true, cond_false, bin_add, bin_sub, bin_mul, bin_eql, bin_neq, bin_lss, bin_leq, bin_gtr, bin_geq, bin_seql, bin_sneq, un_not_t, un_not_f, un_not, cvI_int, cvT_str, nilChk_ptr, nilChk_xp, addA_ptr, lenT_str, Bool.true_or, Bool.or_true, Bool.false_or, Bool.or_false, Bool.true_and, Bool.and_true, Bool.false_and, Bool.and_false, decide_true, decide_false, Int.reduceEq, Int.reduceLT, Int.reduceLE, Int.reduceNe, Int.reduceAdd, Int.reduceSub, Int.reduceMul, Int.reduceNeg, List.nil_append, List.append_nil, List.cons_append, effK_new, effK_put, effK_nothing, on_new, on_put, on_nothing, ld1_ptr, ldN_ptr, stA_one_ptr, stA_agg_ptr, ldC_cells, ldCN_cells, stC_one, stC_many, lay_all, lay_one, newCells_eq, get_new_at, get_put_at, Heap.get_new_ne, Heap.get_put_ne, szn, szp, box1, boxA_agg, List.getElem?_cons_zero, List.getElem?_cons_succ, List.drop_zero, List.drop_succ_cons, List.take_zero, List.take_succ_cons, List.set_cons_zero, List.set_cons_succ, Nat.zero_add, Nat.add_zero, Nat.reduceAdd]
  rw [hstart]
  simp only [N63_6, N63_8]
  refine loopL_wp (W := fun r => ∃ H', r = some (.str (rep w n), H') ∧ Fr Nop H H')
    (fun m y H1 => ∃ j q : Nat, Bd H1 H.sz HA.sz w j (n - j) q ∧ 0 < j ∧ j ≤ n ∧ n - j ≤ m ∧ Fr Nop H H1) ?_ n _ _ _ ⟨0 + 1, 0, bC, by omega, by omega, by omega, fAll⟩ (by omega)
  rintro m y H1 f ⟨j, q, hB, hj0, hjn, hm, hF⟩ hkn
  have l1 := len_spec (ρ := ρ) (k := k + 28) hB
  obtain ⟨HS, eS, bS, fS⟩ := strr_spec (ρ := ρ) (k := k + 28) hB hj0 (by omega)
  have fS' : Fr Nop H HS := hF.trans' fS fun t ht q => by omega
  by_cases hlt : (j : Int) < n
  · have s1 : wrapK .i64 ((n : Int) - j) = ((n - j : Nat) : Int) := wrap_subN n j hjn (by omega)
    obtain ⟨c, hc, hc1, hc2, hc3⟩ : ∃ c : Nat, foldsA minA [.int .i64 ((n - j : Nat) : Int), .int .i64 (j : Int), .int .i64 (n : Int)] = some (.int .i64 (c : Int)) ∧ 0 < c ∧ c ≤ j ∧ c ≤ n - j := by
      rw [min_of]
      by_cases h3 : (j : Int) < ((n - j : Nat) : Int)
      · refine ⟨j, ?_, hj0, Nat.le_refl _, by omega⟩
        rw [if_pos h3, if_neg (by omega)]
      · refine ⟨n - j, ?_, by omega, by omega, Nat.le_refl _⟩
        rw [if_neg h3, if_neg (by omega)]
    have t1 := slT_rep w j c hc2
    obtain ⟨HW, eW, bW, fW⟩ := wsr_spec (ρ := ρ) (k := k + 26) bS c hc3 (by omega)
    have fW' : Fr Nop H HW := fS'.trans' fW fun t ht q => by omega
    have step : N63_8b ρ (evCall (cx ρ) (k + 29)) (evCY (cx ρ) (k + 29)).2 0 (k + 29) (.int .i64 n) (.int .i64 n) (.ptr H.sz 0 0) H1 (fun H => f () H) (fun x9_1 H => N63_7 ρ (evCall (cx ρ) (k + 29)) (evCY (cx ρ) (k + 29)).2 0 (k + 29) x9_1 H retK) = f () HW := by
      simp only [N63_8b, l1, hlt, s1, hc, eS, t1, eW, purK_some, resK_some, boolK_some, condK_true, condK_false, wantV_tt, wantV_tf, wantV_ft, wantV_ff, wantV_t, wantV_f, wantV_skip, Bool.not_true, Bool.not_false, gPur_true, gPur_false, gEff_true, gEff_false, gRes_true, gRes_false, pickA_true, pickA_false, extA_0, extA_1, extA_2, retK_one, retK_none, retK_two, valK_fn, valR_fn, cond_true, cond_false, bin_add, bin_sub, bin_mul, bin_eql, bin_neq, bin_lss, bin_leq, bin_gtr, bin_geq, bin_seql, bin_sneq, un_not_t, un_not_f, un_not, cvI_int, cvT_str, nilChk_ptr, nilChk_xp, addA_ptr, lenT_str, Bool.true_or, Bool.or_true, Bool.false_or, Bool.or_false, Bool.true_and, Bool.and_true, Bool.false_and, Bool.and_false, decide_true, decide_false, Int.reduceEq, Int.reduceLT, Int.reduceLE, Int.reduceNe, Int.reduceAdd, Int.reduceSub, Int.reduceMul, Int.reduceNeg, List.nil_append, List.append_nil, List.cons_append]
    rw [step]
    exact hkn (n - (j + c)) () HW (by omega) ⟨j + c, j, by rw [show n - (j + c) = n - j - c by omega]; exact bW, by omega, by omega, Nat.le_refl _, fW'⟩
  · have hjn' : j = n := by omega
    subst hjn'
    refine ⟨HS, ?_, fS'⟩
    simp only [N63_8b, N63_7, l1, hlt, eS, purK_some, resK_some, boolK_some, condK_true, condK_false, wantV_tt, wantV_tf, wantV_ft, wantV_ff, wantV_t, wantV_f, wantV_skip, Bool.not_true, Bool.not_false, gPur_true, gPur_false, gEff_true, gEff_false, gRes_true, gRes_false, pickA_true, pickA_false, extA_0, extA_1, extA_2, retK_one, retK_none, retK_two, valK_fn, valR_fn, cond_true, cond_false, bin_add, bin_sub, bin_mul, bin_eql, bin_neq, bin_lss, bin_leq, bin_gtr, bin_geq, bin_seql, bin_sneq, un_not_t, un_not_f, un_not, cvI_int, cvT_str, nilChk_ptr, nilChk_xp, addA_ptr, lenT_str, Bool.true_or, Bool.or_true, Bool.false_or, Bool.or_false, Bool.true_and, Bool.and_true, Bool.false_and, Bool.and_false, decide_true, decide_false, Int.reduceEq, Int.reduceLT, Int.reduceLE, Int.reduceNe, Int.reduceAdd, Int.reduceSub, Int.reduceMul, Int.reduceNeg, List.nil_append, List.append_nil, List.cons_append]

-- a cutter
abbrev cutO (t : List UInt8) (b : Bool) : AObj := .cells 0 85 (0, 0) false [.str (ba t), .bool b]
theorem rep_one : (ByteArray.mk #[0]) = rep 0 1 := rfl
theorem rep_ba (w : UInt8) (n : Nat) : rep w n = ba (List.replicate n w) := rfl
/-- So many bytes, or it is bad from then on. -/
theorem take_spec {c : Nat} {t : List UInt8} {b : Bool} (hc : c < H.sz) (g : H.get c = cutO t b) (n : Nat) (hn : n < 500) (hk : 1000 ≤ k) (ht : t.length < 1000000) :
    Ret (fun v H' => ∃ s : List UInt8, v = .str (ba s) ∧ s.length = n ∧ (n ≤ t.length → s = t.take n) ∧ H'.get c = cutO (if n ≤ t.length then t.drop n else t) (b || !decide (n ≤ t.length)) ∧ Fr (fun q => q = c) H H') (evCall (cx ρ) k 0 42 [.ptr c 0 0, .int .i64 n] H) := by
  obtain ⟨k, rfl⟩ : ∃ q, k = q + 1 := ⟨k - 1, by omega⟩
  have l0 : ∀ (t : List UInt8) b, ldC 0 0 (cutO t b) = some (.str (ba t)) := fun t b => by rw [ldC_cells]; rfl
  rw [E42]
  by_cases h : n ≤ t.length
  · have h' : ¬ (t.length : Int) < n := by omega
    have e1 := slT_hi t n h .i64
    have e2 := slT_lo t n h .i64
    simp only [L42, ld1_ptr, g, l0, h', e1, e2, Nat.zero_add, purK_some, resK_some, boolK_some, condK_true, condK_false, wantV_tt, wantV_tf, wantV_ft, wantV_ff, wantV_t, wantV_f, wantV_skip, Bool.not_true, Bool.not_false, gPur_true, gPur_false, gEff_true, gEff_false, gRes_true, gRes_false, pickA_true, pickA_false, extA_0, extA_1, extA_2, retK_one, retK_none, retK_two, valK_fn, valR_fn, cond_true, cond_false, bin_add, bin_sub, bin_mul, bin_eql, bin_neq, bin_lss, bin_leq, bin_gtr, bin_geq, bin_seql, bin_sneq, un_not_t, un_not_f, un_not, cvI_int, cvT_str, nilChk_ptr, nilChk_xp, addA_ptr, lenT_str, Bool.true_or, Bool.or_true, Bool.false_or, Bool.or_false, Bool.true_and, Bool.and_true, Bool.false_and, Bool.and_false, decide_true, decide_false, Int.reduceEq, Int.reduceLT, Int.reduceLE, Int.reduceNe, Int.reduceAdd, Int.reduceSub, Int.reduceMul, Int.reduceNeg, List.nil_append, List.append_nil, List.cons_append, ba_size, ba_inj, emp1, emp2]
    refine (St.start1 (S := fun q => q = c) hc g rfl).st 0 rfl rfl (show 0 < 2 by decide) fun H1 s1 z1 f1 => ?_
    simp only [N42_1, purK_some, resK_some, boolK_some, condK_true, condK_false, wantV_tt, wantV_tf, wantV_ft, wantV_ff, wantV_t, wantV_f, wantV_skip, Bool.not_true, Bool.not_false, gPur_true, gPur_false, gEff_true, gEff_false, gRes_true, gRes_false, pickA_true, pickA_false, extA_0, extA_1, extA_2, retK_one, retK_none, retK_two, valK_fn, valR_fn, cond_true, cond_false, bin_add, bin_sub, bin_mul, bin_eql, bin_neq, bin_lss, bin_leq, bin_gtr, bin_geq, bin_seql, bin_sneq, un_not_t, un_not_f, un_not, cvI_int, cvT_str, nilChk_ptr, nilChk_xp, addA_ptr, lenT_str, Bool.true_or, Bool.or_true, Bool.false_or, Bool.or_false, Bool.true_and, Bool.and_true, Bool.false_and, Bool.and_false, decide_true, decide_false, Int.reduceEq, Int.reduceLT, Int.reduceLE, Int.reduceNe, Int.reduceAdd, Int.reduceSub, Int.reduceMul, Int.reduceNeg, List.nil_append, List.append_nil, List.cons_append]
    refine .intro ⟨t.take n, rfl, by rw [List.length_take]; omega, fun _ => rfl, ?_, f1⟩
    rw [if_pos h, s1.at 0 rfl]
    simp [h]
  · have h' : (t.length : Int) < n := by omega
    simp only [L42, ld1_ptr, g, l0, h', Nat.zero_add, purK_some, resK_some, boolK_some, condK_true, condK_false, wantV_tt, wantV_tf, wantV_ft, wantV_ff, wantV_t, wantV_f, wantV_skip, Bool.not_true, Bool.not_false, gPur_true, gPur_false, gEff_true, gEff_false, gRes_true, gRes_false, pickA_true, pickA_false, extA_0, extA_1, extA_2, retK_one, retK_none, retK_two, valK_fn, valR_fn, cond_true, cond_false, bin_add, bin_sub, bin_mul, bin_eql, bin_neq, bin_lss, bin_leq, bin_gtr, bin_geq, bin_seql, bin_sneq, un_not_t, un_not_f, un_not, cvI_int, cvT_str, nilChk_ptr, nilChk_xp, addA_ptr, lenT_str, Bool.true_or, Bool.or_true, Bool.false_or, Bool.or_false, Bool.true_and, Bool.and_true, Bool.false_and, Bool.and_false, decide_true, decide_false, Int.reduceEq, Int.reduceLT, Int.reduceLE, Int.reduceNe, Int.reduceAdd, Int.reduceSub, Int.reduceMul, Int.reduceNeg, List.nil_append, List.append_nil, List.cons_append, ba_size, ba_inj, emp1, emp2]
    refine (St.start1 (S := fun q => q = c) hc g rfl).st 0 rfl rfl (show 1 < 2 by decide) fun H1 s1 z1 f1 => ?_
    obtain ⟨H2, e2, f2⟩ := rep_spec (ρ := ρ) (H := H1) 0 rfl n hn (k - 30) (by omega)
    rw [show k - 30 + 30 = k by omega, ← rep_one] at e2
    simp only [e2, purK_some, resK_some, boolK_some, condK_true, condK_false, wantV_tt, wantV_tf, wantV_ft, wantV_ff, wantV_t, wantV_f, wantV_skip, Bool.not_true, Bool.not_false, gPur_true, gPur_false, gEff_true, gEff_false, gRes_true, gRes_false, pickA_true, pickA_false, extA_0, extA_1, extA_2, retK_one, retK_none, retK_two, valK_fn, valR_fn, cond_true, cond_false, bin_add, bin_sub, bin_mul, bin_eql, bin_neq, bin_lss, bin_leq, bin_gtr, bin_geq, bin_seql, bin_sneq, un_not_t, un_not_f, un_not, cvI_int, cvT_str, nilChk_ptr, nilChk_xp, addA_ptr, lenT_str, Bool.true_or, Bool.or_true, Bool.false_or, Bool.or_false, Bool.true_and, Bool.and_true, Bool.false_and, Bool.and_false, decide_true, decide_false, Int.reduceEq, Int.reduceLT, Int.reduceLE, Int.reduceNe, Int.reduceAdd, Int.reduceSub, Int.reduceMul, Int.reduceNeg, List.nil_append, List.append_nil, List.cons_append]
    refine .intro ⟨List.replicate n 0, by rw [rep_ba], by simp, fun q => absurd q h, ?_, f1.trans (f2.mono fun _ _ q => q.elim)⟩
    rw [if_neg h, f2.get c (s1.lt' 0 rfl) (fun q => q), s1.at 0 rfl]
    simp [h]
/-- A byte's number. -/
theorem num_spec {c : Nat} {t : List UInt8} {b : Bool} (hc : c < H.sz) (g : H.get c = cutO t b) (hk : 1001 ≤ k) (ht : t.length < 1000000) :
    Ret (fun v H' => ∃ n : UInt8, v = .int .i64 n.toNat ∧ (∀ (h : 0 < t.length), n = t[0]) ∧ H'.get c = cutO (t.drop 1) (b || decide (t = [])) ∧ Fr (fun q => q = c) H H') (evCall (cx ρ) k 0 41 [.ptr c 0 0] H) := by
  obtain ⟨k, rfl⟩ : ∃ q, k = q + 1 := ⟨k - 1, by omega⟩
  rw [E41]
  simp only [L41]
  have tk := take_spec (ρ := ρ) (k := k) hc g 1 (by decide) (by omega) ht
  refine Ret.bind tk ?_
  rintro v H1 ⟨s, rfl, hs, hst, g1, f1⟩
  have e0 := ixT_ba s .i64 0 (by omega)
  have z : ((0 : Nat) : Int) = 0 := rfl
  rw [z] at e0
  have w : wrapK .i64 (s[0].toNat : Int) = (s[0].toNat : Int) := wrap_nat _ (by have := s[0].toNat_lt; omega)
  simp only [e0, w, purK_some, resK_some, boolK_some, condK_true, condK_false, wantV_tt, wantV_tf, wantV_ft, wantV_ff, wantV_t, wantV_f, wantV_skip, Bool.not_true, Bool.not_false, gPur_true, gPur_false, gEff_true, gEff_false, gRes_true, gRes_false, pickA_true, pickA_false, extA_0, extA_1, extA_2, retK_one, retK_none, retK_two, valK_fn, valR_fn, cond_true, cond_false, bin_add, bin_sub, bin_mul, bin_eql, bin_neq, bin_lss, bin_leq, bin_gtr, bin_geq, bin_seql, bin_sneq, un_not_t, un_not_f, un_not, cvI_int, cvT_str, nilChk_ptr, nilChk_xp, addA_ptr, lenT_str, Bool.true_or, Bool.or_true, Bool.false_or, Bool.or_false, Bool.true_and, Bool.and_true, Bool.false_and, Bool.and_false, decide_true, decide_false, Int.reduceEq, Int.reduceLT, Int.reduceLE, Int.reduceNe, Int.reduceAdd, Int.reduceSub, Int.reduceMul, Int.reduceNeg, List.nil_append, List.append_nil, List.cons_append]
  clear w
  refine .intro ⟨s[0], rfl, fun h => ?_, ?_, f1⟩
  · have := hst (by omega)
    subst this
    simp
  · rw [g1]
    by_cases h : 1 ≤ t.length
    · have : ¬ t = [] := by rintro rfl; simp at h
      simp [h, this]
    · have : t = [] := List.eq_nil_of_length_eq_zero (by omega)
      subst this; simp
end
end Go.Proofs.Ytkmohjddojpdjaa

-- part DnF
/- Pairs are read from bytes: the program's and the reference's way. -/
set_option linter.unusedVariables false
set_option linter.unusedSimpArgs false
namespace Go.Proofs.Ytkmohjddojpdjaa
attribute [local congr] Go.Ev.cond_congr1
open Go.Ev Go.RowKit
def uGo : Nat → List UInt8 → Option (List PairD × List UInt8)
  | 0, t => some ([], t)
  | n + 1, k :: v :: r => if k.toNat + v.toNat ≤ r.length then (uGo n (r.drop (k.toNat + v.toNat))).map (fun q => (⟨r.take k.toNat, (r.drop k.toNat).take v.toNat⟩ :: q.1, q.2)) else none
  | _ + 1, _ => none
def pre (acc : List PairD) (o : Option (List PairD × List UInt8)) : Option (List PairD × List UInt8) := o.map fun q => (acc ++ q.1, q.2)
theorem pre_nil (o : Option (List PairD × List UInt8)) : pre [] o = o := by cases o <;> rfl
theorem pre_none (acc : List PairD) : pre acc none = none := rfl
theorem uGo_ok (n : Nat) (k v : UInt8) (r : List UInt8) (h : k.toNat + v.toNat ≤ r.length) (acc : List PairD) : pre acc (uGo (n + 1) (k :: v :: r)) = pre (acc ++ [⟨r.take k.toNat, (r.drop k.toNat).take v.toNat⟩]) (uGo n (r.drop (k.toNat + v.toNat))) := by
  rw [uGo, if_pos h]
  cases uGo n (r.drop (k.toNat + v.toNat)) <;> simp [pre]
theorem uGo_no (n : Nat) (k v : UInt8) (r : List UInt8) (h : ¬ k.toNat + v.toNat ≤ r.length) : uGo (n + 1) (k :: v :: r) = none := by rw [uGo, if_neg h]
theorem uGo_short (n : Nat) (t : List UInt8) (h : t.length < 2) : uGo (n + 1) t = none := by
  match t, h with
  | [], _ => rfl
  | [_], _ => rfl
open Classical in
/-- The pairs of bytes, if they are some list's. -/
noncomputable def unpackT : List UInt8 → Option (List PairD)
  | a :: b :: r => match uGo (a.toNat + 256 * b.toNat) r with
    | some (ps, []) => if OkP ps then some ps else none
    | _ => none
  | _ => none
open Classical in
noncomputable def unpackL (s : List UInt8) : Option (List PairD) := if 8 ≤ s.length ∧ sealL (s.take (s.length - 8)) = s then unpackT (s.take (s.length - 8)) else none
theorem unpackT_short (t : List UInt8) (h : t.length < 2) : unpackT t = none := by
  match t, h with
  | [], _ => rfl
  | [_], _ => rfl
theorem unpackT_some {a b : UInt8} {r rest : List UInt8} {ps : List PairD} (h : uGo (a.toNat + 256 * b.toNat) r = some (ps, rest)) (h1 : rest = []) (h2 : OkP ps) : unpackT (a :: b :: r) = some ps := by
  subst h1
  rw [unpackT, h]; simp only; rw [if_pos h2]
theorem unpackT_none {a b : UInt8} {r : List UInt8} (h : ∀ ps, uGo (a.toNat + 256 * b.toNat) r = some (ps, []) → ¬ OkP ps) : unpackT (a :: b :: r) = none := by
  rw [unpackT]
  split
  · rename_i ps hq
    rw [if_neg (h ps hq)]
  · rfl
abbrev UnpQ (ρ : Addr → Option Value) (H : Heap) (s : List UInt8) (v : AV) (H' : Heap) : Prop := Fr Nop H H' ∧ ((unpackL s = none ∧ v = .tup [.nils, .int .i64 4]) ∨ ∃ ps y, unpackL s = some ps ∧ v = .tup [y, .int .i64 0] ∧ Els ρ H' 2 y (ps.map PairD.cells) ∧ ps.length ≤ 1000)
section
variable {ρ : Addr → Option Value} {k : Nat} {H : Heap}
theorem u8lt (a : UInt8) : a.toNat < 256 := a.toNat_lt
theorem cnt_wrap (a b : UInt8) : wrapK .i64 ((a.toNat : Int) + wrapK .i64 (256 * (b.toNat : Int))) = ((a.toNat + 256 * b.toNat : Nat) : Int) := by
  have ha := u8lt a; have hb := u8lt b
  rw [wrap_i64 (256 * (b.toNat : Int)) (by omega), wrap_i64 _ (by omega)]
  omega
theorem unp_spec (s : List UInt8) (hl : s.length < 900000) (hk : 1000000 ≤ k) : Ret (fun v H' => UnpQ ρ H s v H') (evCall (cx ρ) k 0 15 [.str (ba s)] H) := by
  obtain ⟨k, rfl⟩ : ∃ q, k = q + 1 := ⟨k - 1, by omega⟩
  rw [E15]
  simp only [L15]
  refine Ret.bind (open_spec s (by omega) (by omega)) ?_
  rintro v H1 ⟨f1, (⟨hn, e, rfl, he⟩ | ⟨hs, rfl⟩)⟩
  · simp only [he, ne_eq, not_false_eq_true, purK_some, resK_some, boolK_some, condK_true, condK_false, wantV_tt, wantV_tf, wantV_ft, wantV_ff, wantV_t, wantV_f, wantV_skip, Bool.not_true, Bool.not_false, gPur_true, gPur_false, gEff_true, gEff_false, gRes_true, gRes_false, pickA_true, pickA_false, extA_0, extA_1, extA_2, retK_one, retK_none, retK_two, valK_fn, valR_fn, cond_true, cond_false, bin_add, bin_sub, bin_mul, bin_eql, bin_neq, bin_lss, bin_leq, bin_gtr, bin_geq, bin_seql, bin_sneq, un_not_t, un_not_f, un_not, cvI_int, cvT_str, nilChk_ptr, nilChk_xp, addA_ptr, lenT_str, Bool.true_or, Bool.or_true, Bool.false_or, Bool.or_false, Bool.true_and, Bool.and_true, Bool.false_and, Bool.and_false, decide_true, decide_false, Int.reduceEq, Int.reduceLT, Int.reduceLE, Int.reduceNe, Int.reduceAdd, Int.reduceSub, Int.reduceMul, Int.reduceNeg, List.nil_append, List.append_nil, List.cons_append]
    exact .intro ⟨f1, Or.inl ⟨by unfold unpackL; rw [if_neg hn], rfl⟩⟩
  have hU : unpackL s = unpackT (s.take (s.length - 8)) := by unfold unpackL; rw [if_pos hs]
  obtain ⟨t0, ht0⟩ : ∃ t0, t0 = s.take (s.length - 8) := ⟨_, rfl⟩
  have hlt : t0.length < 900000 := by rw [ht0, List.length_take]; omega
  rw [← ht0] at hU
  have bA : bldA [.str ByteArray.empty, .bool false] [(0, 1, .str (ba t0))] = some (.agg [.str (ba t0), .bool false]) := rfl
  have bx : ∀ H : Heap, boxA H 85 (.agg [.str (ba t0), .bool false]) = some (.ptr H.sz 0 0, .new (cutO t0 false)) := fun H => boxA_agg H _ _ rfl
  rw [← ht0]
  simp only [ne_eq, not_true, bA, bx, purK_some, resK_some, boolK_some, condK_true, condK_false, wantV_tt, wantV_tf, wantV_ft, wantV_ff, wantV_t, wantV_f, wantV_skip, Bool.not_true, Bool.not_false, gPur_true, gPur_false, gEff_true, gEff_false, gRes_true, gRes_false, pickA_true, pickA_false, extA_0, extA_1, extA_2, retK_one, retK_none, retK_two, valK_fn, valR_fn, cond_true, cond_false, bin_add, bin_sub, bin_mul, bin_eql, bin_neq, bin_lss, bin_leq, bin_gtr, bin_geq, bin_seql, bin_sneq, un_not_t, un_not_f, un_not, cvI_int, cvT_str, nilChk_ptr, nilChk_xp, addA_ptr, lenT_str, Bool.true_or, Bool.or_true, Bool.false_or, Bool.or_false, Bool.true_and, Bool.and_true, Bool.false_and, Bool.and_false, decide_true, decide_false, Int.reduceEq, Int.reduceLT, Int.reduceLE, Int.reduceNe, Int.reduceAdd, Int.reduceSub, Int.reduceMul, Int.reduceNeg, List.nil_append, List.append_nil, List.cons_append]
  refine (St.start Nop H1).newP fun c H2 s2 hz2 f2 => ?_
  have hc2 := s2.lt' 0 rfl
  refine Ret.bind (num_spec hc2 (s2.at 0 rfl) (by omega) (by omega)) ?_
  rintro v H3 ⟨n1, rfl, hn1, g3, f3⟩
  have hc3 : c < H3.sz := Nat.lt_of_lt_of_le hc2 f3.sz
  have ld1 : (t0.drop 1).length < 1000000 := by rw [List.length_drop]; omega
  refine Ret.bind (num_spec hc3 g3 (by omega) ld1) ?_
  rintro v H4 ⟨n2, rfl, hn2, g4, f4⟩
  have hc4 : c < H4.sz := Nat.lt_of_lt_of_le hc3 f4.sz
  simp only [cnt_wrap, N15_1, N15_2, N15_4, purK_some, resK_some, boolK_some, condK_true, condK_false, wantV_tt, wantV_tf, wantV_ft, wantV_ff, wantV_t, wantV_f, wantV_skip, Bool.not_true, Bool.not_false, gPur_true, gPur_false, gEff_true, gEff_false, gRes_true, gRes_false, pickA_true, pickA_false, extA_0, extA_1, extA_2, retK_one, retK_none, retK_two, valK_fn, valR_fn, cond_true, cond_false, bin_add, bin_sub, bin_mul, bin_eql, bin_neq, bin_lss, bin_leq, bin_gtr, bin_geq, bin_seql, bin_sneq, un_not_t, un_not_f, un_not, cvI_int, cvT_str, nilChk_ptr, nilChk_xp, addA_ptr, lenT_str, Bool.true_or, Bool.or_true, Bool.false_or, Bool.or_false, Bool.true_and, Bool.and_true, Bool.false_and, Bool.and_false, decide_true, decide_false, Int.reduceEq, Int.reduceLT, Int.reduceLE, Int.reduceNe, Int.reduceAdd, Int.reduceSub, Int.reduceMul, Int.reduceNeg, List.nil_append, List.append_nil, List.cons_append]
  obtain ⟨N, hN⟩ : ∃ N, N = n1.toNat + 256 * n2.toNat := ⟨_, rfl⟩
  have hNb : N < 70000 := by have := u8lt n1; have := u8lt n2; omega
  rw [← hN]
  obtain ⟨r, hr⟩ : ∃ r, r = (t0.drop 1).drop 1 := ⟨_, rfl⟩
  obtain ⟨b0, hb0⟩ : ∃ b0, b0 = (false || decide (t0 = []) || decide (t0.drop 1 = [])) := ⟨_, rfl⟩
  rw [← hr, ← hb0] at g4
  have hrl : r.length < 900000 := by rw [hr, List.length_drop, List.length_drop]; omega
  -- what was there at first
  have hshort : b0 = true → unpackL s = none := by
    intro h
    rw [hU]
    apply unpackT_short
    rw [hb0] at h
    simp only [Bool.false_or, Bool.or_eq_true, decide_eq_true_eq] at h
    rcases h with h | h
    · subst h; simp
    · have := congrArg List.length h
      rw [List.length_drop] at this
      simp at this; omega
  have hlong : b0 = false → ∃ a b, t0 = a :: b :: r ∧ N = a.toNat + 256 * b.toNat := by
    intro h
    rw [hb0] at h
    simp only [Bool.false_or, Bool.or_eq_false_iff, decide_eq_false_iff_not] at h
    match t0, h, hn1, hn2, hr with
    | [], h, _, _, _ => exact absurd rfl h.1
    | [a], h, _, _, _ => exact absurd rfl h.2
    | a :: b :: q, _, h1, h2, h3 =>
      refine ⟨a, b, by rw [h3]; rfl, ?_⟩
      have e1 := h1 (by simp)
      have e2 := h2 (by simp)
      simp at e1 e2
      rw [hN, e1, e2]
  have f14 : Fr (fun q => q = c) H1 H4 := ((f2.mono fun t _ q => q.elim : Fr (fun q => q = c) H1 H2).trans f3).trans f4
  refine Ret.loop (fun m (y : AV × AV) H' => ∃ t b acc ys, y = (.int .i64 m, ys) ∧ m ≤ N ∧ H'.get c = cutO t b ∧ c < H'.sz ∧ t.length < 900000 ∧ Grow H' 70 2 ys (acc.map PairD.cells) ∧ (∀ q, ys.lies q → H4.sz ≤ q) ∧ (b0 = true → b = true) ∧ acc.length + m ≤ N ∧ (b0 = false → b = false → uGo N r = pre acc (uGo m t)) ∧ (b0 = false → b = true → uGo N r = none) ∧ Fr (fun q => q = c ∨ H4.sz ≤ q) H4 H')
    ?_ N k _ H4 ⟨r, b0, [], .nils, rfl, Nat.le_refl _, g4, hc4, hrl, Grow.nils .., fun q h => h.elim, fun h => h, by simp, fun _ _ => (pre_nil _).symm, fun h h' => (by rw [h] at h'; cases h'), Fr.refl ..⟩ (by omega)
  rintro m y H' kn ⟨t, b, acc, ys, rfl, hmN, gc, hcl, htl, hG, hy, hbb, hal, hok, hbad, fr⟩ next
  have fall : ∀ {Hx}, Fr (fun q => q = c ∨ H4.sz ≤ q) H4 Hx → Fr Nop H Hx := fun f => f1.trans' (f14.trans' f fun q hq e => by have := f14.sz; omega) fun q hq e => by have := f1.sz; omega
  have lb : ∀ (t : List UInt8) (b : Bool), ldC 0 1 (cutO t b) = some (.bool b) := fun t b => by rw [ldC_cells]; rfl
  have ls : ∀ (t : List UInt8) (b : Bool), ldC 0 0 (cutO t b) = some (.str (ba t)) := fun t b => by rw [ldC_cells]; rfl
  -- how it ends
  have ends : (b = true ∨ m = 0) → Ret (fun v H' => UnpQ ρ H s v H') (N15_3 ρ (evCall (cx ρ) k) (evCY (cx ρ) k).2 0 k (.ptr c 0 0) ys H' retK) := by
    intro hend
    cases b with
    | true =>
      have hnone : unpackL s = none := by
        cases hb : b0 with
        | true => exact hshort hb
        | false =>
          obtain ⟨a, b', e1, e2⟩ := hlong hb
          rw [hU, e1]
          apply unpackT_none
          intro ps hps
          rw [← e2, hbad hb rfl] at hps; cases hps
      simp only [N15_3, ld1_ptr, gc, lb, ls, Nat.zero_add, purK_some, resK_some, boolK_some, condK_true, condK_false, wantV_tt, wantV_tf, wantV_ft, wantV_ff, wantV_t, wantV_f, wantV_skip, Bool.not_true, Bool.not_false, gPur_true, gPur_false, gEff_true, gEff_false, gRes_true, gRes_false, pickA_true, pickA_false, extA_0, extA_1, extA_2, retK_one, retK_none, retK_two, valK_fn, valR_fn, cond_true, cond_false, bin_add, bin_sub, bin_mul, bin_eql, bin_neq, bin_lss, bin_leq, bin_gtr, bin_geq, bin_seql, bin_sneq, un_not_t, un_not_f, un_not, cvI_int, cvT_str, nilChk_ptr, nilChk_xp, addA_ptr, lenT_str, Bool.true_or, Bool.or_true, Bool.false_or, Bool.or_false, Bool.true_and, Bool.and_true, Bool.false_and, Bool.and_false, decide_true, decide_false, Int.reduceEq, Int.reduceLT, Int.reduceLE, Int.reduceNe, Int.reduceAdd, Int.reduceSub, Int.reduceMul, Int.reduceNeg, List.nil_append, List.append_nil, List.cons_append]
      exact .intro ⟨fall fr, Or.inl ⟨hnone, rfl⟩⟩
    | false =>
      have hm0 : m = 0 := by rcases hend with h | h; cases h; exact h
      subst hm0
      have hb : b0 = false := by cases hb : b0 with | false => rfl | true => have := hbb hb; cases this
      obtain ⟨a, b', e1, e2⟩ := hlong hb
      have hu := hok hb rfl
      have hu' : uGo N r = some (acc, t) := by rw [hu, uGo]; simp [pre]
      rw [e2] at hu'
      by_cases ht : t = []
      · simp only [N15_3, ld1_ptr, gc, lb, ls, ht, Nat.zero_add, ne_eq, not_true, purK_some, resK_some, boolK_some, condK_true, condK_false, wantV_tt, wantV_tf, wantV_ft, wantV_ff, wantV_t, wantV_f, wantV_skip, Bool.not_true, Bool.not_false, gPur_true, gPur_false, gEff_true, gEff_false, gRes_true, gRes_false, pickA_true, pickA_false, extA_0, extA_1, extA_2, retK_one, retK_none, retK_two, valK_fn, valR_fn, cond_true, cond_false, bin_add, bin_sub, bin_mul, bin_eql, bin_neq, bin_lss, bin_leq, bin_gtr, bin_geq, bin_seql, bin_sneq, un_not_t, un_not_f, un_not, cvI_int, cvT_str, nilChk_ptr, nilChk_xp, addA_ptr, lenT_str, Bool.true_or, Bool.or_true, Bool.false_or, Bool.or_false, Bool.true_and, Bool.and_true, Bool.false_and, Bool.and_false, decide_true, decide_false, Int.reduceEq, Int.reduceLT, Int.reduceLE, Int.reduceNe, Int.reduceAdd, Int.reduceSub, Int.reduceMul, Int.reduceNeg, List.nil_append, List.append_nil, List.cons_append, ba_size, ba_inj, emp1, emp2]
        refine Ret.bind (right_spec (hG.toEls (ρ := ρ)) (by omega) (by omega)) ?_
        rintro v H6 ⟨br, rfl, hbr, f6⟩
        have f06 : Fr Nop H H6 := (fall fr).trans f6
        cases br
        · simp only [purK_some, resK_some, boolK_some, condK_true, condK_false, wantV_tt, wantV_tf, wantV_ft, wantV_ff, wantV_t, wantV_f, wantV_skip, Bool.not_true, Bool.not_false, gPur_true, gPur_false, gEff_true, gEff_false, gRes_true, gRes_false, pickA_true, pickA_false, extA_0, extA_1, extA_2, retK_one, retK_none, retK_two, valK_fn, valR_fn, cond_true, cond_false, bin_add, bin_sub, bin_mul, bin_eql, bin_neq, bin_lss, bin_leq, bin_gtr, bin_geq, bin_seql, bin_sneq, un_not_t, un_not_f, un_not, cvI_int, cvT_str, nilChk_ptr, nilChk_xp, addA_ptr, lenT_str, Bool.true_or, Bool.or_true, Bool.false_or, Bool.or_false, Bool.true_and, Bool.and_true, Bool.false_and, Bool.and_false, decide_true, decide_false, Int.reduceEq, Int.reduceLT, Int.reduceLE, Int.reduceNe, Int.reduceAdd, Int.reduceSub, Int.reduceMul, Int.reduceNeg, List.nil_append, List.append_nil, List.cons_append]
          refine .intro ⟨f06, Or.inl ⟨?_, rfl⟩⟩
          rw [hU, e1]
          apply unpackT_none
          intro ps hps hp
          rw [hu'] at hps
          simp only [Option.some.injEq, Prod.mk.injEq] at hps
          obtain ⟨rfl, _⟩ := hps
          have := hbr.2 hp; cases this
        · simp only [purK_some, resK_some, boolK_some, condK_true, condK_false, wantV_tt, wantV_tf, wantV_ft, wantV_ff, wantV_t, wantV_f, wantV_skip, Bool.not_true, Bool.not_false, gPur_true, gPur_false, gEff_true, gEff_false, gRes_true, gRes_false, pickA_true, pickA_false, extA_0, extA_1, extA_2, retK_one, retK_none, retK_two, valK_fn, valR_fn, cond_true, cond_false, bin_add, bin_sub, bin_mul, bin_eql, bin_neq, bin_lss, bin_leq, bin_gtr, bin_geq, bin_seql, bin_sneq, un_not_t, un_not_f, un_not, cvI_int, cvT_str, nilChk_ptr, nilChk_xp, addA_ptr, lenT_str, Bool.true_or, Bool.or_true, Bool.false_or, Bool.or_false, Bool.true_and, Bool.and_true, Bool.false_and, Bool.and_false, decide_true, decide_false, Int.reduceEq, Int.reduceLT, Int.reduceLE, Int.reduceNe, Int.reduceAdd, Int.reduceSub, Int.reduceMul, Int.reduceNeg, List.nil_append, List.append_nil, List.cons_append]
          have hp := hbr.1 rfl
          exact .intro ⟨f06, Or.inr ⟨acc, ys, by rw [hU, e1]; exact unpackT_some hu' ht hp, rfl, hG.toEls.frame0 f6, hp.len⟩⟩
      · simp only [N15_3, ld1_ptr, gc, lb, ls, ht, Nat.zero_add, ne_eq, not_false_eq_true, purK_some, resK_some, boolK_some, condK_true, condK_false, wantV_tt, wantV_tf, wantV_ft, wantV_ff, wantV_t, wantV_f, wantV_skip, Bool.not_true, Bool.not_false, gPur_true, gPur_false, gEff_true, gEff_false, gRes_true, gRes_false, pickA_true, pickA_false, extA_0, extA_1, extA_2, retK_one, retK_none, retK_two, valK_fn, valR_fn, cond_true, cond_false, bin_add, bin_sub, bin_mul, bin_eql, bin_neq, bin_lss, bin_leq, bin_gtr, bin_geq, bin_seql, bin_sneq, un_not_t, un_not_f, un_not, cvI_int, cvT_str, nilChk_ptr, nilChk_xp, addA_ptr, lenT_str, Bool.true_or, Bool.or_true, Bool.false_or, Bool.or_false, Bool.true_and, Bool.and_true, Bool.false_and, Bool.and_false, decide_true, decide_false, Int.reduceEq, Int.reduceLT, Int.reduceLE, Int.reduceNe, Int.reduceAdd, Int.reduceSub, Int.reduceMul, Int.reduceNeg, List.nil_append, List.append_nil, List.cons_append, ba_size, ba_inj, emp1, emp2]
        refine .intro ⟨fall fr, Or.inl ⟨?_, rfl⟩⟩
        rw [hU, e1]
        apply unpackT_none
        intro ps hps _
        rw [hu'] at hps
        simp only [Option.some.injEq, Prod.mk.injEq] at hps
        exact ht hps.2
  match m, hmN, hal, hok, ends, next with
  | 0, _, _, _, ends, _ =>
    simp only [N15_4b, Int.natCast_zero, purK_some, resK_some, boolK_some, condK_true, condK_false, wantV_tt, wantV_tf, wantV_ft, wantV_ff, wantV_t, wantV_f, wantV_skip, Bool.not_true, Bool.not_false, gPur_true, gPur_false, gEff_true, gEff_false, gRes_true, gRes_false, pickA_true, pickA_false, extA_0, extA_1, extA_2, retK_one, retK_none, retK_two, valK_fn, valR_fn, cond_true, cond_false, bin_add, bin_sub, bin_mul, bin_eql, bin_neq, bin_lss, bin_leq, bin_gtr, bin_geq, bin_seql, bin_sneq, un_not_t, un_not_f, un_not, cvI_int, cvT_str, nilChk_ptr, nilChk_xp, addA_ptr, lenT_str, Bool.true_or, Bool.or_true, Bool.false_or, Bool.or_false, Bool.true_and, Bool.and_true, Bool.false_and, Bool.and_false, decide_true, decide_false, Int.reduceEq, Int.reduceLT, Int.reduceLE, Int.reduceNe, Int.reduceAdd, Int.reduceSub, Int.reduceMul, Int.reduceNeg, List.nil_append, List.append_nil, List.cons_append]
    exact ends (Or.inr rfl)
  | m + 1, hmN, hal, hok, ends, next =>
    have hpos : (0 : Int) < ((m + 1 : Nat) : Int) := by omega
    cases b with
    | true =>
      simp only [N15_4b, hpos, ld1_ptr, gc, lb, Nat.zero_add, purK_some, resK_some, boolK_some, condK_true, condK_false, wantV_tt, wantV_tf, wantV_ft, wantV_ff, wantV_t, wantV_f, wantV_skip, Bool.not_true, Bool.not_false, gPur_true, gPur_false, gEff_true, gEff_false, gRes_true, gRes_false, pickA_true, pickA_false, extA_0, extA_1, extA_2, retK_one, retK_none, retK_two, valK_fn, valR_fn, cond_true, cond_false, bin_add, bin_sub, bin_mul, bin_eql, bin_neq, bin_lss, bin_leq, bin_gtr, bin_geq, bin_seql, bin_sneq, un_not_t, un_not_f, un_not, cvI_int, cvT_str, nilChk_ptr, nilChk_xp, addA_ptr, lenT_str, Bool.true_or, Bool.or_true, Bool.false_or, Bool.or_false, Bool.true_and, Bool.and_true, Bool.false_and, Bool.and_false, decide_true, decide_false, Int.reduceEq, Int.reduceLT, Int.reduceLE, Int.reduceNe, Int.reduceAdd, Int.reduceSub, Int.reduceMul, Int.reduceNeg, List.nil_append, List.append_nil, List.cons_append]
      exact ends (Or.inl rfl)
    | false =>
      have hb : b0 = false := by cases hb : b0 with | false => rfl | true => have := hbb hb; cases this
      simp only [N15_4b, hpos, ld1_ptr, gc, lb, Nat.zero_add, purK_some, resK_some, boolK_some, condK_true, condK_false, wantV_tt, wantV_tf, wantV_ft, wantV_ff, wantV_t, wantV_f, wantV_skip, Bool.not_true, Bool.not_false, gPur_true, gPur_false, gEff_true, gEff_false, gRes_true, gRes_false, pickA_true, pickA_false, extA_0, extA_1, extA_2, retK_one, retK_none, retK_two, valK_fn, valR_fn, cond_true, cond_false, bin_add, bin_sub, bin_mul, bin_eql, bin_neq, bin_lss, bin_leq, bin_gtr, bin_geq, bin_seql, bin_sneq, un_not_t, un_not_f, un_not, cvI_int, cvT_str, nilChk_ptr, nilChk_xp, addA_ptr, lenT_str, Bool.true_or, Bool.or_true, Bool.false_or, Bool.or_false, Bool.true_and, Bool.and_true, Bool.false_and, Bool.and_false, decide_true, decide_false, Int.reduceEq, Int.reduceLT, Int.reduceLE, Int.reduceNe, Int.reduceAdd, Int.reduceSub, Int.reduceMul, Int.reduceNeg, List.nil_append, List.append_nil, List.cons_append]
      refine Ret.bind (num_spec hcl gc (by omega) (by omega)) ?_
      rintro v H5 ⟨nk, rfl, hnk, g5, f5⟩
      have hc5 : c < H5.sz := Nat.lt_of_lt_of_le hcl f5.sz
      refine Ret.bind (num_spec hc5 g5 (by omega) (by rw [List.length_drop]; omega)) ?_
      rintro v H6 ⟨nv, rfl, hnv, g6, f6⟩
      have hc6 : c < H6.sz := Nat.lt_of_lt_of_le hc5 f6.sz
      obtain ⟨q, hq⟩ : ∃ q, q = (t.drop 1).drop 1 := ⟨_, rfl⟩
      have hql : q.length < 900000 := by rw [hq, List.length_drop, List.length_drop]; omega
      rw [← hq] at g6
      refine Ret.bind (take_spec hc6 g6 nk.toNat (by have := u8lt nk; omega) (by omega) (by omega)) ?_
      rintro v H7 ⟨s1, rfl, hs1, hst1, g7, f7⟩
      have hc7 : c < H7.sz := Nat.lt_of_lt_of_le hc6 f7.sz
      obtain ⟨q2, hq2⟩ : ∃ q2, q2 = (if nk.toNat ≤ q.length then q.drop nk.toNat else q) := ⟨_, rfl⟩
      have hq2l : q2.length < 900000 := by rw [hq2]; split <;> (try simp only [List.length_drop]) <;> omega
      rw [← hq2] at g7
      refine Ret.bind (take_spec hc7 g7 nv.toNat (by have := u8lt nv; omega) (by omega) (by omega)) ?_
      rintro v H8 ⟨s2', rfl, hs2, hst2, g8, f8⟩
      have hc8 : c < H8.sz := Nat.lt_of_lt_of_le hc7 f8.sz
      have f58 : Fr (fun q => q = c) H' H8 := ((f5.trans f6).trans f7).trans f8
      have bP : bldA [.str ByteArray.empty, .str ByteArray.empty] [(0, 1, .str (ba s1)), (1, 1, .str (ba s2'))] = some (.agg (PairD.cells ⟨s1, s2'⟩)) := rfl
      simp only [bP, purK_some, resK_some, boolK_some, condK_true, condK_false, wantV_tt, wantV_tf, wantV_ft, wantV_ff, wantV_t, wantV_f, wantV_skip, Bool.not_true, Bool.not_false, gPur_true, gPur_false, gEff_true, gEff_false, gRes_true, gRes_false, pickA_true, pickA_false, extA_0, extA_1, extA_2, retK_one, retK_none, retK_two, valK_fn, valR_fn, cond_true, cond_false, bin_add, bin_sub, bin_mul, bin_eql, bin_neq, bin_lss, bin_leq, bin_gtr, bin_geq, bin_seql, bin_sneq, un_not_t, un_not_f, un_not, cvI_int, cvT_str, nilChk_ptr, nilChk_xp, addA_ptr, lenT_str, Bool.true_or, Bool.or_true, Bool.false_or, Bool.or_false, Bool.true_and, Bool.and_true, Bool.false_and, Bool.and_false, decide_true, decide_false, Int.reduceEq, Int.reduceLT, Int.reduceLE, Int.reduceNe, Int.reduceAdd, Int.reduceSub, Int.reduceMul, Int.reduceNeg, List.nil_append, List.append_nil, List.cons_append]
      rw [bldS_1 H8 70 2 [.str ByteArray.empty, .str ByteArray.empty] (PairD.cells ⟨s1, s2'⟩) rfl rfl (PairD.solid _)]
      refine (St.start Nop H8).newS fun n9 H9 s9 hz9 f9 => ?_
      have hyc : ∀ q, ys.lies q → q ≠ c := fun q hq e => by have := hy q hq; have := f4.sz; omega
      have hG9 : Grow H9 70 2 ys (acc.map PairD.cells) := (hG.frame _ f58 fun q hq e => hyc q hq e).frame Nop f9 fun _ _ q => q
      have hE9 : Els ρ H9 2 (.sl n9 0 0 1 1 false) [PairD.cells ⟨s1, s2'⟩] := Els.of_cells (els := [_]) (e := 70) (fr := (0, 0)) (g := false) (s9.lt' 0 rfl) (by rw [s9.at 0 rfl]; simp) (by intro r hr; simp at hr; subst hr; rfl)
      have hacc : (acc.map PairD.cells).length = acc.length := List.length_map ..
      refine Ret.app hG9 hE9 (by intro r hr; simp at hr; subst hr; exact PairD.solid _) (by rw [hacc]; simp; omega) (by rw [hacc]; simp; omega) ?_
      intro y' H10 G10 f10 hy10 _
      have zr := fr.sz; have z58 := f58.sz; have z9 := f9.sz; have z10 := f10.sz
      have hw : wrapK .i64 (((m + 1 : Nat) : Int) - 1) = (m : Int) := by rw [wrap_i64 _ (by omega)]; omega
      simp only [N15_5, hw, purK_some, resK_some, boolK_some, condK_true, condK_false, wantV_tt, wantV_tf, wantV_ft, wantV_ff, wantV_t, wantV_f, wantV_skip, Bool.not_true, Bool.not_false, gPur_true, gPur_false, gEff_true, gEff_false, gRes_true, gRes_false, pickA_true, pickA_false, extA_0, extA_1, extA_2, retK_one, retK_none, retK_two, valK_fn, valR_fn, cond_true, cond_false, bin_add, bin_sub, bin_mul, bin_eql, bin_neq, bin_lss, bin_leq, bin_gtr, bin_geq, bin_seql, bin_sneq, un_not_t, un_not_f, un_not, cvI_int, cvT_str, nilChk_ptr, nilChk_xp, addA_ptr, lenT_str, Bool.true_or, Bool.or_true, Bool.false_or, Bool.or_false, Bool.true_and, Bool.and_true, Bool.false_and, Bool.and_false, decide_true, decide_false, Int.reduceEq, Int.reduceLT, Int.reduceLE, Int.reduceNe, Int.reduceAdd, Int.reduceSub, Int.reduceMul, Int.reduceNeg, List.nil_append, List.append_nil, List.cons_append]
      clear hw
      have g10 : H10.get c = H8.get c := by rw [f10.get c (by omega) (fun q => hyc c q rfl), f9.get c hc8 (fun q => q)]
      rw [g8] at g10
      have hacc' : (acc ++ [(⟨s1, s2'⟩ : PairD)]).map PairD.cells = acc.map PairD.cells ++ [PairD.cells ⟨s1, s2'⟩] := by simp
      refine next m _ H10 (Nat.lt_succ_self m) ⟨_, _, acc ++ [⟨s1, s2'⟩], y', rfl, by omega, g10, by omega, ?_, by rw [hacc']; exact G10, fun q hq => (hy10 q hq).elim (hy q) (fun e => by omega), fun h => (by rw [hb] at h; cases h), by simp; omega, ?_, ?_, ?_⟩
      · split <;> (try simp only [List.length_drop]) <;> omega
      · intro _ hb'
        simp only [Bool.false_or, Bool.or_eq_false_iff, decide_eq_false_iff_not, Bool.not_eq_false', decide_eq_true_eq] at hb'
        obtain ⟨⟨⟨h1, h2⟩, h3⟩, h4⟩ := hb'
        rw [hok hb rfl]
        match t, h1, h2, hnk, hnv, hq with
        | [], h1, _, _, _, _ => exact absurd rfl h1
        | [a], _, h2, _, _, _ => exact absurd rfl h2
        | a :: v :: r', _, _, ea, ev, er =>
          have ea' := ea (by simp)
          have ev' := ev (by simp)
          simp at ea' ev'
          have er' : q = r' := by rw [er]; rfl
          subst ea' ev' er'
          have hq2' : q2 = q.drop nk.toNat := by rw [hq2, if_pos h3]
          subst hq2'
          have hle : nk.toNat + nv.toNat ≤ q.length := by rw [List.length_drop] at h4; omega
          rw [uGo_ok m nk nv q hle, hst1 h3, hst2 h4, if_pos h4, List.drop_drop]
      · intro _ hb'
        rw [hok hb rfl]
        have : uGo (m + 1) t = none := by
          match t, hnk, hnv, hq, hb' with
          | [], _, _, _, _ => rfl
          | [a], _, _, _, _ => rfl
          | a :: v :: r', ea, ev, er, hb' =>
            have ea' := ea (by simp)
            have ev' := ev (by simp)
            simp at ea' ev'
            have er' : q = r' := by rw [er]; rfl
            subst ea' ev' er'
            apply uGo_no
            intro hle
            have h3 : nk.toNat ≤ q.length := by omega
            have hq2' : q2 = q.drop nk.toNat := by rw [hq2, if_pos h3]
            subst hq2'
            have h4 : nv.toNat ≤ (q.drop nk.toNat).length := by rw [List.length_drop]; omega
            simp [h3] at hb'
            rw [List.length_drop] at h4
            omega
        rw [this]; rfl
      · refine ((fr.trans (f58.mono fun q _ e => Or.inl e)).trans (f9.mono fun q _ e => e.elim)).trans (f10.mono fun q _ e => Or.inr (hy q e))
end
end Go.Proofs.Ytkmohjddojpdjaa
