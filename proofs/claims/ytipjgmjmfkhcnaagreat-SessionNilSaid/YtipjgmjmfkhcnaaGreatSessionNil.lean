/- SessionNil: a session that is not there asks for nothing; nor is there one without a log, or an index, or beyond the sessions. -/
import Derived.Test.YtipjgmjmfkhcnaaGreatLf
import Derived.Test.YtipjgmjmfkhcnaaGreatEvP
import Derived.KernelRfl
set_option linter.unusedVariables false
set_option linter.unusedSimpArgs false
namespace Go.Proofs.YtipjgmjmfkhcnaaGreat
attribute [local congr] Go.Ev.cond_congr1
open Go.Ev Go.RowKit
def fin : Res → AObj
  | some (.bool true, H) => bif Nat.blt 0 H.sz then H.get 0 else .hole
  | _ => .hole
theorem of_fin {r : Res} {o : AObj} (h : fin r = o) (h2 : o ≠ .hole) : ∃ H, r = some (.bool true, H) ∧ H.get 0 = o ∧ 0 < H.sz := by
  rcases r with _ | ⟨v, H⟩
  · exact absurd h.symm h2
  · cases v with
    | bool b =>
      cases b with
      | true =>
        simp only [fin] at h
        cases hb : Nat.blt 0 H.sz with
        | true => rw [hb] at h; exact ⟨H, rfl, h, Nat.le_of_ble_eq_true hb⟩
        | false => rw [hb] at h; exact absurd h.symm h2
      | false => exact absurd h.symm h2
    | _ => exact absurd h.symm h2
def heapOf : Res → Heap
  | some (_, H) => H
  | none => Heap.nil
abbrev ρ0 : Addr → Option Value := fun _ => none
abbrev outZ : List AV := [.int .i64 0, .str ByteArray.empty]
abbrev outO : AObj := .cells 0 32 (0, 0) false outZ
/-- The pointers in what is opened, where all is well; then what lies at p. -/
def finO (p : Nat) : Res → Option (AV × AObj)
  | some (.tup [.ptr l v 0, .bool true], H) => match H.get l with
    | .cells v' e fr g (.ptr l1 v1 o1 :: .ptr l2 v2 o2 :: c) => bif (v' == v) && Nat.blt p H.sz then some (.ptr l1 v1 o1, H.get p) else none
    | _ => none
  | _ => none
theorem of_finO {p : Nat} {r : Res} {y : AV × AObj} (h : finO p r = some y) : ∃ l v H e fr g l1 v1 o1 l2 v2 o2 c, r = some (.tup [.ptr l v 0, .bool true], H) ∧ H.get l = .cells v e fr g (.ptr l1 v1 o1 :: .ptr l2 v2 o2 :: c) ∧ H.get p = y.2 ∧ p < H.sz := by
  unfold finO at h
  split at h
  · rename_i l v H
    split at h
    · rename_i v' e fr g l1 v1 o1 l2 v2 o2 c hq
      cases hv : ((v' == v) && Nat.blt p H.sz) with
      | true =>
        rw [hv] at h
        obtain rfl := Option.some.inj h
        simp only [Bool.and_eq_true] at hv
        obtain rfl : v' = v := by simpa using hv.1
        exact ⟨l, v', H, e, fr, g, l1, v1, o1, l2, v2, o2, c, rfl, hq, rfl, Nat.le_of_ble_eq_true hv.2⟩
      | false => rw [hv] at h; cases h
    · cases h
  · cases h
section
variable (a n : Int) (s t : ByteArray)
abbrev opC : List AV := [.int .i64 a, .str s, .str t, .int .u64 n]
abbrev opO : AObj := .cells 0 24 (0, 0) false (opC a n s t)
def HA (H1 : Heap) : Heap := H1.new (opO a n s t)
def HO (H1 : Heap) : Heap := ((HA a n s t H1).new outO).put (HA a n s t H1).sz outO
def HB (H1 : Heap) : Heap := ((HO a n s t H1).new outO).put (HO a n s t H1).sz outO
abbrev cfg : AV := .agg [.int .i64 5, .int .i64 2, .int .i64 4, .int .i64 1, .int .i64 0, .int .i64 8]
set_option maxRecDepth 1000000 in
theorem awake_fin : fin (fast ρ0 100 0 4 [] (Heap.nil.new (opO a n s t))) = opO a n s t := by kernel_rfl
/-- What lies where, behind the opening. -/
def seen : Option (AV × AObj) → AObj
  | some (_, o) => o
  | none => .hole
set_option maxRecDepth 1000000 in
theorem open_fin : seen (finO (HO a n s t (heapOf (fast ρ0 100 0 4 [] (Heap.nil.new (opO a n s t))))).sz (fast ρ0 100 0 10 [cfg] (HB a n s t (heapOf (fast ρ0 100 0 4 [] (Heap.nil.new (opO a n s t))))))) = outO := by kernel_rfl
theorem pnS (H : Heap) : binA Tryz.prog H .eql 26 .nilp .nilp = some (.bool true) := by kernel_rfl
theorem pnL (H : Heap) : binA Tryz.prog H .eql 42 .nilp .nilp = some (.bool true) := by kernel_rfl
theorem ppL (H : Heap) (l v o : Nat) : binA Tryz.prog H .eql 42 (.ptr l v o) .nilp = some (.bool false) := by kernel_rfl
theorem ppX (H : Heap) (l v o : Nat) : binA Tryz.prog H .eql 43 (.ptr l v o) .nilp = some (.bool false) := by kernel_rfl
theorem nnS (H : Heap) (l v o : Nat) : binA Tryz.prog H .neq 26 (.ptr l v o) .nilp = some (.bool true) := by kernel_rfl
theorem nnN (H : Heap) : binA Tryz.prog H .neq 26 .nilp .nilp = some (.bool false) := by kernel_rfl
theorem bbT (H : Heap) (b : Bool) : binA Tryz.prog H .eql 4 (.bool b) (.bool b) = some (.bool true) := by
  have : binA Tryz.prog H .eql 4 (.bool b) (.bool b) = some (.bool (b == b)) := by kernel_rfl
  rw [this, beq_self_eq_true]
theorem eqOut (H : Heap) : binA Tryz.prog H .eql 32 (.agg outZ) (.agg outZ) = some (.bool true) := by kernel_rfl
section
variable (ρ : Addr → Option Value) (k : Nat) (H : Heap)
theorem mASK : evCall (cx ρ) (k + 1) 0 5 [.nilp, .agg (opC a n s t)] H = some (.tup [.int .i64 0, .int .i64 2], HA a n s t H) := by
  rw [E5]
  have bx : boxA H 24 (.agg (opC a n s t)) = some (.ptr H.sz 0 0, .new (opO a n s t)) := boxA_agg _ _ _ rfl
  simp only [L5, bx, pnS, effK_new, HA, purK_some, resK_some, boolK_some, condK_true, condK_false, wantV_tt, wantV_tf, wantV_ft, wantV_ff, wantV_t, wantV_f, wantV_skip, Bool.not_true, Bool.not_false, gPur_true, gPur_false, gEff_true, gEff_false, gRes_true, gRes_false, pickA_true, pickA_false, extA_0, extA_1, extA_2, retK_one, retK_none, retK_two, valK_fn, valR_fn, cond_true, cond_false, bin_add, bin_sub, bin_mul, bin_eql, bin_neq, bin_lss, bin_leq, bin_gtr, bin_geq, bin_seql, bin_sneq, un_not_t, un_not_f, un_not, cvI_int, cvT_str, nilChk_ptr, nilChk_xp, addA_ptr, lenT_str, Bool.true_or, Bool.or_true, Bool.false_or, Bool.or_false, Bool.true_and, Bool.and_true, Bool.false_and, Bool.and_false, decide_true, decide_false, Int.reduceEq, Int.reduceLT, Int.reduceLE, Int.reduceNe, Int.reduceAdd, Int.reduceSub, Int.reduceMul, Int.reduceNeg, List.nil_append, List.append_nil, List.cons_append]
theorem mMOVE : evCall (cx ρ) (k + 1) 0 6 [.nilp] H = some (.tup [.int .i64 0, .int .i64 2], H) := by
  rw [E6]; simp only [L6, pnS, purK_some, resK_some, boolK_some, condK_true, condK_false, wantV_tt, wantV_tf, wantV_ft, wantV_ff, wantV_t, wantV_f, wantV_skip, Bool.not_true, Bool.not_false, gPur_true, gPur_false, gEff_true, gEff_false, gRes_true, gRes_false, pickA_true, pickA_false, extA_0, extA_1, extA_2, retK_one, retK_none, retK_two, valK_fn, valR_fn, cond_true, cond_false, bin_add, bin_sub, bin_mul, bin_eql, bin_neq, bin_lss, bin_leq, bin_gtr, bin_geq, bin_seql, bin_sneq, un_not_t, un_not_f, un_not, cvI_int, cvT_str, nilChk_ptr, nilChk_xp, addA_ptr, lenT_str, Bool.true_or, Bool.or_true, Bool.false_or, Bool.or_false, Bool.true_and, Bool.and_true, Bool.false_and, Bool.and_false, decide_true, decide_false, Int.reduceEq, Int.reduceLT, Int.reduceLE, Int.reduceNe, Int.reduceAdd, Int.reduceSub, Int.reduceMul, Int.reduceNeg, List.nil_append, List.append_nil, List.cons_append]
theorem mRESUME : evCall (cx ρ) (k + 1) 0 7 [.nilp] H = some (.tup [.int .i64 0, .int .i64 2], H) := by
  rw [E7]; simp only [L7, pnS, purK_some, resK_some, boolK_some, condK_true, condK_false, wantV_tt, wantV_tf, wantV_ft, wantV_ff, wantV_t, wantV_f, wantV_skip, Bool.not_true, Bool.not_false, gPur_true, gPur_false, gEff_true, gEff_false, gRes_true, gRes_false, pickA_true, pickA_false, extA_0, extA_1, extA_2, retK_one, retK_none, retK_two, valK_fn, valR_fn, cond_true, cond_false, bin_add, bin_sub, bin_mul, bin_eql, bin_neq, bin_lss, bin_leq, bin_gtr, bin_geq, bin_seql, bin_sneq, un_not_t, un_not_f, un_not, cvI_int, cvT_str, nilChk_ptr, nilChk_xp, addA_ptr, lenT_str, Bool.true_or, Bool.or_true, Bool.false_or, Bool.or_false, Bool.true_and, Bool.and_true, Bool.false_and, Bool.and_false, decide_true, decide_false, Int.reduceEq, Int.reduceLT, Int.reduceLE, Int.reduceNe, Int.reduceAdd, Int.reduceSub, Int.reduceMul, Int.reduceNeg, List.nil_append, List.append_nil, List.cons_append]
theorem mOUT (x : AV) : evCall (cx ρ) (k + 1) 0 8 [.nilp, x] H = some (.tup [.agg outZ, .bool false], (H.new outO).put H.sz outO) := by
  rw [E8]
  simp (disch := first | ((try simp only [Heap.sz_new, Heap.sz_put, List.length_cons, List.length_nil, List.length_set, List.all_cons, List.all_nil, Bool.and_true, scal_int, sol_int, scal_bool, sol_bool, scal_str, sol_str, scal_nilp, sol_nilp, scal_ptr, sol_ptr, scal_nils, sol_nils, scal_sl, sol_sl, scal_sx, sol_sx, scal_xp, sol_xp, scal_xs, sol_xs, scal_nilm, sol_nilm, scal_mp, sol_mp, scal_nilf, sol_nilf, scal_fn, sol_fn, scal_nili, sol_nili, scal_ifc, sol_ifc]) <;> omega) | with_unfolding_all rfl) only [L8, pnS, ldT32, purK_some, resK_some, boolK_some, condK_true, condK_false, wantV_tt, wantV_tf, wantV_ft, wantV_ff, wantV_t, wantV_f, wantV_skip, Bool.not_true, Bool.not_false, gPur_true, gPur_false, gEff_true, gEff_false, gRes_true, gRes_false, pickA_true, pickA_false, extA_0, extA_1, extA_2, retK_one, retK_none, retK_two, valK_fn, valR_fn, cond_true, cond_false, bin_add, bin_sub, bin_mul, bin_eql, bin_neq, bin_lss, bin_leq, bin_gtr, bin_geq, bin_seql, bin_sneq, un_not_t, un_not_f, un_not, cvI_int, cvT_str, nilChk_ptr, nilChk_xp, addA_ptr, lenT_str, Bool.true_or, Bool.or_true, Bool.false_or, Bool.or_false, Bool.true_and, Bool.and_true, Bool.false_and, Bool.and_false, decide_true, decide_false, Int.reduceEq, Int.reduceLT, Int.reduceLE, Int.reduceNe, Int.reduceAdd, Int.reduceSub, Int.reduceMul, Int.reduceNeg, List.nil_append, List.append_nil, List.cons_append, effK_new, effK_put, effK_nothing, on_new, on_put, on_nothing, ld1_ptr, ldN_ptr, stA_one_ptr, stA_agg_ptr, ldC_cells, ldCN_cells, stC_one, stC_many, lay_all, newCells_eq, get_new_at, get_put_at, Heap.get_new_ne, Heap.get_put_ne, Heap.sz_new, Heap.sz_put, box1, boxA_agg, List.getElem?_cons_zero, List.getElem?_cons_succ, List.drop_zero, List.drop_succ_cons, List.take_zero, List.take_succ_cons, List.set_cons_zero, List.set_cons_succ, Nat.zero_add, Nat.add_zero, Nat.reduceAdd, bldA_eq, fillO_nil, fillO_one, fillO_agg, Option.map_some, Option.bind_some, repeatL, retC_eq, retAll_nil, retAll_none, retAll_some, Option.bind_some]
theorem mBEGIN (x : AV) : evCall (cx ρ) (k + 1) 0 11 [.nilp, x] H = some (.int .i64 2, H) := by
  rw [E11]; simp only [L11, pnS, purK_some, resK_some, boolK_some, condK_true, condK_false, wantV_tt, wantV_tf, wantV_ft, wantV_ff, wantV_t, wantV_f, wantV_skip, Bool.not_true, Bool.not_false, gPur_true, gPur_false, gEff_true, gEff_false, gRes_true, gRes_false, pickA_true, pickA_false, extA_0, extA_1, extA_2, retK_one, retK_none, retK_two, valK_fn, valR_fn, cond_true, cond_false, bin_add, bin_sub, bin_mul, bin_eql, bin_neq, bin_lss, bin_leq, bin_gtr, bin_geq, bin_seql, bin_sneq, un_not_t, un_not_f, un_not, cvI_int, cvT_str, nilChk_ptr, nilChk_xp, addA_ptr, lenT_str, Bool.true_or, Bool.or_true, Bool.false_or, Bool.or_false, Bool.true_and, Bool.and_true, Bool.false_and, Bool.and_false, decide_true, decide_false, Int.reduceEq, Int.reduceLT, Int.reduceLE, Int.reduceNe, Int.reduceAdd, Int.reduceSub, Int.reduceMul, Int.reduceNeg, List.nil_append, List.append_nil, List.cons_append]
theorem mSERIAL : evCall (cx ρ) (k + 1) 0 12 [.nilp] H = some (.int .i64 0, H) := by
  rw [E12]; simp only [L12, pnS, purK_some, resK_some, boolK_some, condK_true, condK_false, wantV_tt, wantV_tf, wantV_ft, wantV_ff, wantV_t, wantV_f, wantV_skip, Bool.not_true, Bool.not_false, gPur_true, gPur_false, gEff_true, gEff_false, gRes_true, gRes_false, pickA_true, pickA_false, extA_0, extA_1, extA_2, retK_one, retK_none, retK_two, valK_fn, valR_fn, cond_true, cond_false, bin_add, bin_sub, bin_mul, bin_eql, bin_neq, bin_lss, bin_leq, bin_gtr, bin_geq, bin_seql, bin_sneq, un_not_t, un_not_f, un_not, cvI_int, cvT_str, nilChk_ptr, nilChk_xp, addA_ptr, lenT_str, Bool.true_or, Bool.or_true, Bool.false_or, Bool.or_false, Bool.true_and, Bool.and_true, Bool.false_and, Bool.and_false, decide_true, decide_false, Int.reduceEq, Int.reduceLT, Int.reduceLE, Int.reduceNe, Int.reduceAdd, Int.reduceSub, Int.reduceMul, Int.reduceNeg, List.nil_append, List.append_nil, List.cons_append]
theorem mACTIVE : evCall (cx ρ) (k + 1) 0 13 [.nilp] H = some (.int .i64 0, H) := by
  rw [E13]; simp only [L13, pnS, purK_some, resK_some, boolK_some, condK_true, condK_false, wantV_tt, wantV_tf, wantV_ft, wantV_ff, wantV_t, wantV_f, wantV_skip, Bool.not_true, Bool.not_false, gPur_true, gPur_false, gEff_true, gEff_false, gRes_true, gRes_false, pickA_true, pickA_false, extA_0, extA_1, extA_2, retK_one, retK_none, retK_two, valK_fn, valR_fn, cond_true, cond_false, bin_add, bin_sub, bin_mul, bin_eql, bin_neq, bin_lss, bin_leq, bin_gtr, bin_geq, bin_seql, bin_sneq, un_not_t, un_not_f, un_not, cvI_int, cvT_str, nilChk_ptr, nilChk_xp, addA_ptr, lenT_str, Bool.true_or, Bool.or_true, Bool.false_or, Bool.or_false, Bool.true_and, Bool.and_true, Bool.false_and, Bool.and_false, decide_true, decide_false, Int.reduceEq, Int.reduceLT, Int.reduceLE, Int.reduceNe, Int.reduceAdd, Int.reduceSub, Int.reduceMul, Int.reduceNeg, List.nil_append, List.append_nil, List.cons_append]
theorem mPARKED : evCall (cx ρ) (k + 1) 0 14 [.nilp] H = some (.nils, H) := by
  rw [E14]; simp only [L14, pnS, purK_some, resK_some, boolK_some, condK_true, condK_false, wantV_tt, wantV_tf, wantV_ft, wantV_ff, wantV_t, wantV_f, wantV_skip, Bool.not_true, Bool.not_false, gPur_true, gPur_false, gEff_true, gEff_false, gRes_true, gRes_false, pickA_true, pickA_false, extA_0, extA_1, extA_2, retK_one, retK_none, retK_two, valK_fn, valR_fn, cond_true, cond_false, bin_add, bin_sub, bin_mul, bin_eql, bin_neq, bin_lss, bin_leq, bin_gtr, bin_geq, bin_seql, bin_sneq, un_not_t, un_not_f, un_not, cvI_int, cvT_str, nilChk_ptr, nilChk_xp, addA_ptr, lenT_str, Bool.true_or, Bool.or_true, Bool.false_or, Bool.or_false, Bool.true_and, Bool.and_true, Bool.false_and, Bool.and_false, decide_true, decide_false, Int.reduceEq, Int.reduceLT, Int.reduceLE, Int.reduceNe, Int.reduceAdd, Int.reduceSub, Int.reduceMul, Int.reduceNeg, List.nil_append, List.append_nil, List.cons_append]
theorem mIDLE : evCall (cx ρ) (k + 1) 0 15 [.nilp] H = some (.bool false, H) := by
  rw [E15]; simp only [L15, nnN, purK_some, resK_some, boolK_some, condK_true, condK_false, wantV_tt, wantV_tf, wantV_ft, wantV_ff, wantV_t, wantV_f, wantV_skip, Bool.not_true, Bool.not_false, gPur_true, gPur_false, gEff_true, gEff_false, gRes_true, gRes_false, pickA_true, pickA_false, extA_0, extA_1, extA_2, retK_one, retK_none, retK_two, valK_fn, valR_fn, cond_true, cond_false, bin_add, bin_sub, bin_mul, bin_eql, bin_neq, bin_lss, bin_leq, bin_gtr, bin_geq, bin_seql, bin_sneq, un_not_t, un_not_f, un_not, cvI_int, cvT_str, nilChk_ptr, nilChk_xp, addA_ptr, lenT_str, Bool.true_or, Bool.or_true, Bool.false_or, Bool.or_false, Bool.true_and, Bool.and_true, Bool.false_and, Bool.and_false, decide_true, decide_false, Int.reduceEq, Int.reduceLT, Int.reduceLE, Int.reduceNe, Int.reduceAdd, Int.reduceSub, Int.reduceMul, Int.reduceNeg, List.nil_append, List.append_nil, List.cons_append]
theorem mLOST : evCall (cx ρ) (k + 1) 0 16 [.nilp] H = some (.int .i64 0, H) := by
  rw [E16]; simp only [L16, pnS, purK_some, resK_some, boolK_some, condK_true, condK_false, wantV_tt, wantV_tf, wantV_ft, wantV_ff, wantV_t, wantV_f, wantV_skip, Bool.not_true, Bool.not_false, gPur_true, gPur_false, gEff_true, gEff_false, gRes_true, gRes_false, pickA_true, pickA_false, extA_0, extA_1, extA_2, retK_one, retK_none, retK_two, valK_fn, valR_fn, cond_true, cond_false, bin_add, bin_sub, bin_mul, bin_eql, bin_neq, bin_lss, bin_leq, bin_gtr, bin_geq, bin_seql, bin_sneq, un_not_t, un_not_f, un_not, cvI_int, cvT_str, nilChk_ptr, nilChk_xp, addA_ptr, lenT_str, Bool.true_or, Bool.or_true, Bool.false_or, Bool.or_false, Bool.true_and, Bool.and_true, Bool.false_and, Bool.and_false, decide_true, decide_false, Int.reduceEq, Int.reduceLT, Int.reduceLE, Int.reduceNe, Int.reduceAdd, Int.reduceSub, Int.reduceMul, Int.reduceNeg, List.nil_append, List.append_nil, List.cons_append]
theorem mNEW0 (x : AV) : evCall (cx ρ) (k + 1) 0 9 [.nilp, .nilp, x] H = some (.tup [.nilp, .int .i64 2], H) := by
  rw [E9]; simp only [L9, pnL, purK_some, resK_some, boolK_some, condK_true, condK_false, wantV_tt, wantV_tf, wantV_ft, wantV_ff, wantV_t, wantV_f, wantV_skip, Bool.not_true, Bool.not_false, gPur_true, gPur_false, gEff_true, gEff_false, gRes_true, gRes_false, pickA_true, pickA_false, extA_0, extA_1, extA_2, retK_one, retK_none, retK_two, valK_fn, valR_fn, cond_true, cond_false, bin_add, bin_sub, bin_mul, bin_eql, bin_neq, bin_lss, bin_leq, bin_gtr, bin_geq, bin_seql, bin_sneq, un_not_t, un_not_f, un_not, cvI_int, cvT_str, nilChk_ptr, nilChk_xp, addA_ptr, lenT_str, Bool.true_or, Bool.or_true, Bool.false_or, Bool.or_false, Bool.true_and, Bool.and_true, Bool.false_and, Bool.and_false, decide_true, decide_false, Int.reduceEq, Int.reduceLT, Int.reduceLE, Int.reduceNe, Int.reduceAdd, Int.reduceSub, Int.reduceMul, Int.reduceNeg, List.nil_append, List.append_nil, List.cons_append]
theorem mNEWbad (l v o l' v' o' : Nat) (x : Int) (h : x < 0 ∨ 8 ≤ x) : evCall (cx ρ) (k + 1) 0 9 [.ptr l v o, .ptr l' v' o', .int .i64 x] H = some (.tup [.nilp, .int .i64 1], H) := by
  rw [E9]
  by_cases h1 : x < 0
  · simp only [L9, ppL, ppX, h1, purK_some, resK_some, boolK_some, condK_true, condK_false, wantV_tt, wantV_tf, wantV_ft, wantV_ff, wantV_t, wantV_f, wantV_skip, Bool.not_true, Bool.not_false, gPur_true, gPur_false, gEff_true, gEff_false, gRes_true, gRes_false, pickA_true, pickA_false, extA_0, extA_1, extA_2, retK_one, retK_none, retK_two, valK_fn, valR_fn, cond_true, cond_false, bin_add, bin_sub, bin_mul, bin_eql, bin_neq, bin_lss, bin_leq, bin_gtr, bin_geq, bin_seql, bin_sneq, un_not_t, un_not_f, un_not, cvI_int, cvT_str, nilChk_ptr, nilChk_xp, addA_ptr, lenT_str, Bool.true_or, Bool.or_true, Bool.false_or, Bool.or_false, Bool.true_and, Bool.and_true, Bool.false_and, Bool.and_false, decide_true, decide_false, Int.reduceEq, Int.reduceLT, Int.reduceLE, Int.reduceNe, Int.reduceAdd, Int.reduceSub, Int.reduceMul, Int.reduceNeg, List.nil_append, List.append_nil, List.cons_append]
  · have h2 : 8 ≤ x := by omega
    simp only [L9, ppL, ppX, h1, h2, purK_some, resK_some, boolK_some, condK_true, condK_false, wantV_tt, wantV_tf, wantV_ft, wantV_ff, wantV_t, wantV_f, wantV_skip, Bool.not_true, Bool.not_false, gPur_true, gPur_false, gEff_true, gEff_false, gRes_true, gRes_false, pickA_true, pickA_false, extA_0, extA_1, extA_2, retK_one, retK_none, retK_two, valK_fn, valR_fn, cond_true, cond_false, bin_add, bin_sub, bin_mul, bin_eql, bin_neq, bin_lss, bin_leq, bin_gtr, bin_geq, bin_seql, bin_sneq, un_not_t, un_not_f, un_not, cvI_int, cvT_str, nilChk_ptr, nilChk_xp, addA_ptr, lenT_str, Bool.true_or, Bool.or_true, Bool.false_or, Bool.or_false, Bool.true_and, Bool.and_true, Bool.false_and, Bool.and_false, decide_true, decide_false, Int.reduceEq, Int.reduceLT, Int.reduceLE, Int.reduceNe, Int.reduceAdd, Int.reduceSub, Int.reduceMul, Int.reduceNeg, List.nil_append, List.append_nil, List.cons_append]
theorem mNEWok (l v o l' v' o' : Nat) (x : Int) (h : ¬ x < 0) (h2 : ¬ 8 ≤ x) : ∃ q H', evCall (cx ρ) (k + 1) 0 9 [.ptr l v o, .ptr l' v' o', .int .i64 x] H = some (.tup [.ptr q 0 0, .int .i64 0], H') ∧ Fr Nop H H' := by
  rw [E9]
  have mm : makeMapA H = (.mp H.sz, .new (.map [] 0)) := rfl
  simp (disch := first | ((try simp only [Heap.sz_new, Heap.sz_put, List.length_cons, List.length_nil, List.length_set, List.all_cons, List.all_nil, Bool.and_true, scal_int, sol_int, scal_bool, sol_bool, scal_str, sol_str, scal_nilp, sol_nilp, scal_ptr, sol_ptr, scal_nils, sol_nils, scal_sl, sol_sl, scal_sx, sol_sx, scal_xp, sol_xp, scal_xs, sol_xs, scal_nilm, sol_nilm, scal_mp, sol_mp, scal_nilf, sol_nilf, scal_fn, sol_fn, scal_nili, sol_nili, scal_ifc, sol_ifc]) <;> omega) | with_unfolding_all rfl) only [L9, ppL, ppX, h, h2, mm, purK_some, resK_some, boolK_some, condK_true, condK_false, wantV_tt, wantV_tf, wantV_ft, wantV_ff, wantV_t, wantV_f, wantV_skip, Bool.not_true, Bool.not_false, gPur_true, gPur_false, gEff_true, gEff_false, gRes_true, gRes_false, pickA_true, pickA_false, extA_0, extA_1, extA_2, retK_one, retK_none, retK_two, valK_fn, valR_fn, cond_true, cond_false, bin_add, bin_sub, bin_mul, bin_eql, bin_neq, bin_lss, bin_leq, bin_gtr, bin_geq, bin_seql, bin_sneq, un_not_t, un_not_f, un_not, cvI_int, cvT_str, nilChk_ptr, nilChk_xp, addA_ptr, lenT_str, Bool.true_or, Bool.or_true, Bool.false_or, Bool.or_false, Bool.true_and, Bool.and_true, Bool.false_and, Bool.and_false, decide_true, decide_false, Int.reduceEq, Int.reduceLT, Int.reduceLE, Int.reduceNe, Int.reduceAdd, Int.reduceSub, Int.reduceMul, Int.reduceNeg, List.nil_append, List.append_nil, List.cons_append, effK_new, effK_put, effK_nothing, on_new, on_put, on_nothing, ld1_ptr, ldN_ptr, stA_one_ptr, stA_agg_ptr, ldC_cells, ldCN_cells, stC_one, stC_many, lay_all, newCells_eq, get_new_at, get_put_at, Heap.get_new_ne, Heap.get_put_ne, Heap.sz_new, Heap.sz_put, box1, boxA_agg, List.getElem?_cons_zero, List.getElem?_cons_succ, List.drop_zero, List.drop_succ_cons, List.take_zero, List.take_succ_cons, List.set_cons_zero, List.set_cons_succ, Nat.zero_add, Nat.add_zero, Nat.reduceAdd, bldA_eq, fillO_nil, fillO_one, fillO_agg, Option.map_some, Option.bind_some, repeatL]
  exact ⟨_, _, rfl, (Fr.new _ _ _).trans (Fr.new _ _ _)⟩
end
theorem law_run (x : Int) : ∃ H, evCall (cx ρ0) 101 0 3 [.agg (opC a n s t), .int .i64 x] Heap.nil = some (.bool true, H) := by
  rw [E3 ρ0 100]
  obtain ⟨H1, h1, g1, z1⟩ := of_fin (awake_fin a n s t) (by intro h; cases h)
  have ho := open_fin a n s t
  rw [h1] at ho
  simp only [heapOf] at ho
  have h1' : evCall (cx ρ0) 100 0 4 [] (Heap.nil.new (opO a n s t)) = some (.bool true, H1) := by rw [← fast_eq]; exact h1
  cases hfo : finO (HO a n s t H1).sz (fast ρ0 100 0 10 [cfg] (HB a n s t H1)) with
  | none => rw [hfo] at ho; cases ho
  | some y =>
    rw [hfo] at ho
    obtain ⟨l, v, H5, e, fr, g, l1, v1, o1, l2, v2, o2, c, h5, g5, c5, z5⟩ := of_finO hfo
    rw [fast_eq] at h5
    have c5 : H5.get (HO a n s t H1).sz = outO := c5.trans ho
    have bx : boxA Heap.nil 24 (.agg (opC a n s t)) = some (.ptr 0 0 0, .new (opO a n s t)) := boxA_agg _ _ _ rfl
    have ln : lenS .nils = some (.int .i64 0) := rfl
    have g1' : ldCN 4 0 0 (opO a n s t) = some (.agg (opC a n s t)) := rfl
    have hHB : ((HO a n s t H1).new outO).put (HO a n s t H1).sz outO = HB a n s t H1 := rfl
    have hHO : ((HA a n s t H1).new outO).put (HA a n s t H1).sz outO = HO a n s t H1 := rfl
    have cfgE : bldA [.int .i64 0, .int .i64 0, .int .i64 0, .int .i64 0, .int .i64 0, .int .i64 0] [(0, 1, (.int .i64 5)), (1, 1, (.int .i64 2)), (2, 1, (.int .i64 4)), (3, 1, (.int .i64 1)), (5, 1, (.int .i64 8))] = some cfg := rfl
    by_cases h0 : x < 0
    · have h6 := mNEWbad ρ0 99 H5 l1 v1 o1 l2 v2 o2 x (Or.inl h0)
      have h01 : ¬ 0 ≤ x := by omega
      refine ⟨H5, ?_⟩
      simp (disch := first | ((try simp only [Heap.sz_new, Heap.sz_put, List.length_cons, List.length_nil, List.length_set, List.all_cons, List.all_nil, Bool.and_true, scal_int, sol_int, scal_bool, sol_bool, scal_str, sol_str, scal_nilp, sol_nilp, scal_ptr, sol_ptr, scal_nils, sol_nils, scal_sl, sol_sl, scal_sx, sol_sx, scal_xp, sol_xp, scal_xs, sol_xs, scal_nilm, sol_nilm, scal_mp, sol_mp, scal_nilf, sol_nilf, scal_fn, sol_fn, scal_nili, sol_nili, scal_ifc, sol_ifc]) <;> omega) | with_unfolding_all rfl) only [L3, bx, h1', g1, g1', h01, mASK a n s t ρ0 99, mMOVE ρ0 99, mRESUME ρ0 99, mOUT ρ0 99, hHO, hHB, mNEW0 ρ0 99, cfgE, h5, g5, h6, c5, eqOut, mBEGIN ρ0 99, mSERIAL ρ0 99, mACTIVE ρ0 99, mPARKED ρ0 99, mIDLE ρ0 99, mLOST ρ0 99, ln, pnS, nnS, nnN, bbT, purK_some, resK_some, boolK_some, condK_true, condK_false, wantV_tt, wantV_tf, wantV_ft, wantV_ff, wantV_t, wantV_f, wantV_skip, Bool.not_true, Bool.not_false, gPur_true, gPur_false, gEff_true, gEff_false, gRes_true, gRes_false, pickA_true, pickA_false, extA_0, extA_1, extA_2, retK_one, retK_none, retK_two, valK_fn, valR_fn, cond_true, cond_false, bin_add, bin_sub, bin_mul, bin_eql, bin_neq, bin_lss, bin_leq, bin_gtr, bin_geq, bin_seql, bin_sneq, un_not_t, un_not_f, un_not, cvI_int, cvT_str, nilChk_ptr, nilChk_xp, addA_ptr, lenT_str, Bool.true_or, Bool.or_true, Bool.false_or, Bool.or_false, Bool.true_and, Bool.and_true, Bool.false_and, Bool.and_false, decide_true, decide_false, Int.reduceEq, Int.reduceLT, Int.reduceLE, Int.reduceNe, Int.reduceAdd, Int.reduceSub, Int.reduceMul, Int.reduceNeg, List.nil_append, List.append_nil, List.cons_append, effK_new, effK_put, effK_nothing, on_new, on_put, on_nothing, ld1_ptr, ldN_ptr, stA_one_ptr, stA_agg_ptr, ldC_cells, ldCN_cells, stC_one, stC_many, lay_all, newCells_eq, get_new_at, get_put_at, Heap.get_new_ne, Heap.get_put_ne, Heap.sz_new, Heap.sz_put, box1, boxA_agg, List.getElem?_cons_zero, List.getElem?_cons_succ, List.drop_zero, List.drop_succ_cons, List.take_zero, List.take_succ_cons, List.set_cons_zero, List.set_cons_succ, Nat.zero_add, Nat.add_zero, Nat.reduceAdd, bldA_eq, fillO_nil, fillO_one, fillO_agg, Option.map_some, Option.bind_some, repeatL]
    · have h01 : 0 ≤ x := by omega
      by_cases h8 : 8 ≤ x
      · have h6 := mNEWbad ρ0 99 H5 l1 v1 o1 l2 v2 o2 x (Or.inr h8)
        have h81 : ¬ x < 8 := by omega
        refine ⟨H5, ?_⟩
        simp (disch := first | ((try simp only [Heap.sz_new, Heap.sz_put, List.length_cons, List.length_nil, List.length_set, List.all_cons, List.all_nil, Bool.and_true, scal_int, sol_int, scal_bool, sol_bool, scal_str, sol_str, scal_nilp, sol_nilp, scal_ptr, sol_ptr, scal_nils, sol_nils, scal_sl, sol_sl, scal_sx, sol_sx, scal_xp, sol_xp, scal_xs, sol_xs, scal_nilm, sol_nilm, scal_mp, sol_mp, scal_nilf, sol_nilf, scal_fn, sol_fn, scal_nili, sol_nili, scal_ifc, sol_ifc]) <;> omega) | with_unfolding_all rfl) only [L3, bx, h1', g1, g1', h01, h81, mASK a n s t ρ0 99, mMOVE ρ0 99, mRESUME ρ0 99, mOUT ρ0 99, hHO, hHB, mNEW0 ρ0 99, cfgE, h5, g5, h6, c5, eqOut, mBEGIN ρ0 99, mSERIAL ρ0 99, mACTIVE ρ0 99, mPARKED ρ0 99, mIDLE ρ0 99, mLOST ρ0 99, ln, pnS, nnS, nnN, bbT, purK_some, resK_some, boolK_some, condK_true, condK_false, wantV_tt, wantV_tf, wantV_ft, wantV_ff, wantV_t, wantV_f, wantV_skip, Bool.not_true, Bool.not_false, gPur_true, gPur_false, gEff_true, gEff_false, gRes_true, gRes_false, pickA_true, pickA_false, extA_0, extA_1, extA_2, retK_one, retK_none, retK_two, valK_fn, valR_fn, cond_true, cond_false, bin_add, bin_sub, bin_mul, bin_eql, bin_neq, bin_lss, bin_leq, bin_gtr, bin_geq, bin_seql, bin_sneq, un_not_t, un_not_f, un_not, cvI_int, cvT_str, nilChk_ptr, nilChk_xp, addA_ptr, lenT_str, Bool.true_or, Bool.or_true, Bool.false_or, Bool.or_false, Bool.true_and, Bool.and_true, Bool.false_and, Bool.and_false, decide_true, decide_false, Int.reduceEq, Int.reduceLT, Int.reduceLE, Int.reduceNe, Int.reduceAdd, Int.reduceSub, Int.reduceMul, Int.reduceNeg, List.nil_append, List.append_nil, List.cons_append, effK_new, effK_put, effK_nothing, on_new, on_put, on_nothing, ld1_ptr, ldN_ptr, stA_one_ptr, stA_agg_ptr, ldC_cells, ldCN_cells, stC_one, stC_many, lay_all, newCells_eq, get_new_at, get_put_at, Heap.get_new_ne, Heap.get_put_ne, Heap.sz_new, Heap.sz_put, box1, boxA_agg, List.getElem?_cons_zero, List.getElem?_cons_succ, List.drop_zero, List.drop_succ_cons, List.take_zero, List.take_succ_cons, List.set_cons_zero, List.set_cons_succ, Nat.zero_add, Nat.add_zero, Nat.reduceAdd, bldA_eq, fillO_nil, fillO_one, fillO_agg, Option.map_some, Option.bind_some, repeatL]
      · obtain ⟨q, H6, h6, f6⟩ := mNEWok ρ0 99 H5 l1 v1 o1 l2 v2 o2 x h0 h8
        have h81 : x < 8 := by omega
        have c6 : H6.get (HO a n s t H1).sz = outO := by
          rw [f6.get _ z5 (fun q => q), c5]
        refine ⟨H6, ?_⟩
        simp (disch := first | ((try simp only [Heap.sz_new, Heap.sz_put, List.length_cons, List.length_nil, List.length_set, List.all_cons, List.all_nil, Bool.and_true, scal_int, sol_int, scal_bool, sol_bool, scal_str, sol_str, scal_nilp, sol_nilp, scal_ptr, sol_ptr, scal_nils, sol_nils, scal_sl, sol_sl, scal_sx, sol_sx, scal_xp, sol_xp, scal_xs, sol_xs, scal_nilm, sol_nilm, scal_mp, sol_mp, scal_nilf, sol_nilf, scal_fn, sol_fn, scal_nili, sol_nili, scal_ifc, sol_ifc]) <;> omega) | with_unfolding_all rfl) only [L3, bx, h1', g1, g1', h01, h81, c6, mASK a n s t ρ0 99, mMOVE ρ0 99, mRESUME ρ0 99, mOUT ρ0 99, hHO, hHB, mNEW0 ρ0 99, cfgE, h5, g5, h6, c5, eqOut, mBEGIN ρ0 99, mSERIAL ρ0 99, mACTIVE ρ0 99, mPARKED ρ0 99, mIDLE ρ0 99, mLOST ρ0 99, ln, pnS, nnS, nnN, bbT, purK_some, resK_some, boolK_some, condK_true, condK_false, wantV_tt, wantV_tf, wantV_ft, wantV_ff, wantV_t, wantV_f, wantV_skip, Bool.not_true, Bool.not_false, gPur_true, gPur_false, gEff_true, gEff_false, gRes_true, gRes_false, pickA_true, pickA_false, extA_0, extA_1, extA_2, retK_one, retK_none, retK_two, valK_fn, valR_fn, cond_true, cond_false, bin_add, bin_sub, bin_mul, bin_eql, bin_neq, bin_lss, bin_leq, bin_gtr, bin_geq, bin_seql, bin_sneq, un_not_t, un_not_f, un_not, cvI_int, cvT_str, nilChk_ptr, nilChk_xp, addA_ptr, lenT_str, Bool.true_or, Bool.or_true, Bool.false_or, Bool.or_false, Bool.true_and, Bool.and_true, Bool.false_and, Bool.and_false, decide_true, decide_false, Int.reduceEq, Int.reduceLT, Int.reduceLE, Int.reduceNe, Int.reduceAdd, Int.reduceSub, Int.reduceMul, Int.reduceNeg, List.nil_append, List.append_nil, List.cons_append, effK_new, effK_put, effK_nothing, on_new, on_put, on_nothing, ld1_ptr, ldN_ptr, stA_one_ptr, stA_agg_ptr, ldC_cells, ldCN_cells, stC_one, stC_many, lay_all, newCells_eq, get_new_at, get_put_at, Heap.get_new_ne, Heap.get_put_ne, Heap.sz_new, Heap.sz_put, box1, boxA_agg, List.getElem?_cons_zero, List.getElem?_cons_succ, List.drop_zero, List.drop_succ_cons, List.take_zero, List.take_succ_cons, List.set_cons_zero, List.set_cons_succ, Nat.zero_add, Nat.add_zero, Nat.reduceAdd, bldA_eq, fillO_nil, fillO_one, fillO_agg, Option.map_some, Option.bind_some, repeatL]
end
end Go.Proofs.YtipjgmjmfkhcnaaGreat
