/- PlanRounds: the law. -/
import Derived.Test.YtcjicmabhejllaaPlD
set_option linter.unusedVariables false
set_option linter.unusedSimpArgs false
namespace Go.Proofs.Ytcjicmabhejllaa
attribute [local congr] Go.Ev.cond_congr1
open Go.Ev Go.RowKit
abbrev ρ0 : Addr → Option Value := fun _ => none
theorem aw_run (ρ : Addr → Option Value) (k : Nat) (H : Heap) : evCall (cx ρ) (k + 5) 0 9 [] H = some (.bool true, H) := by kernel_rfl
def dsUpto (s t m : Nat) : List StepD := (List.range m).map (stepAt s t)
theorem rows_map (s t m : Nat) : rowsUpto s t m = (dsUpto s t m).map StepD.cells := by simp [rowsUpto, dsUpto]
theorem stepAt_picks (s t i : Nat) : (stepAt s t i).picks = .nils := by unfold stepAt; split <;> rfl
theorem stepAt_op (s t i : Nat) : (stepAt s t i).op = ⟨0, ByteArray.empty, ByteArray.empty, 0⟩ := by unfold stepAt; split <;> rfl
theorem hasMove_of {ds : List StepD} {i : Nat} (h : i < ds.length) (s : Int) (h1 : ds[i].kind = 2) (h2 : ds[i].s = s) : hasMove ds s = true := by
  unfold hasMove
  rw [List.any_eq_true]
  exact ⟨ds[i], List.getElem_mem h, by simp [h1, h2]⟩
theorem fair_rounds (s t : Nat) (hs : 1 ≤ s) : ∀ (n r c f : Nat), c = r + n → n < f → fairGo s (2 * s + t) f ((dsUpto s t (c * (2 * s + t))).drop (r * (2 * s + t))) = true := by
  intro n
  induction n with
  | zero =>
    intro r c f hc hf
    obtain ⟨f, rfl⟩ : ∃ q, f = q + 1 := ⟨f - 1, by omega⟩
    rw [fairGo, if_neg]
    subst hc
    rw [List.length_drop]
    simp only [dsUpto, List.length_map, List.length_range, Nat.add_zero, Nat.sub_self]
    omega
  | succ n ih =>
    intro r c f hc hf
    obtain ⟨f, rfl⟩ : ∃ q, f = q + 1 := ⟨f - 1, by omega⟩
    have hlen : (dsUpto s t (c * (2 * s + t))).length = c * (2 * s + t) := by simp [dsUpto]
    have hle : (r + 1) * (2 * s + t) ≤ c * (2 * s + t) := Nat.mul_le_mul_right _ (by omega)
    rw [Nat.succ_mul r (2 * s + t)] at hle
    have hw : 2 * s + t ≤ ((dsUpto s t (c * (2 * s + t))).drop (r * (2 * s + t))).length := by rw [List.length_drop, hlen]; omega
    rw [fairGo, if_pos hw, List.drop_drop, ← Nat.succ_mul r (2 * s + t), ih (r + 1) c f (by omega) (by omega), Bool.and_true]
    unfold movesP
    rw [List.all_eq_true]
    intro q hq
    have hq : q < s := by have := List.mem_range.1 hq; omega
    have hi : 2 * q < (((dsUpto s t (c * (2 * s + t))).drop (r * (2 * s + t))).take (2 * s + t)).length := by rw [List.length_take]; omega
    have e : (((dsUpto s t (c * (2 * s + t))).drop (r * (2 * s + t))).take (2 * s + t))[2 * q] = mkStep 2 q 0 := by
      rw [List.getElem_take, List.getElem_drop]
      simp only [dsUpto, List.getElem_map, List.getElem_range]
      exact stepAt_move s t r q hq
    exact hasMove_of hi _ (by rw [e]; rfl) (by rw [e]; rfl)
theorem neqOp (H : Heap) : binA Try.prog H .neq 39 (.agg [.int .i64 0, .str ByteArray.empty, .str ByteArray.empty, .int .u64 0]) (.agg [.int .i64 0, .str ByteArray.empty, .str ByteArray.empty, .int .u64 0]) = some (.bool false) := by kernel_rfl
section
variable {ρ : Addr → Option Value} {call : CallF} {yc : YieldF} {k : Nat} {x : AV}
theorem tmodN (a b : Nat) : (a : Int).tmod b = ((a % b : Nat) : Int) := rfl
theorem tdivN (a b : Nat) : (a : Int).tdiv b = ((a / b : Nat) : Int) := rfl
theorem tmod2 (a : Nat) : (a : Int).tmod 2 = ((a % 2 : Nat) : Int) := rfl
theorem tdiv2 (a : Nat) : (a : Int).tdiv 2 = ((a / 2 : Nat) : Int) := rfl
theorem law_cmp {H : Heap} {ds : List StepD} (hx : Els ρ H 8 x (ds.map StepD.cells)) (i l : Nat) (hi : i < ds.length) (hp : ds[i].picks = .nils) (ho : ds[i].op = ⟨0, ByteArray.empty, ByteArray.empty, 0⟩) (hl : H.get l = .cells 0 42 (0, 0) false ds[i].cells)
    (x0 x1 x9 : AV) (kn : AV → AV → AV → AV → AV → Heap → Res) (R : List AV → Heap → Res) : N6_5 ρ call yc 0 k x0 x1 x x9 (.int .i64 i) (.ptr l 0 0) H kn R = kn x0 x1 x x9 (.int .i64 i) H := by
  have hi2 : i < (ds.map StepD.cells).length := by simpa using hi
  have e3 := hx.ix .i64 i (by omega) (by simpa using hi)
  rw [Int.toNat_natCast] at e3
  have e4 := fun n => elp_add hx i 0 n hi2
  have l0 := hx.ld1 i 0 hi2 (by omega)
  have l1 := hx.ld1 i 1 hi2 (by omega)
  have l2 := hx.ld1 i 2 hi2 (by omega)
  have l7 := hx.ld1 i 7 hi2 (by omega)
  have l3 := hx.ldSub i 3 4 hi2 (by omega)
  simp only [List.getElem_map, StepD.cells, ho, hp, List.getElem?_cons_zero, List.getElem?_cons_succ, List.drop_succ_cons, List.drop_zero, List.take_succ_cons, List.take_zero] at l0 l1 l2 l3 l7
  simp only [StepD.cells, ho, hp] at hl
  have ln : lenS .nils = some (.int .i64 0) := rfl
  simp (disch := first | ((try simp only [Heap.sz_new, Heap.sz_put, List.length_cons, List.length_nil, List.length_set, List.all_cons, List.all_nil, Bool.and_true, scal_int, sol_int, scal_bool, sol_bool, scal_str, sol_str, scal_nilp, sol_nilp, scal_ptr, sol_ptr, scal_nils, sol_nils, scal_sl, sol_sl, scal_sx, sol_sx, scal_xp, sol_xp, scal_xs, sol_xs, scal_nilm, sol_nilm, scal_mp, sol_mp, scal_nilf, sol_nilf, scal_fn, sol_fn, scal_nili, sol_nili, scal_ifc, sol_ifc]) <;> omega) | with_unfolding_all rfl) only [N6_5, e3, e4, l0, l1, l2, l3, l7, hl, neqOp, ln, ne_eq, not_true, purK_some, resK_some, boolK_some, condK_true, condK_false, wantV_tt, wantV_tf, wantV_ft, wantV_ff, wantV_t, wantV_f, wantV_skip, Bool.not_true, Bool.not_false, gPur_true, gPur_false, gEff_true, gEff_false, gRes_true, gRes_false, pickA_true, pickA_false, extA_0, extA_1, extA_2, retK_one, retK_none, retK_two, valK_fn, valR_fn, cond_true, cond_false, bin_add, bin_sub, bin_mul, bin_eql, bin_neq, bin_lss, bin_leq, bin_gtr, bin_geq, bin_seql, bin_sneq, un_not_t, un_not_f, un_not, cvI_int, cvT_str, nilChk_ptr, nilChk_xp, addA_ptr, lenT_str, Bool.true_or, Bool.or_true, Bool.false_or, Bool.or_false, Bool.true_and, Bool.and_true, Bool.false_and, Bool.and_false, decide_true, decide_false, List.nil_append, List.append_nil, List.cons_append, effK_new, effK_put, effK_nothing, on_new, on_put, on_nothing, ld1_ptr, ldN_ptr, stA_one_ptr, stA_agg_ptr, ldC_cells, ldCN_cells, stC_one, stC_many, lay_all, newCells_eq, get_new_at, get_put_at, Heap.get_new_ne, Heap.get_put_ne, Heap.sz_new, Heap.sz_put, box1, boxA_agg, List.getElem?_cons_zero, List.getElem?_cons_succ, List.drop_zero, List.drop_succ_cons, List.take_zero, List.take_succ_cons, List.set_cons_zero, List.set_cons_succ, Nat.zero_add, Nat.add_zero, Nat.reduceAdd]
theorem w7 (a : Nat) (h : a < 1000) : wrapK .i64 (2 + ((a % 2 : Nat) : Int)) = ((2 + a % 2 : Nat) : Int) := wrap_addN 2 (a % 2) (by omega)
theorem w8 (a : Nat) (h : a < 1000) : wrapK .i64 ((a / 2 : Nat) : Int) = ((a / 2 : Nat) : Int) := wrap_nat _ (by omega)
theorem w9 (u a b : Nat) (h : u < 1000000) (h2 : a < 1000) : wrapK .i64 ((u : Nat) : Int) = ((u : Nat) : Int) ∧ wrapK .i64 (((u : Nat) : Int) + ((a : Nat) : Int)) = ((u + a : Nat) : Int) ∧ wrapK .i64 (((u + a - b : Nat) : Int) + 1) = ((u + a - b + 1 : Nat) : Int) :=
  ⟨wrap_nat _ (by omega), wrap_addN _ _ (by omega), wrap_succN _ (by omega)⟩
theorem law_loop (s t m : Nat) (hs1 : 1 ≤ s) (hs : s ≤ 8) (ht : t ≤ 32) (hm : m ≤ 4800) (k0 : Heap → Res) (R : List AV → Heap → Res)
    (B : AV → Heap → (AV → Heap → Res) → Res) (hB : ∀ y H kn, B y H kn = N6_3b ρ call yc 0 k (.int .i64 s) (.int .i64 t) x (.int .i64 (2 * s + t : Nat)) y H (fun _ _ _ _ x10 H => kn x10 H) k0 R) :
    ∀ (q i n : Nat) (H : Heap), m - i = q → i ≤ m → q < n → Els ρ H 8 x ((dsUpto s t m).map StepD.cells) → ∃ H', loopL B n (.int .i64 i) H = k0 H' := by
  intro q
  induction q with
  | zero =>
    intro i n H hq hi hn hx
    obtain ⟨n, rfl⟩ : ∃ q, n = q + 1 := ⟨n - 1, by omega⟩
    have h : ¬ (i : Int) < ((dsUpto s t m).length : Nat) := by simp [dsUpto]; omega
    refine ⟨H, ?_⟩
    rw [loopL_succ, hB]
    simp only [N6_3b, hx.lenS, List.length_map, h, purK_some, resK_some, boolK_some, condK_true, condK_false, wantV_tt, wantV_tf, wantV_ft, wantV_ff, wantV_t, wantV_f, wantV_skip, Bool.not_true, Bool.not_false, gPur_true, gPur_false, gEff_true, gEff_false, gRes_true, gRes_false, pickA_true, pickA_false, extA_0, extA_1, extA_2, retK_one, retK_none, retK_two, valK_fn, valR_fn, cond_true, cond_false, bin_add, bin_sub, bin_mul, bin_eql, bin_neq, bin_lss, bin_leq, bin_gtr, bin_geq, bin_seql, bin_sneq, un_not_t, un_not_f, un_not, cvI_int, cvT_str, nilChk_ptr, nilChk_xp, addA_ptr, lenT_str, Bool.true_or, Bool.or_true, Bool.false_or, Bool.or_false, Bool.true_and, Bool.and_true, Bool.false_and, Bool.and_false, decide_true, decide_false, List.nil_append, List.append_nil, List.cons_append]
  | succ q ih =>
    intro i n H hq hi hn hx
    obtain ⟨n, rfl⟩ : ∃ q, n = q + 1 := ⟨n - 1, by omega⟩
    have hdl : (dsUpto s t m).length = m := by simp [dsUpto]
    have hi1 : i < (dsUpto s t m).length := by omega
    have h : (i : Int) < ((dsUpto s t m).length : Nat) := by rw [hdl]; omega
    have hds : (dsUpto s t m)[i] = stepAt s t i := by simp [dsUpto]
    obtain ⟨w, hw⟩ : ∃ w, w = 2 * s + t := ⟨_, rfl⟩
    have hw1 : 0 < w := by omega
    have hw2 : w ≤ 48 := by omega
    have him : i < 4800 := by omega
    have f1 : m - (i + 1) = q := by omega
    have f2 : i + 1 ≤ m := by omega
    have f3 : q < n := by omega
    obtain ⟨a, ha⟩ : ∃ a, a = i % w := ⟨_, rfl⟩
    have haw : a < w := by rw [ha]; exact Nat.mod_lt _ hw1
    have tm : (i : Int).tmod w = (a : Nat) := by rw [tmodN, ha]
    obtain ⟨u, hu⟩ : ∃ u, u = i / w * t := ⟨_, rfl⟩
    have hdv : i / w < 4800 := Nat.lt_of_le_of_lt (Nat.div_le_self ..) him
    have hu2 : u ≤ 4800 * 32 := by rw [hu]; exact Nat.mul_le_mul (Nat.le_of_lt hdv) ht
    have hstA : a < 2 * s → stepAt s t i = mkStep (2 + a % 2 : Nat) (a / 2 : Nat) 0 := fun h2 => by rw [stepAt, ← hw, ← ha, if_pos h2]
    have hstB : ¬ a < 2 * s → stepAt s t i = mkStep 4 0 (u + a - 2 * s + 1 : Nat) := fun h2 => by rw [stepAt, ← hw, ← ha, if_neg h2, hu]
    have z1 : ((2 * s + t : Nat) : Int) = (w : Nat) := by rw [hw]
    have z2 : ((w : Nat) : Int) ≠ 0 := fun h => absurd (Int.ofNat.inj h) (Nat.ne_of_gt hw1)
    have z3 : (2 : Int) ≠ 0 := by decide
    have z7 := w7 a (Nat.lt_of_lt_of_le haw (Nat.le_trans hw2 (by decide)))
    have z8 := w8 a (Nat.lt_of_lt_of_le haw (Nat.le_trans hw2 (by decide)))
    have z9 : wrapK .i64 (2 * (s : Int)) = ((2 * s : Nat) : Int) := wrap_mulN 2 s (Nat.lt_of_le_of_lt (Nat.mul_le_mul_left 2 hs) (by decide))
    have z10 : wrapK .i64 ((i : Int) + 1) = ((i + 1 : Nat) : Int) := wrap_succN i (Nat.lt_of_le_of_lt (Nat.succ_le_of_lt him) (by decide))
    have y2 : wrapK .i64 ((i / w : Nat) : Int) = ((i / w : Nat) : Int) := wrap_nat _ (Nat.lt_trans hdv (by decide))
    have y3 : ((i / w : Nat) : Int) * (t : Int) = ((u : Nat) : Int) := by rw [hu, Int.natCast_mul]
    have hu3 : u < 1000000 := Nat.lt_of_le_of_lt hu2 (by decide)
    have ha3 : a < 1000 := Nat.lt_of_lt_of_le haw (Nat.le_trans hw2 (by decide))
    obtain ⟨y4, y5, y7⟩ := w9 u a (2 * s) hu3 ha3
    have y6 : 2 * s ≤ a → wrapK .i64 (((u + a : Nat) : Int) - ((2 * s : Nat) : Int)) = ((u + a - 2 * s : Nat) : Int) := fun h => wrap_subN _ _ (Nat.le_trans h (Nat.le_add_left ..)) (Nat.lt_trans (Nat.add_lt_add hu3 ha3) (by decide))
    have fA : a < 2 * s → ¬ ((2 * s : Nat) : Int) ≤ (a : Nat) := fun h h' => absurd (Int.ofNat_le.1 h') (Nat.not_le.2 h)
    have fB : ¬ a < 2 * s → ((2 * s : Nat) : Int) ≤ (a : Nat) := fun h => Int.ofNat_le.2 (Nat.le_of_not_lt h)
    rw [loopL_succ, hB, z1]
    by_cases h2 : a < 2 * s
    · have hst := hstA h2
      have h3 := fA h2
      obtain ⟨H2, hH2⟩ : ∃ H2, H2 = (H.new (.cells 0 42 (0, 0) false [.int .i64 0, .int .i64 0, .int .i64 0, .int .i64 0, .str ByteArray.empty, .str ByteArray.empty, .int .u64 0, .nils])).put H.sz (.cells 0 42 (0, 0) false (stepAt s t i).cells) := ⟨_, rfl⟩
      have hF : Fr Nop H H2 := by
        rw [hH2]
        exact (Fr.new Nop H _).trans' (Fr.put _ H.sz _ (S := fun l => l = H.sz) fun _ => rfl) fun l h q => absurd q (Nat.ne_of_lt h)
      have hx2 := hx.frame0 hF
      obtain ⟨H', h4⟩ := ih (i + 1) n H2 f1 f2 f3 hx2
      refine ⟨H', ?_⟩
      rw [← h4]
      have hc := law_cmp (call := call) (yc := yc) (k := k) hx2 i H.sz hi1 (by rw [hds, stepAt_picks]) (by rw [hds, stepAt_op]) (by rw [hds, hH2, Heap.get_put, if_pos rfl]) (.int .i64 s) (.int .i64 t) (.int .i64 w)
      rw [hst] at hH2
      simp only [mkStep, StepD.cells] at hH2
      simp (disch := first | exact z2 | exact z3 | (first | ((try simp only [Heap.sz_new, Heap.sz_put, List.length_cons, List.length_nil, List.length_set, List.all_cons, List.all_nil, Bool.and_true, scal_int, sol_int, scal_bool, sol_bool, scal_str, sol_str, scal_nilp, sol_nilp, scal_ptr, sol_ptr, scal_nils, sol_nils, scal_sl, sol_sl, scal_sx, sol_sx, scal_xp, sol_xp, scal_xs, sol_xs, scal_nilm, sol_nilm, scal_mp, sol_mp, scal_nilf, sol_nilf, scal_fn, sol_fn, scal_nili, sol_nili, scal_ifc, sol_ifc]) <;> omega) | with_unfolding_all rfl)) only [N6_3b, hx.lenS, List.length_map, h, h3, bin_rem, bin_quo, tmod2, tdiv2, tm, tdivN, z7, z8, z9, purK_some, resK_some, boolK_some, condK_true, condK_false, wantV_tt, wantV_tf, wantV_ft, wantV_ff, wantV_t, wantV_f, wantV_skip, Bool.not_true, Bool.not_false, gPur_true, gPur_false, gEff_true, gEff_false, gRes_true, gRes_false, pickA_true, pickA_false, extA_0, extA_1, extA_2, retK_one, retK_none, retK_two, valK_fn, valR_fn, cond_true, cond_false, bin_add, bin_sub, bin_mul, bin_eql, bin_neq, bin_lss, bin_leq, bin_gtr, bin_geq, bin_seql, bin_sneq, un_not_t, un_not_f, un_not, cvI_int, cvT_str, nilChk_ptr, nilChk_xp, addA_ptr, lenT_str, Bool.true_or, Bool.or_true, Bool.false_or, Bool.or_false, Bool.true_and, Bool.and_true, Bool.false_and, Bool.and_false, decide_true, decide_false, List.nil_append, List.append_nil, List.cons_append, effK_new, effK_put, effK_nothing, on_new, on_put, on_nothing, ld1_ptr, ldN_ptr, stA_one_ptr, stA_agg_ptr, ldC_cells, ldCN_cells, stC_one, stC_many, lay_all, newCells_eq, get_new_at, get_put_at, Heap.get_new_ne, Heap.get_put_ne, Heap.sz_new, Heap.sz_put, box1, boxA_agg, List.getElem?_cons_zero, List.getElem?_cons_succ, List.drop_zero, List.drop_succ_cons, List.take_zero, List.take_succ_cons, List.set_cons_zero, List.set_cons_succ, Nat.zero_add, Nat.add_zero, Nat.reduceAdd, bldA_eq, fillO_nil, fillO_one, fillO_agg, Option.map_some, Option.bind_some, repeatL]
      rw [← hH2, hc]
      simp only [N6_4, z10, purK_some, resK_some, boolK_some, condK_true, condK_false, wantV_tt, wantV_tf, wantV_ft, wantV_ff, wantV_t, wantV_f, wantV_skip, Bool.not_true, Bool.not_false, gPur_true, gPur_false, gEff_true, gEff_false, gRes_true, gRes_false, pickA_true, pickA_false, extA_0, extA_1, extA_2, retK_one, retK_none, retK_two, valK_fn, valR_fn, cond_true, cond_false, bin_add, bin_sub, bin_mul, bin_eql, bin_neq, bin_lss, bin_leq, bin_gtr, bin_geq, bin_seql, bin_sneq, un_not_t, un_not_f, un_not, cvI_int, cvT_str, nilChk_ptr, nilChk_xp, addA_ptr, lenT_str, Bool.true_or, Bool.or_true, Bool.false_or, Bool.or_false, Bool.true_and, Bool.and_true, Bool.false_and, Bool.and_false, decide_true, decide_false, List.nil_append, List.append_nil, List.cons_append]
    · have hst := hstB h2
      have h3 := fB h2
      have y6 := y6 (Nat.le_of_not_lt h2)
      obtain ⟨H2, hH2⟩ : ∃ H2, H2 = ((H.new (.cells 0 42 (0, 0) false [.int .i64 0, .int .i64 0, .int .i64 0, .int .i64 0, .str ByteArray.empty, .str ByteArray.empty, .int .u64 0, .nils])).put H.sz (.cells 0 42 (0, 0) false [.int .i64 (2 + a % 2 : Nat), .int .i64 (a / 2 : Nat), .int .i64 0, .int .i64 0, .str ByteArray.empty, .str ByteArray.empty, .int .u64 0, .nils])).put H.sz (.cells 0 42 (0, 0) false (stepAt s t i).cells) := ⟨_, rfl⟩
      have hF : Fr Nop H H2 := by
        rw [hH2]
        exact ((Fr.new Nop H _).trans' (Fr.put _ H.sz _ (S := fun l => l = H.sz) fun _ => rfl) fun l h q => absurd q (Nat.ne_of_lt h)).trans' (Fr.put _ H.sz _ (S := fun l => l = H.sz) fun _ => rfl) fun l h q => absurd q (Nat.ne_of_lt h)
      have hx2 := hx.frame0 hF
      obtain ⟨H', h4⟩ := ih (i + 1) n H2 f1 f2 f3 hx2
      refine ⟨H', ?_⟩
      rw [← h4]
      have hc := law_cmp (call := call) (yc := yc) (k := k) hx2 i H.sz hi1 (by rw [hds, stepAt_picks]) (by rw [hds, stepAt_op]) (by rw [hds, hH2, Heap.get_put, if_pos rfl]) (.int .i64 s) (.int .i64 t) (.int .i64 w)
      rw [hst] at hH2
      simp only [mkStep, StepD.cells] at hH2
      simp (disch := first | exact z2 | exact z3 | (first | ((try simp only [Heap.sz_new, Heap.sz_put, List.length_cons, List.length_nil, List.length_set, List.all_cons, List.all_nil, Bool.and_true, scal_int, sol_int, scal_bool, sol_bool, scal_str, sol_str, scal_nilp, sol_nilp, scal_ptr, sol_ptr, scal_nils, sol_nils, scal_sl, sol_sl, scal_sx, sol_sx, scal_xp, sol_xp, scal_xs, sol_xs, scal_nilm, sol_nilm, scal_mp, sol_mp, scal_nilf, sol_nilf, scal_fn, sol_fn, scal_nili, sol_nili, scal_ifc, sol_ifc]) <;> omega) | with_unfolding_all rfl)) only [N6_3b, hx.lenS, List.length_map, h, h3, bin_rem, bin_quo, tmod2, tdiv2, tm, tdivN, z7, z8, z9, y2, y3, y4, y5, y6, y7, purK_some, resK_some, boolK_some, condK_true, condK_false, wantV_tt, wantV_tf, wantV_ft, wantV_ff, wantV_t, wantV_f, wantV_skip, Bool.not_true, Bool.not_false, gPur_true, gPur_false, gEff_true, gEff_false, gRes_true, gRes_false, pickA_true, pickA_false, extA_0, extA_1, extA_2, retK_one, retK_none, retK_two, valK_fn, valR_fn, cond_true, cond_false, bin_add, bin_sub, bin_mul, bin_eql, bin_neq, bin_lss, bin_leq, bin_gtr, bin_geq, bin_seql, bin_sneq, un_not_t, un_not_f, un_not, cvI_int, cvT_str, nilChk_ptr, nilChk_xp, addA_ptr, lenT_str, Bool.true_or, Bool.or_true, Bool.false_or, Bool.or_false, Bool.true_and, Bool.and_true, Bool.false_and, Bool.and_false, decide_true, decide_false, List.nil_append, List.append_nil, List.cons_append, effK_new, effK_put, effK_nothing, on_new, on_put, on_nothing, ld1_ptr, ldN_ptr, stA_one_ptr, stA_agg_ptr, ldC_cells, ldCN_cells, stC_one, stC_many, lay_all, newCells_eq, get_new_at, get_put_at, Heap.get_new_ne, Heap.get_put_ne, Heap.sz_new, Heap.sz_put, box1, boxA_agg, List.getElem?_cons_zero, List.getElem?_cons_succ, List.drop_zero, List.drop_succ_cons, List.take_zero, List.take_succ_cons, List.set_cons_zero, List.set_cons_succ, Nat.zero_add, Nat.add_zero, Nat.reduceAdd, bldA_eq, fillO_nil, fillO_one, fillO_agg, Option.map_some, Option.bind_some, repeatL]
      rw [← hH2, hc]
      simp only [N6_4, z10, purK_some, resK_some, boolK_some, condK_true, condK_false, wantV_tt, wantV_tf, wantV_ft, wantV_ff, wantV_t, wantV_f, wantV_skip, Bool.not_true, Bool.not_false, gPur_true, gPur_false, gEff_true, gEff_false, gRes_true, gRes_false, pickA_true, pickA_false, extA_0, extA_1, extA_2, retK_one, retK_none, retK_two, valK_fn, valR_fn, cond_true, cond_false, bin_add, bin_sub, bin_mul, bin_eql, bin_neq, bin_lss, bin_leq, bin_gtr, bin_geq, bin_seql, bin_sneq, un_not_t, un_not_f, un_not, cvI_int, cvT_str, nilChk_ptr, nilChk_xp, addA_ptr, lenT_str, Bool.true_or, Bool.or_true, Bool.false_or, Bool.or_false, Bool.true_and, Bool.and_true, Bool.false_and, Bool.and_false, decide_true, decide_false, List.nil_append, List.append_nil, List.cons_append]
end
end Go.Proofs.Ytcjicmabhejllaa
