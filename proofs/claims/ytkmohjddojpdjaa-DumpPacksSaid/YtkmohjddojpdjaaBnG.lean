/- Part 7 of the proof of DumpPacks: DnG DnP. -/
import Derived.Test.YtkmohjddojpdjaaBnF
import Derived.Test.YtkmohjddojpdjaaBnB
import Derived.WalkKit
-- part DnG
/- Pairs are read from bytes: the reference's way; the laws. -/
set_option linter.unusedVariables false
set_option linter.unusedSimpArgs false
namespace Go.Proofs.Ytkmohjddojpdjaa
attribute [local congr] Go.Ev.cond_congr1
open Go.Ev Go.RowKit
section
variable {ρ : Addr → Option Value} {k : Nat} {H : Heap}
theorem wadd2 (a : Nat) (h : a < 1000000000) : wrapK .i64 ((a : Int) + 2) = ((a + 2 : Nat) : Int) := wrap_addN a 2 (by omega)
theorem wsub2 (a : Nat) (h2 : 2 ≤ a) (h : a < 1000000000) : wrapK .i64 ((a : Int) - 2) = ((a - 2 : Nat) : Int) := wrap_subN a 2 h2 (by omega)
theorem runp_spec (s : List UInt8) (hl : s.length < 900000) (hk : 1000000 ≤ k) : Ret (fun v H' => UnpQ ρ H s v H') (evCall (cx ρ) k 0 17 [.str (ba s)] H) := by
  obtain ⟨k, rfl⟩ : ∃ q, k = q + 1 := ⟨k - 1, by omega⟩
  rw [E17]
  by_cases h10 : s.length < 10
  · have hn : unpackL s = none := by
      unfold unpackL
      split
      · exact unpackT_short _ (by rw [List.length_take]; omega)
      · rfl
    have w : wrapK .i64 ((s.length : Int) - 8) = (s.length : Int) - 8 := wrap_i64 _ (by omega)
    have c : (s.length : Int) - 8 < 2 := by clear w; omega
    simp only [L17, w, c, purK_some, resK_some, boolK_some, condK_true, condK_false, wantV_tt, wantV_tf, wantV_ft, wantV_ff, wantV_t, wantV_f, wantV_skip, Bool.not_true, Bool.not_false, gPur_true, gPur_false, gEff_true, gEff_false, gRes_true, gRes_false, pickA_true, pickA_false, extA_0, extA_1, extA_2, retK_one, retK_none, retK_two, valK_fn, valR_fn, cond_true, cond_false, bin_add, bin_sub, bin_mul, bin_eql, bin_neq, bin_lss, bin_leq, bin_gtr, bin_geq, bin_seql, bin_sneq, un_not_t, un_not_f, un_not, cvI_int, cvT_str, nilChk_ptr, nilChk_xp, addA_ptr, lenT_str, Bool.true_or, Bool.or_true, Bool.false_or, Bool.or_false, Bool.true_and, Bool.and_true, Bool.false_and, Bool.and_false, decide_true, decide_false, Int.reduceEq, Int.reduceLT, Int.reduceLE, Int.reduceNe, Int.reduceAdd, Int.reduceSub, Int.reduceMul, Int.reduceNeg, List.nil_append, List.append_nil, List.cons_append, ba_size, ba_inj, emp1, emp2]
    exact .intro ⟨Fr.refl .., Or.inl ⟨hn, rfl⟩⟩
  obtain ⟨n, hn⟩ : ∃ n, n = s.length - 8 := ⟨_, rfl⟩
  have c : ¬ (n : Int) < 2 := by omega
  have ew : wrapK .i64 ((s.length : Int) - 8) = (n : Int) := by rw [wrap_i64 _ (by omega)]; omega
  simp only [L17, ew, c, slT_hi s n (by clear ew; omega), purK_some, resK_some, boolK_some, condK_true, condK_false, wantV_tt, wantV_tf, wantV_ft, wantV_ff, wantV_t, wantV_f, wantV_skip, Bool.not_true, Bool.not_false, gPur_true, gPur_false, gEff_true, gEff_false, gRes_true, gRes_false, pickA_true, pickA_false, extA_0, extA_1, extA_2, retK_one, retK_none, retK_two, valK_fn, valR_fn, cond_true, cond_false, bin_add, bin_sub, bin_mul, bin_eql, bin_neq, bin_lss, bin_leq, bin_gtr, bin_geq, bin_seql, bin_sneq, un_not_t, un_not_f, un_not, cvI_int, cvT_str, nilChk_ptr, nilChk_xp, addA_ptr, lenT_str, Bool.true_or, Bool.or_true, Bool.false_or, Bool.or_false, Bool.true_and, Bool.and_true, Bool.false_and, Bool.and_false, decide_true, decide_false, Int.reduceEq, Int.reduceLT, Int.reduceLE, Int.reduceNe, Int.reduceAdd, Int.reduceSub, Int.reduceMul, Int.reduceNeg, List.nil_append, List.append_nil, List.cons_append, ba_size, ba_inj, emp1, emp2]
  clear ew
  obtain ⟨t0, ht0⟩ : ∃ t0, t0 = s.take n := ⟨_, rfl⟩
  have hlt : t0.length = n := by rw [ht0, List.length_take]; omega
  rw [← ht0]
  refine Ret.bind (rseal_spec t0 (by omega) (by omega)) ?_
  rintro v H1 ⟨rfl, f1⟩
  by_cases hs : sealL t0 = s
  · have hU : unpackL s = unpackT t0 := by
      unfold unpackL
      rw [← hn, ← ht0, if_pos ⟨by omega, hs⟩]
    match hm : t0, hlt with
    | [], hlt => exfalso; simp at hlt; omega
    | [_], hlt => exfalso; simp at hlt; omega
    | a :: b :: r, hlt =>
      rw [← hm] at hU hs hlt ⊢
      have e0 : ixT (.str (ba t0)) (.int .i64 0) = some (.int .u8 a.toNat) := by
        have := ixT_ba t0 .i64 0 (by omega)
        rw [show ((0 : Nat) : Int) = 0 from rfl] at this
        rw [this]; simp [hm]
      have e1 : ixT (.str (ba t0)) (.int .i64 1) = some (.int .u8 b.toNat) := by
        have := ixT_ba t0 .i64 1 (by omega)
        rw [show ((1 : Nat) : Int) = 1 from rfl] at this
        rw [this]; simp [hm]
      have wa : wrapK .i64 (a.toNat : Int) = (a.toNat : Int) := wrap_nat _ (by have := u8lt a; omega)
      have wb : wrapK .i64 (b.toNat : Int) = (b.toNat : Int) := wrap_nat _ (by have := u8lt b; omega)
      obtain ⟨N, hN⟩ : ∃ N, N = a.toNat + 256 * b.toNat := ⟨_, rfl⟩
      have hNb : N < 70000 := by have := u8lt a; have := u8lt b; clear wa wb; omega
      have b0 : bldS H1 70 2 [.str ByteArray.empty, .str ByteArray.empty] 0 [] = some (.sl H1.sz 0 0 0 0 false, .new (.cells 0 70 (0, 0) false [])) := rfl
      simp only [hs, ne_eq, not_true, ← ht0, slT_hi s n (by clear wa wb; omega), e0, e1, wa, wb, cnt_wrap, ← hN, N17_1, b0, purK_some, resK_some, boolK_some, condK_true, condK_false, wantV_tt, wantV_tf, wantV_ft, wantV_ff, wantV_t, wantV_f, wantV_skip, Bool.not_true, Bool.not_false, gPur_true, gPur_false, gEff_true, gEff_false, gRes_true, gRes_false, pickA_true, pickA_false, extA_0, extA_1, extA_2, retK_one, retK_none, retK_two, valK_fn, valR_fn, cond_true, cond_false, bin_add, bin_sub, bin_mul, bin_eql, bin_neq, bin_lss, bin_leq, bin_gtr, bin_geq, bin_seql, bin_sneq, un_not_t, un_not_f, un_not, cvI_int, cvT_str, nilChk_ptr, nilChk_xp, addA_ptr, lenT_str, Bool.true_or, Bool.or_true, Bool.false_or, Bool.or_false, Bool.true_and, Bool.and_true, Bool.false_and, Bool.and_false, decide_true, decide_false, Int.reduceEq, Int.reduceLT, Int.reduceLE, Int.reduceNe, Int.reduceAdd, Int.reduceSub, Int.reduceMul, Int.reduceNeg, List.nil_append, List.append_nil, List.cons_append, ba_size, ba_inj, emp1, emp2]
      clear wa wb
      refine (St.start Nop H1).newS fun ny H2 s2 hz2 f2 => ?_
      have hge : GE H2 70 2 (.sl ny 0 0 0 0 false) (([] : List PairD).map PairD.cells) := Or.inl ⟨rfl, rfl, rfl, rfl, s2.lt' 0 rfl, _, _, _, _, s2.at 0 rfl, by simp⟩
      have hd2 : t0.drop 2 = r := by rw [hm]; rfl
      simp only [N17_3, N17_4]
      refine Ret.loop (fun m (y : AV × AV × AV) H' => ∃ i at_ acc ys, y = (.int .i64 (at_ : Nat), ys, .int .i64 (i : Nat)) ∧ m = N - i ∧ i ≤ N ∧ at_ ≤ n ∧ 2 ≤ at_ ∧ GE H' 70 2 ys (acc.map PairD.cells) ∧ (∀ q, ys.lies q → H1.sz ≤ q) ∧ acc.length = i ∧ uGo N r = pre acc (uGo (N - i) (t0.drop at_)) ∧ Fr (fun q => H1.sz ≤ q) H1 H')
        ?_ N k _ H2 ⟨0, 2, [], _, rfl, rfl, by omega, by omega, by omega, hge, fun q h => by have e : ny = q := h; omega, rfl, by rw [pre_nil, hd2]; rfl, f2.mono fun q _ e => e.elim⟩ (by omega)
      rintro m y H' kn ⟨i, at_, acc, ys, rfl, hm', hi, hat, hat2, hG, hy, hal, hu, fr⟩ next
      have fall : Fr Nop H H' := f1.trans' fr fun q hq e => by have := f1.sz; omega
      have hfail : (∀ ps, uGo N r = some (ps, []) → ¬ OkP ps) → unpackL s = none := by
        intro h
        rw [hU, hm]
        apply unpackT_none
        rw [← hN]; exact h
      by_cases h : i < N
      · have h' : (i : Int) < N := by omega
        by_cases ha : n - 2 < at_
        · have ha' : ((n - 2 : Nat) : Int) < at_ := by omega
          simp only [N17_4b, h', hlt, wsub2 n (by omega) (by omega), ha', purK_some, resK_some, boolK_some, condK_true, condK_false, wantV_tt, wantV_tf, wantV_ft, wantV_ff, wantV_t, wantV_f, wantV_skip, Bool.not_true, Bool.not_false, gPur_true, gPur_false, gEff_true, gEff_false, gRes_true, gRes_false, pickA_true, pickA_false, extA_0, extA_1, extA_2, retK_one, retK_none, retK_two, valK_fn, valR_fn, cond_true, cond_false, bin_add, bin_sub, bin_mul, bin_eql, bin_neq, bin_lss, bin_leq, bin_gtr, bin_geq, bin_seql, bin_sneq, un_not_t, un_not_f, un_not, cvI_int, cvT_str, nilChk_ptr, nilChk_xp, addA_ptr, lenT_str, Bool.true_or, Bool.or_true, Bool.false_or, Bool.or_false, Bool.true_and, Bool.and_true, Bool.false_and, Bool.and_false, decide_true, decide_false, Int.reduceEq, Int.reduceLT, Int.reduceLE, Int.reduceNe, Int.reduceAdd, Int.reduceSub, Int.reduceMul, Int.reduceNeg, List.nil_append, List.append_nil, List.cons_append, ba_size, ba_inj, emp1, emp2]
          refine .intro ⟨fall, Or.inl ⟨hfail fun ps hps => ?_, rfl⟩⟩
          rw [hu, show N - i = (N - i - 1) + 1 by omega, uGo_short _ _ (by rw [List.length_drop, hlt]; omega)] at hps
          cases hps
        · have ha' : ¬ ((n - 2 : Nat) : Int) < at_ := by omega
          have i0 : at_ < t0.length := by omega
          have i1 : at_ + 1 < t0.length := by omega
          have x0 := ixT_ba t0 .i64 at_ i0
          have x1 := ixT_ba t0 .i64 (at_ + 1) i1
          have hdrop : t0.drop at_ = t0[at_] :: t0[at_ + 1] :: t0.drop (at_ + 2) := by rw [List.drop_eq_getElem_cons i0, List.drop_eq_getElem_cons i1]
          rw [hdrop] at hu
          generalize t0[at_] = kb at *
          generalize t0[at_ + 1] = vb at *
          have hkb := u8lt kb; have hvb := u8lt vb
          obtain ⟨q, hq⟩ : ∃ q, q = t0.drop (at_ + 2) := ⟨_, rfl⟩
          have hql : q.length = n - (at_ + 2) := by rw [hq, List.length_drop, hlt]
          rw [← hq] at hu
          by_cases hfit : n - (at_ + 2) < kb.toNat + vb.toNat
          · have hfit' : ((n - (at_ + 2) : Nat) : Int) < ((kb.toNat + vb.toNat : Nat) : Int) := by omega
            simp only [N17_4b, N17_7, h', hlt, wsub2 n (by omega) (by omega), ha', x0, x1, wrap_nat kb.toNat (by omega), wrap_nat vb.toNat (by omega), wrap_succN at_ (by omega), wadd2 at_ (by omega), wrap_addN kb.toNat vb.toNat (by omega), wrap_subN n (at_ + 2) (by omega) (by omega), hfit', purK_some, resK_some, boolK_some, condK_true, condK_false, wantV_tt, wantV_tf, wantV_ft, wantV_ff, wantV_t, wantV_f, wantV_skip, Bool.not_true, Bool.not_false, gPur_true, gPur_false, gEff_true, gEff_false, gRes_true, gRes_false, pickA_true, pickA_false, extA_0, extA_1, extA_2, retK_one, retK_none, retK_two, valK_fn, valR_fn, cond_true, cond_false, bin_add, bin_sub, bin_mul, bin_eql, bin_neq, bin_lss, bin_leq, bin_gtr, bin_geq, bin_seql, bin_sneq, un_not_t, un_not_f, un_not, cvI_int, cvT_str, nilChk_ptr, nilChk_xp, addA_ptr, lenT_str, Bool.true_or, Bool.or_true, Bool.false_or, Bool.or_false, Bool.true_and, Bool.and_true, Bool.false_and, Bool.and_false, decide_true, decide_false, Int.reduceEq, Int.reduceLT, Int.reduceLE, Int.reduceNe, Int.reduceAdd, Int.reduceSub, Int.reduceMul, Int.reduceNeg, List.nil_append, List.append_nil, List.cons_append, ba_size, ba_inj, emp1, emp2]
            refine .intro ⟨fall, Or.inl ⟨hfail fun ps hps => ?_, rfl⟩⟩
            rw [hu, show N - i = (N - i - 1) + 1 by omega, uGo_no _ _ _ _ (by omega)] at hps
            cases hps
          · have hfit' : ¬ ((n - (at_ + 2) : Nat) : Int) < ((kb.toNat + vb.toNat : Nat) : Int) := by omega
            have c1 := slT_ba t0 (at_ + 2) (at_ + 2 + kb.toNat) (by omega) (by omega) .i64 .i64
            have c2 := slT_ba t0 (at_ + 2 + kb.toNat) (at_ + 2 + kb.toNat + vb.toNat) (by omega) (by omega) .i64 .i64
            rw [Nat.add_sub_cancel_left, ← hq] at c1
            have hq2 : t0.drop (at_ + 2 + kb.toNat) = q.drop kb.toNat := by rw [hq, List.drop_drop]
            rw [Nat.add_sub_cancel_left, hq2] at c2
            have bP : bldA [.str ByteArray.empty, .str ByteArray.empty] [(0, 1, .str (ba (q.take kb.toNat))), (1, 1, .str (ba ((q.drop kb.toNat).take vb.toNat)))] = some (.agg (PairD.cells ⟨q.take kb.toNat, (q.drop kb.toNat).take vb.toNat⟩)) := rfl
            have bS := bldS_1 H' 70 2 [.str ByteArray.empty, .str ByteArray.empty] (PairD.cells ⟨q.take kb.toNat, (q.drop kb.toNat).take vb.toNat⟩) rfl rfl (PairD.solid _)
            have bP' : bldA [.str (ba []), .str (ba [])] [(0, 1, .str (ba (q.take kb.toNat))), (1, 1, .str (ba ((q.drop kb.toNat).take vb.toNat)))] = some (.agg (PairD.cells ⟨q.take kb.toNat, (q.drop kb.toNat).take vb.toNat⟩)) := rfl
            have bS' : bldS H' 70 2 [.str (ba []), .str (ba [])] 1 [(0, 2, .agg (PairD.cells ⟨q.take kb.toNat, (q.drop kb.toNat).take vb.toNat⟩))] = _ := bS
            have ec : AV.eqv (.agg (PairD.cells ⟨q.take kb.toNat, (q.drop kb.toNat).take vb.toNat⟩)) (.agg (PairD.cells ⟨q.take kb.toNat, (q.drop kb.toNat).take vb.toNat⟩)) = true := by
              rw [PairD.cells, eqv_agg, eqvs_cons, eqvs_cons, eqvs_nil, eqv_str, eqv_str]; rfl
            simp only [N17_4b, N17_7, N17_6, h', hlt, wsub2 n (by omega) (by omega), ha', x0, x1, wrap_nat kb.toNat (by omega), wrap_nat vb.toNat (by omega), wrap_succN at_ (by omega), wadd2 at_ (by omega), wrap_addN kb.toNat vb.toNat (by omega), wrap_subN n (at_ + 2) (by omega) (by omega), hfit', wrap_addN (at_ + 2) kb.toNat (by omega), wrap_addN (at_ + 2 + kb.toNat) vb.toNat (by omega), c1, c2, bP', bS', purK_some, resK_some, boolK_some, condK_true, condK_false, wantV_tt, wantV_tf, wantV_ft, wantV_ff, wantV_t, wantV_f, wantV_skip, Bool.not_true, Bool.not_false, gPur_true, gPur_false, gEff_true, gEff_false, gRes_true, gRes_false, pickA_true, pickA_false, extA_0, extA_1, extA_2, retK_one, retK_none, retK_two, valK_fn, valR_fn, cond_true, cond_false, bin_add, bin_sub, bin_mul, bin_eql, bin_neq, bin_lss, bin_leq, bin_gtr, bin_geq, bin_seql, bin_sneq, un_not_t, un_not_f, un_not, cvI_int, cvT_str, nilChk_ptr, nilChk_xp, addA_ptr, lenT_str, Bool.true_or, Bool.or_true, Bool.false_or, Bool.or_false, Bool.true_and, Bool.and_true, Bool.false_and, Bool.and_false, decide_true, decide_false, Int.reduceEq, Int.reduceLT, Int.reduceLE, Int.reduceNe, Int.reduceAdd, Int.reduceSub, Int.reduceMul, Int.reduceNeg, List.nil_append, List.append_nil, List.cons_append, ba_size, ba_inj, emp1, emp2]
            refine (St.start Nop H').mkS rfl fun n9 H9 s9 hz9 f9 => ?_
            simp only [wrap_addN (at_ + 2) kb.toNat (by omega), wrap_addN (at_ + 2 + kb.toNat) vb.toNat (by omega), c1, c2, bP', agn_some, eqv_int, eqv_str, ec, Bool.and_self, purK_some, resK_some, boolK_some, condK_true, condK_false, wantV_tt, wantV_tf, wantV_ft, wantV_ff, wantV_t, wantV_f, wantV_skip, Bool.not_true, Bool.not_false, gPur_true, gPur_false, gEff_true, gEff_false, gRes_true, gRes_false, pickA_true, pickA_false, extA_0, extA_1, extA_2, retK_one, retK_none, retK_two, valK_fn, valR_fn, cond_true, cond_false, bin_add, bin_sub, bin_mul, bin_eql, bin_neq, bin_lss, bin_leq, bin_gtr, bin_geq, bin_seql, bin_sneq, un_not_t, un_not_f, un_not, cvI_int, cvT_str, nilChk_ptr, nilChk_xp, addA_ptr, lenT_str, Bool.true_or, Bool.or_true, Bool.false_or, Bool.or_false, Bool.true_and, Bool.and_true, Bool.false_and, Bool.and_false, decide_true, decide_false, Int.reduceEq, Int.reduceLT, Int.reduceLE, Int.reduceNe, Int.reduceAdd, Int.reduceSub, Int.reduceMul, Int.reduceNeg, List.nil_append, List.append_nil, List.cons_append, ba_size, ba_inj, emp1, emp2]
            have hG9 := hG.frame Nop f9 fun _ _ q => q
            have hE9 : Els ρ H9 2 (.sl n9 0 0 1 1 false) [PairD.cells ⟨q.take kb.toNat, (q.drop kb.toNat).take vb.toNat⟩] := Els.of_cells (els := [_]) (e := 70) (fr := (0, 0)) (g := false) (s9.lt' 0 rfl) (by rw [s9.at 0 rfl]; simp) (by intro r hr; simp at hr; subst hr; rfl)
            have hacc : (acc.map PairD.cells).length = i := by rw [List.length_map, hal]
            refine Ret.appE hG9 hE9 (by simp) (by intro r hr; simp at hr; subst hr; exact PairD.solid _) (by rw [hacc]; simp; omega) (by rw [hacc]; simp; omega) ?_
            intro y' H10 G10 f10 hy10
            have zr := fr.sz; have z9 := f9.sz
            have hacc' : (acc ++ [(⟨q.take kb.toNat, (q.drop kb.toNat).take vb.toNat⟩ : PairD)]).map PairD.cells = acc.map PairD.cells ++ [PairD.cells ⟨q.take kb.toNat, (q.drop kb.toNat).take vb.toNat⟩] := by simp
            simp only [N17_5, wrap_addN (at_ + 2) kb.toNat (by omega), wrap_addN (at_ + 2 + kb.toNat) vb.toNat (by omega), wrap_succN i (by omega), purK_some, resK_some, boolK_some, condK_true, condK_false, wantV_tt, wantV_tf, wantV_ft, wantV_ff, wantV_t, wantV_f, wantV_skip, Bool.not_true, Bool.not_false, gPur_true, gPur_false, gEff_true, gEff_false, gRes_true, gRes_false, pickA_true, pickA_false, extA_0, extA_1, extA_2, retK_one, retK_none, retK_two, valK_fn, valR_fn, cond_true, cond_false, bin_add, bin_sub, bin_mul, bin_eql, bin_neq, bin_lss, bin_leq, bin_gtr, bin_geq, bin_seql, bin_sneq, un_not_t, un_not_f, un_not, cvI_int, cvT_str, nilChk_ptr, nilChk_xp, addA_ptr, lenT_str, Bool.true_or, Bool.or_true, Bool.false_or, Bool.or_false, Bool.true_and, Bool.and_true, Bool.false_and, Bool.and_false, decide_true, decide_false, Int.reduceEq, Int.reduceLT, Int.reduceLE, Int.reduceNe, Int.reduceAdd, Int.reduceSub, Int.reduceMul, Int.reduceNeg, List.nil_append, List.append_nil, List.cons_append]
            refine next (m - 1) _ H10 (by omega) ⟨i + 1, at_ + 2 + kb.toNat + vb.toNat, _, y', rfl, by omega, by omega, by omega, by omega, by rw [hacc']; exact G10, fun q hq => (hy10 q hq).elim (hy q) (fun e => by omega), by simp [hal], ?_, ?_⟩
            · have hdd : q.drop (kb.toNat + vb.toNat) = t0.drop (at_ + 2 + kb.toNat + vb.toNat) := by rw [hq, List.drop_drop]; congr 1; omega
              rw [hu, show N - i = (N - (i + 1)) + 1 by omega, uGo_ok _ _ _ _ (by omega), hdd]
            · exact (fr.trans (f9.mono fun q _ e => e.elim)).trans (f10.mono fun q _ e => hy q e)
      · obtain rfl : i = N := by omega
        have h' : ¬ ((i : Nat) : Int) < (i : Nat) := by omega
        rw [Nat.sub_self, uGo] at hu
        have hu' : uGo i r = some (acc, t0.drop at_) := by rw [hu]; simp [pre]
        by_cases he : at_ = n
        · have he' : ¬ ((at_ : Nat) : Int) ≠ (n : Nat) := by omega
          have hd0 : t0.drop at_ = [] := List.drop_of_length_le (by omega)
          rw [hd0] at hu'
          simp only [N17_4b, N17_2, h', hlt, he', purK_some, resK_some, boolK_some, condK_true, condK_false, wantV_tt, wantV_tf, wantV_ft, wantV_ff, wantV_t, wantV_f, wantV_skip, Bool.not_true, Bool.not_false, gPur_true, gPur_false, gEff_true, gEff_false, gRes_true, gRes_false, pickA_true, pickA_false, extA_0, extA_1, extA_2, retK_one, retK_none, retK_two, valK_fn, valR_fn, cond_true, cond_false, bin_add, bin_sub, bin_mul, bin_eql, bin_neq, bin_lss, bin_leq, bin_gtr, bin_geq, bin_seql, bin_sneq, un_not_t, un_not_f, un_not, cvI_int, cvT_str, nilChk_ptr, nilChk_xp, addA_ptr, lenT_str, Bool.true_or, Bool.or_true, Bool.false_or, Bool.or_false, Bool.true_and, Bool.and_true, Bool.false_and, Bool.and_false, decide_true, decide_false, Int.reduceEq, Int.reduceLT, Int.reduceLE, Int.reduceNe, Int.reduceAdd, Int.reduceSub, Int.reduceMul, Int.reduceNeg, List.nil_append, List.append_nil, List.cons_append, ba_size, ba_inj, emp1, emp2]
          refine Ret.bind (rrr_spec (hG.toEls (ρ := ρ)) (by omega) (by omega)) ?_
          rintro v H6 ⟨br, rfl, hbr, rfl⟩
          cases br
          · simp only [purK_some, resK_some, boolK_some, condK_true, condK_false, wantV_tt, wantV_tf, wantV_ft, wantV_ff, wantV_t, wantV_f, wantV_skip, Bool.not_true, Bool.not_false, gPur_true, gPur_false, gEff_true, gEff_false, gRes_true, gRes_false, pickA_true, pickA_false, extA_0, extA_1, extA_2, retK_one, retK_none, retK_two, valK_fn, valR_fn, cond_true, cond_false, bin_add, bin_sub, bin_mul, bin_eql, bin_neq, bin_lss, bin_leq, bin_gtr, bin_geq, bin_seql, bin_sneq, un_not_t, un_not_f, un_not, cvI_int, cvT_str, nilChk_ptr, nilChk_xp, addA_ptr, lenT_str, Bool.true_or, Bool.or_true, Bool.false_or, Bool.or_false, Bool.true_and, Bool.and_true, Bool.false_and, Bool.and_false, decide_true, decide_false, Int.reduceEq, Int.reduceLT, Int.reduceLE, Int.reduceNe, Int.reduceAdd, Int.reduceSub, Int.reduceMul, Int.reduceNeg, List.nil_append, List.append_nil, List.cons_append]
            refine .intro ⟨fall, Or.inl ⟨hfail fun ps hps hp => ?_, rfl⟩⟩
            rw [hu'] at hps
            simp only [Option.some.injEq, Prod.mk.injEq] at hps
            obtain ⟨rfl, _⟩ := hps
            have := hbr.2 hp; cases this
          · simp only [purK_some, resK_some, boolK_some, condK_true, condK_false, wantV_tt, wantV_tf, wantV_ft, wantV_ff, wantV_t, wantV_f, wantV_skip, Bool.not_true, Bool.not_false, gPur_true, gPur_false, gEff_true, gEff_false, gRes_true, gRes_false, pickA_true, pickA_false, extA_0, extA_1, extA_2, retK_one, retK_none, retK_two, valK_fn, valR_fn, cond_true, cond_false, bin_add, bin_sub, bin_mul, bin_eql, bin_neq, bin_lss, bin_leq, bin_gtr, bin_geq, bin_seql, bin_sneq, un_not_t, un_not_f, un_not, cvI_int, cvT_str, nilChk_ptr, nilChk_xp, addA_ptr, lenT_str, Bool.true_or, Bool.or_true, Bool.false_or, Bool.or_false, Bool.true_and, Bool.and_true, Bool.false_and, Bool.and_false, decide_true, decide_false, Int.reduceEq, Int.reduceLT, Int.reduceLE, Int.reduceNe, Int.reduceAdd, Int.reduceSub, Int.reduceMul, Int.reduceNeg, List.nil_append, List.append_nil, List.cons_append]
            have hp := hbr.1 rfl
            exact .intro ⟨fall, Or.inr ⟨acc, ys, by rw [hU, hm]; exact unpackT_some (by rw [← hN]; exact hu') rfl hp, rfl, hG.toEls, hp.len⟩⟩
        · have he' : ((at_ : Nat) : Int) ≠ (n : Nat) := by omega
          simp only [N17_4b, N17_2, h', hlt, he', ne_eq, not_false_eq_true, purK_some, resK_some, boolK_some, condK_true, condK_false, wantV_tt, wantV_tf, wantV_ft, wantV_ff, wantV_t, wantV_f, wantV_skip, Bool.not_true, Bool.not_false, gPur_true, gPur_false, gEff_true, gEff_false, gRes_true, gRes_false, pickA_true, pickA_false, extA_0, extA_1, extA_2, retK_one, retK_none, retK_two, valK_fn, valR_fn, cond_true, cond_false, bin_add, bin_sub, bin_mul, bin_eql, bin_neq, bin_lss, bin_leq, bin_gtr, bin_geq, bin_seql, bin_sneq, un_not_t, un_not_f, un_not, cvI_int, cvT_str, nilChk_ptr, nilChk_xp, addA_ptr, lenT_str, Bool.true_or, Bool.or_true, Bool.false_or, Bool.or_false, Bool.true_and, Bool.and_true, Bool.false_and, Bool.and_false, decide_true, decide_false, Int.reduceEq, Int.reduceLT, Int.reduceLE, Int.reduceNe, Int.reduceAdd, Int.reduceSub, Int.reduceMul, Int.reduceNeg, List.nil_append, List.append_nil, List.cons_append, ba_size, ba_inj, emp1, emp2]
          refine .intro ⟨fall, Or.inl ⟨hfail fun ps hps _ => ?_, rfl⟩⟩
          rw [hu'] at hps
          simp only [Option.some.injEq, Prod.mk.injEq] at hps
          have := congrArg List.length hps.2
          rw [List.length_drop, hlt] at this
          simp at this; omega
  · have hnone : unpackL s = none := by
      unfold unpackL
      rw [← hn, ← ht0, if_neg fun h => hs h.2]
    simp only [hs, ne_eq, not_false_eq_true, purK_some, resK_some, boolK_some, condK_true, condK_false, wantV_tt, wantV_tf, wantV_ft, wantV_ff, wantV_t, wantV_f, wantV_skip, Bool.not_true, Bool.not_false, gPur_true, gPur_false, gEff_true, gEff_false, gRes_true, gRes_false, pickA_true, pickA_false, extA_0, extA_1, extA_2, retK_one, retK_none, retK_two, valK_fn, valR_fn, cond_true, cond_false, bin_add, bin_sub, bin_mul, bin_eql, bin_neq, bin_lss, bin_leq, bin_gtr, bin_geq, bin_seql, bin_sneq, un_not_t, un_not_f, un_not, cvI_int, cvT_str, nilChk_ptr, nilChk_xp, addA_ptr, lenT_str, Bool.true_or, Bool.or_true, Bool.false_or, Bool.or_false, Bool.true_and, Bool.and_true, Bool.false_and, Bool.and_false, decide_true, decide_false, Int.reduceEq, Int.reduceLT, Int.reduceLE, Int.reduceNe, Int.reduceAdd, Int.reduceSub, Int.reduceMul, Int.reduceNeg, List.nil_append, List.append_nil, List.cons_append, ba_size, ba_inj, emp1, emp2]
    exact .intro ⟨f1, Or.inl ⟨hnone, rfl⟩⟩
/-- Any bytes are some list's, or none's. -/
theorem reads_ret (s : List UInt8) (hk : 2000000 ≤ k) : Ret (fun v H' => v = .bool true) (evCall (cx ρ) k 0 4 [.str (ba s)] H) := by
  obtain ⟨k, rfl⟩ : ∃ q, k = q + 1 := ⟨k - 1, by omega⟩
  rw [E4]
  simp only [L4]
  refine Ret.bind (awake_spec (by omega)) ?_
  rintro v H1 ⟨rfl, f1⟩
  simp only [purK_some, resK_some, boolK_some, condK_true, condK_false, wantV_tt, wantV_tf, wantV_ft, wantV_ff, wantV_t, wantV_f, wantV_skip, Bool.not_true, Bool.not_false, gPur_true, gPur_false, gEff_true, gEff_false, gRes_true, gRes_false, pickA_true, pickA_false, extA_0, extA_1, extA_2, retK_one, retK_none, retK_two, valK_fn, valR_fn, cond_true, cond_false, bin_add, bin_sub, bin_mul, bin_eql, bin_neq, bin_lss, bin_leq, bin_gtr, bin_geq, bin_seql, bin_sneq, un_not_t, un_not_f, un_not, cvI_int, cvT_str, nilChk_ptr, nilChk_xp, addA_ptr, lenT_str, Bool.true_or, Bool.or_true, Bool.false_or, Bool.or_false, Bool.true_and, Bool.and_true, Bool.false_and, Bool.and_false, decide_true, decide_false, Int.reduceEq, Int.reduceLT, Int.reduceLE, Int.reduceNe, Int.reduceAdd, Int.reduceSub, Int.reduceMul, Int.reduceNeg, List.nil_append, List.append_nil, List.cons_append, ba_size, ba_inj, emp1, emp2]
  refine Ret.condD (fun h => ?_) (fun h => ?_)
  · exact .intro rfl
  simp only [N4_2, N4_3]
  refine Ret.loop (fun m (y : AV × AV) H' => ∃ (i : Nat) (s : List UInt8), y = (.str (ba s), .int .i64 i) ∧ m = 2 - i ∧ i ≤ 2 ∧ s.length ≤ 3000 + 8 * i) ?_ 2 k _ H1 ⟨0, s, rfl, rfl, by omega, by omega⟩ (by omega)
  rintro m y H' kn ⟨i, s, rfl, hm, hi, hsl⟩ next
  by_cases h2 : i < 2
  · have h2' : (i : Int) < 2 := by omega
    simp only [N4_3b, h2', purK_some, resK_some, boolK_some, condK_true, condK_false, wantV_tt, wantV_tf, wantV_ft, wantV_ff, wantV_t, wantV_f, wantV_skip, Bool.not_true, Bool.not_false, gPur_true, gPur_false, gEff_true, gEff_false, gRes_true, gRes_false, pickA_true, pickA_false, extA_0, extA_1, extA_2, retK_one, retK_none, retK_two, valK_fn, valR_fn, cond_true, cond_false, bin_add, bin_sub, bin_mul, bin_eql, bin_neq, bin_lss, bin_leq, bin_gtr, bin_geq, bin_seql, bin_sneq, un_not_t, un_not_f, un_not, cvI_int, cvT_str, nilChk_ptr, nilChk_xp, addA_ptr, lenT_str, Bool.true_or, Bool.or_true, Bool.false_or, Bool.or_false, Bool.true_and, Bool.and_true, Bool.false_and, Bool.and_false, decide_true, decide_false, Int.reduceEq, Int.reduceLT, Int.reduceLE, Int.reduceNe, Int.reduceAdd, Int.reduceSub, Int.reduceMul, Int.reduceNeg, List.nil_append, List.append_nil, List.cons_append]
    refine Ret.bind (unp_spec s (by omega) (by omega)) ?_
    rintro v H2 ⟨f2, hv⟩
    have fin : ∀ {x y : AV} {e : Int} {ds : List PairD} {H3 : Heap}, Els ρ H3 2 x (ds.map PairD.cells) → Els ρ H3 2 y (ds.map PairD.cells) → ds.length ≤ 1000 → Ret (fun v H' => v = .bool true) (resK (evCall (cx ρ) k 0 16 [x, y] H3) fun x29_1 H =>
      purK (unA .not x29_1) fun x30_1 =>
      purK (gPur (wantV x30_1 false) (some (.int .i64 e))) fun x32_1 =>
      purK (gPur (wantV x30_1 false) (some (.int .i64 e))) fun x33_1 =>
      purK (gPur (wantV x30_1 false) (binA Try.prog H .neq 25 x32_1 x33_1)) fun x34_1 =>
      purK (pickA x30_1 (.bool true) x34_1) fun x35_1 =>
      N4_6 ρ (evCall (cx ρ) k) (evCY (cx ρ) k).2 0 k (.str (ba s)) (.int .i64 i) x35_1 H (fun x0_1 x3_1 H =>
        N4_5 ρ (evCall (cx ρ) k) (evCY (cx ρ) k).2 0 k x0_1 x3_1 H (fun x0_2 x3_2 H =>
          N4_4 ρ (evCall (cx ρ) k) (evCY (cx ρ) k).2 0 k x0_2 x3_2 H fun x0 x3 H => kn (x0, x3) H)) retK) := by
      intro x y e ds H3 hx hy hl
      refine Ret.bind (same_spec hx hy (by omega) (by omega)) ?_
      rintro v H4 ⟨rfl, rfl⟩
      simp only [ne_eq, not_true, N4_6, N4_5, purK_some, resK_some, boolK_some, condK_true, condK_false, wantV_tt, wantV_tf, wantV_ft, wantV_ff, wantV_t, wantV_f, wantV_skip, Bool.not_true, Bool.not_false, gPur_true, gPur_false, gEff_true, gEff_false, gRes_true, gRes_false, pickA_true, pickA_false, extA_0, extA_1, extA_2, retK_one, retK_none, retK_two, valK_fn, valR_fn, cond_true, cond_false, bin_add, bin_sub, bin_mul, bin_eql, bin_neq, bin_lss, bin_leq, bin_gtr, bin_geq, bin_seql, bin_sneq, un_not_t, un_not_f, un_not, cvI_int, cvT_str, nilChk_ptr, nilChk_xp, addA_ptr, lenT_str, Bool.true_or, Bool.or_true, Bool.false_or, Bool.or_false, Bool.true_and, Bool.and_true, Bool.false_and, Bool.and_false, decide_true, decide_false, Int.reduceEq, Int.reduceLT, Int.reduceLE, Int.reduceNe, Int.reduceAdd, Int.reduceSub, Int.reduceMul, Int.reduceNeg, List.nil_append, List.append_nil, List.cons_append]
      refine Ret.bind (rseal_spec s (by omega) (by omega)) ?_
      rintro v H5 ⟨rfl, f5⟩
      simp only [N4_4, wrap_succN i (by omega : i + 1 < 9223372036854775808), purK_some, resK_some, boolK_some, condK_true, condK_false, wantV_tt, wantV_tf, wantV_ft, wantV_ff, wantV_t, wantV_f, wantV_skip, Bool.not_true, Bool.not_false, gPur_true, gPur_false, gEff_true, gEff_false, gRes_true, gRes_false, pickA_true, pickA_false, extA_0, extA_1, extA_2, retK_one, retK_none, retK_two, valK_fn, valR_fn, cond_true, cond_false, bin_add, bin_sub, bin_mul, bin_eql, bin_neq, bin_lss, bin_leq, bin_gtr, bin_geq, bin_seql, bin_sneq, un_not_t, un_not_f, un_not, cvI_int, cvT_str, nilChk_ptr, nilChk_xp, addA_ptr, lenT_str, Bool.true_or, Bool.or_true, Bool.false_or, Bool.or_false, Bool.true_and, Bool.and_true, Bool.false_and, Bool.and_false, decide_true, decide_false, Int.reduceEq, Int.reduceLT, Int.reduceLE, Int.reduceNe, Int.reduceAdd, Int.reduceSub, Int.reduceMul, Int.reduceNeg, List.nil_append, List.append_nil, List.cons_append]
      exact next (m - 1) _ H5 (by omega) ⟨i + 1, sealL s, rfl, by omega, by omega, by unfold sealL; rw [List.length_append, w8_len]; omega⟩
    rcases hv with ⟨hn, rfl⟩ | ⟨ps, y, hn, rfl, hE, hl⟩
    · simp only [purK_some, resK_some, boolK_some, condK_true, condK_false, wantV_tt, wantV_tf, wantV_ft, wantV_ff, wantV_t, wantV_f, wantV_skip, Bool.not_true, Bool.not_false, gPur_true, gPur_false, gEff_true, gEff_false, gRes_true, gRes_false, pickA_true, pickA_false, extA_0, extA_1, extA_2, retK_one, retK_none, retK_two, valK_fn, valR_fn, cond_true, cond_false, bin_add, bin_sub, bin_mul, bin_eql, bin_neq, bin_lss, bin_leq, bin_gtr, bin_geq, bin_seql, bin_sneq, un_not_t, un_not_f, un_not, cvI_int, cvT_str, nilChk_ptr, nilChk_xp, addA_ptr, lenT_str, Bool.true_or, Bool.or_true, Bool.false_or, Bool.or_false, Bool.true_and, Bool.and_true, Bool.false_and, Bool.and_false, decide_true, decide_false, Int.reduceEq, Int.reduceLT, Int.reduceLE, Int.reduceNe, Int.reduceAdd, Int.reduceSub, Int.reduceMul, Int.reduceNeg, List.nil_append, List.append_nil, List.cons_append]
      refine Ret.bind (runp_spec s (by omega) (by omega)) ?_
      rintro v H3 ⟨f3, (⟨_, rfl⟩ | ⟨ps, y, hn', _⟩)⟩
      · simp only [extA_0, extA_1, purK_some]
        exact fin (ds := []) Els.nils Els.nils (by simp)
      · rw [hn] at hn'; cases hn'
    · simp only [purK_some, resK_some, boolK_some, condK_true, condK_false, wantV_tt, wantV_tf, wantV_ft, wantV_ff, wantV_t, wantV_f, wantV_skip, Bool.not_true, Bool.not_false, gPur_true, gPur_false, gEff_true, gEff_false, gRes_true, gRes_false, pickA_true, pickA_false, extA_0, extA_1, extA_2, retK_one, retK_none, retK_two, valK_fn, valR_fn, cond_true, cond_false, bin_add, bin_sub, bin_mul, bin_eql, bin_neq, bin_lss, bin_leq, bin_gtr, bin_geq, bin_seql, bin_sneq, un_not_t, un_not_f, un_not, cvI_int, cvT_str, nilChk_ptr, nilChk_xp, addA_ptr, lenT_str, Bool.true_or, Bool.or_true, Bool.false_or, Bool.or_false, Bool.true_and, Bool.and_true, Bool.false_and, Bool.and_false, decide_true, decide_false, Int.reduceEq, Int.reduceLT, Int.reduceLE, Int.reduceNe, Int.reduceAdd, Int.reduceSub, Int.reduceMul, Int.reduceNeg, List.nil_append, List.append_nil, List.cons_append]
      refine Ret.bind (runp_spec s (by omega) (by omega)) ?_
      rintro v H3 ⟨f3, (⟨hn', _⟩ | ⟨ps', y', hn', rfl, hE', hl'⟩)⟩
      · rw [hn] at hn'; cases hn'
      · rw [hn] at hn'
        obtain rfl := Option.some.inj hn'
        simp only [extA_0, extA_1, purK_some]
        exact fin (hE.frame0 f3) hE' hl
  · obtain rfl : i = 2 := by omega
    have h2' : ¬ ((2 : Nat) : Int) < 2 := by omega
    simp only [N4_3b, N4_1, h2', purK_some, resK_some, boolK_some, condK_true, condK_false, wantV_tt, wantV_tf, wantV_ft, wantV_ff, wantV_t, wantV_f, wantV_skip, Bool.not_true, Bool.not_false, gPur_true, gPur_false, gEff_true, gEff_false, gRes_true, gRes_false, pickA_true, pickA_false, extA_0, extA_1, extA_2, retK_one, retK_none, retK_two, valK_fn, valR_fn, cond_true, cond_false, bin_add, bin_sub, bin_mul, bin_eql, bin_neq, bin_lss, bin_leq, bin_gtr, bin_geq, bin_seql, bin_sneq, un_not_t, un_not_f, un_not, cvI_int, cvT_str, nilChk_ptr, nilChk_xp, addA_ptr, lenT_str, Bool.true_or, Bool.or_true, Bool.false_or, Bool.or_false, Bool.true_and, Bool.and_true, Bool.false_and, Bool.and_false, decide_true, decide_false, Int.reduceEq, Int.reduceLT, Int.reduceLE, Int.reduceNe, Int.reduceAdd, Int.reduceSub, Int.reduceMul, Int.reduceNeg, List.nil_append, List.append_nil, List.cons_append]
    exact .intro rfl
theorem uGo_flat : ∀ (ds : List PairD) (R : List UInt8), (∀ d ∈ ds, d.key.length ≤ 64 ∧ d.val.length ≤ 128) → uGo ds.length (ds.flatMap pairB ++ R) = some (ds, R)
  | [], R, _ => rfl
  | d :: ds, R, h => by
    have hd := h d (by simp)
    have ih := uGo_flat ds R fun d hd => h d (by simp [hd])
    have ek : (UInt8.ofNat d.key.length).toNat = d.key.length := by rw [UInt8.toNat_ofNat']; omega
    have ev : (UInt8.ofNat d.val.length).toNat = d.val.length := by rw [UInt8.toNat_ofNat']; omega
    have e : (d :: ds).flatMap pairB ++ R = UInt8.ofNat d.key.length :: UInt8.ofNat d.val.length :: (d.key ++ (d.val ++ (ds.flatMap pairB ++ R))) := by simp [pairB]
    rw [e, List.length_cons, uGo, ek, ev, if_pos (by simp only [List.length_append]; omega)]
    have e2 : (d.key ++ (d.val ++ (ds.flatMap pairB ++ R))).drop (d.key.length + d.val.length) = ds.flatMap pairB ++ R := by
      rw [← List.drop_drop, List.drop_left, List.drop_left]
    rw [e2, ih, List.take_left, List.drop_left]
    simp
theorem unpack_pack (ds : List PairD) (h : OkP ds) : unpackL (sealL (packB ds)) = some ds := by
  unfold unpackL
  have hl : (sealL (packB ds)).length - 8 = (packB ds).length := by unfold sealL; rw [List.length_append, w8_len]; omega
  have ht : (sealL (packB ds)).take ((sealL (packB ds)).length - 8) = packB ds := by rw [hl]; unfold sealL; exact List.take_left
  rw [ht, if_pos ⟨by unfold sealL; rw [List.length_append, w8_len]; omega, rfl⟩]
  have hlen := h.len
  have e1 : (UInt8.ofNat (ds.length % 256)).toNat + 256 * (UInt8.ofNat (ds.length / 256)).toNat = ds.length := by
    rw [UInt8.toNat_ofNat', UInt8.toNat_ofNat']; omega
  have hu := uGo_flat ds [] fun d hd => ⟨(h.each d hd).2.1, (h.each d hd).2.2⟩
  rw [List.append_nil] at hu
  exact unpackT_some (a := UInt8.ofNat (ds.length % 256)) (b := UInt8.ofNat (ds.length / 256)) (by rw [e1]; exact hu) rfl h
theorem beq_bool (H : Heap) (a b : Bool) : binA Try.prog H .neq 4 (.bool a) (.bool b) = some (.bool (a != b)) := by cases a <;> cases b <;> kernel_rfl
/-- Any list of pairs has its bytes, and is read from them as it was, or there may be no dump of it. -/
theorem packs_ret {x : AV} {ds : List PairD} (hx : ∀ H, Els ρ H 2 x (ds.map PairD.cells)) (hlx : ∀ t, ¬ x.lies t) (hk : 2000000 ≤ k) : Ret (fun v H' => v = .bool true) (evCall (cx ρ) k 0 3 [x] H) := by
  obtain ⟨k, rfl⟩ : ∃ q, k = q + 1 := ⟨k - 1, by omega⟩
  rw [E3]
  simp only [L3]
  refine Ret.bind (awake_spec (by omega)) ?_
  rintro v H1 ⟨rfl, f1⟩
  simp only [purK_some, resK_some, boolK_some, condK_true, condK_false, wantV_tt, wantV_tf, wantV_ft, wantV_ff, wantV_t, wantV_f, wantV_skip, Bool.not_true, Bool.not_false, gPur_true, gPur_false, gEff_true, gEff_false, gRes_true, gRes_false, pickA_true, pickA_false, extA_0, extA_1, extA_2, retK_one, retK_none, retK_two, valK_fn, valR_fn, cond_true, cond_false, bin_add, bin_sub, bin_mul, bin_eql, bin_neq, bin_lss, bin_leq, bin_gtr, bin_geq, bin_seql, bin_sneq, un_not_t, un_not_f, un_not, cvI_int, cvT_str, nilChk_ptr, nilChk_xp, addA_ptr, lenT_str, Bool.true_or, Bool.or_true, Bool.false_or, Bool.or_false, Bool.true_and, Bool.and_true, Bool.false_and, Bool.and_false, decide_true, decide_false, Int.reduceEq, Int.reduceLT, Int.reduceLE, Int.reduceNe, Int.reduceAdd, Int.reduceSub, Int.reduceMul, Int.reduceNeg, List.nil_append, List.append_nil, List.cons_append, ba_size, ba_inj, emp1, emp2]
  refine Ret.bind (far_spec (hx H1) (by omega)) ?_
  rintro v H2 ⟨b, rfl, hb, rfl⟩
  cases b
  · obtain ⟨hl, hd⟩ := hb rfl
    simp only [purK_some, resK_some, boolK_some, condK_true, condK_false, wantV_tt, wantV_tf, wantV_ft, wantV_ff, wantV_t, wantV_f, wantV_skip, Bool.not_true, Bool.not_false, gPur_true, gPur_false, gEff_true, gEff_false, gRes_true, gRes_false, pickA_true, pickA_false, extA_0, extA_1, extA_2, retK_one, retK_none, retK_two, valK_fn, valR_fn, cond_true, cond_false, bin_add, bin_sub, bin_mul, bin_eql, bin_neq, bin_lss, bin_leq, bin_gtr, bin_geq, bin_seql, bin_sneq, un_not_t, un_not_f, un_not, cvI_int, cvT_str, nilChk_ptr, nilChk_xp, addA_ptr, lenT_str, Bool.true_or, Bool.or_true, Bool.false_or, Bool.or_false, Bool.true_and, Bool.and_true, Bool.false_and, Bool.and_false, decide_true, decide_false, Int.reduceEq, Int.reduceLT, Int.reduceLE, Int.reduceNe, Int.reduceAdd, Int.reduceSub, Int.reduceMul, Int.reduceNeg, List.nil_append, List.append_nil, List.cons_append]
    refine Ret.bind (pack_spec (hx H2) (fun t q => absurd q (hlx t)) hl hd (by omega)) ?_
    rintro v H3 ⟨hv3, f3⟩
    have hright : ∀ (x16 : AV) (e : Int), (OkP ds ∧ x16 = .str (ba (sealL (packB ds))) ∧ e = 0 ∨ ¬ OkP ds ∧ e = 1) → ∀ H4, Ret (fun v H' => v = .bool true) (resK (evCall (cx ρ) k 0 13 [x] H4) fun x33 H =>
        resK (evCall (cx ρ) k 0 14 [x] H) fun x35 H =>
        purK (binA Try.prog H .neq 4 x33 x35) fun x36 =>
        N3_2 ρ (evCall (cx ρ) k) (evCY (cx ρ) k).2 0 k x x16 (.int .i64 e) x36 H (fun x0_1 x3 x4 H =>
          N3_1 ρ (evCall (cx ρ) k) (evCY (cx ρ) k).2 0 k x0_1 x3 x4 H retK) retK) := by
      intro x16 e he H4
      refine Ret.bind (right_spec (hx H4) (by omega) (by omega)) ?_
      rintro v H5 ⟨b1, rfl, hb1, f5⟩
      refine Ret.bind (rrr_spec (hx H5) (by omega) (by omega)) ?_
      rintro v H6 ⟨b2, rfl, hb2, rfl⟩
      have eb : b1 = b2 := by rw [Bool.eq_iff_iff, hb1, hb2]
      subst eb
      have ebb : (b1 != b1) = false := by simp
      rcases he with ⟨hok, rfl, rfl⟩ | ⟨hno, rfl⟩
      · simp only [beq_bool, ebb, N3_2, N3_1, ne_eq, not_true, purK_some, resK_some, boolK_some, condK_true, condK_false, wantV_tt, wantV_tf, wantV_ft, wantV_ff, wantV_t, wantV_f, wantV_skip, Bool.not_true, Bool.not_false, gPur_true, gPur_false, gEff_true, gEff_false, gRes_true, gRes_false, pickA_true, pickA_false, extA_0, extA_1, extA_2, retK_one, retK_none, retK_two, valK_fn, valR_fn, cond_true, cond_false, bin_add, bin_sub, bin_mul, bin_eql, bin_neq, bin_lss, bin_leq, bin_gtr, bin_geq, bin_seql, bin_sneq, un_not_t, un_not_f, un_not, cvI_int, cvT_str, nilChk_ptr, nilChk_xp, addA_ptr, lenT_str, Bool.true_or, Bool.or_true, Bool.false_or, Bool.or_false, Bool.true_and, Bool.and_true, Bool.false_and, Bool.and_false, decide_true, decide_false, Int.reduceEq, Int.reduceLT, Int.reduceLE, Int.reduceNe, Int.reduceAdd, Int.reduceSub, Int.reduceMul, Int.reduceNeg, List.nil_append, List.append_nil, List.cons_append]
        have hpl : (packB ds).length ≤ 500000 := by
          unfold packB
          have := flat_len ds hd
          have := hok.len
          rw [List.length_append]
          have hh : (headB ds.length).length = 2 := rfl
          omega
        refine Ret.bind (unp_spec (sealL (packB ds)) (by unfold sealL; rw [List.length_append, w8_len]; omega) (by omega)) ?_
        rintro v H7 ⟨f7, (⟨hn, rfl⟩ | ⟨ps, y, hn, rfl, hE, _⟩)⟩
        · rw [unpack_pack ds hok] at hn; cases hn
        · rw [unpack_pack ds hok] at hn
          obtain rfl := Option.some.inj hn
          simp only [purK_some, resK_some, boolK_some, condK_true, condK_false, wantV_tt, wantV_tf, wantV_ft, wantV_ff, wantV_t, wantV_f, wantV_skip, Bool.not_true, Bool.not_false, gPur_true, gPur_false, gEff_true, gEff_false, gRes_true, gRes_false, pickA_true, pickA_false, extA_0, extA_1, extA_2, retK_one, retK_none, retK_two, valK_fn, valR_fn, cond_true, cond_false, bin_add, bin_sub, bin_mul, bin_eql, bin_neq, bin_lss, bin_leq, bin_gtr, bin_geq, bin_seql, bin_sneq, un_not_t, un_not_f, un_not, cvI_int, cvT_str, nilChk_ptr, nilChk_xp, addA_ptr, lenT_str, Bool.true_or, Bool.or_true, Bool.false_or, Bool.or_false, Bool.true_and, Bool.and_true, Bool.false_and, Bool.and_false, decide_true, decide_false, Int.reduceEq, Int.reduceLT, Int.reduceLE, Int.reduceNe, Int.reduceAdd, Int.reduceSub, Int.reduceMul, Int.reduceNeg, List.nil_append, List.append_nil, List.cons_append]
          refine Ret.bind (same_spec hE (hx H7) (by omega) (by omega)) ?_
          rintro v H8 ⟨rfl, rfl⟩
          try simp only [purK_some, resK_some, boolK_some, condK_true, condK_false, wantV_tt, wantV_tf, wantV_ft, wantV_ff, wantV_t, wantV_f, wantV_skip, Bool.not_true, Bool.not_false, gPur_true, gPur_false, gEff_true, gEff_false, gRes_true, gRes_false, pickA_true, pickA_false, extA_0, extA_1, extA_2, retK_one, retK_none, retK_two, valK_fn, valR_fn, cond_true, cond_false, bin_add, bin_sub, bin_mul, bin_eql, bin_neq, bin_lss, bin_leq, bin_gtr, bin_geq, bin_seql, bin_sneq, un_not_t, un_not_f, un_not, cvI_int, cvT_str, nilChk_ptr, nilChk_xp, addA_ptr, lenT_str, Bool.true_or, Bool.or_true, Bool.false_or, Bool.or_false, Bool.true_and, Bool.and_true, Bool.false_and, Bool.and_false, decide_true, decide_false, Int.reduceEq, Int.reduceLT, Int.reduceLE, Int.reduceNe, Int.reduceAdd, Int.reduceSub, Int.reduceMul, Int.reduceNeg, List.nil_append, List.append_nil, List.cons_append]
          exact .intro rfl
      · have : ¬ (1 : Int) = 0 := by decide
        simp only [beq_bool, ebb, N3_2, N3_1, ne_eq, this, not_false_eq_true, purK_some, resK_some, boolK_some, condK_true, condK_false, wantV_tt, wantV_tf, wantV_ft, wantV_ff, wantV_t, wantV_f, wantV_skip, Bool.not_true, Bool.not_false, gPur_true, gPur_false, gEff_true, gEff_false, gRes_true, gRes_false, pickA_true, pickA_false, extA_0, extA_1, extA_2, retK_one, retK_none, retK_two, valK_fn, valR_fn, cond_true, cond_false, bin_add, bin_sub, bin_mul, bin_eql, bin_neq, bin_lss, bin_leq, bin_gtr, bin_geq, bin_seql, bin_sneq, un_not_t, un_not_f, un_not, cvI_int, cvT_str, nilChk_ptr, nilChk_xp, addA_ptr, lenT_str, Bool.true_or, Bool.or_true, Bool.false_or, Bool.or_false, Bool.true_and, Bool.and_true, Bool.false_and, Bool.and_false, decide_true, decide_false, Int.reduceEq, Int.reduceLT, Int.reduceLE, Int.reduceNe, Int.reduceAdd, Int.reduceSub, Int.reduceMul, Int.reduceNeg, List.nil_append, List.append_nil, List.cons_append]
        exact .intro rfl
    rcases hv3 with ⟨hok, rfl⟩ | ⟨hno, rfl⟩
    · simp only [purK_some, resK_some, boolK_some, condK_true, condK_false, wantV_tt, wantV_tf, wantV_ft, wantV_ff, wantV_t, wantV_f, wantV_skip, Bool.not_true, Bool.not_false, gPur_true, gPur_false, gEff_true, gEff_false, gRes_true, gRes_false, pickA_true, pickA_false, extA_0, extA_1, extA_2, retK_one, retK_none, retK_two, valK_fn, valR_fn, cond_true, cond_false, bin_add, bin_sub, bin_mul, bin_eql, bin_neq, bin_lss, bin_leq, bin_gtr, bin_geq, bin_seql, bin_sneq, un_not_t, un_not_f, un_not, cvI_int, cvT_str, nilChk_ptr, nilChk_xp, addA_ptr, lenT_str, Bool.true_or, Bool.or_true, Bool.false_or, Bool.or_false, Bool.true_and, Bool.and_true, Bool.false_and, Bool.and_false, decide_true, decide_false, Int.reduceEq, Int.reduceLT, Int.reduceLE, Int.reduceNe, Int.reduceAdd, Int.reduceSub, Int.reduceMul, Int.reduceNeg, List.nil_append, List.append_nil, List.cons_append]
      refine Ret.bind (rpack_spec (hx H3) (fun t q => absurd q (hlx t)) hl hd (by omega)) ?_
      rintro v H4 ⟨(⟨_, rfl⟩ | ⟨hno, _⟩), f4⟩
      · simp only [ne_eq, not_true, purK_some, resK_some, boolK_some, condK_true, condK_false, wantV_tt, wantV_tf, wantV_ft, wantV_ff, wantV_t, wantV_f, wantV_skip, Bool.not_true, Bool.not_false, gPur_true, gPur_false, gEff_true, gEff_false, gRes_true, gRes_false, pickA_true, pickA_false, extA_0, extA_1, extA_2, retK_one, retK_none, retK_two, valK_fn, valR_fn, cond_true, cond_false, bin_add, bin_sub, bin_mul, bin_eql, bin_neq, bin_lss, bin_leq, bin_gtr, bin_geq, bin_seql, bin_sneq, un_not_t, un_not_f, un_not, cvI_int, cvT_str, nilChk_ptr, nilChk_xp, addA_ptr, lenT_str, Bool.true_or, Bool.or_true, Bool.false_or, Bool.or_false, Bool.true_and, Bool.and_true, Bool.false_and, Bool.and_false, decide_true, decide_false, Int.reduceEq, Int.reduceLT, Int.reduceLE, Int.reduceNe, Int.reduceAdd, Int.reduceSub, Int.reduceMul, Int.reduceNeg, List.nil_append, List.append_nil, List.cons_append, ba_size, ba_inj, emp1, emp2]
        exact hright _ 0 (Or.inl ⟨hok, rfl, rfl⟩) H4
      · exact absurd hok hno
    · simp only [purK_some, resK_some, boolK_some, condK_true, condK_false, wantV_tt, wantV_tf, wantV_ft, wantV_ff, wantV_t, wantV_f, wantV_skip, Bool.not_true, Bool.not_false, gPur_true, gPur_false, gEff_true, gEff_false, gRes_true, gRes_false, pickA_true, pickA_false, extA_0, extA_1, extA_2, retK_one, retK_none, retK_two, valK_fn, valR_fn, cond_true, cond_false, bin_add, bin_sub, bin_mul, bin_eql, bin_neq, bin_lss, bin_leq, bin_gtr, bin_geq, bin_seql, bin_sneq, un_not_t, un_not_f, un_not, cvI_int, cvT_str, nilChk_ptr, nilChk_xp, addA_ptr, lenT_str, Bool.true_or, Bool.or_true, Bool.false_or, Bool.or_false, Bool.true_and, Bool.and_true, Bool.false_and, Bool.and_false, decide_true, decide_false, Int.reduceEq, Int.reduceLT, Int.reduceLE, Int.reduceNe, Int.reduceAdd, Int.reduceSub, Int.reduceMul, Int.reduceNeg, List.nil_append, List.append_nil, List.cons_append]
      refine Ret.bind (rpack_spec (hx H3) (fun t q => absurd q (hlx t)) hl hd (by omega)) ?_
      rintro v H4 ⟨(⟨hok, _⟩ | ⟨_, rfl⟩), f4⟩
      · exact absurd hok hno
      · simp only [ne_eq, not_true, purK_some, resK_some, boolK_some, condK_true, condK_false, wantV_tt, wantV_tf, wantV_ft, wantV_ff, wantV_t, wantV_f, wantV_skip, Bool.not_true, Bool.not_false, gPur_true, gPur_false, gEff_true, gEff_false, gRes_true, gRes_false, pickA_true, pickA_false, extA_0, extA_1, extA_2, retK_one, retK_none, retK_two, valK_fn, valR_fn, cond_true, cond_false, bin_add, bin_sub, bin_mul, bin_eql, bin_neq, bin_lss, bin_leq, bin_gtr, bin_geq, bin_seql, bin_sneq, un_not_t, un_not_f, un_not, cvI_int, cvT_str, nilChk_ptr, nilChk_xp, addA_ptr, lenT_str, Bool.true_or, Bool.or_true, Bool.false_or, Bool.or_false, Bool.true_and, Bool.and_true, Bool.false_and, Bool.and_false, decide_true, decide_false, Int.reduceEq, Int.reduceLT, Int.reduceLE, Int.reduceNe, Int.reduceAdd, Int.reduceSub, Int.reduceMul, Int.reduceNeg, List.nil_append, List.append_nil, List.cons_append, ba_size, ba_inj, emp1, emp2]
        exact hright _ 1 (Or.inr ⟨hno, rfl⟩) H4
  · simp only [purK_some, resK_some, boolK_some, condK_true, condK_false, wantV_tt, wantV_tf, wantV_ft, wantV_ff, wantV_t, wantV_f, wantV_skip, Bool.not_true, Bool.not_false, gPur_true, gPur_false, gEff_true, gEff_false, gRes_true, gRes_false, pickA_true, pickA_false, extA_0, extA_1, extA_2, retK_one, retK_none, retK_two, valK_fn, valR_fn, cond_true, cond_false, bin_add, bin_sub, bin_mul, bin_eql, bin_neq, bin_lss, bin_leq, bin_gtr, bin_geq, bin_seql, bin_sneq, un_not_t, un_not_f, un_not, cvI_int, cvT_str, nilChk_ptr, nilChk_xp, addA_ptr, lenT_str, Bool.true_or, Bool.or_true, Bool.false_or, Bool.or_false, Bool.true_and, Bool.and_true, Bool.false_and, Bool.and_false, decide_true, decide_false, Int.reduceEq, Int.reduceLT, Int.reduceLE, Int.reduceNe, Int.reduceAdd, Int.reduceSub, Int.reduceMul, Int.reduceNeg, List.nil_append, List.append_nil, List.cons_append]
    exact .intro rfl
end
end Go.Proofs.Ytkmohjddojpdjaa

-- part DnP
/- DumpPacks: the call, whatever the slice holds. -/
set_option linter.unusedVariables false
set_option linter.unusedSimpArgs false
namespace Go.Proofs.Ytkmohjddojpdjaa
open Go.Ev Go.RowKit
def PairD.vals (d : PairD) : List Value := [.string (ba d.key), .string (ba d.val)]
theorem walk {Hh : Type} {enc : TypeId × Value → Hh} {W : World} {base : Nat} {spare : Nat → Bool} {held : Bool} {p : Option Addr} {n c : Nat} {dd : DataW Hh} {ps : List MemPlace} (h : DataW.Trod enc Try.prog W base spare held 22 (.slice p n c) dd ps) :
    Calls Try.prog 3 #[.slice p n c] W fun e w' => e = .returned (.bool true) ∧ Below W.heap.size W w' := by
  obtain ⟨els, hl, hc, hnc, hf, hE, hR⟩ := open_slice (ks := [.str, .str]) 20 Try.underlying22 (by kernel_rfl) (by kernel_rfl) h
  obtain ⟨ds, rfl, _⟩ := exists_map (f := PairD.vals) (Q := fun _ => True) els fun r hr => by
    obtain ⟨_, _, rfl, ⟨a, rfl, _⟩, _, _, rfl, ⟨b, rfl, _⟩, rfl⟩ := hf r hr
    exact ⟨⟨bs a, bs b⟩, by simp only [PairD.vals, ba_bs], trivial⟩
  have hx0 : ∀ Hp, Els (fun a => W.cell? a) Hp 2 (argSl p n c) (ds.map PairD.cells) := fun Hp => by
    have := hE Hp
    rw [List.map_map] at this
    exact this
  obtain ⟨v, H1, hrun, rfl⟩ := packs_ret (ρ := fun a => W.cell? a) (H := Heap.nil) (k := 2000000) hx0 (fun l q => by cases p <;> exact q) (by omega)
  exact calls_of_run_reads (C := cx fun a => W.cell? a) (vs := [.slice p n c]) (reads_cell _ _ rfl) (by kernel_rfl) (cx_ext _) Try.func3 rfl hrun ⟨_, _, rfl, hR _ _, rfl⟩
end Go.Proofs.Ytkmohjddojpdjaa
