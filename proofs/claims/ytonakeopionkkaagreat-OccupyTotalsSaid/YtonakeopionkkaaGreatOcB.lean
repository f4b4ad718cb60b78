/- Uses: the sums; the rate. -/
import Derived.Test.YtonakeopionkkaaGreatOcA
set_option linter.unusedVariables false
set_option linter.unusedSimpArgs false
namespace Go.Proofs.YtonakeopionkkaaGreat
attribute [local congr] Go.Ev.cond_congr1
open Go.Ev Go.RowKit
def InR (d : UseD) : Prop := mod d.live ∧ mod d.tomb ∧ mod d.old ∧ mod d.rest
theorem wrap_sum (f : UseD → Int) {ds : List UseD} (hf : ∀ d ∈ ds, mod (f d)) (hlen : ds.length ≤ 100) (i : Nat) (hi : i < ds.length) : wrapK .i64 (psum f ds i + f ds[i]) = psum f ds (i + 1) := by
  have h1 := psum_bound f ds hf i
  have h2 := hf ds[i] (List.getElem_mem hi)
  unfold mod at h2
  rw [psum_succ f hi, wrap_i64]
  omega
abbrev cz (n : Nat) (a b c d : Int) : AObj := .cells 0 30 (0, 0) false [.int .i64 n, .int .i64 a, .int .i64 b, .int .i64 c, .int .i64 d]
section
variable {ρ : Addr → Option Value} {k : Nat} {H : Heap} {x : AV} {ds : List UseD}
theorem total_spec (hx : Els ρ H 5 x (ds.map UseD.cells)) (hlen : ds.length ≤ 100) (hr : ∀ d ∈ ds, InR d) (hk : 200 ≤ k) :
    ∃ H', evCall (cx ρ) (k + 1) 0 8 [x] H = some (.agg (psums ds ds.length).cells, H') ∧ Fr Nop H H' := by
  rw [E8]
  obtain ⟨Hs, hHs⟩ : ∃ Hs, Hs = ((H.new useZ).new useZ).put (H.sz + 1) (cz ds.length 0 0 0 0) := ⟨_, rfl⟩
  have fs : Fr Nop H Hs := by
    rw [hHs]; exact ((Fr.new Nop H _).trans (Fr.new Nop _ _)).trans' (Fr.put _ (H.sz + 1) _ (S := fun l => l = H.sz + 1) fun _ => rfl) fun l h q => by omega
  have zs : Hs.sz = H.sz + 2 := by rw [hHs]; rfl
  have g0 : Hs.get H.sz = useZ := by rw [hHs, Heap.get_put, if_neg (by omega), Heap.get_new, if_neg (by rw [Heap.sz_new]; omega), Heap.get_new, if_pos rfl]
  have g1 : Hs.get (H.sz + 1) = cz ds.length 0 0 0 0 := by rw [hHs, Heap.get_put, if_pos rfl]
  simp (disch := first | ((try simp only [szn, szp, List.length_cons, List.length_nil, List.length_set, List.all_cons, List.all_nil, Bool.and_true, scal_int, sol_int, scal_bool, sol_bool, scal_str, sol_str, scal_nilp, sol_nilp, scal_ptr, sol_ptr, scal_nils, sol_nils, scal_sl, sol_sl, scal_sx, sol_sx, scal_xp, sol_xp, scal_xs, sol_xs, scal_nilm, sol_nilm, scal_mp, sol_mp, scal_nilf, sol_nilf, scal_fn, sol_fn, scal_nili, sol_nili, scal_ifc, sol_ifc]) <;> omega) | with_unfolding_all rfl) only [L8, hx.lenS, List.length_map, purK_some, resK_some, boolK_some, condK_true, condK_false, wantV_tt, wantV_tf, wantV_ft, wantV_ff, wantV_t, wantV_f, wantV_skip, Bool.not_true, Bool.not_false, gPur_true, gPur_false, gEff_true, gEff_false, gRes_true, gRes_false, pickA_true, pickA_false, extA_0, extA_1, extA_2, retK_one, retK_none, retK_two, valK_fn, valR_fn, cond_true, cond_false, bin_add, bin_sub, bin_mul, bin_eql, bin_neq, bin_lss, bin_leq, bin_gtr, bin_geq, bin_seql, bin_sneq, un_not_t, un_not_f, un_not, cvI_int, cvT_str, nilChk_ptr, nilChk_xp, addA_ptr, lenT_str, Bool.true_or, Bool.or_true, Bool.false_or, Bool.or_false, Bool.true_and, Bool.and_true, Bool.false_and, Bool.and_false, decide_true, decide_false, Int.reduceEq, Int.reduceLT, Int.reduceLE, Int.reduceNe, Int.reduceAdd, Int.reduceSub, Int.reduceMul, Int.reduceNeg, List.nil_append, List.append_nil, List.cons_append, effK_new, effK_put, effK_nothing, on_new, on_put, on_nothing, ld1_ptr, ldN_ptr, stA_one_ptr, stA_agg_ptr, ldC_cells, ldCN_cells, stC_one, stC_many, lay_all, lay_one, newCells_eq, get_new_at, get_put_at, Heap.get_new_ne, Heap.get_put_ne, szn, szp, box1, boxA_agg, List.getElem?_cons_zero, List.getElem?_cons_succ, List.drop_zero, List.drop_succ_cons, List.take_zero, List.take_succ_cons, List.set_cons_zero, List.set_cons_succ, Nat.zero_add, Nat.add_zero, Nat.reduceAdd, bldA_eq, fillO_nil, fillO_one, fillO_agg, Option.map_some, Option.bind_some, repeatL]
  simp only [N8_2, N8_3]
  rw [← hHs]
  refine loopL_wp (W := fun r => ∃ H', r = some (.agg (psums ds ds.length).cells, H') ∧ Fr Nop H H')
    (fun m y H1 => ∃ i : Nat, y = .int .i64 i ∧ m = ds.length - i ∧ i ≤ ds.length ∧ Fr Nop H H1 ∧ H.sz + 2 ≤ H1.sz ∧ H1.get H.sz = useZ ∧ H1.get (H.sz + 1) = cz ds.length (psum UseD.live ds i) (psum UseD.tomb ds i) (psum UseD.old ds i) (psum UseD.rest ds i)) ?_ ds.length _ _ _ ⟨0, rfl, by omega, by omega, fs, by omega, g0, g1⟩ (by omega)
  rintro m y H1 f ⟨i, rfl, hm, hle, hF, hz, hg0, hg⟩ hkn
  by_cases h : (i : Int) < ds.length
  · have hi : i < ds.length := by omega
    obtain ⟨e1, e2⟩ := ld_use (hx.frame0 hF) i hi
    have e3 : wrapK .i64 ((i : Int) + 1) = ((i + 1 : Nat) : Int) := wrap_succN i (by omega)
    have w1 := wrap_sum UseD.live (fun d hd => (hr d hd).1) hlen i hi
    have w2 := wrap_sum UseD.tomb (fun d hd => (hr d hd).2.1) hlen i hi
    have w3 := wrap_sum UseD.old (fun d hd => (hr d hd).2.2.1) hlen i hi
    have w4 := wrap_sum UseD.rest (fun d hd => (hr d hd).2.2.2) hlen i hi
    obtain ⟨H2, hH2⟩ : ∃ H2, H2 = (H1.new useZ).put H1.sz (useO ds[i]) := ⟨_, rfl⟩
    have hF2 : Fr Nop H1 H2 := by
      rw [hH2]; exact (Fr.new Nop H1 _).trans' (Fr.put _ H1.sz _ (S := fun l => l = H1.sz) fun _ => rfl) fun l h q => absurd q (Nat.ne_of_lt h)
    have hg2 : H2.get (H.sz + 1) = cz ds.length (psum UseD.live ds i) (psum UseD.tomb ds i) (psum UseD.old ds i) (psum UseD.rest ds i) := by rw [hF2.get _ (by omega) fun q => q, hg]
    have hg20 : H2.get H.sz = useZ := by rw [hF2.get _ (by omega) fun q => q, hg0]
    have hn2 : H2.get H1.sz = .cells 0 30 (0, 0) false [.int .i64 ds[i].page, .int .i64 ds[i].live, .int .i64 ds[i].tomb, .int .i64 ds[i].old, .int .i64 ds[i].rest] := by rw [hH2, Heap.get_put, if_pos rfl]; rfl
    have hz2 : H.sz + 2 ≤ H2.sz := Nat.le_trans hz hF2.sz
    have hne : H1.sz ≠ H.sz + 1 := by omega
    obtain ⟨H3, hH3⟩ : ∃ H3, H3 = (((H2.put (H.sz + 1) (cz ds.length (psum UseD.live ds (i + 1)) (psum UseD.tomb ds i) (psum UseD.old ds i) (psum UseD.rest ds i))).put (H.sz + 1) (cz ds.length (psum UseD.live ds (i + 1)) (psum UseD.tomb ds (i + 1)) (psum UseD.old ds i) (psum UseD.rest ds i))).put (H.sz + 1) (cz ds.length (psum UseD.live ds (i + 1)) (psum UseD.tomb ds (i + 1)) (psum UseD.old ds (i + 1)) (psum UseD.rest ds i))).put (H.sz + 1) (cz ds.length (psum UseD.live ds (i + 1)) (psum UseD.tomb ds (i + 1)) (psum UseD.old ds (i + 1)) (psum UseD.rest ds (i + 1))) := ⟨_, rfl⟩
    have hF3 : Fr (fun l => l = H.sz + 1) H2 H3 := by
      rw [hH3]; exact (((Fr.put (S := fun l => l = H.sz + 1) _ _ _ fun _ => rfl).trans (Fr.put _ _ _ fun _ => rfl)).trans (Fr.put _ _ _ fun _ => rfl)).trans (Fr.put _ _ _ fun _ => rfl)
    have hg3 : H3.get (H.sz + 1) = cz ds.length (psum UseD.live ds (i + 1)) (psum UseD.tomb ds (i + 1)) (psum UseD.old ds (i + 1)) (psum UseD.rest ds (i + 1)) := by rw [hH3, Heap.get_put, if_pos rfl]
    obtain ⟨H', h1, h2⟩ := hkn (ds.length - (i + 1)) (.int .i64 (i + 1 : Nat)) H3 (by omega) ⟨i + 1, rfl, rfl, by omega, (hF.trans hF2).trans' hF3 (fun l hl q => by omega), Nat.le_trans hz2 hF3.sz, by rw [hF3.get _ (by omega) (by omega), hg20], hg3⟩
    refine ⟨H', ?_, h2⟩
    rw [← h1]
    have st : ∀ H, stA 0 H 5 (.ptr H1.sz 0 0) (.agg ds[i].cells) = stC H1.sz 0 0 ds[i].cells (H.get H1.sz) := fun H => stA_agg_ptr _ _ _ _ _ _ rfl
    have sc0 : ∀ l (d : UseD), stC l 0 0 d.cells useZ = some (.tup [], .put l (useO d)) := fun l d => rfl
    simp (disch := first | exact hne | (first | ((try simp only [szn, szp, List.length_cons, List.length_nil, List.length_set, List.all_cons, List.all_nil, Bool.and_true, scal_int, sol_int, scal_bool, sol_bool, scal_str, sol_str, scal_nilp, sol_nilp, scal_ptr, sol_ptr, scal_nils, sol_nils, scal_sl, sol_sl, scal_sx, sol_sx, scal_xp, sol_xp, scal_xs, sol_xs, scal_nilm, sol_nilm, scal_mp, sol_mp, scal_nilf, sol_nilf, scal_fn, sol_fn, scal_nili, sol_nili, scal_ifc, sol_ifc]) <;> omega) | with_unfolding_all rfl)) only [N8_3b, N8_5, N8_4, h, e1, e2, e3, effK_new, newCells_eq, st, Heap.get_new_same, sc0, ← hH2, hn2, hg2, w1, w2, w3, w4, Heap.get_put_same, purK_some, resK_some, boolK_some, condK_true, condK_false, wantV_tt, wantV_tf, wantV_ft, wantV_ff, wantV_t, wantV_f, wantV_skip, Bool.not_true, Bool.not_false, gPur_true, gPur_false, gEff_true, gEff_false, gRes_true, gRes_false, pickA_true, pickA_false, extA_0, extA_1, extA_2, retK_one, retK_none, retK_two, valK_fn, valR_fn, cond_true, cond_false, bin_add, bin_sub, bin_mul, bin_eql, bin_neq, bin_lss, bin_leq, bin_gtr, bin_geq, bin_seql, bin_sneq, un_not_t, un_not_f, un_not, cvI_int, cvT_str, nilChk_ptr, nilChk_xp, addA_ptr, lenT_str, Bool.true_or, Bool.or_true, Bool.false_or, Bool.or_false, Bool.true_and, Bool.and_true, Bool.false_and, Bool.and_false, decide_true, decide_false, Int.reduceEq, Int.reduceLT, Int.reduceLE, Int.reduceNe, Int.reduceAdd, Int.reduceSub, Int.reduceMul, Int.reduceNeg, List.nil_append, List.append_nil, List.cons_append, effK_new, effK_put, effK_nothing, on_new, on_put, on_nothing, ld1_ptr, ldN_ptr, stA_one_ptr, stA_agg_ptr, ldC_cells, ldCN_cells, stC_one, stC_many, lay_all, lay_one, newCells_eq, get_new_at, get_put_at, Heap.get_new_ne, Heap.get_put_ne, szn, szp, box1, boxA_agg, List.getElem?_cons_zero, List.getElem?_cons_succ, List.drop_zero, List.drop_succ_cons, List.take_zero, List.take_succ_cons, List.set_cons_zero, List.set_cons_succ, Nat.zero_add, Nat.add_zero, Nat.reduceAdd]
    rw [hH3]
  · obtain rfl : i = ds.length := by omega
    refine ⟨_, ?_, hF.trans' (Fr.put H1 H.sz (useO (psums ds ds.length)) (S := fun l => l = H.sz) fun _ => rfl) fun l h q => absurd q (Nat.ne_of_lt h)⟩
    have ld : ldCN 5 0 0 (cz ds.length (psum UseD.live ds ds.length) (psum UseD.tomb ds ds.length) (psum UseD.old ds ds.length) (psum UseD.rest ds ds.length)) = some (.agg (psums ds ds.length).cells) := rfl
    have st : ∀ H', stA 0 H' 5 (.ptr H.sz 0 0) (.agg (psums ds ds.length).cells) = stC H.sz 0 0 (psums ds ds.length).cells (H'.get H.sz) := fun H => stA_agg_ptr _ _ _ _ _ _ rfl
    have sc0 : ∀ l (d : UseD), stC l 0 0 d.cells useZ = some (.tup [], .put l (useO d)) := fun l d => rfl
    have ld2 : ldCN 5 0 0 (useO (psums ds ds.length)) = some (.agg (psums ds ds.length).cells) := rfl
    simp only [N8_3b, N8_1, h, ldN_ptr, hg, ld, st, hg0, sc0, effK_put, ldT30, Heap.get_put_same, ld2, purK_some, resK_some, boolK_some, condK_true, condK_false, wantV_tt, wantV_tf, wantV_ft, wantV_ff, wantV_t, wantV_f, wantV_skip, Bool.not_true, Bool.not_false, gPur_true, gPur_false, gEff_true, gEff_false, gRes_true, gRes_false, pickA_true, pickA_false, extA_0, extA_1, extA_2, retK_one, retK_none, retK_two, valK_fn, valR_fn, cond_true, cond_false, bin_add, bin_sub, bin_mul, bin_eql, bin_neq, bin_lss, bin_leq, bin_gtr, bin_geq, bin_seql, bin_sneq, un_not_t, un_not_f, un_not, cvI_int, cvT_str, nilChk_ptr, nilChk_xp, addA_ptr, lenT_str, Bool.true_or, Bool.or_true, Bool.false_or, Bool.or_false, Bool.true_and, Bool.and_true, Bool.false_and, Bool.and_false, decide_true, decide_false, Int.reduceEq, Int.reduceLT, Int.reduceLE, Int.reduceNe, Int.reduceAdd, Int.reduceSub, Int.reduceMul, Int.reduceNeg, List.nil_append, List.append_nil, List.cons_append, retC_eq, retAll_nil, retAll_none, retAll_some, Option.bind_some]
/-- The poor ones. -/
theorem poor_spec (hx : Els ρ H 5 x (ds.map UseD.cells)) (hlen : ds.length ≤ 100) (live : Int) (hk : 200 ≤ k) :
    ∃ y H', evCall (cx ρ) (k + 1) 0 9 [x, .int .i64 live] H = some (y, H') ∧ GI H H' 3 1 y (ppoor live ds ds.length) := by
  rw [E9]
  simp only [L9, N9_2, N9_3, hx.lenS, List.length_map, purK_some, resK_some, boolK_some, condK_true, condK_false, wantV_tt, wantV_tf, wantV_ft, wantV_ff, wantV_t, wantV_f, wantV_skip, Bool.not_true, Bool.not_false, gPur_true, gPur_false, gEff_true, gEff_false, gRes_true, gRes_false, pickA_true, pickA_false, extA_0, extA_1, extA_2, retK_one, retK_none, retK_two, valK_fn, valR_fn, cond_true, cond_false, bin_add, bin_sub, bin_mul, bin_eql, bin_neq, bin_lss, bin_leq, bin_gtr, bin_geq, bin_seql, bin_sneq, un_not_t, un_not_f, un_not, cvI_int, cvT_str, nilChk_ptr, nilChk_xp, addA_ptr, lenT_str, Bool.true_or, Bool.or_true, Bool.false_or, Bool.or_false, Bool.true_and, Bool.and_true, Bool.false_and, Bool.and_false, decide_true, decide_false, Int.reduceEq, Int.reduceLT, Int.reduceLE, Int.reduceNe, Int.reduceAdd, Int.reduceSub, Int.reduceMul, Int.reduceNeg, List.nil_append, List.append_nil, List.cons_append]
  refine loopL_wp (W := fun r => ∃ y H', r = some (y, H') ∧ GI H H' 3 1 y (ppoor live ds ds.length))
    (fun m s H1 => ∃ (i : Nat) (y : AV), s = (y, .int .i64 i) ∧ m = ds.length - i ∧ i ≤ ds.length ∧ GI H H1 3 1 y (ppoor live ds i)) ?_ ds.length _ _ _ ⟨0, .nils, rfl, by omega, by omega, GI.nils (Fr.refl ..)⟩ (by omega)
  rintro m s H1 f ⟨i, y, rfl, hm, hle, hG⟩ hkn
  by_cases h : (i : Int) < ds.length
  · have hi : i < ds.length := by omega
    obtain ⟨e1, e2⟩ := ld_use (hx.frame0 hG.fr) i hi
    have e3 : wrapK .i64 ((i : Int) + 1) = ((i + 1 : Nat) : Int) := wrap_succN i (by omega)
    obtain ⟨H2, hH2⟩ : ∃ H2, H2 = (H1.new useZ).put H1.sz (useO ds[i]) := ⟨_, rfl⟩
    have hF2 : Fr Nop H1 H2 := by
      rw [hH2]; exact (Fr.new Nop H1 _).trans' (Fr.put _ H1.sz _ (S := fun l => l = H1.sz) fun _ => rfl) fun l h q => absurd q (Nat.ne_of_lt h)
    have hn2 : H2.get H1.sz = .cells 0 30 (0, 0) false [.int .i64 ds[i].page, .int .i64 ds[i].live, .int .i64 ds[i].tomb, .int .i64 ds[i].old, .int .i64 ds[i].rest] := by rw [hH2, Heap.get_put, if_pos rfl]; rfl
    have st : ∀ H, stA 0 H 5 (.ptr H1.sz 0 0) (.agg ds[i].cells) = stC H1.sz 0 0 ds[i].cells (H.get H1.sz) := fun H => stA_agg_ptr _ _ _ _ _ _ rfl
    have sc0 : ∀ l (d : UseD), stC l 0 0 d.cells useZ = some (.tup [], .put l (useO d)) := fun l d => rfl
    by_cases hq : ds[i].live ≤ live
    · obtain ⟨y1, g, ha, hG1⟩ := GI.push (ρ := ρ) (by_ := 8) (hG.frame hF2) [[.int .i64 ds[i].page]] (by simp) (by simp [AV.solid]) (by have := ppoor_len live ds i; simp; omega) (by have := ppoor_len live ds i; simp; omega)
      simp only [List.flatten_cons, List.flatten_nil, List.append_nil, List.length_cons, List.length_nil, Nat.zero_add] at ha hG1
      obtain ⟨y', H', h1, h2⟩ := hkn (ds.length - (i + 1)) (y1, .int .i64 (i + 1 : Nat)) _ (by omega) ⟨i + 1, y1, rfl, rfl, by omega, by rw [ppoor_succ live hi, if_pos hq]; exact hG1⟩
      refine ⟨y', H', ?_, h2⟩
      rw [← h1]
      simp (disch := first | ((try simp only [szn, szp, List.length_cons, List.length_nil, List.length_set, List.all_cons, List.all_nil, Bool.and_true, scal_int, sol_int, scal_bool, sol_bool, scal_str, sol_str, scal_nilp, sol_nilp, scal_ptr, sol_ptr, scal_nils, sol_nils, scal_sl, sol_sl, scal_sx, sol_sx, scal_xp, sol_xp, scal_xs, sol_xs, scal_nilm, sol_nilm, scal_mp, sol_mp, scal_nilf, sol_nilf, scal_fn, sol_fn, scal_nili, sol_nili, scal_ifc, sol_ifc]) <;> omega) | with_unfolding_all rfl) only [N9_3b, N9_4, h, e1, e2, e3, effK_new, newCells_eq, st, Heap.get_new_same, sc0, ← hH2, hn2, hq, bldS_eq, ha, effK_on, purK_some, resK_some, boolK_some, condK_true, condK_false, wantV_tt, wantV_tf, wantV_ft, wantV_ff, wantV_t, wantV_f, wantV_skip, Bool.not_true, Bool.not_false, gPur_true, gPur_false, gEff_true, gEff_false, gRes_true, gRes_false, pickA_true, pickA_false, extA_0, extA_1, extA_2, retK_one, retK_none, retK_two, valK_fn, valR_fn, cond_true, cond_false, bin_add, bin_sub, bin_mul, bin_eql, bin_neq, bin_lss, bin_leq, bin_gtr, bin_geq, bin_seql, bin_sneq, un_not_t, un_not_f, un_not, cvI_int, cvT_str, nilChk_ptr, nilChk_xp, addA_ptr, lenT_str, Bool.true_or, Bool.or_true, Bool.false_or, Bool.or_false, Bool.true_and, Bool.and_true, Bool.false_and, Bool.and_false, decide_true, decide_false, Int.reduceEq, Int.reduceLT, Int.reduceLE, Int.reduceNe, Int.reduceAdd, Int.reduceSub, Int.reduceMul, Int.reduceNeg, List.nil_append, List.append_nil, List.cons_append, effK_new, effK_put, effK_nothing, on_new, on_put, on_nothing, ld1_ptr, ldN_ptr, stA_one_ptr, stA_agg_ptr, ldC_cells, ldCN_cells, stC_one, stC_many, lay_all, lay_one, newCells_eq, get_new_at, get_put_at, Heap.get_new_ne, Heap.get_put_ne, szn, szp, box1, boxA_agg, List.getElem?_cons_zero, List.getElem?_cons_succ, List.drop_zero, List.drop_succ_cons, List.take_zero, List.take_succ_cons, List.set_cons_zero, List.set_cons_succ, Nat.zero_add, Nat.add_zero, Nat.reduceAdd, bldA_eq, fillO_nil, fillO_one, fillO_agg, Option.map_some, Option.bind_some, repeatL]
    · obtain ⟨y', H', h1, h2⟩ := hkn (ds.length - (i + 1)) (y, .int .i64 (i + 1 : Nat)) H2 (by omega) ⟨i + 1, y, rfl, rfl, by omega, by rw [ppoor_succ live hi, if_neg hq]; exact hG.frame hF2⟩
      refine ⟨y', H', ?_, h2⟩
      rw [← h1]
      simp (disch := first | ((try simp only [szn, szp, List.length_cons, List.length_nil, List.length_set, List.all_cons, List.all_nil, Bool.and_true, scal_int, sol_int, scal_bool, sol_bool, scal_str, sol_str, scal_nilp, sol_nilp, scal_ptr, sol_ptr, scal_nils, sol_nils, scal_sl, sol_sl, scal_sx, sol_sx, scal_xp, sol_xp, scal_xs, sol_xs, scal_nilm, sol_nilm, scal_mp, sol_mp, scal_nilf, sol_nilf, scal_fn, sol_fn, scal_nili, sol_nili, scal_ifc, sol_ifc]) <;> omega) | with_unfolding_all rfl) only [N9_3b, N9_4, h, e1, e2, e3, effK_new, newCells_eq, st, Heap.get_new_same, sc0, ← hH2, hn2, hq, purK_some, resK_some, boolK_some, condK_true, condK_false, wantV_tt, wantV_tf, wantV_ft, wantV_ff, wantV_t, wantV_f, wantV_skip, Bool.not_true, Bool.not_false, gPur_true, gPur_false, gEff_true, gEff_false, gRes_true, gRes_false, pickA_true, pickA_false, extA_0, extA_1, extA_2, retK_one, retK_none, retK_two, valK_fn, valR_fn, cond_true, cond_false, bin_add, bin_sub, bin_mul, bin_eql, bin_neq, bin_lss, bin_leq, bin_gtr, bin_geq, bin_seql, bin_sneq, un_not_t, un_not_f, un_not, cvI_int, cvT_str, nilChk_ptr, nilChk_xp, addA_ptr, lenT_str, Bool.true_or, Bool.or_true, Bool.false_or, Bool.or_false, Bool.true_and, Bool.and_true, Bool.false_and, Bool.and_false, decide_true, decide_false, Int.reduceEq, Int.reduceLT, Int.reduceLE, Int.reduceNe, Int.reduceAdd, Int.reduceSub, Int.reduceMul, Int.reduceNeg, List.nil_append, List.append_nil, List.cons_append, effK_new, effK_put, effK_nothing, on_new, on_put, on_nothing, ld1_ptr, ldN_ptr, stA_one_ptr, stA_agg_ptr, ldC_cells, ldCN_cells, stC_one, stC_many, lay_all, lay_one, newCells_eq, get_new_at, get_put_at, Heap.get_new_ne, Heap.get_put_ne, szn, szp, box1, boxA_agg, List.getElem?_cons_zero, List.getElem?_cons_succ, List.drop_zero, List.drop_succ_cons, List.take_zero, List.take_succ_cons, List.set_cons_zero, List.set_cons_succ, Nat.zero_add, Nat.add_zero, Nat.reduceAdd, bldA_eq, fillO_nil, fillO_one, fillO_agg, Option.map_some, Option.bind_some, repeatL]
  · obtain rfl : i = ds.length := by omega
    refine ⟨y, H1, ?_, hG⟩
    simp only [N9_3b, N9_1, h, purK_some, resK_some, boolK_some, condK_true, condK_false, wantV_tt, wantV_tf, wantV_ft, wantV_ff, wantV_t, wantV_f, wantV_skip, Bool.not_true, Bool.not_false, gPur_true, gPur_false, gEff_true, gEff_false, gRes_true, gRes_false, pickA_true, pickA_false, extA_0, extA_1, extA_2, retK_one, retK_none, retK_two, valK_fn, valR_fn, cond_true, cond_false, bin_add, bin_sub, bin_mul, bin_eql, bin_neq, bin_lss, bin_leq, bin_gtr, bin_geq, bin_seql, bin_sneq, un_not_t, un_not_f, un_not, cvI_int, cvT_str, nilChk_ptr, nilChk_xp, addA_ptr, lenT_str, Bool.true_or, Bool.or_true, Bool.false_or, Bool.or_false, Bool.true_and, Bool.and_true, Bool.false_and, Bool.and_false, decide_true, decide_false, Int.reduceEq, Int.reduceLT, Int.reduceLE, Int.reduceNe, Int.reduceAdd, Int.reduceSub, Int.reduceMul, Int.reduceNeg, List.nil_append, List.append_nil, List.cons_append]
def allU (d : UseD) : Int := d.live + d.tomb + d.old + d.rest
theorem psums_bound (hlen : ds.length ≤ 100) (hr : ∀ d ∈ ds, InR d) (i : Nat) (hi : i ≤ 100) : -109951162777600 ≤ psum UseD.live ds i ∧ psum UseD.live ds i ≤ 109951162777600 ∧ -109951162777600 ≤ psum UseD.tomb ds i ∧ psum UseD.tomb ds i ≤ 109951162777600 ∧ -109951162777600 ≤ psum UseD.old ds i ∧ psum UseD.old ds i ≤ 109951162777600 ∧ -109951162777600 ≤ psum UseD.rest ds i ∧ psum UseD.rest ds i ≤ 109951162777600 := by
  have b1 := psum_bound UseD.live ds (fun d hd => (hr d hd).1) i
  have b2 := psum_bound UseD.tomb ds (fun d hd => (hr d hd).2.1) i
  have b3 := psum_bound UseD.old ds (fun d hd => (hr d hd).2.2.1) i
  have b4 := psum_bound UseD.rest ds (fun d hd => (hr d hd).2.2.2) i
  omega
def rateP (d : UseD) : Int := if allU d ≤ 0 then 0 else (d.live * 1000).tdiv (allU d)
theorem rate_spec (hx : Els ρ H 5 x (ds.map UseD.cells)) (hlen : ds.length ≤ 100) (hr : ∀ d ∈ ds, InR d) (hk : 200 ≤ k) :
    ∃ H', evCall (cx ρ) (k + 2) 0 10 [x] H = some (.int .i64 (wrapK .i64 (rateP (psums ds ds.length))), H') ∧ Fr Nop H H' := by
  rw [E10]
  obtain ⟨H1, h1, hF⟩ := total_spec (k := k) hx hlen hr hk
  obtain ⟨b1, b2, b3, b4, b5, b6, b7, b8⟩ := psums_bound hlen hr ds.length hlen
  refine ⟨_, ?_, hF.trans ((Fr.new Nop H1 useZ).trans' (Fr.put _ H1.sz (useO (psums ds ds.length)) (S := fun l => l = H1.sz) fun _ => rfl) fun l h q => absurd q (Nat.ne_of_lt h))⟩
  have st : ∀ H, stA 0 H 5 (.ptr H1.sz 0 0) (.agg (psums ds ds.length).cells) = stC H1.sz 0 0 (psums ds ds.length).cells (H.get H1.sz) := fun H => stA_agg_ptr _ _ _ _ _ _ rfl
  have sc0 : ∀ l (d : UseD), stC l 0 0 d.cells useZ = some (.tup [], .put l (useO d)) := fun l d => rfl
  have cl1 : ∀ d : UseD, d.cells[1]? = some (.int .i64 d.live) := fun d => rfl
  have cl2 : ∀ d : UseD, d.cells[2]? = some (.int .i64 d.tomb) := fun d => rfl
  have cl3 : ∀ d : UseD, d.cells[3]? = some (.int .i64 d.old) := fun d => rfl
  have cl4 : ∀ d : UseD, d.cells[4]? = some (.int .i64 d.rest) := fun d => rfl
  have w1 : wrapK .i64 ((psums ds ds.length).live + (psums ds ds.length).tomb) = (psums ds ds.length).live + (psums ds ds.length).tomb := by simp only [psums]; rw [wrap_i64]; omega
  have w2 : wrapK .i64 ((psums ds ds.length).live + (psums ds ds.length).tomb + (psums ds ds.length).old) = (psums ds ds.length).live + (psums ds ds.length).tomb + (psums ds ds.length).old := by simp only [psums]; rw [wrap_i64]; omega
  have w3 : wrapK .i64 ((psums ds ds.length).live + (psums ds ds.length).tomb + (psums ds ds.length).old + (psums ds ds.length).rest) = allU (psums ds ds.length) := by simp only [psums, allU]; rw [wrap_i64]; omega
  have w4 : wrapK .i64 ((psums ds ds.length).live * 1000) = (psums ds ds.length).live * 1000 := by simp only [psums]; rw [wrap_i64]; omega
  by_cases h : allU (psums ds ds.length) ≤ 0
  · have hrp : rateP (psums ds ds.length) = 0 := if_pos h
    have w0 : wrapK .i64 0 = 0 := rfl
    simp only [L10, h1, effK_new, effK_put, newCells_eq, st, Heap.get_new_same, sc0, ld1_ptr, Heap.get_put_same, ldC_cells, cl1, cl2, cl3, cl4, Nat.zero_add, w1, w2, w3, h, hrp, w0, purK_some, resK_some, boolK_some, condK_true, condK_false, wantV_tt, wantV_tf, wantV_ft, wantV_ff, wantV_t, wantV_f, wantV_skip, Bool.not_true, Bool.not_false, gPur_true, gPur_false, gEff_true, gEff_false, gRes_true, gRes_false, pickA_true, pickA_false, extA_0, extA_1, extA_2, retK_one, retK_none, retK_two, valK_fn, valR_fn, cond_true, cond_false, bin_add, bin_sub, bin_mul, bin_eql, bin_neq, bin_lss, bin_leq, bin_gtr, bin_geq, bin_seql, bin_sneq, un_not_t, un_not_f, un_not, cvI_int, cvT_str, nilChk_ptr, nilChk_xp, addA_ptr, lenT_str, Bool.true_or, Bool.or_true, Bool.false_or, Bool.or_false, Bool.true_and, Bool.and_true, Bool.false_and, Bool.and_false, decide_true, decide_false, Int.reduceEq, Int.reduceLT, Int.reduceLE, Int.reduceNe, Int.reduceAdd, Int.reduceSub, Int.reduceMul, Int.reduceNeg, List.nil_append, List.append_nil, List.cons_append]
  · have hrp : rateP (psums ds ds.length) = ((psums ds ds.length).live * 1000).tdiv (allU (psums ds ds.length)) := if_neg h
    have hne : allU (psums ds ds.length) ≠ 0 := by omega
    simp only [L10, h1, effK_new, effK_put, newCells_eq, st, Heap.get_new_same, sc0, ld1_ptr, Heap.get_put_same, ldC_cells, cl1, cl2, cl3, cl4, Nat.zero_add, w1, w2, w3, w4, h, hrp, bin_quo _ _ _ _ _ _ hne, purK_some, resK_some, boolK_some, condK_true, condK_false, wantV_tt, wantV_tf, wantV_ft, wantV_ff, wantV_t, wantV_f, wantV_skip, Bool.not_true, Bool.not_false, gPur_true, gPur_false, gEff_true, gEff_false, gRes_true, gRes_false, pickA_true, pickA_false, extA_0, extA_1, extA_2, retK_one, retK_none, retK_two, valK_fn, valR_fn, cond_true, cond_false, bin_add, bin_sub, bin_mul, bin_eql, bin_neq, bin_lss, bin_leq, bin_gtr, bin_geq, bin_seql, bin_sneq, un_not_t, un_not_f, un_not, cvI_int, cvT_str, nilChk_ptr, nilChk_xp, addA_ptr, lenT_str, Bool.true_or, Bool.or_true, Bool.false_or, Bool.or_false, Bool.true_and, Bool.and_true, Bool.false_and, Bool.and_false, decide_true, decide_false, Int.reduceEq, Int.reduceLT, Int.reduceLE, Int.reduceNe, Int.reduceAdd, Int.reduceSub, Int.reduceMul, Int.reduceNeg, List.nil_append, List.append_nil, List.cons_append]
/-- Two lists of numbers that are the same. -/
theorem ints_spec {y : AV} {l : List (List AV)} (hx : Els ρ H 1 x l) (hy : Els ρ H 1 y l) (hl : ∀ r ∈ l, ∃ n, r = [.int .i64 n]) (hlen : l.length ≤ 100) (hk : 200 ≤ k) :
    evCall (cx ρ) (k + 1) 0 11 [x, y] H = some (.bool true, H) := by
  rw [E11]
  simp only [L11, N11_2, N11_3, hx.lenS, hy.lenS, ne_eq, not_true, purK_some, resK_some, boolK_some, condK_true, condK_false, wantV_tt, wantV_tf, wantV_ft, wantV_ff, wantV_t, wantV_f, wantV_skip, Bool.not_true, Bool.not_false, gPur_true, gPur_false, gEff_true, gEff_false, gRes_true, gRes_false, pickA_true, pickA_false, extA_0, extA_1, extA_2, retK_one, retK_none, retK_two, valK_fn, valR_fn, cond_true, cond_false, bin_add, bin_sub, bin_mul, bin_eql, bin_neq, bin_lss, bin_leq, bin_gtr, bin_geq, bin_seql, bin_sneq, un_not_t, un_not_f, un_not, cvI_int, cvT_str, nilChk_ptr, nilChk_xp, addA_ptr, lenT_str, Bool.true_or, Bool.or_true, Bool.false_or, Bool.or_false, Bool.true_and, Bool.and_true, Bool.false_and, Bool.and_false, decide_true, decide_false, Int.reduceEq, Int.reduceLT, Int.reduceLE, Int.reduceNe, Int.reduceAdd, Int.reduceSub, Int.reduceMul, Int.reduceNeg, List.nil_append, List.append_nil, List.cons_append]
  refine loopL_wp (W := fun r => r = some (.bool true, H))
    (fun m s H1 => ∃ (i : Nat), s = .int .i64 i ∧ H1 = H ∧ m = l.length - i ∧ i ≤ l.length) ?_ l.length _ _ _ ⟨0, rfl, rfl, by omega, by omega⟩ (by omega)
  rintro m s H1 f ⟨i, rfl, rfl, hm, hle⟩ hkn
  by_cases h : (i : Int) < l.length
  · have hi : i < l.length := by omega
    have e1 := hx.ix .i64 i (by omega) h
    have e2 := hy.ix .i64 i (by omega) h
    rw [Int.toNat_natCast] at e1 e2
    obtain ⟨n, hn⟩ := hl l[i] (List.getElem_mem hi)
    have l1 := hx.ld1 i 0 hi (by omega)
    have l2 := hy.ld1 i 0 hi (by omega)
    rw [hn] at l1 l2
    have e3 : wrapK .i64 ((i : Int) + 1) = ((i + 1 : Nat) : Int) := wrap_succN i (by omega)
    have := hkn (l.length - (i + 1)) (.int .i64 (i + 1 : Nat)) H1 (by omega) ⟨i + 1, rfl, rfl, rfl, by omega⟩
    rw [← this]
    simp only [N11_3b, hx.lenS, h, e1, e2, l1, l2, e3, List.getElem?_cons_zero, ne_eq, not_true, purK_some, resK_some, boolK_some, condK_true, condK_false, wantV_tt, wantV_tf, wantV_ft, wantV_ff, wantV_t, wantV_f, wantV_skip, Bool.not_true, Bool.not_false, gPur_true, gPur_false, gEff_true, gEff_false, gRes_true, gRes_false, pickA_true, pickA_false, extA_0, extA_1, extA_2, retK_one, retK_none, retK_two, valK_fn, valR_fn, cond_true, cond_false, bin_add, bin_sub, bin_mul, bin_eql, bin_neq, bin_lss, bin_leq, bin_gtr, bin_geq, bin_seql, bin_sneq, un_not_t, un_not_f, un_not, cvI_int, cvT_str, nilChk_ptr, nilChk_xp, addA_ptr, lenT_str, Bool.true_or, Bool.or_true, Bool.false_or, Bool.or_false, Bool.true_and, Bool.and_true, Bool.false_and, Bool.and_false, decide_true, decide_false, Int.reduceEq, Int.reduceLT, Int.reduceLE, Int.reduceNe, Int.reduceAdd, Int.reduceSub, Int.reduceMul, Int.reduceNeg, List.nil_append, List.append_nil, List.cons_append]
  · simp only [N11_3b, N11_1, hx.lenS, h, purK_some, resK_some, boolK_some, condK_true, condK_false, wantV_tt, wantV_tf, wantV_ft, wantV_ff, wantV_t, wantV_f, wantV_skip, Bool.not_true, Bool.not_false, gPur_true, gPur_false, gEff_true, gEff_false, gRes_true, gRes_false, pickA_true, pickA_false, extA_0, extA_1, extA_2, retK_one, retK_none, retK_two, valK_fn, valR_fn, cond_true, cond_false, bin_add, bin_sub, bin_mul, bin_eql, bin_neq, bin_lss, bin_leq, bin_gtr, bin_geq, bin_seql, bin_sneq, un_not_t, un_not_f, un_not, cvI_int, cvT_str, nilChk_ptr, nilChk_xp, addA_ptr, lenT_str, Bool.true_or, Bool.or_true, Bool.false_or, Bool.or_false, Bool.true_and, Bool.and_true, Bool.false_and, Bool.and_false, decide_true, decide_false, Int.reduceEq, Int.reduceLT, Int.reduceLE, Int.reduceNe, Int.reduceAdd, Int.reduceSub, Int.reduceMul, Int.reduceNeg, List.nil_append, List.append_nil, List.cons_append]
end
end Go.Proofs.YtonakeopionkkaaGreat
