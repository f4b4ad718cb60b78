/- OccupyTotals: whatever the uses, the law tells true. -/
import Derived.Test.YtonakeopionkkaaGreatOcC
set_option linter.unusedVariables false
set_option linter.unusedSimpArgs false
namespace Go.Proofs.YtonakeopionkkaaGreat
attribute [local congr] Go.Ev.cond_congr1
open Go.Ev Go.RowKit
theorem eqBool (H : Heap) (a : Bool) : binA Tryz.prog H .eql 4 (.bool a) (.bool a) = some (.bool true) := by
  have : binA Tryz.prog H .eql 4 (.bool a) (.bool a) = some (.bool (a == a)) := by kernel_rfl
  rw [this, beq_self_eq_true]
def fin : Res → Bool
  | some (.bool true, H) => true
  | _ => false
theorem of_fin {r : Res} (h : fin r = true) : ∃ H, r = some (.bool true, H) := by
  rcases r with _ | ⟨v, H⟩
  · cases h
  · cases v with
    | bool b => cases b with
      | true => exact ⟨H, rfl⟩
      | false => cases h
    | _ => cases h
set_option maxRecDepth 1000000 in
theorem awake_fin (ρ : Addr → Option Value) : fin (fast ρ 1000 0 5 [] Heap.nil) = true := by kernel_rfl
theorem agn_use (d : UseD) : agn (some (.agg d.cells)) (.agg d.cells) = true := by simp [agn, AV.eqv, AV.eqvs, UseD.cells]
theorem ppoor_rows (live : Int) (ds : List UseD) : ∀ i, ∀ r ∈ ppoor live ds i, ∃ n, r = [AV.int .i64 n]
  | 0 => by simp [ppoor]
  | i + 1 => by
    have := ppoor_rows live ds i
    simp only [ppoor]
    split
    · split
      · intro r hr; rcases List.mem_append.1 hr with h | h
        · exact this r h
        · simp at h; exact ⟨_, h⟩
      · exact this
    · exact this
section
variable {ρ : Addr → Option Value} {x : AV} {ds : List UseD}
theorem law_run (hx0 : ∀ H, Els ρ H 5 x (ds.map UseD.cells)) (hxs : ∀ l, x.lies l → False) (live : Int) : ∃ H, evCall (cx ρ) 1001 0 4 [x, .int .i64 live] Heap.nil = some (.bool true, H) := by
  rw [E4 ρ 1000]
  obtain ⟨H1, h1⟩ := of_fin (awake_fin ρ)
  rw [fast_eq] at h1
  have hln := (hx0 H1).lenS
  by_cases hlen : (100 : Int) < ds.length
  · refine ⟨H1, ?_⟩
    simp only [L4, h1, hln, List.length_map, hlen, purK_some, resK_some, boolK_some, condK_true, condK_false, wantV_tt, wantV_tf, wantV_ft, wantV_ff, wantV_t, wantV_f, wantV_skip, Bool.not_true, Bool.not_false, gPur_true, gPur_false, gEff_true, gEff_false, gRes_true, gRes_false, pickA_true, pickA_false, extA_0, extA_1, extA_2, retK_one, retK_none, retK_two, valK_fn, valR_fn, cond_true, cond_false, bin_add, bin_sub, bin_mul, bin_eql, bin_neq, bin_lss, bin_leq, bin_gtr, bin_geq, bin_seql, bin_sneq, un_not_t, un_not_f, un_not, cvI_int, cvT_str, nilChk_ptr, nilChk_xp, addA_ptr, lenT_str, Bool.true_or, Bool.or_true, Bool.false_or, Bool.or_false, Bool.true_and, Bool.and_true, Bool.false_and, Bool.and_false, decide_true, decide_false, Int.reduceEq, Int.reduceLT, Int.reduceLE, Int.reduceNe, Int.reduceAdd, Int.reduceSub, Int.reduceMul, Int.reduceNeg, List.nil_append, List.append_nil, List.cons_append]
  have hl : ds.length ≤ 100 := by omega
  obtain ⟨Hs, hHs⟩ : ∃ Hs, Hs = (H1.new useZ).put H1.sz (useE (psums ds 0)) := ⟨_, rfl⟩
  have zs : Hs.sz = H1.sz + 1 := by rw [hHs]; rfl
  have gs : Hs.get H1.sz = useE (psums ds 0) := by rw [hHs, Heap.get_put, if_pos rfl]
  have em : Emp (Hs.new (.cells 0 3 (0, 0) false [])) (.sl Hs.sz 0 0 0 0 false) := ⟨rfl, rfl, rfl, by rw [Heap.sz_new]; omega, _, _, _, _, Heap.get_new_same .., Nat.le_refl _⟩
  have key := law_loop (ρ := ρ) (call := evCall (cx ρ) 1000) (yc := (evCY (cx ρ) 1000).2) (k := 1000) (Hs := Hs) (hx0 Hs) hxs hl live H1.sz (by omega)
    (fun x0_1 x1_1 x5_1 x6 x7 x8 H => N4_1 ρ (evCall (cx ρ) 1000) (evCY (cx ρ) 1000).2 0 1000 x0_1 x1_1 x5_1 x6 x7 x8 H retK) _ (fun _ _ _ => rfl)
    (fun r => ∃ H, r = some (.bool true, H)) (fun H => ⟨H, rfl⟩) (fun y H2 hr hF hg hG => by
      obtain ⟨H3, h3, f3⟩ := worst_spec (k := 999) (hx0 H2) hl (by decide)
      obtain ⟨H4, h4, f4⟩ := rate_spec (k := 998) (hx0 H3) hl hr (by decide)
      obtain ⟨H5, h5, f5⟩ := total_spec (k := 999) (hx0 H4) hl hr (by decide)
      obtain ⟨y6, H6, h6, g6⟩ := poor_spec (k := 999) (hx0 H5) hl live (by decide)
      have hp2 : H1.sz < H2.sz := Nat.lt_of_lt_of_le (by omega) hF.sz
      have hg3 : H3.get H1.sz = useE (psums ds ds.length) := by rw [f3.get _ hp2 fun q => q, hg]
      have hg4 : H4.get H1.sz = useE (psums ds ds.length) := by rw [f4.get _ (Nat.lt_of_lt_of_le hp2 f3.sz) fun q => q, hg3]
      have hg5 : H5.get H1.sz = useE (psums ds ds.length) := by rw [f5.get _ (Nat.lt_of_lt_of_le hp2 (f3.trans f4).sz) fun q => q, hg4]
      have hy6 : Els ρ H6 1 y (ppoor live ds ds.length) := by
        have f26 : Fr Nop H2 H6 := ((f3.trans f4).trans f5).trans g6.fr
        rcases hG with h | ⟨e, h⟩
        · exact (h.toEls (ρ := ρ)).frame0 f26
        · rw [e]; exact (h.toEls (ρ := ρ) (sz := 1)).frame0 f26
      have h7 := ints_spec (k := 999) (ρ := ρ) g6.grow.toEls hy6 (ppoor_rows live ds ds.length) (Nat.le_trans (ppoor_len live ds _) hl) (by decide)
      obtain ⟨b1, b2, b3, b4, b5, b6, b7, b8⟩ := psums_bound hl hr ds.length hl
      have w1 : wrapK .i64 ((psums ds ds.length).live + (psums ds ds.length).tomb) = (psums ds ds.length).live + (psums ds ds.length).tomb := by simp only [psums]; rw [wrap_i64]; omega
      have w2 : wrapK .i64 ((psums ds ds.length).live + (psums ds ds.length).tomb + (psums ds ds.length).old) = (psums ds ds.length).live + (psums ds ds.length).tomb + (psums ds ds.length).old := by simp only [psums]; rw [wrap_i64]; omega
      have w3 : wrapK .i64 ((psums ds ds.length).live + (psums ds ds.length).tomb + (psums ds ds.length).old + (psums ds ds.length).rest) = allU (psums ds ds.length) := by simp only [psums, allU]; rw [wrap_i64]; omega
      have w4 : wrapK .i64 ((psums ds ds.length).live * 1000) = (psums ds ds.length).live * 1000 := by simp only [psums]; rw [wrap_i64]; omega
      have ld : ldCN 5 0 0 (useE (psums ds ds.length)) = some (.agg (psums ds ds.length).cells) := rfl
      refine ⟨H6, ?_⟩
      by_cases h : allU (psums ds ds.length) ≤ 0
      · have hrp : rateP (psums ds ds.length) = 0 := if_pos h
        have w0 : wrapK .i64 0 = 0 := rfl
        have hn : ¬ 0 < allU (psums ds ds.length) := by omega
        rw [hrp, w0] at h4
        simp only [N4_1, N4_2, N4_3, h3, h4, h5, h6, h7, ld1_ptr, ldN_ptr, ldC_cells, hg3, hg4, hg5, ld, agn_use, eqUse_self, eqBool, List.getElem?_cons_zero, List.getElem?_cons_succ, Nat.zero_add, w1, w2, w3, w4, h, hn, ne_eq, not_true, purK_some, resK_some, boolK_some, condK_true, condK_false, wantV_tt, wantV_tf, wantV_ft, wantV_ff, wantV_t, wantV_f, wantV_skip, Bool.not_true, Bool.not_false, gPur_true, gPur_false, gEff_true, gEff_false, gRes_true, gRes_false, pickA_true, pickA_false, extA_0, extA_1, extA_2, retK_one, retK_none, retK_two, valK_fn, valR_fn, cond_true, cond_false, bin_add, bin_sub, bin_mul, bin_eql, bin_neq, bin_lss, bin_leq, bin_gtr, bin_geq, bin_seql, bin_sneq, un_not_t, un_not_f, un_not, cvI_int, cvT_str, nilChk_ptr, nilChk_xp, addA_ptr, lenT_str, Bool.true_or, Bool.or_true, Bool.false_or, Bool.or_false, Bool.true_and, Bool.and_true, Bool.false_and, Bool.and_false, decide_true, decide_false, Int.reduceEq, Int.reduceLT, Int.reduceLE, Int.reduceNe, Int.reduceAdd, Int.reduceSub, Int.reduceMul, Int.reduceNeg, List.nil_append, List.append_nil, List.cons_append]
      · have hrp : rateP (psums ds ds.length) = ((psums ds ds.length).live * 1000).tdiv (allU (psums ds ds.length)) := if_neg h
        have hne : allU (psums ds ds.length) ≠ 0 := by omega
        have hn : 0 < allU (psums ds ds.length) := by omega
        rw [hrp] at h4
        simp only [N4_1, N4_2, N4_3, h3, h4, h5, h6, h7, ld1_ptr, ldN_ptr, ldC_cells, hg3, hg4, hg5, ld, agn_use, eqUse_self, eqBool, List.getElem?_cons_zero, List.getElem?_cons_succ, Nat.zero_add, w1, w2, w3, w4, h, hn, bin_quo _ _ _ _ _ _ hne, ne_eq, not_true, purK_some, resK_some, boolK_some, condK_true, condK_false, wantV_tt, wantV_tf, wantV_ft, wantV_ff, wantV_t, wantV_f, wantV_skip, Bool.not_true, Bool.not_false, gPur_true, gPur_false, gEff_true, gEff_false, gRes_true, gRes_false, pickA_true, pickA_false, extA_0, extA_1, extA_2, retK_one, retK_none, retK_two, valK_fn, valR_fn, cond_true, cond_false, bin_add, bin_sub, bin_mul, bin_eql, bin_neq, bin_lss, bin_leq, bin_gtr, bin_geq, bin_seql, bin_sneq, un_not_t, un_not_f, un_not, cvI_int, cvT_str, nilChk_ptr, nilChk_xp, addA_ptr, lenT_str, Bool.true_or, Bool.or_true, Bool.false_or, Bool.or_false, Bool.true_and, Bool.and_true, Bool.false_and, Bool.and_false, decide_true, decide_false, Int.reduceEq, Int.reduceLT, Int.reduceLE, Int.reduceNe, Int.reduceAdd, Int.reduceSub, Int.reduceMul, Int.reduceNeg, List.nil_append, List.append_nil, List.cons_append])
    ds.length 1000 0 (.sl Hs.sz 0 0 0 0 false) (Hs.new (.cells 0 3 (0, 0) false [])) (by omega) (by omega) (by omega) (Fr.new _ _ _) (by rw [Heap.get_new, if_neg (by omega), gs]) (Or.inr ⟨rfl, em⟩) (fun l q => by have e : Hs.sz = l := q; omega) (fun j h hj => by omega)
  obtain ⟨H, key⟩ := key
  refine ⟨H, ?_⟩
  rw [← key]
  have bl : bldA [.int .i64 0, .int .i64 0, .int .i64 0, .int .i64 0, .int .i64 0] [(0, 1, .int .i64 ds.length)] = some (.agg (psums ds 0).cells) := rfl
  have st : ∀ H, stA 0 H 5 (.ptr H1.sz 0 0) (.agg (psums ds 0).cells) = stC H1.sz 0 0 (psums ds 0).cells (H.get H1.sz) := fun H => stA_agg_ptr _ _ _ _ _ _ rfl
  have sc0 : ∀ l (d : UseD), stC l 0 0 d.cells useZ = some (.tup [], .put l (useE d)) := fun l d => rfl
  have bs : ∀ H : Heap, bldS H 3 1 [.int .i64 0] 0 [] = some (.sl H.sz 0 0 0 0 false, .new (.cells 0 3 (0, 0) false [])) := fun H => rfl
  have z : ((0 : Nat) : Int) = 0 := rfl
  simp only [L4, N4_4, N4_5, h1, hln, List.length_map, hlen, bl, effK_new, newCells_eq, st, Heap.get_new_same, sc0, effK_put, ← hHs, bs, pbest, z, purK_some, resK_some, boolK_some, condK_true, condK_false, wantV_tt, wantV_tf, wantV_ft, wantV_ff, wantV_t, wantV_f, wantV_skip, Bool.not_true, Bool.not_false, gPur_true, gPur_false, gEff_true, gEff_false, gRes_true, gRes_false, pickA_true, pickA_false, extA_0, extA_1, extA_2, retK_one, retK_none, retK_two, valK_fn, valR_fn, cond_true, cond_false, bin_add, bin_sub, bin_mul, bin_eql, bin_neq, bin_lss, bin_leq, bin_gtr, bin_geq, bin_seql, bin_sneq, un_not_t, un_not_f, un_not, cvI_int, cvT_str, nilChk_ptr, nilChk_xp, addA_ptr, lenT_str, Bool.true_or, Bool.or_true, Bool.false_or, Bool.or_false, Bool.true_and, Bool.and_true, Bool.false_and, Bool.and_false, decide_true, decide_false, Int.reduceEq, Int.reduceLT, Int.reduceLE, Int.reduceNe, Int.reduceAdd, Int.reduceSub, Int.reduceMul, Int.reduceNeg, List.nil_append, List.append_nil, List.cons_append]
end
end Go.Proofs.YtonakeopionkkaaGreat
