/- OccupyTotals: the law's own loop. -/
import Derived.Test.YtonakeopionkkaaGreatOcB
set_option linter.unusedVariables false
set_option linter.unusedSimpArgs false
namespace Go.Proofs.YtonakeopionkkaaGreat
attribute [local congr] Go.Ev.cond_congr1
open Go.Ev Go.RowKit
theorem psum_bound' (f : UseD → Int) (ds : List UseD) : ∀ i : Nat, (∀ j (h : j < ds.length), j < i → mod (f ds[j])) → -((i : Int) * 1099511627776) ≤ psum f ds i ∧ psum f ds i ≤ (i : Int) * 1099511627776
  | 0, _ => by simp [psum]
  | i + 1, hf => by
    have := psum_bound' f ds i fun j h hj => hf j h (by omega)
    simp only [psum]
    split
    · rename_i d hd
      obtain ⟨h, rfl⟩ := List.getElem?_eq_some_iff.1 hd
      have := hf i h (by omega)
      unfold mod at this
      omega
    · omega
theorem wrap_sum' (f : UseD → Int) {ds : List UseD} (hlen : ds.length ≤ 100) (i : Nat) (hi : i < ds.length) (hf : ∀ j (h : j < ds.length), j < i → mod (f ds[j])) (hd : mod (f ds[i])) : wrapK .i64 (psum f ds i + f ds[i]) = psum f ds (i + 1) := by
  have h1 := psum_bound' f ds i hf
  unfold mod at hd
  rw [psum_succ f hi, wrap_i64]
  omega
def mx (a b : Int) : Int := if a < b then b else a
def mn (a b : Int) : Int := if b < a then b else a
theorem mx_le (a b c : Int) : mx a b ≤ c ↔ a ≤ c ∧ b ≤ c := by unfold mx; split <;> omega
theorem le_mn (a b c : Int) : c ≤ mn a b ↔ c ≤ a ∧ c ≤ b := by unfold mn; split <;> omega
theorem fold_max (a b c d : Int) : foldsA maxA [.int .i64 a, .int .i64 b, .int .i64 c, .int .i64 d] = some (.int .i64 (mx (mx (mx a b) c) d)) := (rfl)
theorem fold_min (a b c d : Int) : foldsA minA [.int .i64 a, .int .i64 b, .int .i64 c, .int .i64 d] = some (.int .i64 (mn (mn (mn a b) c) d)) := (rfl)
section
variable {ρ : Addr → Option Value} {call : CallF} {yc : YieldF} {k : Nat} {x : AV} {ds : List UseD}
abbrev useE (d : UseD) : AObj := .cells 0 30 (0, 0) false [.int .i64 d.page, .int .i64 d.live, .int .i64 d.tomb, .int .i64 d.old, .int .i64 d.rest]
def GE (H : Heap) (y : AV) (els : List (List AV)) : Prop := Grow H 3 1 y els ∨ els = [] ∧ Emp H y
theorem GE.frame {H H' : Heap} {y : AV} {els : List (List AV)} (h : GE H y els) (S : Nat → Prop) (f : Fr S H H') (hs : ∀ l, y.lies l → ¬ S l) : GE H' y els := h.elim (fun h => Or.inl (h.frame S f hs)) fun h => Or.inr ⟨h.1, h.2.frame S f hs⟩
theorem GE.push {H : Heap} {y : AV} {els : List (List AV)} (h : GE H y els) (n : Int) (hlen : els.length ≤ 100) :
    ∃ y' f, apA ρ 0 (H.new (.cells 0 3 (0, 0) false [.int .i64 n])) 3 1 8 y (.sl H.sz 0 0 1 1 false) = some (y', f) ∧ GE (f.on (H.new (.cells 0 3 (0, 0) false [.int .i64 n]))) y' (els ++ [[.int .i64 n]]) ∧ (∃ S : Nat → Prop, Fr S H (f.on (H.new (.cells 0 3 (0, 0) false [.int .i64 n]))) ∧ ∀ l, S l → y.lies l) ∧ ∀ l, y'.lies l → y.lies l ∨ H.sz ≤ l := by
  have hx : Els ρ (H.new (.cells 0 3 (0, 0) false [.int .i64 n])) 1 (.sl H.sz 0 0 1 1 false) [[.int .i64 n]] :=
    Els.of_cells (els := [[.int .i64 n]]) (by rw [Heap.sz_new]; omega) (Heap.get_new_same ..) (by simp)
  rcases h with h | ⟨rfl, h⟩
  · obtain ⟨y', f, h1, h2, h3, h4⟩ := (h.frame Nop (Fr.new Nop H _) fun _ _ q => q).append (ρ := ρ) (by_ := 8) hx (by simp [AV.solid]) (by simp; omega) (by simp; omega)
    exact ⟨y', f, h1, Or.inl h2, ⟨y.lies, (Fr.new _ _ _).trans h3, fun l q => q⟩, fun l q => (h4 l q).imp id fun q => by rw [Heap.sz_new] at q; omega⟩
  · obtain ⟨y', f, h1, h2, h3, h4⟩ := (h.frame Nop (Fr.new Nop H _) fun _ _ q => q).append (ρ := ρ) (e := 3) (by_ := 8) hx (by simp) (by simp [AV.solid]) (by simp) (by simp)
    exact ⟨y', f, h1, Or.inl h2, ⟨Nop, (Fr.new _ _ _).trans h3, fun l q => q.elim⟩, fun l q => Or.inr (by have := h4 l q; rw [Heap.sz_new] at this; omega)⟩
/-- The poor ones' part of a round. -/
theorem round_poor (d : UseD) (live : Int) (i p : Nat) {H : Heap} {y : AV} {els : List (List AV)} (hG : GE H y els) (hlen : els.length ≤ 100) (q : Nat) (hq : H.get q = useE d) (x0 x6 x7 : AV) (kn : AV → AV → AV → AV → Heap → Res) :
    ∃ y' H', N4_9 ρ call yc 0 k x0 (.int .i64 live) (.ptr p 0 0) x6 x7 y (.int .i64 i) (.ptr q 0 0) H kn = kn x6 x7 y' (.int .i64 i) H' ∧ GE H' y' (if d.live ≤ live then els ++ [[.int .i64 d.page]] else els) ∧ (∃ S : Nat → Prop, Fr S H H' ∧ ∀ l, S l → y.lies l) ∧ ∀ l, y'.lies l → y.lies l ∨ H.sz ≤ l := by
  by_cases h : d.live ≤ live
  · obtain ⟨y', f, h1, h2, h3, h4⟩ := hG.push (ρ := ρ) d.page hlen
    refine ⟨y', _, ?_, by rw [if_pos h]; exact h2, h3, h4⟩
    simp (disch := first | ((try simp only [szn, szp, List.length_cons, List.length_nil, List.length_set, List.all_cons, List.all_nil, Bool.and_true, scal_int, sol_int, scal_bool, sol_bool, scal_str, sol_str, scal_nilp, sol_nilp, scal_ptr, sol_ptr, scal_nils, sol_nils, scal_sl, sol_sl, scal_sx, sol_sx, scal_xp, sol_xp, scal_xs, sol_xs, scal_nilm, sol_nilm, scal_mp, sol_mp, scal_nilf, sol_nilf, scal_fn, sol_fn, scal_nili, sol_nili, scal_ifc, sol_ifc]) <;> omega) | with_unfolding_all rfl) only [N4_9, hq, h, h1, effK_on, bldS_eq, purK_some, resK_some, boolK_some, condK_true, condK_false, wantV_tt, wantV_tf, wantV_ft, wantV_ff, wantV_t, wantV_f, wantV_skip, Bool.not_true, Bool.not_false, gPur_true, gPur_false, gEff_true, gEff_false, gRes_true, gRes_false, pickA_true, pickA_false, extA_0, extA_1, extA_2, retK_one, retK_none, retK_two, valK_fn, valR_fn, cond_true, cond_false, bin_add, bin_sub, bin_mul, bin_eql, bin_neq, bin_lss, bin_leq, bin_gtr, bin_geq, bin_seql, bin_sneq, un_not_t, un_not_f, un_not, cvI_int, cvT_str, nilChk_ptr, nilChk_xp, addA_ptr, lenT_str, Bool.true_or, Bool.or_true, Bool.false_or, Bool.or_false, Bool.true_and, Bool.and_true, Bool.false_and, Bool.and_false, decide_true, decide_false, Int.reduceEq, Int.reduceLT, Int.reduceLE, Int.reduceNe, Int.reduceAdd, Int.reduceSub, Int.reduceMul, Int.reduceNeg, List.nil_append, List.append_nil, List.cons_append, effK_new, effK_put, effK_nothing, on_new, on_put, on_nothing, ld1_ptr, ldN_ptr, stA_one_ptr, stA_agg_ptr, ldC_cells, ldCN_cells, stC_one, stC_many, lay_all, lay_one, newCells_eq, get_new_at, get_put_at, Heap.get_new_ne, Heap.get_put_ne, szn, szp, box1, boxA_agg, List.getElem?_cons_zero, List.getElem?_cons_succ, List.drop_zero, List.drop_succ_cons, List.take_zero, List.take_succ_cons, List.set_cons_zero, List.set_cons_succ, Nat.zero_add, Nat.add_zero, Nat.reduceAdd, bldA_eq, fillO_nil, fillO_one, fillO_agg, Option.map_some, Option.bind_some, repeatL]
  · refine ⟨y, H, ?_, by rw [if_neg h]; exact hG, ⟨Nop, Fr.refl .., fun l q => q.elim⟩, fun l q => Or.inl q⟩
    simp (disch := first | ((try simp only [szn, szp, List.length_cons, List.length_nil, List.length_set, List.all_cons, List.all_nil, Bool.and_true, scal_int, sol_int, scal_bool, sol_bool, scal_str, sol_str, scal_nilp, sol_nilp, scal_ptr, sol_ptr, scal_nils, sol_nils, scal_sl, sol_sl, scal_sx, sol_sx, scal_xp, sol_xp, scal_xs, sol_xs, scal_nilm, sol_nilm, scal_mp, sol_mp, scal_nilf, sol_nilf, scal_fn, sol_fn, scal_nili, sol_nili, scal_ifc, sol_ifc]) <;> omega) | with_unfolding_all rfl) only [N4_9, hq, h, purK_some, resK_some, boolK_some, condK_true, condK_false, wantV_tt, wantV_tf, wantV_ft, wantV_ff, wantV_t, wantV_f, wantV_skip, Bool.not_true, Bool.not_false, gPur_true, gPur_false, gEff_true, gEff_false, gRes_true, gRes_false, pickA_true, pickA_false, extA_0, extA_1, extA_2, retK_one, retK_none, retK_two, valK_fn, valR_fn, cond_true, cond_false, bin_add, bin_sub, bin_mul, bin_eql, bin_neq, bin_lss, bin_leq, bin_gtr, bin_geq, bin_seql, bin_sneq, un_not_t, un_not_f, un_not, cvI_int, cvT_str, nilChk_ptr, nilChk_xp, addA_ptr, lenT_str, Bool.true_or, Bool.or_true, Bool.false_or, Bool.or_false, Bool.true_and, Bool.and_true, Bool.false_and, Bool.and_false, decide_true, decide_false, Int.reduceEq, Int.reduceLT, Int.reduceLE, Int.reduceNe, Int.reduceAdd, Int.reduceSub, Int.reduceMul, Int.reduceNeg, List.nil_append, List.append_nil, List.cons_append, effK_new, effK_put, effK_nothing, on_new, on_put, on_nothing, ld1_ptr, ldN_ptr, stA_one_ptr, stA_agg_ptr, ldC_cells, ldCN_cells, stC_one, stC_many, lay_all, lay_one, newCells_eq, get_new_at, get_put_at, Heap.get_new_ne, Heap.get_put_ne, szn, szp, box1, boxA_agg, List.getElem?_cons_zero, List.getElem?_cons_succ, List.drop_zero, List.drop_succ_cons, List.take_zero, List.take_succ_cons, List.set_cons_zero, List.set_cons_succ, Nat.zero_add, Nat.add_zero, Nat.reduceAdd, bldA_eq, fillO_nil, fillO_one, fillO_agg, Option.map_some, Option.bind_some, repeatL]
theorem law_loop {Hs : Heap} (hx0 : Els ρ Hs 5 x (ds.map UseD.cells)) (hxs : ∀ l, x.lies l → False) (hlen : ds.length ≤ 100) (live : Int) (p : Nat) (hp : p < Hs.sz) (k0 : AV → AV → AV → AV → AV → AV → Heap → Res)
    (B : AV × AV × AV × AV → Heap → (AV × AV × AV × AV → Heap → Res) → Res) (hB : ∀ s H kn, B s H kn = N4_5b ρ call yc 0 k x (.int .i64 live) (.ptr p 0 0) s.1 s.2.1 s.2.2.1 s.2.2.2 H (fun x6 x7 x8 x9 H => kn (x6, x7, x8, x9) H) k0 retK)
    (W : Res → Prop) (hW1 : ∀ H, W (some (.bool true, H))) (hW2 : ∀ y H, (∀ d ∈ ds, InR d) → Fr (fun l => l = p) Hs H → H.get p = useE (psums ds ds.length) → GE H y (ppoor live ds ds.length) → W (k0 x (.int .i64 live) (.ptr p 0 0) (.int .i64 (pbest ds ds.length).old) (.int .i64 (pbest ds ds.length).page) y H)) :
    ∀ (m n i : Nat) (y : AV) (H : Heap), ds.length - i = m → i ≤ ds.length → m < n → Fr (fun l => l = p) Hs H → H.get p = useE (psums ds i) → GE H y (ppoor live ds i) → (∀ l, y.lies l → Hs.sz ≤ l) → (∀ j (h : j < ds.length), j < i → InR ds[j]) →
      W (loopL B n (.int .i64 (pbest ds i).old, .int .i64 (pbest ds i).page, y, .int .i64 i) H) := by
  intro m
  induction m with
  | zero =>
    intro n i y H hm hi hn hF hg hG hl hr
    obtain ⟨n, rfl⟩ : ∃ q, n = q + 1 := ⟨n - 1, by omega⟩
    obtain rfl : i = ds.length := by omega
    have hx : Els ρ H 5 x (ds.map UseD.cells) := hx0.frame _ hF fun l q => (hxs l q).elim
    rw [loopL_succ, hB]
    have h : ¬ (ds.length : Int) < ds.length := by omega
    simp only [N4_5b, hx.lenS, List.length_map, h, purK_some, resK_some, boolK_some, condK_true, condK_false, wantV_tt, wantV_tf, wantV_ft, wantV_ff, wantV_t, wantV_f, wantV_skip, Bool.not_true, Bool.not_false, gPur_true, gPur_false, gEff_true, gEff_false, gRes_true, gRes_false, pickA_true, pickA_false, extA_0, extA_1, extA_2, retK_one, retK_none, retK_two, valK_fn, valR_fn, cond_true, cond_false, bin_add, bin_sub, bin_mul, bin_eql, bin_neq, bin_lss, bin_leq, bin_gtr, bin_geq, bin_seql, bin_sneq, un_not_t, un_not_f, un_not, cvI_int, cvT_str, nilChk_ptr, nilChk_xp, addA_ptr, lenT_str, Bool.true_or, Bool.or_true, Bool.false_or, Bool.or_false, Bool.true_and, Bool.and_true, Bool.false_and, Bool.and_false, decide_true, decide_false, Int.reduceEq, Int.reduceLT, Int.reduceLE, Int.reduceNe, Int.reduceAdd, Int.reduceSub, Int.reduceMul, Int.reduceNeg, List.nil_append, List.append_nil, List.cons_append]
    exact hW2 y H (fun d hd => by obtain ⟨j, hj, rfl⟩ := List.mem_iff_getElem.1 hd; exact hr j hj hj) hF hg hG
  | succ m ih =>
    intro n i y H1 hm hi' hn hF hg hG hl hr
    obtain ⟨n, rfl⟩ : ∃ q, n = q + 1 := ⟨n - 1, by omega⟩
    have hi : i < ds.length := by omega
    have h : (i : Int) < ds.length := by omega
    have hx : Els ρ H1 5 x (ds.map UseD.cells) := hx0.frame _ hF fun l q => (hxs l q).elim
    obtain ⟨e1, e2⟩ := ld_use hx i hi
    have e3 : wrapK .i64 ((i : Int) + 1) = ((i + 1 : Nat) : Int) := wrap_succN i (by omega)
    obtain ⟨H2, hH2⟩ : ∃ H2, H2 = (H1.new useZ).put H1.sz (useO ds[i]) := ⟨_, rfl⟩
    have hF2 : Fr Nop H1 H2 := by
      rw [hH2]; exact (Fr.new Nop H1 _).trans' (Fr.put _ H1.sz _ (S := fun l => l = H1.sz) fun _ => rfl) fun l h q => absurd q (Nat.ne_of_lt h)
    have hp1 : p < H1.sz := Nat.lt_of_lt_of_le hp hF.sz
    have hn2 : H2.get H1.sz = useE ds[i] := by rw [hH2, Heap.get_put, if_pos rfl]; rfl
    have hg2 : H2.get p = useE (psums ds i) := by rw [hF2.get _ hp1 fun q => q, hg]
    have hz2 : H1.sz < H2.sz := by rw [hH2, Heap.sz_put, Heap.sz_new]; omega
    have st : ∀ H, stA 0 H 5 (.ptr H1.sz 0 0) (.agg ds[i].cells) = stC H1.sz 0 0 ds[i].cells (H.get H1.sz) := fun H => stA_agg_ptr _ _ _ _ _ _ rfl
    have sc0 : ∀ l (d : UseD), stC l 0 0 d.cells useZ = some (.tup [], .put l (useO d)) := fun l d => rfl
    rw [loopL_succ, hB]
    by_cases hM : 1099511627776 < mx (mx (mx ds[i].live ds[i].tomb) ds[i].old) ds[i].rest
    · simp (disch := first | ((try simp only [szn, szp, List.length_cons, List.length_nil, List.length_set, List.all_cons, List.all_nil, Bool.and_true, scal_int, sol_int, scal_bool, sol_bool, scal_str, sol_str, scal_nilp, sol_nilp, scal_ptr, sol_ptr, scal_nils, sol_nils, scal_sl, sol_sl, scal_sx, sol_sx, scal_xp, sol_xp, scal_xs, sol_xs, scal_nilm, sol_nilm, scal_mp, sol_mp, scal_nilf, sol_nilf, scal_fn, sol_fn, scal_nili, sol_nili, scal_ifc, sol_ifc]) <;> omega) | with_unfolding_all rfl) only [N4_5b, N4_10, hx.lenS, List.length_map, h, e1, e2, effK_new, newCells_eq, st, Heap.get_new_same, sc0, effK_put, ← hH2, hn2, fold_max, hM, purK_some, resK_some, boolK_some, condK_true, condK_false, wantV_tt, wantV_tf, wantV_ft, wantV_ff, wantV_t, wantV_f, wantV_skip, Bool.not_true, Bool.not_false, gPur_true, gPur_false, gEff_true, gEff_false, gRes_true, gRes_false, pickA_true, pickA_false, extA_0, extA_1, extA_2, retK_one, retK_none, retK_two, valK_fn, valR_fn, cond_true, cond_false, bin_add, bin_sub, bin_mul, bin_eql, bin_neq, bin_lss, bin_leq, bin_gtr, bin_geq, bin_seql, bin_sneq, un_not_t, un_not_f, un_not, cvI_int, cvT_str, nilChk_ptr, nilChk_xp, addA_ptr, lenT_str, Bool.true_or, Bool.or_true, Bool.false_or, Bool.or_false, Bool.true_and, Bool.and_true, Bool.false_and, Bool.and_false, decide_true, decide_false, Int.reduceEq, Int.reduceLT, Int.reduceLE, Int.reduceNe, Int.reduceAdd, Int.reduceSub, Int.reduceMul, Int.reduceNeg, List.nil_append, List.append_nil, List.cons_append, effK_new, effK_put, effK_nothing, on_new, on_put, on_nothing, ld1_ptr, ldN_ptr, stA_one_ptr, stA_agg_ptr, ldC_cells, ldCN_cells, stC_one, stC_many, lay_all, lay_one, newCells_eq, get_new_at, get_put_at, Heap.get_new_ne, Heap.get_put_ne, szn, szp, box1, boxA_agg, List.getElem?_cons_zero, List.getElem?_cons_succ, List.drop_zero, List.drop_succ_cons, List.take_zero, List.take_succ_cons, List.set_cons_zero, List.set_cons_succ, Nat.zero_add, Nat.add_zero, Nat.reduceAdd]
      exact hW1 _
    by_cases hm4 : mn (mn (mn ds[i].live ds[i].tomb) ds[i].old) ds[i].rest < -1099511627776
    · simp (disch := first | ((try simp only [szn, szp, List.length_cons, List.length_nil, List.length_set, List.all_cons, List.all_nil, Bool.and_true, scal_int, sol_int, scal_bool, sol_bool, scal_str, sol_str, scal_nilp, sol_nilp, scal_ptr, sol_ptr, scal_nils, sol_nils, scal_sl, sol_sl, scal_sx, sol_sx, scal_xp, sol_xp, scal_xs, sol_xs, scal_nilm, sol_nilm, scal_mp, sol_mp, scal_nilf, sol_nilf, scal_fn, sol_fn, scal_nili, sol_nili, scal_ifc, sol_ifc]) <;> omega) | with_unfolding_all rfl) only [N4_5b, N4_10, hx.lenS, List.length_map, h, e1, e2, effK_new, newCells_eq, st, Heap.get_new_same, sc0, effK_put, ← hH2, hn2, fold_max, fold_min, hM, hm4, purK_some, resK_some, boolK_some, condK_true, condK_false, wantV_tt, wantV_tf, wantV_ft, wantV_ff, wantV_t, wantV_f, wantV_skip, Bool.not_true, Bool.not_false, gPur_true, gPur_false, gEff_true, gEff_false, gRes_true, gRes_false, pickA_true, pickA_false, extA_0, extA_1, extA_2, retK_one, retK_none, retK_two, valK_fn, valR_fn, cond_true, cond_false, bin_add, bin_sub, bin_mul, bin_eql, bin_neq, bin_lss, bin_leq, bin_gtr, bin_geq, bin_seql, bin_sneq, un_not_t, un_not_f, un_not, cvI_int, cvT_str, nilChk_ptr, nilChk_xp, addA_ptr, lenT_str, Bool.true_or, Bool.or_true, Bool.false_or, Bool.or_false, Bool.true_and, Bool.and_true, Bool.false_and, Bool.and_false, decide_true, decide_false, Int.reduceEq, Int.reduceLT, Int.reduceLE, Int.reduceNe, Int.reduceAdd, Int.reduceSub, Int.reduceMul, Int.reduceNeg, List.nil_append, List.append_nil, List.cons_append, effK_new, effK_put, effK_nothing, on_new, on_put, on_nothing, ld1_ptr, ldN_ptr, stA_one_ptr, stA_agg_ptr, ldC_cells, ldCN_cells, stC_one, stC_many, lay_all, lay_one, newCells_eq, get_new_at, get_put_at, Heap.get_new_ne, Heap.get_put_ne, szn, szp, box1, boxA_agg, List.getElem?_cons_zero, List.getElem?_cons_succ, List.drop_zero, List.drop_succ_cons, List.take_zero, List.take_succ_cons, List.set_cons_zero, List.set_cons_succ, Nat.zero_add, Nat.add_zero, Nat.reduceAdd]
      exact hW1 _
    have hin : InR ds[i] := by
      have a := Int.not_lt.1 hM
      have b := Int.not_lt.1 hm4
      rw [mx_le, mx_le, mx_le] at a
      rw [le_mn, le_mn, le_mn] at b
      unfold InR mod
      omega
    have hr' : ∀ j (h : j < ds.length), j < i + 1 → InR ds[j] := fun j hj hj' => by
      by_cases e : j = i
      · subst e; exact hin
      · exact hr j hj (by omega)
    have w1 := wrap_sum' UseD.live hlen i hi (fun j h hj => (hr j h hj).1) hin.1
    have w2 := wrap_sum' UseD.tomb hlen i hi (fun j h hj => (hr j h hj).2.1) hin.2.1
    have w3 := wrap_sum' UseD.old hlen i hi (fun j h hj => (hr j h hj).2.2.1) hin.2.2.1
    have w4 := wrap_sum' UseD.rest hlen i hi (fun j h hj => (hr j h hj).2.2.2) hin.2.2.2
    have hne : H1.sz ≠ p := by omega
    obtain ⟨H3, hH3⟩ : ∃ H3, H3 = (((H2.put p (cz ds.length (psum UseD.live ds (i + 1)) (psum UseD.tomb ds i) (psum UseD.old ds i) (psum UseD.rest ds i))).put p (cz ds.length (psum UseD.live ds (i + 1)) (psum UseD.tomb ds (i + 1)) (psum UseD.old ds i) (psum UseD.rest ds i))).put p (cz ds.length (psum UseD.live ds (i + 1)) (psum UseD.tomb ds (i + 1)) (psum UseD.old ds (i + 1)) (psum UseD.rest ds i))).put p (cz ds.length (psum UseD.live ds (i + 1)) (psum UseD.tomb ds (i + 1)) (psum UseD.old ds (i + 1)) (psum UseD.rest ds (i + 1))) := ⟨_, rfl⟩
    have hF3 : Fr (fun l => l = p) H2 H3 := by
      rw [hH3]; exact (((Fr.put (S := fun l => l = p) _ _ _ fun _ => rfl).trans (Fr.put _ _ _ fun _ => rfl)).trans (Fr.put _ _ _ fun _ => rfl)).trans (Fr.put _ _ _ fun _ => rfl)
    have hg3 : H3.get p = useE (psums ds (i + 1)) := by rw [hH3, Heap.get_put, if_pos rfl]; rfl
    have hn3 : H3.get H1.sz = useE ds[i] := by rw [hF3.get _ hz2 hne, hn2]
    have hlp : ∀ l, y.lies l → p < l := fun l q => Nat.lt_of_lt_of_le hp (hl l q)
    have hG3 : GE H3 y (ppoor live ds i) := (hG.frame Nop hF2 fun _ _ q => q).frame _ hF3 fun l q e => by have := hlp l q; omega
    have hF03 : Fr (fun l => l = p) Hs H3 := (hF.trans (hF2.mono fun l _ q => q.elim)).trans hF3
    simp only [psums] at hg2
    simp (disch := first | exact hne | (first | ((try simp only [szn, szp, List.length_cons, List.length_nil, List.length_set, List.all_cons, List.all_nil, Bool.and_true, scal_int, sol_int, scal_bool, sol_bool, scal_str, sol_str, scal_nilp, sol_nilp, scal_ptr, sol_ptr, scal_nils, sol_nils, scal_sl, sol_sl, scal_sx, sol_sx, scal_xp, sol_xp, scal_xs, sol_xs, scal_nilm, sol_nilm, scal_mp, sol_mp, scal_nilf, sol_nilf, scal_fn, sol_fn, scal_nili, sol_nili, scal_ifc, sol_ifc]) <;> omega) | with_unfolding_all rfl)) only [N4_5b, N4_10, N4_7, hx.lenS, List.length_map, h, e1, e2, effK_new, newCells_eq, st, Heap.get_new_same, sc0, effK_put, ← hH2, hn2, hg2, fold_max, fold_min, hM, hm4, w1, w2, w3, w4, Heap.get_put_same, purK_some, resK_some, boolK_some, condK_true, condK_false, wantV_tt, wantV_tf, wantV_ft, wantV_ff, wantV_t, wantV_f, wantV_skip, Bool.not_true, Bool.not_false, gPur_true, gPur_false, gEff_true, gEff_false, gRes_true, gRes_false, pickA_true, pickA_false, extA_0, extA_1, extA_2, retK_one, retK_none, retK_two, valK_fn, valR_fn, cond_true, cond_false, bin_add, bin_sub, bin_mul, bin_eql, bin_neq, bin_lss, bin_leq, bin_gtr, bin_geq, bin_seql, bin_sneq, un_not_t, un_not_f, un_not, cvI_int, cvT_str, nilChk_ptr, nilChk_xp, addA_ptr, lenT_str, Bool.true_or, Bool.or_true, Bool.false_or, Bool.or_false, Bool.true_and, Bool.and_true, Bool.false_and, Bool.and_false, decide_true, decide_false, Int.reduceEq, Int.reduceLT, Int.reduceLE, Int.reduceNe, Int.reduceAdd, Int.reduceSub, Int.reduceMul, Int.reduceNeg, List.nil_append, List.append_nil, List.cons_append, effK_new, effK_put, effK_nothing, on_new, on_put, on_nothing, ld1_ptr, ldN_ptr, stA_one_ptr, stA_agg_ptr, ldC_cells, ldCN_cells, stC_one, stC_many, lay_all, lay_one, newCells_eq, get_new_at, get_put_at, Heap.get_new_ne, Heap.get_put_ne, szn, szp, box1, boxA_agg, List.getElem?_cons_zero, List.getElem?_cons_succ, List.drop_zero, List.drop_succ_cons, List.take_zero, List.take_succ_cons, List.set_cons_zero, List.set_cons_succ, Nat.zero_add, Nat.add_zero, Nat.reduceAdd]
    rw [← hH3]
    have tail : ∀ (o pg : Int), pbest ds (i + 1) = ⟨pg, (pbest ds (i + 1)).live, (pbest ds (i + 1)).tomb, o, (pbest ds (i + 1)).rest⟩ → W (N4_9 ρ call yc 0 k x (.int .i64 live) (.ptr p 0 0) (.int .i64 o) (.int .i64 pg) y (.int .i64 i) (.ptr H1.sz 0 0) H3 (fun x6_2 x7_2 x8_2 x9_2 H => N4_6 ρ call yc 0 k x (.int .i64 live) (.ptr p 0 0) x6_2 x7_2 x8_2 x9_2 H (fun x6 x7 x8 x9 H => loopL B n (x6, x7, x8, x9) H))) := by
      intro o pg hpb
      obtain ⟨y', H4, h1, h2, ⟨S, h3, hS⟩, h4⟩ := round_poor (ρ := ρ) (call := call) (yc := yc) (k := k) ds[i] live i p hG3 (Nat.le_trans (ppoor_len live ds i) (by omega)) H1.sz hn3 x (.int .i64 o) (.int .i64 pg) (fun x6_2 x7_2 x8_2 x9_2 H => N4_6 ρ call yc 0 k x (.int .i64 live) (.ptr p 0 0) x6_2 x7_2 x8_2 x9_2 H (fun x6 x7 x8 x9 H => loopL B n (x6, x7, x8, x9) H))
      rw [h1]
      simp only [N4_6, e3, purK_some, resK_some, boolK_some, condK_true, condK_false, wantV_tt, wantV_tf, wantV_ft, wantV_ff, wantV_t, wantV_f, wantV_skip, Bool.not_true, Bool.not_false, gPur_true, gPur_false, gEff_true, gEff_false, gRes_true, gRes_false, pickA_true, pickA_false, extA_0, extA_1, extA_2, retK_one, retK_none, retK_two, valK_fn, valR_fn, cond_true, cond_false, bin_add, bin_sub, bin_mul, bin_eql, bin_neq, bin_lss, bin_leq, bin_gtr, bin_geq, bin_seql, bin_sneq, un_not_t, un_not_f, un_not, cvI_int, cvT_str, nilChk_ptr, nilChk_xp, addA_ptr, lenT_str, Bool.true_or, Bool.or_true, Bool.false_or, Bool.or_false, Bool.true_and, Bool.and_true, Bool.false_and, Bool.and_false, decide_true, decide_false, Int.reduceEq, Int.reduceLT, Int.reduceLE, Int.reduceNe, Int.reduceAdd, Int.reduceSub, Int.reduceMul, Int.reduceNeg, List.nil_append, List.append_nil, List.cons_append]
      rw [← ppoor_succ live hi] at h2
      have hp3 : p < H3.sz := Nat.lt_of_lt_of_le hp hF03.sz
      have := ih n (i + 1) y' H4 (by omega) (by omega) (by omega) (hF03.trans' h3 fun l hl' q => absurd (hl l (hS l q)) (by omega)) (by rw [h3.get p hp3 fun q => absurd (hlp p (hS p q)) (by omega), hg3]) h2 (fun l q => (h4 l q).elim (hl l) fun q => Nat.le_trans hF03.sz q) hr'
      rw [hpb] at this
      exact this
    by_cases hq : (pbest ds i).old < ds[i].old
    · have hpb := pbest_succ hi
      rw [if_pos hq] at hpb
      have t := tail ds[i].old ds[i].page (by rw [hpb])
      have hq := eq_true hq
      simp (disch := first | ((try simp only [szn, szp, List.length_cons, List.length_nil, List.length_set, List.all_cons, List.all_nil, Bool.and_true, scal_int, sol_int, scal_bool, sol_bool, scal_str, sol_str, scal_nilp, sol_nilp, scal_ptr, sol_ptr, scal_nils, sol_nils, scal_sl, sol_sl, scal_sx, sol_sx, scal_xp, sol_xp, scal_xs, sol_xs, scal_nilm, sol_nilm, scal_mp, sol_mp, scal_nilf, sol_nilf, scal_fn, sol_fn, scal_nili, sol_nili, scal_ifc, sol_ifc]) <;> omega) | with_unfolding_all rfl) only [N4_8, hn3, hq, purK_some, resK_some, boolK_some, condK_true, condK_false, wantV_tt, wantV_tf, wantV_ft, wantV_ff, wantV_t, wantV_f, wantV_skip, Bool.not_true, Bool.not_false, gPur_true, gPur_false, gEff_true, gEff_false, gRes_true, gRes_false, pickA_true, pickA_false, extA_0, extA_1, extA_2, retK_one, retK_none, retK_two, valK_fn, valR_fn, cond_true, cond_false, bin_add, bin_sub, bin_mul, bin_eql, bin_neq, bin_lss, bin_leq, bin_gtr, bin_geq, bin_seql, bin_sneq, un_not_t, un_not_f, un_not, cvI_int, cvT_str, nilChk_ptr, nilChk_xp, addA_ptr, lenT_str, Bool.true_or, Bool.or_true, Bool.false_or, Bool.or_false, Bool.true_and, Bool.and_true, Bool.false_and, Bool.and_false, decide_true, decide_false, Int.reduceEq, Int.reduceLT, Int.reduceLE, Int.reduceNe, Int.reduceAdd, Int.reduceSub, Int.reduceMul, Int.reduceNeg, List.nil_append, List.append_nil, List.cons_append, effK_new, effK_put, effK_nothing, on_new, on_put, on_nothing, ld1_ptr, ldN_ptr, stA_one_ptr, stA_agg_ptr, ldC_cells, ldCN_cells, stC_one, stC_many, lay_all, lay_one, newCells_eq, get_new_at, get_put_at, Heap.get_new_ne, Heap.get_put_ne, szn, szp, box1, boxA_agg, List.getElem?_cons_zero, List.getElem?_cons_succ, List.drop_zero, List.drop_succ_cons, List.take_zero, List.take_succ_cons, List.set_cons_zero, List.set_cons_succ, Nat.zero_add, Nat.add_zero, Nat.reduceAdd]
      exact t
    · have hpb := pbest_succ hi
      rw [if_neg hq] at hpb
      have t := tail (pbest ds i).old (pbest ds i).page (by rw [hpb])
      simp (disch := first | ((try simp only [szn, szp, List.length_cons, List.length_nil, List.length_set, List.all_cons, List.all_nil, Bool.and_true, scal_int, sol_int, scal_bool, sol_bool, scal_str, sol_str, scal_nilp, sol_nilp, scal_ptr, sol_ptr, scal_nils, sol_nils, scal_sl, sol_sl, scal_sx, sol_sx, scal_xp, sol_xp, scal_xs, sol_xs, scal_nilm, sol_nilm, scal_mp, sol_mp, scal_nilf, sol_nilf, scal_fn, sol_fn, scal_nili, sol_nili, scal_ifc, sol_ifc]) <;> omega) | with_unfolding_all rfl) only [N4_8, hn3, hq, purK_some, resK_some, boolK_some, condK_true, condK_false, wantV_tt, wantV_tf, wantV_ft, wantV_ff, wantV_t, wantV_f, wantV_skip, Bool.not_true, Bool.not_false, gPur_true, gPur_false, gEff_true, gEff_false, gRes_true, gRes_false, pickA_true, pickA_false, extA_0, extA_1, extA_2, retK_one, retK_none, retK_two, valK_fn, valR_fn, cond_true, cond_false, bin_add, bin_sub, bin_mul, bin_eql, bin_neq, bin_lss, bin_leq, bin_gtr, bin_geq, bin_seql, bin_sneq, un_not_t, un_not_f, un_not, cvI_int, cvT_str, nilChk_ptr, nilChk_xp, addA_ptr, lenT_str, Bool.true_or, Bool.or_true, Bool.false_or, Bool.or_false, Bool.true_and, Bool.and_true, Bool.false_and, Bool.and_false, decide_true, decide_false, Int.reduceEq, Int.reduceLT, Int.reduceLE, Int.reduceNe, Int.reduceAdd, Int.reduceSub, Int.reduceMul, Int.reduceNeg, List.nil_append, List.append_nil, List.cons_append, effK_new, effK_put, effK_nothing, on_new, on_put, on_nothing, ld1_ptr, ldN_ptr, stA_one_ptr, stA_agg_ptr, ldC_cells, ldCN_cells, stC_one, stC_many, lay_all, lay_one, newCells_eq, get_new_at, get_put_at, Heap.get_new_ne, Heap.get_put_ne, szn, szp, box1, boxA_agg, List.getElem?_cons_zero, List.getElem?_cons_succ, List.drop_zero, List.drop_succ_cons, List.take_zero, List.take_succ_cons, List.set_cons_zero, List.set_cons_succ, Nat.zero_add, Nat.add_zero, Nat.reduceAdd]
      exact t
theorem eqUse (H : Heap) (a b c d e a' b' c' d' e' : Int) : binA Tryz.prog H .eql 30 (.agg [.int .i64 a, .int .i64 b, .int .i64 c, .int .i64 d, .int .i64 e]) (.agg [.int .i64 a', .int .i64 b', .int .i64 c', .int .i64 d', .int .i64 e']) = (bif a == a' then bif b == b' then bif c == c' then bif d == d' then bif e == e' then some true else some false else some false else some false else some false else some false).map .bool := by kernel_rfl
theorem eqUse_self (H : Heap) (d : UseD) : binA Tryz.prog H .eql 30 (.agg d.cells) (.agg d.cells) = some (.bool true) := by
  have := eqUse H d.page d.live d.tomb d.old d.rest d.page d.live d.tomb d.old d.rest
  simp only [beq_self_eq_true, cond_true, Option.map_some] at this
  exact this
end
end Go.Proofs.YtonakeopionkkaaGreat
