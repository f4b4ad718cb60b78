/- Uses: their sums, the worst, the poor ones. -/
import Derived.Test.YtonakeopionkkaaGreatLf
import Derived.Test.YtonakeopionkkaaGreatEvArg
import Derived.Test.YtonakeopionkkaaGreatApiD
import Derived.KernelRfl
set_option linter.unusedVariables false
set_option linter.unusedSimpArgs false
namespace Go.Proofs.YtonakeopionkkaaGreat
attribute [local congr] Go.Ev.cond_congr1
open Go.Ev Go.RowKit
structure UseD where
  page : Int
  live : Int
  tomb : Int
  old : Int
  rest : Int
def UseD.cells (d : UseD) : List AV := [.int .i64 d.page, .int .i64 d.live, .int .i64 d.tomb, .int .i64 d.old, .int .i64 d.rest]
abbrev useO (d : UseD) : AObj := .cells 0 30 (0, 0) false d.cells
abbrev useZ : AObj := .cells 0 30 (0, 0) false [.int .i64 0, .int .i64 0, .int .i64 0, .int .i64 0, .int .i64 0]
def psum (f : UseD → Int) (ds : List UseD) : Nat → Int
  | 0 => 0
  | i + 1 => psum f ds i + (match ds[i]? with | some d => f d | none => 0)
def pbest (ds : List UseD) : Nat → UseD
  | 0 => ⟨0, 0, 0, 0, 0⟩
  | i + 1 => match ds[i]? with
    | some d => if (pbest ds i).old < d.old then d else pbest ds i
    | none => pbest ds i
def ppoor (live : Int) (ds : List UseD) : Nat → List (List AV)
  | 0 => []
  | i + 1 => match ds[i]? with
    | some d => if d.live ≤ live then ppoor live ds i ++ [[.int .i64 d.page]] else ppoor live ds i
    | none => ppoor live ds i
def psums (ds : List UseD) (i : Nat) : UseD := ⟨ds.length, psum UseD.live ds i, psum UseD.tomb ds i, psum UseD.old ds i, psum UseD.rest ds i⟩
section
variable {ds : List UseD} {i : Nat}
theorem psum_succ (f : UseD → Int) (h : i < ds.length) : psum f ds (i + 1) = psum f ds i + f ds[i] := by simp [psum, h]
theorem pbest_succ (h : i < ds.length) : pbest ds (i + 1) = if (pbest ds i).old < ds[i].old then ds[i] else pbest ds i := by simp [pbest, h]
theorem ppoor_succ (live : Int) (h : i < ds.length) : ppoor live ds (i + 1) = if ds[i].live ≤ live then ppoor live ds i ++ [[.int .i64 ds[i].page]] else ppoor live ds i := by simp [ppoor, h]
theorem ppoor_len (live : Int) (ds : List UseD) : ∀ i, (ppoor live ds i).length ≤ i
  | 0 => by simp [ppoor]
  | i + 1 => by
    have := ppoor_len live ds i
    simp only [ppoor]
    split
    · split
      · simp; omega
      · omega
    · omega
theorem ppoor_len1 (live : Int) (ds : List UseD) : ∀ i, ∀ r ∈ ppoor live ds i, r.length = 1
  | 0 => by simp [ppoor]
  | i + 1 => by
    have := ppoor_len1 live ds i
    simp only [ppoor]
    split
    · split
      · intro r hr; rcases List.mem_append.1 hr with h | h
        · exact this r h
        · simp at h; rw [h]; rfl
      · exact this
    · exact this
/-- Numbers within 2^40. -/
def mod (x : Int) : Prop := -1099511627776 ≤ x ∧ x ≤ 1099511627776
theorem psum_bound (f : UseD → Int) (ds : List UseD) (hf : ∀ d ∈ ds, mod (f d)) : ∀ i : Nat, -((i : Int) * 1099511627776) ≤ psum f ds i ∧ psum f ds i ≤ (i : Int) * 1099511627776
  | 0 => by simp [psum]
  | i + 1 => by
    have := psum_bound f ds hf i
    simp only [psum]
    split
    · rename_i d hd
      have := hf d (List.mem_of_getElem? hd)
      unfold mod at this
      omega
    · omega
end
section
variable {ρ : Addr → Option Value} {k : Nat} {H : Heap} {x : AV} {ds : List UseD}
theorem ld_use (hx : Els ρ H 5 x (ds.map UseD.cells)) (i : Nat) (hi : i < ds.length) : ixS 5 x (.int .i64 i) = some (elp 5 x i 0) ∧ ldN ρ H 5 (elp 5 x i 0) = some (.agg ds[i].cells) := by
  have e1 := hx.ix .i64 i (by omega) (by simp; omega)
  have e2 := hx.ldN i (by simpa using hi)
  rw [Int.toNat_natCast] at e1
  rw [List.getElem_map] at e2
  exact ⟨e1, e2⟩
/-- The worst. -/
theorem worst_spec (hx : Els ρ H 5 x (ds.map UseD.cells)) (hlen : ds.length ≤ 100) (hk : 200 ≤ k) :
    ∃ H', evCall (cx ρ) (k + 1) 0 7 [x] H = some (.tup [.int .i64 (pbest ds ds.length).page, .bool (decide (0 < (pbest ds ds.length).old))], H') ∧ Fr Nop H H' := by
  rw [E7]
  simp (disch := first | ((try simp only [szn, szp, List.length_cons, List.length_nil, List.length_set, List.all_cons, List.all_nil, Bool.and_true, scal_int, sol_int, scal_bool, sol_bool, scal_str, sol_str, scal_nilp, sol_nilp, scal_ptr, sol_ptr, scal_nils, sol_nils, scal_sl, sol_sl, scal_sx, sol_sx, scal_xp, sol_xp, scal_xs, sol_xs, scal_nilm, sol_nilm, scal_mp, sol_mp, scal_nilf, sol_nilf, scal_fn, sol_fn, scal_nili, sol_nili, scal_ifc, sol_ifc]) <;> omega) | with_unfolding_all rfl) only [L7, N7_2, N7_3, hx.lenS, List.length_map, purK_some, resK_some, boolK_some, condK_true, condK_false, wantV_tt, wantV_tf, wantV_ft, wantV_ff, wantV_t, wantV_f, wantV_skip, Bool.not_true, Bool.not_false, gPur_true, gPur_false, gEff_true, gEff_false, gRes_true, gRes_false, pickA_true, pickA_false, extA_0, extA_1, extA_2, retK_one, retK_none, retK_two, valK_fn, valR_fn, cond_true, cond_false, bin_add, bin_sub, bin_mul, bin_eql, bin_neq, bin_lss, bin_leq, bin_gtr, bin_geq, bin_seql, bin_sneq, un_not_t, un_not_f, un_not, cvI_int, cvT_str, nilChk_ptr, nilChk_xp, addA_ptr, lenT_str, Bool.true_or, Bool.or_true, Bool.false_or, Bool.or_false, Bool.true_and, Bool.and_true, Bool.false_and, Bool.and_false, decide_true, decide_false, Int.reduceEq, Int.reduceLT, Int.reduceLE, Int.reduceNe, Int.reduceAdd, Int.reduceSub, Int.reduceMul, Int.reduceNeg, List.nil_append, List.append_nil, List.cons_append, effK_new, effK_put, effK_nothing, on_new, on_put, on_nothing, ld1_ptr, ldN_ptr, stA_one_ptr, stA_agg_ptr, ldC_cells, ldCN_cells, stC_one, stC_many, lay_all, lay_one, newCells_eq, get_new_at, get_put_at, Heap.get_new_ne, Heap.get_put_ne, szn, szp, box1, boxA_agg, List.getElem?_cons_zero, List.getElem?_cons_succ, List.drop_zero, List.drop_succ_cons, List.take_zero, List.take_succ_cons, List.set_cons_zero, List.set_cons_succ, Nat.zero_add, Nat.add_zero, Nat.reduceAdd]
  refine loopL_wp (W := fun r => ∃ H', r = some (.tup [.int .i64 (pbest ds ds.length).page, .bool (decide (0 < (pbest ds ds.length).old))], H') ∧ Fr Nop H H')
    (fun m y H1 => ∃ i : Nat, y = .int .i64 i ∧ m = ds.length - i ∧ i ≤ ds.length ∧ Fr Nop H H1 ∧ H.sz < H1.sz ∧ H1.get H.sz = useO (pbest ds i)) ?_ ds.length _ _ _ ⟨0, rfl, by omega, by omega, Fr.new .., by rw [Heap.sz_new]; omega, by rw [Heap.get_new_same]; rfl⟩ (by omega)
  rintro m y H1 f ⟨i, rfl, hm, hle, hF, hz, hg⟩ hkn
  by_cases h : (i : Int) < ds.length
  · have hi : i < ds.length := by omega
    obtain ⟨e1, e2⟩ := ld_use (hx.frame0 hF) i hi
    have e3 : wrapK .i64 ((i : Int) + 1) = ((i + 1 : Nat) : Int) := wrap_succN i (by omega)
    obtain ⟨H2, hH2⟩ : ∃ H2, H2 = (H1.new useZ).put H1.sz (useO ds[i]) := ⟨_, rfl⟩
    have hF2 : Fr Nop H1 H2 := by
      rw [hH2]; exact (Fr.new Nop H1 _).trans' (Fr.put _ H1.sz _ (S := fun l => l = H1.sz) fun _ => rfl) fun l h q => absurd q (Nat.ne_of_lt h)
    have hg2 : H2.get H.sz = useO (pbest ds i) := by rw [hF2.get _ hz fun q => q, hg]
    have hn2 : H2.get H1.sz = useO ds[i] := by rw [hH2, Heap.get_put, if_pos rfl]
    have hz2 : H.sz < H2.sz := Nat.lt_of_lt_of_le hz hF2.sz
    have hb : ∀ d : UseD, ldCN 5 0 0 (useO d) = some (.agg d.cells) := fun d => rfl
    by_cases hq : (pbest ds i).old < ds[i].old
    · have hp : pbest ds (i + 1) = ds[i] := by rw [pbest_succ hi, if_pos hq]
      have hF3 : Fr Nop H (H2.put H.sz (useO ds[i])) := (hF.trans hF2).trans' (Fr.put _ H.sz _ (S := fun l => l = H.sz) fun _ => rfl) fun l h q => absurd q (Nat.ne_of_lt h)
      have := hkn (ds.length - (i + 1)) (.int .i64 (i + 1 : Nat)) (H2.put H.sz (useO ds[i])) (by omega) ⟨i + 1, rfl, rfl, by omega, hF3, hz2, by rw [Heap.get_put, if_pos rfl, hp]⟩
      obtain ⟨H', h1, h2⟩ := this
      refine ⟨H', ?_, h2⟩
      rw [← h1]
      have hq := eq_true hq
      have st : ∀ H, stA 0 H 5 (.ptr H1.sz 0 0) (.agg ds[i].cells) = stC H1.sz 0 0 ds[i].cells (H.get H1.sz) := fun H => stA_agg_ptr _ _ _ _ _ _ rfl
      have st' : ∀ H' , stA 0 H' 5 (.ptr H.sz 0 0) (.agg ds[i].cells) = stC H.sz 0 0 ds[i].cells (H'.get H.sz) := fun H => stA_agg_ptr _ _ _ _ _ _ rfl
      have sc : ∀ l (d d' : UseD), stC l 0 0 d.cells (useO d') = some (.tup [], .put l (useO d)) := fun l d d' => rfl
      have sc0 : ∀ l (d : UseD), stC l 0 0 d.cells useZ = some (.tup [], .put l (useO d)) := fun l d => rfl
      have cl : ∀ d : UseD, d.cells[3]? = some (.int .i64 d.old) := fun d => rfl
      simp only [N7_3b, N7_4, h, e1, e2, e3, effK_new, effK_put, newCells_eq, st, st', Heap.get_new_same, sc0, ← hH2, ld1_ptr, ldN_ptr, hn2, hg2, sc, hb, ldC_cells, cl, Nat.zero_add, hq, purK_some, resK_some, boolK_some, condK_true, condK_false, wantV_tt, wantV_tf, wantV_ft, wantV_ff, wantV_t, wantV_f, wantV_skip, Bool.not_true, Bool.not_false, gPur_true, gPur_false, gEff_true, gEff_false, gRes_true, gRes_false, pickA_true, pickA_false, extA_0, extA_1, extA_2, retK_one, retK_none, retK_two, valK_fn, valR_fn, cond_true, cond_false, bin_add, bin_sub, bin_mul, bin_eql, bin_neq, bin_lss, bin_leq, bin_gtr, bin_geq, bin_seql, bin_sneq, un_not_t, un_not_f, un_not, cvI_int, cvT_str, nilChk_ptr, nilChk_xp, addA_ptr, lenT_str, Bool.true_or, Bool.or_true, Bool.false_or, Bool.or_false, Bool.true_and, Bool.and_true, Bool.false_and, Bool.and_false, decide_true, decide_false, Int.reduceEq, Int.reduceLT, Int.reduceLE, Int.reduceNe, Int.reduceAdd, Int.reduceSub, Int.reduceMul, Int.reduceNeg, List.nil_append, List.append_nil, List.cons_append]
    · have hp : pbest ds (i + 1) = pbest ds i := by rw [pbest_succ hi, if_neg hq]
      have := hkn (ds.length - (i + 1)) (.int .i64 (i + 1 : Nat)) H2 (by omega) ⟨i + 1, rfl, rfl, by omega, hF.trans hF2, hz2, by rw [hg2, hp]⟩
      obtain ⟨H', h1, h2⟩ := this
      refine ⟨H', ?_, h2⟩
      rw [← h1]
      have st : ∀ H, stA 0 H 5 (.ptr H1.sz 0 0) (.agg ds[i].cells) = stC H1.sz 0 0 ds[i].cells (H.get H1.sz) := fun H => stA_agg_ptr _ _ _ _ _ _ rfl
      have sc0 : ∀ l (d : UseD), stC l 0 0 d.cells useZ = some (.tup [], .put l (useO d)) := fun l d => rfl
      have cl : ∀ d : UseD, d.cells[3]? = some (.int .i64 d.old) := fun d => rfl
      simp only [N7_3b, N7_4, h, e1, e2, e3, effK_new, effK_put, newCells_eq, st, Heap.get_new_same, sc0, ← hH2, ld1_ptr, ldN_ptr, hn2, hg2, hb, ldC_cells, cl, Nat.zero_add, hq, purK_some, resK_some, boolK_some, condK_true, condK_false, wantV_tt, wantV_tf, wantV_ft, wantV_ff, wantV_t, wantV_f, wantV_skip, Bool.not_true, Bool.not_false, gPur_true, gPur_false, gEff_true, gEff_false, gRes_true, gRes_false, pickA_true, pickA_false, extA_0, extA_1, extA_2, retK_one, retK_none, retK_two, valK_fn, valR_fn, cond_true, cond_false, bin_add, bin_sub, bin_mul, bin_eql, bin_neq, bin_lss, bin_leq, bin_gtr, bin_geq, bin_seql, bin_sneq, un_not_t, un_not_f, un_not, cvI_int, cvT_str, nilChk_ptr, nilChk_xp, addA_ptr, lenT_str, Bool.true_or, Bool.or_true, Bool.false_or, Bool.or_false, Bool.true_and, Bool.and_true, Bool.false_and, Bool.and_false, decide_true, decide_false, Int.reduceEq, Int.reduceLT, Int.reduceLE, Int.reduceNe, Int.reduceAdd, Int.reduceSub, Int.reduceMul, Int.reduceNeg, List.nil_append, List.append_nil, List.cons_append]
  · obtain rfl : i = ds.length := by omega
    refine ⟨H1, ?_, hF⟩
    have cl0 : ∀ d : UseD, d.cells[0]? = some (.int .i64 d.page) := fun d => rfl
    have cl : ∀ d : UseD, d.cells[3]? = some (.int .i64 d.old) := fun d => rfl
    simp only [N7_3b, N7_1, h, ld1_ptr, hg, ldC_cells, cl0, cl, Nat.zero_add, purK_some, resK_some, boolK_some, condK_true, condK_false, wantV_tt, wantV_tf, wantV_ft, wantV_ff, wantV_t, wantV_f, wantV_skip, Bool.not_true, Bool.not_false, gPur_true, gPur_false, gEff_true, gEff_false, gRes_true, gRes_false, pickA_true, pickA_false, extA_0, extA_1, extA_2, retK_one, retK_none, retK_two, valK_fn, valR_fn, cond_true, cond_false, bin_add, bin_sub, bin_mul, bin_eql, bin_neq, bin_lss, bin_leq, bin_gtr, bin_geq, bin_seql, bin_sneq, un_not_t, un_not_f, un_not, cvI_int, cvT_str, nilChk_ptr, nilChk_xp, addA_ptr, lenT_str, Bool.true_or, Bool.or_true, Bool.false_or, Bool.or_false, Bool.true_and, Bool.and_true, Bool.false_and, Bool.and_false, decide_true, decide_false, Int.reduceEq, Int.reduceLT, Int.reduceLE, Int.reduceNe, Int.reduceAdd, Int.reduceSub, Int.reduceMul, Int.reduceNeg, List.nil_append, List.append_nil, List.cons_append]
end
end Go.Proofs.YtonakeopionkkaaGreat
