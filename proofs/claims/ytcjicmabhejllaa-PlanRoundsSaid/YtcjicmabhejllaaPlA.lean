/- Steps: a function over a slice; whether each session moves. -/
import Derived.Test.YtcjicmabhejllaaLf
import Derived.Test.YtcjicmabhejllaaApiD
import Derived.KernelRfl
set_option linter.unusedVariables false
set_option linter.unusedSimpArgs false
namespace Go.Proofs.Ytcjicmabhejllaa
attribute [local congr] Go.Ev.cond_congr1
open Go.Ev Go.RowKit
section
variable {ρ : Addr → Option Value} {call : CallF} {yc : YieldF} {k : Nat} {H0 : Heap} {x : AV} {els : List (List AV)} {g : FuncId} {a c : List AV} {p : Nat → Bool}
theorem ixS_loop (hx : Els ρ H0 8 x els) (hlen : els.length < 4611686018427387904) (hf : ∀ (i : Nat) (h : i < els.length), ∀ H', Fr Nop H0 H' → ∃ H'', call 0 g (a ++ [.agg els[i]] ++ c) H' = some (.bool (p i), H'') ∧ Fr Nop H' H'') (k0 : Heap → Res) (R : List AV → Heap → Res)
    (B : AV → Heap → (AV → Heap → Res) → Res) (hB : ∀ x8 H kn, B x8 H kn = N48_3b ρ call yc 0 k x (.fn (.func g) a c) (.int .i64 els.length) x8 H (fun _ _ _ x8 H => kn x8 H) k0 R) :
    ∀ (m i n : Nat) (H : Heap), els.length - i = m → i ≤ els.length → m < n → Fr Nop H0 H → ∃ H', Fr Nop H H' ∧
      ((∃ j, i ≤ j ∧ j < els.length ∧ p j = true ∧ (∀ t, i ≤ t → t < j → p t = false) ∧ loopL B n (.int .i64 i) H = R [.int .i64 j] H') ∨
       ((∀ t, i ≤ t → t < els.length → p t = false) ∧ loopL B n (.int .i64 i) H = k0 H')) := by
  intro m
  induction m with
  | zero =>
    intro i n H hm hi hn hF
    obtain ⟨n, rfl⟩ : ∃ q, n = q + 1 := ⟨n - 1, by omega⟩
    have h : ¬ (i : Int) < els.length := by omega
    refine ⟨H, Fr.refl .., Or.inr ⟨fun t _ _ => by omega, ?_⟩⟩
    rw [loopL_succ, hB]
    simp only [N48_3b, h, purK_some, resK_some, boolK_some, condK_true, condK_false, wantV_tt, wantV_tf, wantV_ft, wantV_ff, wantV_t, wantV_f, wantV_skip, Bool.not_true, Bool.not_false, gPur_true, gPur_false, gEff_true, gEff_false, gRes_true, gRes_false, pickA_true, pickA_false, extA_0, extA_1, extA_2, retK_one, retK_none, retK_two, valK_fn, valR_fn, cond_true, cond_false, bin_add, bin_sub, bin_mul, bin_eql, bin_neq, bin_lss, bin_leq, bin_gtr, bin_geq, bin_seql, bin_sneq, un_not_t, un_not_f, un_not, cvI_int, cvT_str, nilChk_ptr, nilChk_xp, addA_ptr, lenT_str, Bool.true_or, Bool.or_true, Bool.false_or, Bool.or_false, Bool.true_and, Bool.and_true, Bool.false_and, Bool.and_false, decide_true, decide_false, List.nil_append, List.append_nil, List.cons_append]
  | succ m ih =>
    intro i n H hm hi hn hF
    obtain ⟨n, rfl⟩ : ∃ q, n = q + 1 := ⟨n - 1, by omega⟩
    have hi' : i < els.length := by omega
    have h : (i : Int) < els.length := by omega
    have hX := hx.frame0 hF
    obtain ⟨H1, hc, hF1⟩ := hf i hi' H hF
    have e1 := hX.ix .i64 i (by omega) h
    have e2 := hX.ldN i hi'
    have e3 : wrapK .i64 ((i : Int) + 1) = ((i + 1 : Nat) : Int) := by rw [wrap_i64] <;> omega
    have step : loopL B (n + 1) (.int .i64 i) H = condK (.bool (p i)) (R [.int .i64 i] H1) (loopL B n (.int .i64 (i + 1 : Nat)) H1) := by
      rw [loopL_succ, hB]
      simp only [N48_3b, bin_lss, bin_add, purK_some, h, decide_true, condK_true, e1, Int.toNat_natCast, e2, valK_fn, hc, resK_some, e3]
    obtain ⟨H', hF', q⟩ := ih (i + 1) n H1 (by omega) (by omega) (by omega) (hF.trans hF1)
    cases hp : p i with
    | true => exact ⟨H1, hF1, Or.inl ⟨i, Nat.le_refl _, hi', hp, fun t a b => by omega, by rw [step, hp]; rfl⟩⟩
    | false =>
      refine ⟨H', hF1.trans hF', ?_⟩
      rw [step, hp, condK_false]
      have hp' : ∀ t, i ≤ t → t = i ∨ i + 1 ≤ t := fun t h => by omega
      rcases q with ⟨j, q1, q2, q3, q4, q5⟩ | ⟨q1, q2⟩
      · exact Or.inl ⟨j, by omega, q2, q3, fun t a b => (hp' t a).elim (fun e => e ▸ hp) (fun e => q4 t e b), q5⟩
      · exact Or.inr ⟨fun t a b => (hp' t a).elim (fun e => e ▸ hp) (fun e => q1 t e b), q2⟩
end
section
variable {ρ : Addr → Option Value} {k : Nat} {H0 : Heap} {x : AV} {els : List (List AV)} {g : FuncId} {a c : List AV} {p : Nat → Bool}
theorem cfS_spec (hx : Els ρ H0 8 x els) (hlen : els.length < 4611686018427387904) (hk : els.length < k) (hf : ∀ (i : Nat) (h : i < els.length), ∀ H', Fr Nop H0 H' → ∃ H'', evCall (cx ρ) k 0 g (a ++ [.agg els[i]] ++ c) H' = some (.bool (p i), H'') ∧ Fr Nop H' H'') :
    ∃ H' b, evCall (cx ρ) (k + 2) 0 42 [x, .fn (.func g) a c] H0 = some (.bool b, H') ∧ Fr Nop H0 H' ∧ (b = true ↔ ∃ j, j < els.length ∧ p j = true) := by
  obtain ⟨H', hF, q⟩ := ixS_loop (ρ := ρ) (call := evCall (cx ρ) k) (yc := (evCY (cx ρ) k).2) (k := k) hx hlen hf (fun H => N48_1 ρ (evCall (cx ρ) k) (evCY (cx ρ) k).2 0 k H retK) retK _ (fun _ _ _ => rfl) els.length 0 k H0 (by omega) (by omega) hk (Fr.refl ..)
  rw [E42]
  simp only [L42, E48, L48, hx.lenS, N48_2, N48_3, purK_some]
  have z : ((0 : Nat) : Int) = 0 := rfl
  rw [z] at q
  rcases q with ⟨j, q1, q2, q3, q4, q5⟩ | ⟨q1, q2⟩
  · refine ⟨H', true, ?_, hF, ⟨fun _ => ⟨j, q2, q3⟩, fun _ => rfl⟩⟩
    have : (0 : Int) ≤ j := by omega
    rw [q5]
    simp only [this, purK_some, resK_some, boolK_some, condK_true, condK_false, wantV_tt, wantV_tf, wantV_ft, wantV_ff, wantV_t, wantV_f, wantV_skip, Bool.not_true, Bool.not_false, gPur_true, gPur_false, gEff_true, gEff_false, gRes_true, gRes_false, pickA_true, pickA_false, extA_0, extA_1, extA_2, retK_one, retK_none, retK_two, valK_fn, valR_fn, cond_true, cond_false, bin_add, bin_sub, bin_mul, bin_eql, bin_neq, bin_lss, bin_leq, bin_gtr, bin_geq, bin_seql, bin_sneq, un_not_t, un_not_f, un_not, cvI_int, cvT_str, nilChk_ptr, nilChk_xp, addA_ptr, lenT_str, Bool.true_or, Bool.or_true, Bool.false_or, Bool.or_false, Bool.true_and, Bool.and_true, Bool.false_and, Bool.and_false, decide_true, decide_false, List.nil_append, List.append_nil, List.cons_append]
  · refine ⟨H', false, ?_, hF, ⟨fun h => (by cases h), fun ⟨j, h1, h2⟩ => (by rw [q1 j (by omega) h1] at h2; cases h2)⟩⟩
    rw [q2]
    simp only [N48_1, purK_some, resK_some, boolK_some, condK_true, condK_false, wantV_tt, wantV_tf, wantV_ft, wantV_ff, wantV_t, wantV_f, wantV_skip, Bool.not_true, Bool.not_false, gPur_true, gPur_false, gEff_true, gEff_false, gRes_true, gRes_false, pickA_true, pickA_false, extA_0, extA_1, extA_2, retK_one, retK_none, retK_two, valK_fn, valR_fn, cond_true, cond_false, bin_add, bin_sub, bin_mul, bin_eql, bin_neq, bin_lss, bin_leq, bin_gtr, bin_geq, bin_seql, bin_sneq, un_not_t, un_not_f, un_not, cvI_int, cvT_str, nilChk_ptr, nilChk_xp, addA_ptr, lenT_str, Bool.true_or, Bool.or_true, Bool.false_or, Bool.or_false, Bool.true_and, Bool.and_true, Bool.false_and, Bool.and_false, decide_true, decide_false, List.nil_append, List.append_nil, List.cons_append]
    rfl
end
def hasMove (ds : List StepD) (s : Int) : Bool := ds.any fun d => decide (d.kind = 2) && decide (d.s = s)
def movesP (ds : List StepD) (sessions : Int) : Bool := (List.range sessions.toNat).all fun s => hasMove ds s
section
variable {ρ : Addr → Option Value} {k : Nat} {H : Heap} {x : AV} {ds : List StepD}
theorem mvA_spec (d : StepD) (hd : scal d.picks = true) (l v e : Nat) (fr : Nat × Nat) (g : Bool) (s0 : Int) (hl : l < H.sz) (hg : H.get l = .cells v e fr g [.int .i64 s0]) :
    evCall (cx ρ) (k + 1) 0 43 [.agg d.cells, .ptr l v 0] H = some (.bool (decide (d.kind = 2) && decide (d.s = s0)), H.new (.cells 0 42 (0, 0) false d.cells)) := by
  rw [E43]
  have hs := StepD.solid hd
  simp only [StepD.cells] at hs ⊢
  have hb := boxA_agg H 42 _ hs
  have hg' : ∀ o, (H.new o).get l = .cells v e fr g [.int .i64 s0] := fun o => by rw [Heap.get_new, if_neg (by omega), hg]
  by_cases h1 : d.kind = 2
  · have h1 := eq_true h1
    simp (disch := first | ((try simp only [Heap.sz_new, Heap.sz_put, List.length_cons, List.length_nil, List.length_set, List.all_cons, List.all_nil, Bool.and_true, scal_int, sol_int, scal_bool, sol_bool, scal_str, sol_str, scal_nilp, sol_nilp, scal_ptr, sol_ptr, scal_nils, sol_nils, scal_sl, sol_sl, scal_sx, sol_sx, scal_xp, sol_xp, scal_xs, sol_xs, scal_nilm, sol_nilm, scal_mp, sol_mp, scal_nilf, sol_nilf, scal_fn, sol_fn, scal_nili, sol_nili, scal_ifc, sol_ifc]) <;> omega) | with_unfolding_all rfl) only [L43, hb, hg', h1, purK_some, resK_some, boolK_some, condK_true, condK_false, wantV_tt, wantV_tf, wantV_ft, wantV_ff, wantV_t, wantV_f, wantV_skip, Bool.not_true, Bool.not_false, gPur_true, gPur_false, gEff_true, gEff_false, gRes_true, gRes_false, pickA_true, pickA_false, extA_0, extA_1, extA_2, retK_one, retK_none, retK_two, valK_fn, valR_fn, cond_true, cond_false, bin_add, bin_sub, bin_mul, bin_eql, bin_neq, bin_lss, bin_leq, bin_gtr, bin_geq, bin_seql, bin_sneq, un_not_t, un_not_f, un_not, cvI_int, cvT_str, nilChk_ptr, nilChk_xp, addA_ptr, lenT_str, Bool.true_or, Bool.or_true, Bool.false_or, Bool.or_false, Bool.true_and, Bool.and_true, Bool.false_and, Bool.and_false, decide_true, decide_false, List.nil_append, List.append_nil, List.cons_append, effK_new, effK_put, effK_nothing, on_new, on_put, on_nothing, ld1_ptr, ldN_ptr, stA_one_ptr, stA_agg_ptr, ldC_cells, ldCN_cells, stC_one, stC_many, lay_all, newCells_eq, get_new_at, get_put_at, Heap.get_new_ne, Heap.get_put_ne, Heap.sz_new, Heap.sz_put, box1, boxA_agg, List.getElem?_cons_zero, List.getElem?_cons_succ, List.drop_zero, List.drop_succ_cons, List.take_zero, List.take_succ_cons, List.set_cons_zero, List.set_cons_succ, Nat.zero_add, Nat.add_zero, Nat.reduceAdd]
  · have h1 := eq_false h1
    simp (disch := first | ((try simp only [Heap.sz_new, Heap.sz_put, List.length_cons, List.length_nil, List.length_set, List.all_cons, List.all_nil, Bool.and_true, scal_int, sol_int, scal_bool, sol_bool, scal_str, sol_str, scal_nilp, sol_nilp, scal_ptr, sol_ptr, scal_nils, sol_nils, scal_sl, sol_sl, scal_sx, sol_sx, scal_xp, sol_xp, scal_xs, sol_xs, scal_nilm, sol_nilm, scal_mp, sol_mp, scal_nilf, sol_nilf, scal_fn, sol_fn, scal_nili, sol_nili, scal_ifc, sol_ifc]) <;> omega) | with_unfolding_all rfl) only [L43, hb, hg', h1, purK_some, resK_some, boolK_some, condK_true, condK_false, wantV_tt, wantV_tf, wantV_ft, wantV_ff, wantV_t, wantV_f, wantV_skip, Bool.not_true, Bool.not_false, gPur_true, gPur_false, gEff_true, gEff_false, gRes_true, gRes_false, pickA_true, pickA_false, extA_0, extA_1, extA_2, retK_one, retK_none, retK_two, valK_fn, valR_fn, cond_true, cond_false, bin_add, bin_sub, bin_mul, bin_eql, bin_neq, bin_lss, bin_leq, bin_gtr, bin_geq, bin_seql, bin_sneq, un_not_t, un_not_f, un_not, cvI_int, cvT_str, nilChk_ptr, nilChk_xp, addA_ptr, lenT_str, Bool.true_or, Bool.or_true, Bool.false_or, Bool.or_false, Bool.true_and, Bool.and_true, Bool.false_and, Bool.and_false, decide_true, decide_false, List.nil_append, List.append_nil, List.cons_append, effK_new, effK_put, effK_nothing, on_new, on_put, on_nothing, ld1_ptr, ldN_ptr, stA_one_ptr, stA_agg_ptr, ldC_cells, ldCN_cells, stC_one, stC_many, lay_all, newCells_eq, get_new_at, get_put_at, Heap.get_new_ne, Heap.get_put_ne, Heap.sz_new, Heap.sz_put, box1, boxA_agg, List.getElem?_cons_zero, List.getElem?_cons_succ, List.drop_zero, List.drop_succ_cons, List.take_zero, List.take_succ_cons, List.set_cons_zero, List.set_cons_succ, Nat.zero_add, Nat.add_zero, Nat.reduceAdd]
theorem mv_spec (hx : Els ρ H 8 x (ds.map StepD.cells)) (hds : ∀ d ∈ ds, scal d.picks = true) (hlen : ds.length < 4611686018427387904) (sessions : Int) (hs : sessions < 4611686018427387904) (hk : ds.length + 4 ≤ k) (hk2 : sessions.toNat < k) :
    ∃ H', evCall (cx ρ) (k + 1) 0 34 [x, .int .i64 sessions] H = some (.bool (movesP ds sessions), H') ∧ Fr Nop H H' := by
  rw [E34]
  obtain ⟨k, rfl⟩ : ∃ q, k = q + 3 := ⟨k - 3, by omega⟩
  simp only [L34, N34_2, N34_3]
  refine loopL_wp (W := fun r => ∃ H', r = some (.bool (movesP ds sessions), H') ∧ Fr Nop H H')
    (fun m y H1 => ∃ s : Nat, y = .int .i64 s ∧ m = sessions.toNat - s ∧ s ≤ sessions.toNat ∧ Fr Nop H H1 ∧ ∀ t, t < s → hasMove ds t = true) ?_ sessions.toNat _ _ _ ⟨0, rfl, by omega, by omega, Fr.refl .., fun t h => by omega⟩ hk2
  rintro m y H1 f ⟨s, rfl, hm, hle, hF, hall⟩ hkn
  by_cases h : (s : Int) < sessions
  · obtain ⟨H2, hH2⟩ : ∃ H2, H2 = (H1.new (.cells 0 3 (0, 0) false [.int .i64 0])).put H1.sz (.cells 0 3 (0, 0) false [.int .i64 s]) := ⟨_, rfl⟩
    have hF2 : Fr Nop H1 H2 := hH2 ▸ (Fr.new _ _ _).trans' (Fr.put _ _ _ (S := fun l => l = H1.sz) fun _ => rfl) fun l h q => by omega
    have hx2 : Els ρ H2 8 x (ds.map StepD.cells) := (hx.frame0 hF).frame0 hF2
    have hg2 : H2.get H1.sz = .cells 0 3 (0, 0) false [.int .i64 s] := by rw [hH2, Heap.get_put, if_pos rfl]
    have hz2 : H1.sz < H2.sz := by rw [hH2, Heap.sz_put, Heap.sz_new]; omega
    obtain ⟨H3, b, h3, hF3, hb⟩ := cfS_spec (k := k + 1) (g := 43) (a := []) (c := [.ptr H1.sz 0 0]) (p := fun i => if h : i < ds.length then decide (ds[i].kind = 2) && decide (ds[i].s = s) else false) hx2 (by simpa using hlen) (by simp; omega)
      (fun i hi H' hF' => by
        have hi' : i < ds.length := by simpa using hi
        have := mvA_spec (ρ := ρ) (k := k) (H := H') ds[i] (hds _ (List.getElem_mem hi')) H1.sz 0 3 (0, 0) false s (Nat.lt_of_lt_of_le hz2 hF'.sz) (by rw [hF'.get _ hz2 (fun q => q), hg2])
        refine ⟨_, ?_, Fr.new _ _ (.cells 0 42 (0, 0) false ds[i].cells)⟩
        rw [List.getElem_map, List.nil_append]
        simp only [hi', dif_pos]
        exact this)
    have hb' : b = hasMove ds s := by
      rw [Bool.eq_iff_iff, hb, List.length_map]
      exact any_idx ds _ _ fun i hi => by simp [hi]
    clear hb
    have e3 : wrapK .i64 ((s : Int) + 1) = ((s + 1 : Nat) : Int) := by rw [wrap_i64] <;> omega
    have step : N34_3b ρ (evCall (cx ρ) (k + 3)) (evCY (cx ρ) (k + 3)).2 0 (k + 3) x (.int .i64 sessions) (.int .i64 s) H1 (fun _ _ x7 H => f x7 H) (fun H => N34_1 ρ (evCall (cx ρ) (k + 3)) (evCY (cx ρ) (k + 3)).2 0 (k + 3) H retK) retK = condK (.bool (hasMove ds s)) (f (.int .i64 (s + 1 : Nat)) H3) (some (.bool false, H3)) := by
      simp (disch := first | ((try simp only [Heap.sz_new, Heap.sz_put, List.length_cons, List.length_nil, List.length_set, List.all_cons, List.all_nil, Bool.and_true, scal_int, sol_int, scal_bool, sol_bool, scal_str, sol_str, scal_nilp, sol_nilp, scal_ptr, sol_ptr, scal_nils, sol_nils, scal_sl, sol_sl, scal_sx, sol_sx, scal_xp, sol_xp, scal_xs, sol_xs, scal_nilm, sol_nilm, scal_mp, sol_mp, scal_nilf, sol_nilf, scal_fn, sol_fn, scal_nili, sol_nili, scal_ifc, sol_ifc]) <;> omega) | with_unfolding_all rfl) only [N34_3b, h, purK_some, resK_some, boolK_some, condK_true, condK_false, wantV_tt, wantV_tf, wantV_ft, wantV_ff, wantV_t, wantV_f, wantV_skip, Bool.not_true, Bool.not_false, gPur_true, gPur_false, gEff_true, gEff_false, gRes_true, gRes_false, pickA_true, pickA_false, extA_0, extA_1, extA_2, retK_one, retK_none, retK_two, valK_fn, valR_fn, cond_true, cond_false, bin_add, bin_sub, bin_mul, bin_eql, bin_neq, bin_lss, bin_leq, bin_gtr, bin_geq, bin_seql, bin_sneq, un_not_t, un_not_f, un_not, cvI_int, cvT_str, nilChk_ptr, nilChk_xp, addA_ptr, lenT_str, Bool.true_or, Bool.or_true, Bool.false_or, Bool.or_false, Bool.true_and, Bool.and_true, Bool.false_and, Bool.and_false, decide_true, decide_false, List.nil_append, List.append_nil, List.cons_append, effK_new, effK_put, effK_nothing, on_new, on_put, on_nothing, ld1_ptr, ldN_ptr, stA_one_ptr, stA_agg_ptr, ldC_cells, ldCN_cells, stC_one, stC_many, lay_all, newCells_eq, get_new_at, get_put_at, Heap.get_new_ne, Heap.get_put_ne, Heap.sz_new, Heap.sz_put, box1, boxA_agg, List.getElem?_cons_zero, List.getElem?_cons_succ, List.drop_zero, List.drop_succ_cons, List.take_zero, List.take_succ_cons, List.set_cons_zero, List.set_cons_succ, Nat.zero_add, Nat.add_zero, Nat.reduceAdd]
      rw [show (H1.new (.cells 0 3 (0, 0) false [.int .i64 0])).put H1.sz (.cells 0 3 (0, 0) false [.int .i64 s]) = H2 from hH2.symm, h3]
      simp only [hb', e3, purK_some, resK_some, boolK_some, condK_true, condK_false, wantV_tt, wantV_tf, wantV_ft, wantV_ff, wantV_t, wantV_f, wantV_skip, Bool.not_true, Bool.not_false, gPur_true, gPur_false, gEff_true, gEff_false, gRes_true, gRes_false, pickA_true, pickA_false, extA_0, extA_1, extA_2, retK_one, retK_none, retK_two, valK_fn, valR_fn, cond_true, cond_false, bin_add, bin_sub, bin_mul, bin_eql, bin_neq, bin_lss, bin_leq, bin_gtr, bin_geq, bin_seql, bin_sneq, un_not_t, un_not_f, un_not, cvI_int, cvT_str, nilChk_ptr, nilChk_xp, addA_ptr, lenT_str, Bool.true_or, Bool.or_true, Bool.false_or, Bool.or_false, Bool.true_and, Bool.and_true, Bool.false_and, Bool.and_false, decide_true, decide_false, List.nil_append, List.append_nil, List.cons_append]
      cases hasMove ds s <;> rfl
    rw [step]
    cases hq : hasMove ds s with
    | true => exact hkn _ _ _ (by omega) ⟨s + 1, rfl, rfl, by omega, (hF.trans hF2).trans hF3, fun t ht => by
        by_cases e : t = s
        · rw [e, hq]
        · exact hall t (by omega)⟩
    | false =>
      refine ⟨H3, ?_, (hF.trans hF2).trans hF3⟩
      rw [condK_false]
      have : movesP ds sessions = false := by
        unfold movesP
        rw [List.all_eq_false]
        exact ⟨s, List.mem_range.2 (by omega), by simp [hq]⟩
      rw [this]
  · refine ⟨H1, ?_, hF⟩
    simp only [N34_3b, N34_1, h, purK_some, resK_some, boolK_some, condK_true, condK_false, wantV_tt, wantV_tf, wantV_ft, wantV_ff, wantV_t, wantV_f, wantV_skip, Bool.not_true, Bool.not_false, gPur_true, gPur_false, gEff_true, gEff_false, gRes_true, gRes_false, pickA_true, pickA_false, extA_0, extA_1, extA_2, retK_one, retK_none, retK_two, valK_fn, valR_fn, cond_true, cond_false, bin_add, bin_sub, bin_mul, bin_eql, bin_neq, bin_lss, bin_leq, bin_gtr, bin_geq, bin_seql, bin_sneq, un_not_t, un_not_f, un_not, cvI_int, cvT_str, nilChk_ptr, nilChk_xp, addA_ptr, lenT_str, Bool.true_or, Bool.or_true, Bool.false_or, Bool.or_false, Bool.true_and, Bool.and_true, Bool.false_and, Bool.and_false, decide_true, decide_false, List.nil_append, List.append_nil, List.cons_append]
    have : movesP ds sessions = true := by
      unfold movesP
      rw [List.all_eq_true]
      intro t ht
      exact hall t (by have := List.mem_range.1 ht; omega)
    rw [this]
end
end Go.Proofs.Ytcjicmabhejllaa
