/- Fair: by windows each session moves; the program's and the reference's. -/
import Derived.Test.YtcjicmabhejllaaPlA
set_option linter.unusedVariables false
set_option linter.unusedSimpArgs false
namespace Go.Proofs.Ytcjicmabhejllaa
attribute [local congr] Go.Ev.cond_congr1
open Go.Ev Go.RowKit
theorem pigeon : ∀ (s : Nat) (ds : List StepD), (∀ t : Nat, t < s → ∃ d ∈ ds, d.s = t) → s ≤ ds.length
  | 0, _, _ => Nat.zero_le _
  | s + 1, ds, h => by
    obtain ⟨d, hd, e⟩ := h s (by omega)
    obtain ⟨l1, l2, rfl⟩ := List.append_of_mem hd
    have := pigeon s (l1 ++ l2) fun t ht => by
      obtain ⟨d', hd', e'⟩ := h t (by omega)
      refine ⟨d', ?_, e'⟩
      rcases List.mem_append.1 hd' with q | q
      · exact List.mem_append.2 (Or.inl q)
      · rcases List.mem_cons.1 q with rfl | q
        · omega
        · exact List.mem_append.2 (Or.inr q)
    simp only [List.length_append, List.length_cons] at this ⊢
    omega
theorem hasMove_ex {ds : List StepD} {s : Int} (h : hasMove ds s = true) : ∃ d ∈ ds, d.s = s := by
  unfold hasMove at h
  obtain ⟨d, hd, h⟩ := List.any_eq_true.1 h
  simp only [Bool.and_eq_true, decide_eq_true_eq] at h
  exact ⟨d, hd, h.2⟩
theorem moves_few {ds : List StepD} {s : Nat} (h : ∀ t : Nat, t < s → hasMove ds t = true) : s ≤ ds.length := pigeon s ds fun t ht => hasMove_ex (h t ht)
theorem movesP_few {ds : List StepD} {sessions : Int} (h : (ds.length : Int) < sessions) : movesP ds sessions = false := by
  cases hm : movesP ds sessions with
  | false => rfl
  | true =>
    have := moves_few (s := sessions.toNat) (ds := ds) fun t ht => by
      unfold movesP at hm
      exact List.all_eq_true.1 hm t (List.mem_range.2 ht)
    omega
def fairGo (sessions : Int) (w : Nat) : Nat → List StepD → Bool
  | 0, _ => true
  | n + 1, ds => if w ≤ ds.length then movesP (ds.take w) sessions && fairGo sessions w n (ds.drop w) else true
def fairP (ds : List StepD) (sessions window : Int) : Bool := if window < 1 then false else fairGo sessions window.toNat (ds.length + 1) ds
section
variable {ρ : Addr → Option Value} {k : Nat} {H : Heap} {x : AV} {ds : List StepD}
theorem fair_spec (hx : Els ρ H 8 x (ds.map StepD.cells)) (hds : ∀ d ∈ ds, scal d.picks = true) (hlen : ds.length < 4611686018427387904) (sessions window : Int) (hk : ds.length + 10 ≤ k) :
    ∃ H', evCall (cx ρ) (k + 2) 0 23 [x, .int .i64 sessions, .int .i64 window] H = some (.bool (fairP ds sessions window), H') ∧ Fr Nop H H' := by
  rw [E23]
  unfold fairP
  by_cases h1 : window < 1
  · refine ⟨H, ?_, Fr.refl ..⟩
    simp only [L23, h1, if_true, purK_some, resK_some, boolK_some, condK_true, condK_false, wantV_tt, wantV_tf, wantV_ft, wantV_ff, wantV_t, wantV_f, wantV_skip, Bool.not_true, Bool.not_false, gPur_true, gPur_false, gEff_true, gEff_false, gRes_true, gRes_false, pickA_true, pickA_false, extA_0, extA_1, extA_2, retK_one, retK_none, retK_two, valK_fn, valR_fn, cond_true, cond_false, bin_add, bin_sub, bin_mul, bin_eql, bin_neq, bin_lss, bin_leq, bin_gtr, bin_geq, bin_seql, bin_sneq, un_not_t, un_not_f, un_not, cvI_int, cvT_str, nilChk_ptr, nilChk_xp, addA_ptr, lenT_str, Bool.true_or, Bool.or_true, Bool.false_or, Bool.or_false, Bool.true_and, Bool.and_true, Bool.false_and, Bool.and_false, decide_true, decide_false, List.nil_append, List.append_nil, List.cons_append]
  rw [if_neg h1]
  simp only [L23, h1, N23_1, N23_3, purK_some, resK_some, boolK_some, condK_true, condK_false, wantV_tt, wantV_tf, wantV_ft, wantV_ff, wantV_t, wantV_f, wantV_skip, Bool.not_true, Bool.not_false, gPur_true, gPur_false, gEff_true, gEff_false, gRes_true, gRes_false, pickA_true, pickA_false, extA_0, extA_1, extA_2, retK_one, retK_none, retK_two, valK_fn, valR_fn, cond_true, cond_false, bin_add, bin_sub, bin_mul, bin_eql, bin_neq, bin_lss, bin_leq, bin_gtr, bin_geq, bin_seql, bin_sneq, un_not_t, un_not_f, un_not, cvI_int, cvT_str, nilChk_ptr, nilChk_xp, addA_ptr, lenT_str, Bool.true_or, Bool.or_true, Bool.false_or, Bool.or_false, Bool.true_and, Bool.and_true, Bool.false_and, Bool.and_false, decide_true, decide_false, List.nil_append, List.append_nil, List.cons_append]
  obtain ⟨w, rfl⟩ : ∃ w : Nat, window = w := ⟨window.toNat, by omega⟩
  rw [Int.toNat_natCast]
  refine loopL_wp (W := fun r => ∃ H', r = some (.bool (fairGo sessions w (ds.length + 1) ds), H') ∧ Fr Nop H H')
    (fun m y H1 => ∃ ds', Els ρ H1 8 y (ds'.map StepD.cells) ∧ (∀ d ∈ ds', scal d.picks = true) ∧ ds'.length ≤ m ∧ ds'.length ≤ ds.length ∧ fairGo sessions w (m + 1) ds' = fairGo sessions w (ds.length + 1) ds ∧ Fr Nop H H1) ?_ ds.length _ _ _ ⟨ds, hx, hds, Nat.le_refl _, Nat.le_refl _, rfl, Fr.refl ..⟩ (by omega)
  rintro m y H1 f ⟨ds', hy, hds', hm, hl', hg, hF⟩ hkn
  rw [← hg]
  simp only [N23_3b, hy.lenS, List.length_map, purK_some, resK_some, boolK_some, condK_true, condK_false, wantV_tt, wantV_tf, wantV_ft, wantV_ff, wantV_t, wantV_f, wantV_skip, Bool.not_true, Bool.not_false, gPur_true, gPur_false, gEff_true, gEff_false, gRes_true, gRes_false, pickA_true, pickA_false, extA_0, extA_1, extA_2, retK_one, retK_none, retK_two, valK_fn, valR_fn, cond_true, cond_false, bin_add, bin_sub, bin_mul, bin_eql, bin_neq, bin_lss, bin_leq, bin_gtr, bin_geq, bin_seql, bin_sneq, un_not_t, un_not_f, un_not, cvI_int, cvT_str, nilChk_ptr, nilChk_xp, addA_ptr, lenT_str, Bool.true_or, Bool.or_true, Bool.false_or, Bool.or_false, Bool.true_and, Bool.and_true, Bool.false_and, Bool.and_false, decide_true, decide_false, List.nil_append, List.append_nil, List.cons_append]
  by_cases h2 : (w : Int) ≤ ds'.length
  · have hne : ds'.map StepD.cells ≠ [] := by
      intro e; have : ds'.length = 0 := by simpa using e
      omega
    have hw : w ≤ ds'.length := by omega
    have ef : fairGo sessions w (m + 1) ds' = (movesP (ds'.take w) sessions && fairGo sessions w m (ds'.drop w)) := by rw [fairGo, if_pos hw]
    obtain ⟨y2, e2, hy2, _⟩ := hy.cut (lo := w) (hi := ds'.length) hw (by simp) (some (.int .i64 w)) none (Or.inr ⟨_, rfl⟩) (Or.inl ⟨rfl, by simp⟩) (hy.notSx hne)
    by_cases h3 : (w : Int) < sessions
    · refine ⟨H1, ?_, hF⟩
      rw [ef, movesP_few (by rw [List.length_take]; omega)]
      simp only [h2, h3, purK_some, resK_some, boolK_some, condK_true, condK_false, wantV_tt, wantV_tf, wantV_ft, wantV_ff, wantV_t, wantV_f, wantV_skip, Bool.not_true, Bool.not_false, gPur_true, gPur_false, gEff_true, gEff_false, gRes_true, gRes_false, pickA_true, pickA_false, extA_0, extA_1, extA_2, retK_one, retK_none, retK_two, valK_fn, valR_fn, cond_true, cond_false, bin_add, bin_sub, bin_mul, bin_eql, bin_neq, bin_lss, bin_leq, bin_gtr, bin_geq, bin_seql, bin_sneq, un_not_t, un_not_f, un_not, cvI_int, cvT_str, nilChk_ptr, nilChk_xp, addA_ptr, lenT_str, Bool.true_or, Bool.or_true, Bool.false_or, Bool.or_false, Bool.true_and, Bool.and_true, Bool.false_and, Bool.and_false, decide_true, decide_false, List.nil_append, List.append_nil, List.cons_append]
    · obtain ⟨y1, e1, hy1, _⟩ := hy.cut (lo := 0) (hi := w) (Nat.zero_le _) (by simpa using hw) none (some (.int .i64 w)) (Or.inl ⟨rfl, rfl⟩) (Or.inr ⟨_, rfl⟩) (hy.notSx hne)
      rw [List.drop_zero, Nat.sub_zero, ← List.map_take] at hy1
      have hlt : (ds'.take w).length = w := by rw [List.length_take]; omega
      obtain ⟨H2, h4, hF2⟩ := mv_spec (k := k) hy1 (fun d hd => hds' d (List.mem_of_mem_take hd)) (by omega) sessions (by omega) (by omega) (by omega)
      simp only [h2, h3, e1, e2, h4, purK_some, resK_some, boolK_some, condK_true, condK_false, wantV_tt, wantV_tf, wantV_ft, wantV_ff, wantV_t, wantV_f, wantV_skip, Bool.not_true, Bool.not_false, gPur_true, gPur_false, gEff_true, gEff_false, gRes_true, gRes_false, pickA_true, pickA_false, extA_0, extA_1, extA_2, retK_one, retK_none, retK_two, valK_fn, valR_fn, cond_true, cond_false, bin_add, bin_sub, bin_mul, bin_eql, bin_neq, bin_lss, bin_leq, bin_gtr, bin_geq, bin_seql, bin_sneq, un_not_t, un_not_f, un_not, cvI_int, cvT_str, nilChk_ptr, nilChk_xp, addA_ptr, lenT_str, Bool.true_or, Bool.or_true, Bool.false_or, Bool.or_false, Bool.true_and, Bool.and_true, Bool.false_and, Bool.and_false, decide_true, decide_false, List.nil_append, List.append_nil, List.cons_append]
      rw [ef]
      cases hq : movesP (ds'.take w) sessions with
      | false => exact ⟨H2, by simp only [purK_some, resK_some, boolK_some, condK_true, condK_false, wantV_tt, wantV_tf, wantV_ft, wantV_ff, wantV_t, wantV_f, wantV_skip, Bool.not_true, Bool.not_false, gPur_true, gPur_false, gEff_true, gEff_false, gRes_true, gRes_false, pickA_true, pickA_false, extA_0, extA_1, extA_2, retK_one, retK_none, retK_two, valK_fn, valR_fn, cond_true, cond_false, bin_add, bin_sub, bin_mul, bin_eql, bin_neq, bin_lss, bin_leq, bin_gtr, bin_geq, bin_seql, bin_sneq, un_not_t, un_not_f, un_not, cvI_int, cvT_str, nilChk_ptr, nilChk_xp, addA_ptr, lenT_str, Bool.true_or, Bool.or_true, Bool.false_or, Bool.or_false, Bool.true_and, Bool.and_true, Bool.false_and, Bool.and_false, decide_true, decide_false, List.nil_append, List.append_nil, List.cons_append], hF.trans hF2⟩
      | true =>
        have hy3 := hy2.frame0 hF2
        have hle : (ds'.drop w).length = ds'.length - w := List.length_drop ..
        rw [List.take_of_length_le (by simp), ← List.map_drop] at hy3
        simp only [purK_some, resK_some, boolK_some, condK_true, condK_false, wantV_tt, wantV_tf, wantV_ft, wantV_ff, wantV_t, wantV_f, wantV_skip, Bool.not_true, Bool.not_false, gPur_true, gPur_false, gEff_true, gEff_false, gRes_true, gRes_false, pickA_true, pickA_false, extA_0, extA_1, extA_2, retK_one, retK_none, retK_two, valK_fn, valR_fn, cond_true, cond_false, bin_add, bin_sub, bin_mul, bin_eql, bin_neq, bin_lss, bin_leq, bin_gtr, bin_geq, bin_seql, bin_sneq, un_not_t, un_not_f, un_not, cvI_int, cvT_str, nilChk_ptr, nilChk_xp, addA_ptr, lenT_str, Bool.true_or, Bool.or_true, Bool.false_or, Bool.or_false, Bool.true_and, Bool.and_true, Bool.false_and, Bool.and_false, decide_true, decide_false, List.nil_append, List.append_nil, List.cons_append]
        have := hkn (m - 1) y2 H2 (by omega) ⟨ds'.drop w, hy3, fun d hd => hds' d (List.mem_of_mem_drop hd), by omega, by omega, by rw [← hg, ef, hq, Bool.true_and, show m - 1 + 1 = m by omega], hF.trans hF2⟩
        rw [← hg, ef, hq, Bool.true_and] at this
        exact this
  · refine ⟨H1, ?_, hF⟩
    have : ¬ w ≤ ds'.length := by omega
    rw [fairGo, if_neg this]
    simp only [h2, N23_2, purK_some, resK_some, boolK_some, condK_true, condK_false, wantV_tt, wantV_tf, wantV_ft, wantV_ff, wantV_t, wantV_f, wantV_skip, Bool.not_true, Bool.not_false, gPur_true, gPur_false, gEff_true, gEff_false, gRes_true, gRes_false, pickA_true, pickA_false, extA_0, extA_1, extA_2, retK_one, retK_none, retK_two, valK_fn, valR_fn, cond_true, cond_false, bin_add, bin_sub, bin_mul, bin_eql, bin_neq, bin_lss, bin_leq, bin_gtr, bin_geq, bin_seql, bin_sneq, un_not_t, un_not_f, un_not, cvI_int, cvT_str, nilChk_ptr, nilChk_xp, addA_ptr, lenT_str, Bool.true_or, Bool.or_true, Bool.false_or, Bool.or_false, Bool.true_and, Bool.and_true, Bool.false_and, Bool.and_false, decide_true, decide_false, List.nil_append, List.append_nil, List.cons_append]
end
end Go.Proofs.Ytcjicmabhejllaa
