/- Part 6: Ext SwA SwB SwW SwC SwD SwE SwF SwG SwH SwI SwL SwJ. -/
import Derived.Test.YtnkeebchblfbgaaDoorBnB
import Derived.Test.YtnkeebchblfbgaaDoorBnE
import Derived.KernelRfl
import Derived.Test.YtnkeebchblfbgaaDoorBnC
import Derived.OpenShut
import Derived.ChangeArms
import Derived.Test.YtnkeebchblfbgaaDoorRows
import Derived.WalkKit
import Derived.Handed
import Derived.LaidLaws
import Derived.Deep.DeepLaidRun
-- part Ext
/- The functions without a Go body are the ones that the evaluator knows. -/
namespace Go.Proofs.YtnkeebchblfbgaaDoor
open Go.Ev Go.RowKit
set_option maxRecDepth 1000000 in
theorem cx_ext (ρ : Addr → Option Value) : ExtOK (cx ρ) := by
  intro f k h
  unfold cx xk at h
  simp only at h
  split at h <;> first | (cases h; done) | (obtain rfl := Option.some.inj h; exact ⟨_, rfl, by kernel_rfl, by kernel_rfl, by kernel_rfl, by kernel_rfl⟩)
end Go.Proofs.YtnkeebchblfbgaaDoor

-- part SwA
/- Texts that are built. -/
set_option linter.unusedVariables false
set_option linter.unusedSimpArgs false
namespace Go.Proofs.YtnkeebchblfbgaaDoor
attribute [local congr] Go.Ev.cond_congr1
open Go.Ev Go.RowKit
/-- A builder at l: what was written; where it lies. -/
structure Bu (H : Heap) (l : Nat) (y : AV) (a : List UInt8) : Prop where
  top : H.get l = .cells 0 54 (0, 0) false [.nilp, y] ∨ H.get l = .cells 0 54 (0, 0) false [.ptr l 0 0, y]
  row : Grow H 5 1 y (brow a)
  lt : l < H.sz
  ne : ¬ y.lies l
section
variable {ρ : Addr → Option Value} {k : Nat} {H : Heap} {l : Nat} {y : AV} {a : List UInt8}
theorem eqp1 : binA Tryd.prog H .eql 51 .nilp .nilp = some (.bool true) := by kernel_rfl
theorem eqp2 : binA Tryd.prog H .eql 51 (.ptr l 0 0) .nilp = some (.bool false) := by kernel_rfl
theorem eqp3 (hv : H.ver l = 0) : binA Tryd.prog H .neq 51 (.ptr l 0 0) (.ptr l 0 0) = some (.bool false) := by
  have h : binA Tryd.prog H .neq 51 (.ptr l 0 0) (.ptr l 0 0) = (bif Nat.beq l l && Nat.beq 0 0 && (Nat.beq (H.ver l) 0) && true then some (Nat.beq 0 0) else none).map fun b => .bool !b := by kernel_rfl
  rw [h, hv]; simp
theorem ne_spec (x : AV) : evCall (cx ρ) (k + 1) 0 56 [x] H = some (x, H) := by kernel_rfl
theorem cnv1 {v e : Nat} {fr : Nat × Nat} {g : Bool} {c : List AV} (hg : H.get l = .cells v e fr g c) (hc : 0 < c.length) : convXA (cx ρ) H 51 91 (.ptr l v 0) = some (.ptr l v 0) := by
  have h : convXA (cx ρ) H 51 91 (.ptr l v 0) = (match H.get l with | .cells v' _ _ _ c => bif v' == v && true && Nat.blt 0 c.length then some (.ptr l v 0) else none | _ => none) := by kernel_rfl
  rw [h, hg]
  have : Nat.blt 0 c.length = true := by rw [Nat.blt_eq]; exact hc
  simp [this]
theorem cc0 {y : AV} (hg : H.get l = .cells 0 54 (0, 0) false [.nilp, y]) : evCall (cx ρ) (k + 2) 0 45 [.ptr l 0 0] H = some (.tup [], H.put l (.cells 0 54 (0, 0) false [.ptr l 0 0, y])) := by
  have c1 := cnv1 (ρ := ρ) hg (by simp)
  have c2 : convXA (cx ρ) H 91 51 (.ptr l 0 0) = some (.ptr l 0 0) := by
    have h : convXA (cx ρ) H 91 51 (.ptr l 0 0) = (match H.get l with | .cells v' e _ false c => bif v' == 0 && liesAt Tryd.prog Tryd.prog.depth e (c.length / Tryd.prog.cellsOf e) 0 54 1 then some (.ptr l 0 0) else none | _ => none) := by kernel_rfl
    rw [h, hg]
    have h2 : liesAt Tryd.prog Tryd.prog.depth 54 (2 / Tryd.prog.cellsOf 54) 0 54 1 = true := by kernel_rfl
    simp only [List.length_cons, List.length_nil, Nat.zero_add, h2, beq_self_eq_true, Bool.and_self, cond_true]
  rw [E45]
  simp (disch := first | ((try simp only [szn, szp, List.length_cons, List.length_nil, List.length_set, List.all_cons, List.all_nil, Bool.and_true, scal_int, sol_int, scal_bool, sol_bool, scal_str, sol_str, scal_nilp, sol_nilp, scal_ptr, sol_ptr, scal_nils, sol_nils, scal_sl, sol_sl, scal_sx, sol_sx, scal_xp, sol_xp, scal_xs, sol_xs, scal_nilm, sol_nilm, scal_mp, sol_mp, scal_nilf, sol_nilf, scal_fn, sol_fn, scal_nili, sol_nili, scal_ifc, sol_ifc]) <;> omega) | with_unfolding_all rfl) only [L45, hg, eqp1, c1, c2, ne_spec, purK_some, resK_some, boolK_some, condK_true, condK_false, wantV_tt, wantV_tf, wantV_ft, wantV_ff, wantV_t, wantV_f, wantV_skip, Bool.not_true, Bool.not_false, gPur_true, gPur_false, gEff_true, gEff_false, gRes_true, gRes_false, pickA_true, pickA_false, extA_0, extA_1, extA_2, retK_one, retK_none, retK_two, valK_fn, valR_fn, cond_true, cond_false, bin_add, bin_sub, bin_mul, bin_eql, bin_neq, bin_lss, bin_leq, bin_gtr, bin_geq, bin_seql, bin_sneq, un_not_t, un_not_f, un_not, cvI_int, cvT_str, nilChk_ptr, nilChk_xp, addA_ptr, lenT_str, Bool.true_or, Bool.or_true, Bool.false_or, Bool.or_false, Bool.true_and, Bool.and_true, Bool.false_and, Bool.and_false, decide_true, decide_false, Int.reduceEq, Int.reduceLT, Int.reduceLE, Int.reduceNe, Int.reduceAdd, Int.reduceSub, Int.reduceMul, Int.reduceNeg, List.nil_append, List.append_nil, List.cons_append, effK_new, effK_put, effK_nothing, on_new, on_put, on_nothing, ld1_ptr, ldN_ptr, stA_one_ptr, stA_agg_ptr, ldC_cells, ldCN_cells, stC_one, stC_many, lay_all, lay_one, newCells_eq, get_new_at, get_put_at, Heap.get_new_ne, Heap.get_put_ne, szn, szp, box1, boxA_agg, List.getElem?_cons_zero, List.getElem?_cons_succ, List.drop_zero, List.drop_succ_cons, List.take_zero, List.take_succ_cons, List.set_cons_zero, List.set_cons_succ, Nat.zero_add, Nat.add_zero, Nat.reduceAdd]
theorem cc1 {y : AV} (hg : H.get l = .cells 0 54 (0, 0) false [.ptr l 0 0, y]) : evCall (cx ρ) (k + 2) 0 45 [.ptr l 0 0] H = some (.tup [], H) := by
  have hv : H.ver l = 0 := by simp [Heap.ver, hg, AObj.ver]
  rw [E45]
  simp (disch := first | ((try simp only [szn, szp, List.length_cons, List.length_nil, List.length_set, List.all_cons, List.all_nil, Bool.and_true, scal_int, sol_int, scal_bool, sol_bool, scal_str, sol_str, scal_nilp, sol_nilp, scal_ptr, sol_ptr, scal_nils, sol_nils, scal_sl, sol_sl, scal_sx, sol_sx, scal_xp, sol_xp, scal_xs, sol_xs, scal_nilm, sol_nilm, scal_mp, sol_mp, scal_nilf, sol_nilf, scal_fn, sol_fn, scal_nili, sol_nili, scal_ifc, sol_ifc]) <;> omega) | with_unfolding_all rfl) only [L45, hg, eqp2, eqp3 hv, purK_some, resK_some, boolK_some, condK_true, condK_false, wantV_tt, wantV_tf, wantV_ft, wantV_ff, wantV_t, wantV_f, wantV_skip, Bool.not_true, Bool.not_false, gPur_true, gPur_false, gEff_true, gEff_false, gRes_true, gRes_false, pickA_true, pickA_false, extA_0, extA_1, extA_2, retK_one, retK_none, retK_two, valK_fn, valR_fn, cond_true, cond_false, bin_add, bin_sub, bin_mul, bin_eql, bin_neq, bin_lss, bin_leq, bin_gtr, bin_geq, bin_seql, bin_sneq, un_not_t, un_not_f, un_not, cvI_int, cvT_str, nilChk_ptr, nilChk_xp, addA_ptr, lenT_str, Bool.true_or, Bool.or_true, Bool.false_or, Bool.or_false, Bool.true_and, Bool.and_true, Bool.false_and, Bool.and_false, decide_true, decide_false, Int.reduceEq, Int.reduceLT, Int.reduceLE, Int.reduceNe, Int.reduceAdd, Int.reduceSub, Int.reduceMul, Int.reduceNeg, List.nil_append, List.append_nil, List.cons_append, effK_new, effK_put, effK_nothing, on_new, on_put, on_nothing, ld1_ptr, ldN_ptr, stA_one_ptr, stA_agg_ptr, ldC_cells, ldCN_cells, stC_one, stC_many, lay_all, lay_one, newCells_eq, get_new_at, get_put_at, Heap.get_new_ne, Heap.get_put_ne, szn, szp, box1, boxA_agg, List.getElem?_cons_zero, List.getElem?_cons_succ, List.drop_zero, List.drop_succ_cons, List.take_zero, List.take_succ_cons, List.set_cons_zero, List.set_cons_succ, Nat.zero_add, Nat.add_zero, Nat.reduceAdd]
theorem cc_spec (h : Bu H l y a) (hk : 2 ≤ k) : Ret (fun v H' => H'.get l = .cells 0 54 (0, 0) false [.ptr l 0 0, y] ∧ Grow H' 5 1 y (brow a) ∧ H'.sz = H.sz ∧ Fr (fun t => t = l) H H') (evCall (cx ρ) k 0 45 [.ptr l 0 0] H) := by
  obtain ⟨k, rfl⟩ : ∃ q, k = q + 2 := ⟨k - 2, by omega⟩
  rcases h.top with hg | hg
  · rw [cc0 hg]
    have f : Fr (fun t => t = l) H (H.put l (.cells 0 54 (0, 0) false [.ptr l 0 0, y])) := Fr.put _ _ _ fun _ => rfl
    exact .intro ⟨Heap.get_put_same .., h.row.frame _ f fun t ht e => by subst e; exact h.ne ht, rfl, f⟩
  · rw [cc1 hg]
    exact .intro ⟨hg, h.row, rfl, Fr.refl ..⟩
theorem scal_bd {p : AV} (hp : scal p = true) (hy : scal y = true) : ([p, y]).all AV.solid = true := by
  simp only [List.all_cons, List.all_nil, scal_solid hp, scal_solid hy, Bool.and_self]
theorem GrowScal {H : Heap} {e sz : Nat} {y : AV} {els : List (List AV)} (h : Grow H e sz y els) : Go.Ev.scal y = true ∧ AV.eqv y y = true := by
  cases y <;> first | exact h.elim | exact ⟨rfl, by simp [AV.eqv]⟩
abbrev BuQ (H : Heap) (l : Nat) (y : AV) (a : List UInt8) (H' : Heap) : Prop := ∃ y', Bu H' l y' a ∧ Fr (fun t => t = l ∨ y.lies t) H H' ∧ ∀ t, y'.lies t → y.lies t ∨ H.sz ≤ t
theorem wb_spec (h : Bu H l y a) (b : UInt8) (hk : 5 ≤ k) (ha : a.length < 1000000) : Ret (fun v H' => v = .nili ∧ BuQ H l y (a ++ [b]) H') (evCall (cx ρ) k 0 22 [.ptr l 0 0, .int .u8 b.toNat] H) := by
  obtain ⟨k, rfl⟩ : ∃ q, k = q + 1 := ⟨k - 1, by omega⟩
  rw [E22]
  simp only [L22]
  refine Ret.bind (cc_spec h (by omega)) ?_
  rintro v H1 ⟨g1, r1, z1, f1⟩
  have l1 : ldC 0 1 (.cells 0 54 (0, 0) false [.ptr l 0 0, y]) = some y := by rw [ldC_cells]; rfl
  have bl : bldS H1 5 1 [.int .u8 0] 1 [(0, 1, .int .u8 b.toNat)] = some (.sl H1.sz 0 0 1 1 false, .new (.cells 0 5 (0, 0) false [.int .u8 b.toNat])) := rfl
  simp only [ld1_ptr, g1, l1, bl, effK_new, Nat.zero_add, purK_some, resK_some, boolK_some, condK_true, condK_false, wantV_tt, wantV_tf, wantV_ft, wantV_ff, wantV_t, wantV_f, wantV_skip, Bool.not_true, Bool.not_false, gPur_true, gPur_false, gEff_true, gEff_false, gRes_true, gRes_false, pickA_true, pickA_false, extA_0, extA_1, extA_2, retK_one, retK_none, retK_two, valK_fn, valR_fn, cond_true, cond_false, bin_add, bin_sub, bin_mul, bin_eql, bin_neq, bin_lss, bin_leq, bin_gtr, bin_geq, bin_seql, bin_sneq, un_not_t, un_not_f, un_not, cvI_int, cvT_str, nilChk_ptr, nilChk_xp, addA_ptr, lenT_str, Bool.true_or, Bool.or_true, Bool.false_or, Bool.or_false, Bool.true_and, Bool.and_true, Bool.false_and, Bool.and_false, decide_true, decide_false, Int.reduceEq, Int.reduceLT, Int.reduceLE, Int.reduceNe, Int.reduceAdd, Int.reduceSub, Int.reduceMul, Int.reduceNeg, List.nil_append, List.append_nil, List.cons_append]
  obtain ⟨H2, hH2⟩ : ∃ H2, H2 = H1.new (.cells 0 5 (0, 0) false [.int .u8 b.toNat]) := ⟨_, rfl⟩
  rw [← hH2]
  have f2 : Fr Nop H1 H2 := hH2 ▸ Fr.new Nop H1 _
  have z2 : H2.sz = H1.sz + 1 := by rw [hH2, szn]
  have hl := h.lt
  have g2 : H2.get l = .cells 0 54 (0, 0) false [.ptr l 0 0, y] := by rw [f2.get l (by omega) (fun q => q), g1]
  have hE : Els ρ H2 1 (.sl H1.sz 0 0 1 1 false) (brow [b]) := Els.of_cells (els := brow [b]) (e := 5) (fr := (0, 0)) (g := false) (by omega) (by rw [hH2, Heap.get_new_same]; rfl) (brow_one _)
  refine Ret.app (r1.frame Nop f2 fun _ _ q => q) hE (brow_solid _) (by simp [brow_len]; omega) (by simp [brow_len]; omega) ?_
  intro y' H3 G3 f3 hy' sc
  have g3 : H3.get l = .cells 0 54 (0, 0) false [.ptr l 0 0, y] := by rw [f3.get l (by omega) h.ne, g2]
  have sc' : ∀ o, stA 0 H3 1 (.ptr l 0 o) y' = stC l 0 o [y'] (H3.get l) := fun o => stA_one_ptr H3 l 0 o y' sc
  have st : stC l 0 1 [y'] (.cells 0 54 (0, 0) false [.ptr l 0 0, y]) = some (.tup [], .put l (.cells 0 54 (0, 0) false [.ptr l 0 0, y'])) := by rw [stC_one _ _ _ _ _ _ _ sc (show 1 < 2 by decide)]; rfl
  simp only [sc', g3, st, effK_put, Nat.zero_add, purK_some, resK_some, boolK_some, condK_true, condK_false, wantV_tt, wantV_tf, wantV_ft, wantV_ff, wantV_t, wantV_f, wantV_skip, Bool.not_true, Bool.not_false, gPur_true, gPur_false, gEff_true, gEff_false, gRes_true, gRes_false, pickA_true, pickA_false, extA_0, extA_1, extA_2, retK_one, retK_none, retK_two, valK_fn, valR_fn, cond_true, cond_false, bin_add, bin_sub, bin_mul, bin_eql, bin_neq, bin_lss, bin_leq, bin_gtr, bin_geq, bin_seql, bin_sneq, un_not_t, un_not_f, un_not, cvI_int, cvT_str, nilChk_ptr, nilChk_xp, addA_ptr, lenT_str, Bool.true_or, Bool.or_true, Bool.false_or, Bool.or_false, Bool.true_and, Bool.and_true, Bool.false_and, Bool.and_false, decide_true, decide_false, Int.reduceEq, Int.reduceLT, Int.reduceLE, Int.reduceNe, Int.reduceAdd, Int.reduceSub, Int.reduceMul, Int.reduceNeg, List.nil_append, List.append_nil, List.cons_append]
  have f4 : Fr (fun t => t = l) H3 (H3.put l (.cells 0 54 (0, 0) false [.ptr l 0 0, y'])) := Fr.put _ _ _ fun _ => rfl
  have hne' : ¬ y'.lies l := fun q => by
    rcases hy' l q with q | q
    · exact h.ne q
    · omega
  refine .intro ⟨rfl, y', ⟨Or.inr (Heap.get_put_same ..), ?_, ?_, hne'⟩, ?_, ?_⟩
  · rw [brow_app]; exact G3.frame _ f4 fun t ht e => by subst e; exact hne' ht
  · have := f3.sz; have := f4.sz; omega
  · exact (((f1.mono fun t _ q => Or.inl q).trans (f2.mono fun t _ q => q.elim)).trans (f3.mono fun t _ q => Or.inr q)).trans (f4.mono fun t _ q => Or.inl q)
  · intro t ht
    rcases hy' t ht with q | q
    · exact Or.inl q
    · exact Or.inr (by omega)
theorem ws_spec (h : Bu H l y a) (s : List UInt8) (hk : 5 ≤ k) (ha : a.length < 1000000) (hs : s.length < 1000000) : Ret (fun v H' => v = .tup [.int .i64 s.length, .nili] ∧ BuQ H l y (a ++ s) H') (evCall (cx ρ) k 0 24 [.ptr l 0 0, .str (ba s)] H) := by
  obtain ⟨k, rfl⟩ : ∃ q, k = q + 1 := ⟨k - 1, by omega⟩
  rw [E24]
  simp only [L24]
  refine Ret.bind (cc_spec h (by omega)) ?_
  rintro v H1 ⟨g1, r1, z1, f1⟩
  have l1 : ldC 0 1 (.cells 0 54 (0, 0) false [.ptr l 0 0, y]) = some y := by rw [ldC_cells]; rfl
  simp only [ld1_ptr, g1, l1, Nat.zero_add, purK_some, resK_some, boolK_some, condK_true, condK_false, wantV_tt, wantV_tf, wantV_ft, wantV_ff, wantV_t, wantV_f, wantV_skip, Bool.not_true, Bool.not_false, gPur_true, gPur_false, gEff_true, gEff_false, gRes_true, gRes_false, pickA_true, pickA_false, extA_0, extA_1, extA_2, retK_one, retK_none, retK_two, valK_fn, valR_fn, cond_true, cond_false, bin_add, bin_sub, bin_mul, bin_eql, bin_neq, bin_lss, bin_leq, bin_gtr, bin_geq, bin_seql, bin_sneq, un_not_t, un_not_f, un_not, cvI_int, cvT_str, nilChk_ptr, nilChk_xp, addA_ptr, lenT_str, Bool.true_or, Bool.or_true, Bool.false_or, Bool.or_false, Bool.true_and, Bool.and_true, Bool.false_and, Bool.and_false, decide_true, decide_false, Int.reduceEq, Int.reduceLT, Int.reduceLE, Int.reduceNe, Int.reduceAdd, Int.reduceSub, Int.reduceMul, Int.reduceNeg, List.nil_append, List.append_nil, List.cons_append]
  have hl := h.lt
  refine Ret.appS r1 (by omega) (by omega) ?_
  intro y' H3 G3 f3 hy' sc
  have g3 : H3.get l = .cells 0 54 (0, 0) false [.ptr l 0 0, y] := by rw [f3.get l (by omega) h.ne, g1]
  have sc' : ∀ o, stA 0 H3 1 (.ptr l 0 o) y' = stC l 0 o [y'] (H3.get l) := fun o => stA_one_ptr H3 l 0 o y' sc
  have st : stC l 0 1 [y'] (.cells 0 54 (0, 0) false [.ptr l 0 0, y]) = some (.tup [], .put l (.cells 0 54 (0, 0) false [.ptr l 0 0, y'])) := by rw [stC_one _ _ _ _ _ _ _ sc (show 1 < 2 by decide)]; rfl
  simp only [sc', g3, st, effK_put, Nat.zero_add, purK_some, resK_some, boolK_some, condK_true, condK_false, wantV_tt, wantV_tf, wantV_ft, wantV_ff, wantV_t, wantV_f, wantV_skip, Bool.not_true, Bool.not_false, gPur_true, gPur_false, gEff_true, gEff_false, gRes_true, gRes_false, pickA_true, pickA_false, extA_0, extA_1, extA_2, retK_one, retK_none, retK_two, valK_fn, valR_fn, cond_true, cond_false, bin_add, bin_sub, bin_mul, bin_eql, bin_neq, bin_lss, bin_leq, bin_gtr, bin_geq, bin_seql, bin_sneq, un_not_t, un_not_f, un_not, cvI_int, cvT_str, nilChk_ptr, nilChk_xp, addA_ptr, lenT_str, Bool.true_or, Bool.or_true, Bool.false_or, Bool.or_false, Bool.true_and, Bool.and_true, Bool.false_and, Bool.and_false, decide_true, decide_false, Int.reduceEq, Int.reduceLT, Int.reduceLE, Int.reduceNe, Int.reduceAdd, Int.reduceSub, Int.reduceMul, Int.reduceNeg, List.nil_append, List.append_nil, List.cons_append, ba_size, ba_inj, emp1, emp2]
  have f4 : Fr (fun t => t = l) H3 (H3.put l (.cells 0 54 (0, 0) false [.ptr l 0 0, y'])) := Fr.put _ _ _ fun _ => rfl
  have hne' : ¬ y'.lies l := fun q => by
    rcases hy' l q with q | q
    · exact h.ne q
    · omega
  refine .intro ⟨rfl, y', ⟨Or.inr (Heap.get_put_same ..), ?_, ?_, hne'⟩, ?_, ?_⟩
  · exact G3.frame _ f4 fun t ht e => by subst e; exact hne' ht
  · have := f3.sz; have := f4.sz; omega
  · exact ((f1.mono fun t _ q => Or.inl q).trans (f3.mono fun t _ q => Or.inr q)).trans (f4.mono fun t _ q => Or.inl q)
  · intro t ht
    rcases hy' t ht with q | q
    · exact Or.inl q
    · exact Or.inr (by omega)
theorem str_spec (h : Bu H l y a) (ha : a ≠ []) (hk : 1 ≤ k) (hl : a.length < 1000000) : Ret (fun v H' => v = .str (ba a) ∧ Fr (fun t => y.lies t) H H') (evCall (cx ρ) k 0 25 [.ptr l 0 0] H) := by
  obtain ⟨k, rfl⟩ : ∃ q, k = q + 1 := ⟨k - 1, by omega⟩
  have hr := h.row
  have h0 : 0 < a.length := List.length_pos_iff.2 ha
  obtain ⟨p, hg⟩ : ∃ p, H.get l = .cells 0 54 (0, 0) false [p, y] := h.top.elim (fun h => ⟨_, h⟩) (fun h => ⟨_, h⟩)
  have l1 : ldC 0 1 (.cells 0 54 (0, 0) false [p, y]) = some y := by rw [ldC_cells]; rfl
  rw [E25]
  cases y with
  | nils =>
    have : brow a = [] := hr
    exact absurd (by simpa [brow] using this) ha
  | sl t v o n c m =>
    obtain ⟨rfl, rfl, rfl, rfl, hlt, h5, g, hgt⟩ := hr
    have e1 : builtinA (cx ρ) 0 H .unsafeSliceData #[52] [.sl t v 0 (brow a).length (brow a).length true] = some (.ptr t v 0, .nothing) := by
      have q : Nat.beq (brow a).length 0 = false := by
        cases hq : Nat.beq (brow a).length 0 with
        | false => rfl
        | true => have := Nat.eq_of_beq_eq_true hq; rw [brow_len] at this; omega
      show (sliceDataA (.sl t v 0 (brow a).length (brow a).length true)).map Go.Ev.nothing = _
      simp only [sliceDataA, q, cond_false, Option.map_some]; rfl
    have hp : Tryd.prog.underlying 84 = some (.pointer 5) := by kernel_rfl
    have hc : Tryd.prog.cellsOf 5 = 1 := by kernel_rfl
    have e2 : builtinA (cx ρ) 0 H .unsafeString #[84, 3] [.ptr t v 0, .int .i64 (brow a).length] = some (.str (ba a), .put t (.cells v 5 (0, (brow a).length) g (brow a).flatten)) := by
      show (bif Nat.beq (#[84, 3] : Array Nat).size 2 then unsafeStringA (cx ρ) 0 H 84 (.ptr t v 0) (.int .i64 (brow a).length) else none) = _
      have b1 : (((brow a).length : Int) == 0) = false := by rw [brow_len]; simp; omega
      have b3 : Nat.ble (brow a).length (brow a).flatten.length = true := Nat.ble_eq_true_of_le (by rw [brow_flat, brow_len, List.length_map]; exact Nat.le_refl _)
      have b4 : (0 : Int) < ((brow a).length : Int) := by rw [brow_len]; omega
      have b5 : ((brow a).length : Int) ≤ 9223372036854775807 := by rw [brow_len]; omega
      have b6 : (brow a).flatten.take (brow a).length = a.map byteCell := by rw [brow_flat, brow_len]; exact List.take_of_length_le (by simp)
      have b7 : Nat.ble 0 t = true := Nat.ble_eq_true_of_le (by omega)
      have b8 : Nat.ble 0 (brow a).length = true := Nat.ble_eq_true_of_le (by omega)
      have b9 : (Nat.beq 2 2) = true := rfl
      show (bif Nat.beq 2 2 then unsafeStringA (cx ρ) 0 H 84 (.ptr t v 0) (.int .i64 (brow a).length) else none) = _
      have hc' : (cx ρ).P.cellsOf 5 = 1 := hc
      have hp' : (cx ρ).P.underlying 84 = some (.pointer 5) := hp
      simp only [b9, cond_true, unsafeStringA, b1, cond_false, hp', hgt, hc', b3, b4, b5, b7, b8, Int.toNat_natCast, Bool.or_true, beq_self_eq_true, Nat.beq_refl, decide_true, Bool.and_self, b6, bytesOf_map, Option.map_some, ba]
    have ey : ∀ n, AV.eqv (.int .i64 n) (.int .i64 n) = true := eqv_int .i64
    simp only [L25, ld1_ptr, hg, l1, lenS, e1, effK_nothing, agn_some, eqv_sl, ey, e2, effK_put, Nat.zero_add, purK_some, resK_some, boolK_some, condK_true, condK_false, wantV_tt, wantV_tf, wantV_ft, wantV_ff, wantV_t, wantV_f, wantV_skip, Bool.not_true, Bool.not_false, gPur_true, gPur_false, gEff_true, gEff_false, gRes_true, gRes_false, pickA_true, pickA_false, extA_0, extA_1, extA_2, retK_one, retK_none, retK_two, valK_fn, valR_fn, cond_true, cond_false, bin_add, bin_sub, bin_mul, bin_eql, bin_neq, bin_lss, bin_leq, bin_gtr, bin_geq, bin_seql, bin_sneq, un_not_t, un_not_f, un_not, cvI_int, cvT_str, nilChk_ptr, nilChk_xp, addA_ptr, lenT_str, Bool.true_or, Bool.or_true, Bool.false_or, Bool.or_false, Bool.true_and, Bool.and_true, Bool.false_and, Bool.and_false, decide_true, decide_false, Int.reduceEq, Int.reduceLT, Int.reduceLE, Int.reduceNe, Int.reduceAdd, Int.reduceSub, Int.reduceMul, Int.reduceNeg, List.nil_append, List.append_nil, List.cons_append]
    exact .intro ⟨rfl, Fr.put _ _ _ fun _ => rfl⟩
  | _ => exact hr.elim
end
end Go.Proofs.YtnkeebchblfbgaaDoor

-- part SwB
/- Quote and Unquote, walked. -/
set_option linter.unusedVariables false
set_option linter.unusedSimpArgs false
namespace Go.Proofs.YtnkeebchblfbgaaDoor
attribute [local congr] Go.Ev.cond_congr1
open Go.Ev Go.RowKit
section
variable {ρ : Addr → Option Value} {k : Nat} {H : Heap}
theorem plainB_eq (c : UInt8) : plainB c = (decide ((33 : Int) ≤ (c.toNat : Int)) && decide ((c.toNat : Int) ≤ 126) && decide ((c.toNat : Int) ≠ 37)) := by
  unfold plainB
  congr 1
  · congr 1 <;> (apply decide_eq_decide.2; omega)
  · apply decide_eq_decide.2; omega
theorem plain_spec (c : UInt8) (hk : 1 ≤ k) : evCall (cx ρ) k 0 23 [.int .u8 c.toNat] H = some (.bool (plainB c), H) := by
  obtain ⟨k, rfl⟩ : ∃ q, k = q + 1 := ⟨k - 1, by omega⟩
  rw [E23, plainB_eq]
  by_cases h1 : (33 : Int) ≤ (c.toNat : Int)
  · by_cases h2 : (c.toNat : Int) ≤ 126
    · simp only [L23, h1, h2, decide_true, Bool.true_and, purK_some, resK_some, boolK_some, condK_true, condK_false, wantV_tt, wantV_tf, wantV_ft, wantV_ff, wantV_t, wantV_f, wantV_skip, Bool.not_true, Bool.not_false, gPur_true, gPur_false, gEff_true, gEff_false, gRes_true, gRes_false, pickA_true, pickA_false, extA_0, extA_1, extA_2, retK_one, retK_none, retK_two, valK_fn, valR_fn, cond_true, cond_false, bin_add, bin_sub, bin_mul, bin_eql, bin_neq, bin_lss, bin_leq, bin_gtr, bin_geq, bin_seql, bin_sneq, un_not_t, un_not_f, un_not, cvI_int, cvT_str, nilChk_ptr, nilChk_xp, addA_ptr, lenT_str, Bool.true_or, Bool.or_true, Bool.false_or, Bool.or_false, Bool.true_and, Bool.and_true, Bool.false_and, Bool.and_false, decide_true, decide_false, Int.reduceEq, Int.reduceLT, Int.reduceLE, Int.reduceNe, Int.reduceAdd, Int.reduceSub, Int.reduceMul, Int.reduceNeg, List.nil_append, List.append_nil, List.cons_append]
    · simp only [L23, h1, h2, decide_true, decide_false, Bool.true_and, Bool.false_and, purK_some, resK_some, boolK_some, condK_true, condK_false, wantV_tt, wantV_tf, wantV_ft, wantV_ff, wantV_t, wantV_f, wantV_skip, Bool.not_true, Bool.not_false, gPur_true, gPur_false, gEff_true, gEff_false, gRes_true, gRes_false, pickA_true, pickA_false, extA_0, extA_1, extA_2, retK_one, retK_none, retK_two, valK_fn, valR_fn, cond_true, cond_false, bin_add, bin_sub, bin_mul, bin_eql, bin_neq, bin_lss, bin_leq, bin_gtr, bin_geq, bin_seql, bin_sneq, un_not_t, un_not_f, un_not, cvI_int, cvT_str, nilChk_ptr, nilChk_xp, addA_ptr, lenT_str, Bool.true_or, Bool.or_true, Bool.false_or, Bool.or_false, Bool.true_and, Bool.and_true, Bool.false_and, Bool.and_false, decide_true, decide_false, Int.reduceEq, Int.reduceLT, Int.reduceLE, Int.reduceNe, Int.reduceAdd, Int.reduceSub, Int.reduceMul, Int.reduceNeg, List.nil_append, List.append_nil, List.cons_append]
  · simp only [L23, h1, decide_false, Bool.false_and, purK_some, resK_some, boolK_some, condK_true, condK_false, wantV_tt, wantV_tf, wantV_ft, wantV_ff, wantV_t, wantV_f, wantV_skip, Bool.not_true, Bool.not_false, gPur_true, gPur_false, gEff_true, gEff_false, gRes_true, gRes_false, pickA_true, pickA_false, extA_0, extA_1, extA_2, retK_one, retK_none, retK_two, valK_fn, valR_fn, cond_true, cond_false, bin_add, bin_sub, bin_mul, bin_eql, bin_neq, bin_lss, bin_leq, bin_gtr, bin_geq, bin_seql, bin_sneq, un_not_t, un_not_f, un_not, cvI_int, cvT_str, nilChk_ptr, nilChk_xp, addA_ptr, lenT_str, Bool.true_or, Bool.or_true, Bool.false_or, Bool.or_false, Bool.true_and, Bool.and_true, Bool.false_and, Bool.and_false, decide_true, decide_false, Int.reduceEq, Int.reduceLT, Int.reduceLE, Int.reduceNe, Int.reduceAdd, Int.reduceSub, Int.reduceMul, Int.reduceNeg, List.nil_append, List.append_nil, List.cons_append]
theorem rplain_spec (c : UInt8) (hk : 1 ≤ k) : evCall (cx ρ) k 0 28 [.int .u8 c.toNat] H = some (.bool (plainB c), H) := by
  obtain ⟨k, rfl⟩ : ∃ q, k = q + 1 := ⟨k - 1, by omega⟩
  rw [E28, plainB_eq]
  by_cases h1 : (33 : Int) ≤ (c.toNat : Int)
  · have h1' : (32 : Int) < (c.toNat : Int) := by omega
    by_cases h2 : (c.toNat : Int) ≤ 126
    · have h2' : (c.toNat : Int) < 127 := by omega
      simp only [L28, h1, h2, h1', h2', decide_true, Bool.true_and, purK_some, resK_some, boolK_some, condK_true, condK_false, wantV_tt, wantV_tf, wantV_ft, wantV_ff, wantV_t, wantV_f, wantV_skip, Bool.not_true, Bool.not_false, gPur_true, gPur_false, gEff_true, gEff_false, gRes_true, gRes_false, pickA_true, pickA_false, extA_0, extA_1, extA_2, retK_one, retK_none, retK_two, valK_fn, valR_fn, cond_true, cond_false, bin_add, bin_sub, bin_mul, bin_eql, bin_neq, bin_lss, bin_leq, bin_gtr, bin_geq, bin_seql, bin_sneq, un_not_t, un_not_f, un_not, cvI_int, cvT_str, nilChk_ptr, nilChk_xp, addA_ptr, lenT_str, Bool.true_or, Bool.or_true, Bool.false_or, Bool.or_false, Bool.true_and, Bool.and_true, Bool.false_and, Bool.and_false, decide_true, decide_false, Int.reduceEq, Int.reduceLT, Int.reduceLE, Int.reduceNe, Int.reduceAdd, Int.reduceSub, Int.reduceMul, Int.reduceNeg, List.nil_append, List.append_nil, List.cons_append]
    · have h2' : ¬ (c.toNat : Int) < 127 := by omega
      simp only [L28, h1, h2, h1', h2', decide_true, decide_false, Bool.true_and, Bool.false_and, purK_some, resK_some, boolK_some, condK_true, condK_false, wantV_tt, wantV_tf, wantV_ft, wantV_ff, wantV_t, wantV_f, wantV_skip, Bool.not_true, Bool.not_false, gPur_true, gPur_false, gEff_true, gEff_false, gRes_true, gRes_false, pickA_true, pickA_false, extA_0, extA_1, extA_2, retK_one, retK_none, retK_two, valK_fn, valR_fn, cond_true, cond_false, bin_add, bin_sub, bin_mul, bin_eql, bin_neq, bin_lss, bin_leq, bin_gtr, bin_geq, bin_seql, bin_sneq, un_not_t, un_not_f, un_not, cvI_int, cvT_str, nilChk_ptr, nilChk_xp, addA_ptr, lenT_str, Bool.true_or, Bool.or_true, Bool.false_or, Bool.or_false, Bool.true_and, Bool.and_true, Bool.false_and, Bool.and_false, decide_true, decide_false, Int.reduceEq, Int.reduceLT, Int.reduceLE, Int.reduceNe, Int.reduceAdd, Int.reduceSub, Int.reduceMul, Int.reduceNeg, List.nil_append, List.append_nil, List.cons_append]
  · have h1' : ¬ (32 : Int) < (c.toNat : Int) := by omega
    simp only [L28, h1, h1', decide_false, Bool.false_and, purK_some, resK_some, boolK_some, condK_true, condK_false, wantV_tt, wantV_tf, wantV_ft, wantV_ff, wantV_t, wantV_f, wantV_skip, Bool.not_true, Bool.not_false, gPur_true, gPur_false, gEff_true, gEff_false, gRes_true, gRes_false, pickA_true, pickA_false, extA_0, extA_1, extA_2, retK_one, retK_none, retK_two, valK_fn, valR_fn, cond_true, cond_false, bin_add, bin_sub, bin_mul, bin_eql, bin_neq, bin_lss, bin_leq, bin_gtr, bin_geq, bin_seql, bin_sneq, un_not_t, un_not_f, un_not, cvI_int, cvT_str, nilChk_ptr, nilChk_xp, addA_ptr, lenT_str, Bool.true_or, Bool.or_true, Bool.false_or, Bool.or_false, Bool.true_and, Bool.and_true, Bool.false_and, Bool.and_false, decide_true, decide_false, Int.reduceEq, Int.reduceLT, Int.reduceLE, Int.reduceNe, Int.reduceAdd, Int.reduceSub, Int.reduceMul, Int.reduceNeg, List.nil_append, List.append_nil, List.cons_append]
theorem wk8 (n : Nat) (h : n < 256) : wrapK .u8 (n : Int) = n := by
  rw [u8n, UInt8.toNat_ofNat']; omega
theorem dig_nat (n : Nat) (h : n < 16) : (dig n).toNat = if n < 10 then 48 + n else 55 + n := by
  unfold dig
  rw [UInt8.toNat_ofNat']
  split <;> omega
theorem digit_spec (n : Nat) (h : n < 16) (hk : 1 ≤ k) : evCall (cx ρ) k 0 30 [.int .u8 n] H = some (byteCell (dig n), H) := by
  obtain ⟨k, rfl⟩ : ∃ q, k = q + 1 := ⟨k - 1, by omega⟩
  rw [E30, byteCell, dig_nat n h]
  by_cases h1 : n < 10
  · have h1' : (n : Int) < 10 := by omega
    have e : wrapK .u8 (48 + (n : Int)) = ((48 + n : Nat) : Int) := (congrArg (wrapK .u8) (by omega)).trans (wk8 (48 + n) (by omega))
    rw [if_pos h1]
    simp only [L30, h1', e, purK_some, resK_some, boolK_some, condK_true, condK_false, wantV_tt, wantV_tf, wantV_ft, wantV_ff, wantV_t, wantV_f, wantV_skip, Bool.not_true, Bool.not_false, gPur_true, gPur_false, gEff_true, gEff_false, gRes_true, gRes_false, pickA_true, pickA_false, extA_0, extA_1, extA_2, retK_one, retK_none, retK_two, valK_fn, valR_fn, cond_true, cond_false, bin_add, bin_sub, bin_mul, bin_eql, bin_neq, bin_lss, bin_leq, bin_gtr, bin_geq, bin_seql, bin_sneq, un_not_t, un_not_f, un_not, cvI_int, cvT_str, nilChk_ptr, nilChk_xp, addA_ptr, lenT_str, Bool.true_or, Bool.or_true, Bool.false_or, Bool.or_false, Bool.true_and, Bool.and_true, Bool.false_and, Bool.and_false, decide_true, decide_false, Int.reduceEq, Int.reduceLT, Int.reduceLE, Int.reduceNe, Int.reduceAdd, Int.reduceSub, Int.reduceMul, Int.reduceNeg, List.nil_append, List.append_nil, List.cons_append]
  · have h1' : ¬ (n : Int) < 10 := by omega
    have e : wrapK .u8 (55 + (n : Int)) = ((55 + n : Nat) : Int) := (congrArg (wrapK .u8) (by omega)).trans (wk8 (55 + n) (by omega))
    rw [if_neg h1]
    simp only [L30, h1', e, purK_some, resK_some, boolK_some, condK_true, condK_false, wantV_tt, wantV_tf, wantV_ft, wantV_ff, wantV_t, wantV_f, wantV_skip, Bool.not_true, Bool.not_false, gPur_true, gPur_false, gEff_true, gEff_false, gRes_true, gRes_false, pickA_true, pickA_false, extA_0, extA_1, extA_2, retK_one, retK_none, retK_two, valK_fn, valR_fn, cond_true, cond_false, bin_add, bin_sub, bin_mul, bin_eql, bin_neq, bin_lss, bin_leq, bin_gtr, bin_geq, bin_seql, bin_sneq, un_not_t, un_not_f, un_not, cvI_int, cvT_str, nilChk_ptr, nilChk_xp, addA_ptr, lenT_str, Bool.true_or, Bool.or_true, Bool.false_or, Bool.or_false, Bool.true_and, Bool.and_true, Bool.false_and, Bool.and_false, decide_true, decide_false, Int.reduceEq, Int.reduceLT, Int.reduceLE, Int.reduceNe, Int.reduceAdd, Int.reduceSub, Int.reduceMul, Int.reduceNeg, List.nil_append, List.append_nil, List.cons_append]
def worthI (c : UInt8) (m : Int) : Int := match worth c with | some x => (x : Int) | none => m
theorem worth_spec (c : UInt8) (hk : 1 ≤ k) : evCall (cx ρ) k 0 29 [.int .u8 c.toNat] H = some (.int .i64 (worthI c 99), H) := by
  obtain ⟨k, rfl⟩ : ∃ q, k = q + 1 := ⟨k - 1, by omega⟩
  rw [E29]
  have hc := c.toNat_lt
  have w0 : wrapK .i64 (c.toNat : Int) = c.toNat := wrap_nat _ (by omega)
  unfold worthI worth
  by_cases h1 : (48 : Int) ≤ (c.toNat : Int)
  · by_cases h2 : (c.toNat : Int) ≤ 57
    · have e : wrapK .i64 ((c.toNat : Int) - 48) = ((c.toNat - 48 : Nat) : Int) := (congrArg (wrapK .i64) (by omega)).trans (wrap_nat (c.toNat - 48) (by omega))
      rw [if_pos (by omega)]
      simp only [L29, h1, h2, cvI_int, w0, e, purK_some, resK_some, boolK_some, condK_true, condK_false, wantV_tt, wantV_tf, wantV_ft, wantV_ff, wantV_t, wantV_f, wantV_skip, Bool.not_true, Bool.not_false, gPur_true, gPur_false, gEff_true, gEff_false, gRes_true, gRes_false, pickA_true, pickA_false, extA_0, extA_1, extA_2, retK_one, retK_none, retK_two, valK_fn, valR_fn, cond_true, cond_false, bin_add, bin_sub, bin_mul, bin_eql, bin_neq, bin_lss, bin_leq, bin_gtr, bin_geq, bin_seql, bin_sneq, un_not_t, un_not_f, un_not, cvI_int, cvT_str, nilChk_ptr, nilChk_xp, addA_ptr, lenT_str, Bool.true_or, Bool.or_true, Bool.false_or, Bool.or_false, Bool.true_and, Bool.and_true, Bool.false_and, Bool.and_false, decide_true, decide_false, Int.reduceEq, Int.reduceLT, Int.reduceLE, Int.reduceNe, Int.reduceAdd, Int.reduceSub, Int.reduceMul, Int.reduceNeg, List.nil_append, List.append_nil, List.cons_append]
    · by_cases h3 : (65 : Int) ≤ (c.toNat : Int)
      · by_cases h4 : (c.toNat : Int) ≤ 70
        · have e : wrapK .i64 ((c.toNat : Int) - 55) = ((c.toNat - 55 : Nat) : Int) := (congrArg (wrapK .i64) (by omega)).trans (wrap_nat (c.toNat - 55) (by omega))
          rw [if_neg (by omega), if_pos (by omega)]
          simp only [L29, h1, h2, h3, h4, cvI_int, w0, e, purK_some, resK_some, boolK_some, condK_true, condK_false, wantV_tt, wantV_tf, wantV_ft, wantV_ff, wantV_t, wantV_f, wantV_skip, Bool.not_true, Bool.not_false, gPur_true, gPur_false, gEff_true, gEff_false, gRes_true, gRes_false, pickA_true, pickA_false, extA_0, extA_1, extA_2, retK_one, retK_none, retK_two, valK_fn, valR_fn, cond_true, cond_false, bin_add, bin_sub, bin_mul, bin_eql, bin_neq, bin_lss, bin_leq, bin_gtr, bin_geq, bin_seql, bin_sneq, un_not_t, un_not_f, un_not, cvI_int, cvT_str, nilChk_ptr, nilChk_xp, addA_ptr, lenT_str, Bool.true_or, Bool.or_true, Bool.false_or, Bool.or_false, Bool.true_and, Bool.and_true, Bool.false_and, Bool.and_false, decide_true, decide_false, Int.reduceEq, Int.reduceLT, Int.reduceLE, Int.reduceNe, Int.reduceAdd, Int.reduceSub, Int.reduceMul, Int.reduceNeg, List.nil_append, List.append_nil, List.cons_append]
        · rw [if_neg (by omega), if_neg (by omega)]
          simp only [L29, h1, h2, h3, h4, purK_some, resK_some, boolK_some, condK_true, condK_false, wantV_tt, wantV_tf, wantV_ft, wantV_ff, wantV_t, wantV_f, wantV_skip, Bool.not_true, Bool.not_false, gPur_true, gPur_false, gEff_true, gEff_false, gRes_true, gRes_false, pickA_true, pickA_false, extA_0, extA_1, extA_2, retK_one, retK_none, retK_two, valK_fn, valR_fn, cond_true, cond_false, bin_add, bin_sub, bin_mul, bin_eql, bin_neq, bin_lss, bin_leq, bin_gtr, bin_geq, bin_seql, bin_sneq, un_not_t, un_not_f, un_not, cvI_int, cvT_str, nilChk_ptr, nilChk_xp, addA_ptr, lenT_str, Bool.true_or, Bool.or_true, Bool.false_or, Bool.or_false, Bool.true_and, Bool.and_true, Bool.false_and, Bool.and_false, decide_true, decide_false, Int.reduceEq, Int.reduceLT, Int.reduceLE, Int.reduceNe, Int.reduceAdd, Int.reduceSub, Int.reduceMul, Int.reduceNeg, List.nil_append, List.append_nil, List.cons_append]
      · rw [if_neg (by omega), if_neg (by omega)]
        simp only [L29, h1, h2, h3, purK_some, resK_some, boolK_some, condK_true, condK_false, wantV_tt, wantV_tf, wantV_ft, wantV_ff, wantV_t, wantV_f, wantV_skip, Bool.not_true, Bool.not_false, gPur_true, gPur_false, gEff_true, gEff_false, gRes_true, gRes_false, pickA_true, pickA_false, extA_0, extA_1, extA_2, retK_one, retK_none, retK_two, valK_fn, valR_fn, cond_true, cond_false, bin_add, bin_sub, bin_mul, bin_eql, bin_neq, bin_lss, bin_leq, bin_gtr, bin_geq, bin_seql, bin_sneq, un_not_t, un_not_f, un_not, cvI_int, cvT_str, nilChk_ptr, nilChk_xp, addA_ptr, lenT_str, Bool.true_or, Bool.or_true, Bool.false_or, Bool.or_false, Bool.true_and, Bool.and_true, Bool.false_and, Bool.and_false, decide_true, decide_false, Int.reduceEq, Int.reduceLT, Int.reduceLE, Int.reduceNe, Int.reduceAdd, Int.reduceSub, Int.reduceMul, Int.reduceNeg, List.nil_append, List.append_nil, List.cons_append]
  · have h3 : ¬ (65 : Int) ≤ (c.toNat : Int) := by omega
    rw [if_neg (by omega), if_neg (by omega)]
    simp only [L29, h1, h3, purK_some, resK_some, boolK_some, condK_true, condK_false, wantV_tt, wantV_tf, wantV_ft, wantV_ff, wantV_t, wantV_f, wantV_skip, Bool.not_true, Bool.not_false, gPur_true, gPur_false, gEff_true, gEff_false, gRes_true, gRes_false, pickA_true, pickA_false, extA_0, extA_1, extA_2, retK_one, retK_none, retK_two, valK_fn, valR_fn, cond_true, cond_false, bin_add, bin_sub, bin_mul, bin_eql, bin_neq, bin_lss, bin_leq, bin_gtr, bin_geq, bin_seql, bin_sneq, un_not_t, un_not_f, un_not, cvI_int, cvT_str, nilChk_ptr, nilChk_xp, addA_ptr, lenT_str, Bool.true_or, Bool.or_true, Bool.false_or, Bool.or_false, Bool.true_and, Bool.and_true, Bool.false_and, Bool.and_false, decide_true, decide_false, Int.reduceEq, Int.reduceLT, Int.reduceLE, Int.reduceNe, Int.reduceAdd, Int.reduceSub, Int.reduceMul, Int.reduceNeg, List.nil_append, List.append_nil, List.cons_append]
def hexs : List UInt8 := [48, 49, 50, 51, 52, 53, 54, 55, 56, 57, 65, 66, 67, 68, 69, 70]
theorem hexs_eq : ByteArray.mk #[48, 49, 50, 51, 52, 53, 54, 55, 56, 57, 65, 66, 67, 68, 69, 70] = ba hexs := rfl
theorem idx_worth (c : UInt8) : idxF hexs c 0 = worthI c (-1) :=
  byte_all (P := fun c => idxF hexs c 0 = worthI c (-1)) (by decide +kernel) c
theorem ib_spec (c : UInt8) (hk : 3 ≤ k) : evCall (cx ρ) k 0 27 [.str (ByteArray.mk #[48, 49, 50, 51, 52, 53, 54, 55, 56, 57, 65, 66, 67, 68, 69, 70]), .int .u8 c.toNat] H = some (.int .i64 (worthI c (-1)), H) := by
  obtain ⟨k, rfl⟩ : ∃ q, k = q + 3 := ⟨k - 3, by omega⟩
  have e3 : evCall (cx ρ) (k + 1) 0 58 [.str (ByteArray.mk #[48, 49, 50, 51, 52, 53, 54, 55, 56, 57, 65, 66, 67, 68, 69, 70]), .int .u8 c.toNat] H = some (.int .i64 (idxF hexs (c.toNat : Int).toNat.toUInt8 0), H) := by kernel_rfl
  have e4 : (c.toNat : Int).toNat.toUInt8 = c := by simp
  rw [e4, idx_worth] at e3
  rw [E27]
  simp only [L27, E47, L47, e3, purK_some, resK_some, boolK_some, condK_true, condK_false, wantV_tt, wantV_tf, wantV_ft, wantV_ff, wantV_t, wantV_f, wantV_skip, Bool.not_true, Bool.not_false, gPur_true, gPur_false, gEff_true, gEff_false, gRes_true, gRes_false, pickA_true, pickA_false, extA_0, extA_1, extA_2, retK_one, retK_none, retK_two, valK_fn, valR_fn, cond_true, cond_false, bin_add, bin_sub, bin_mul, bin_eql, bin_neq, bin_lss, bin_leq, bin_gtr, bin_geq, bin_seql, bin_sneq, un_not_t, un_not_f, un_not, cvI_int, cvT_str, nilChk_ptr, nilChk_xp, addA_ptr, lenT_str, Bool.true_or, Bool.or_true, Bool.false_or, Bool.or_false, Bool.true_and, Bool.and_true, Bool.false_and, Bool.and_false, decide_true, decide_false, Int.reduceEq, Int.reduceLT, Int.reduceLE, Int.reduceNe, Int.reduceAdd, Int.reduceSub, Int.reduceMul, Int.reduceNeg, List.nil_append, List.append_nil, List.cons_append]
-- digits
theorem shr_q (c : UInt8) : binA Tryd.prog H .shr 5 (.int .u8 c.toNat) (.int .u64 4) = some (.int .u8 ((c.toNat / 16 : Nat) : Int)) := by
  have : (c.toNat : Int).fdiv (2 ^ min (4 : Int).toNat IntKind.u8.bits) = ((c.toNat / 16 : Nat) : Int) := by
    rw [Int.fdiv_eq_ediv_of_nonneg _ (by decide)]; rfl
  have h := bin_shr (P := Tryd.prog) (H := H) (t := 5) (k := .u8) (a := (c.toNat : Int)) (b := 4) .u64 (by decide)
  rw [this] at h
  exact h
theorem inc_q (n : Nat) (h : n < 16) : binA Tryd.prog H .add 5 (.int .u8 n) (.int .u8 1) = some (.int .u8 ((n + 1 : Nat) : Int)) := by
  rw [bin_add, ← wk8 (n + 1) (by omega)]; rfl
theorem and_q (c : UInt8) : binA Tryd.prog H .and 5 (.int .u8 c.toNat) (.int .u8 15) = some (.int .u8 ((c.toNat % 16 : Nat) : Int)) := by
  rw [bin_and]
  rw [byte_all (P := fun c => Go.bits .and .u8 (c.toNat : Int) 15 = ((c.toNat % 16 : Nat) : Int)) (by decide +kernel) c]
theorem hex_cut (n : Nat) (h : n < 16) : slT (.str (ByteArray.mk #[48, 49, 50, 51, 52, 53, 54, 55, 56, 57, 65, 66, 67, 68, 69, 70])) (some (.int .u8 n)) (some (.int .u8 ((n + 1 : Nat) : Int))) = some (.str (ba [dig n])) := by
  rw [hexs_eq, slT_ba hexs n (n + 1) (by omega) (by show n + 1 ≤ 16; omega)]
  have : ∀ m : Fin 16, (hexs.drop m.val).take (m.val + 1 - m.val) = [dig m.val] := by decide +kernel
  rw [this ⟨n, h⟩]
end
end Go.Proofs.YtnkeebchblfbgaaDoor

-- part SwW
/- Awake: run in the kernel, over the two tables of words. -/
set_option linter.unusedVariables false
set_option linter.unusedSimpArgs false
namespace Go.Proofs.YtnkeebchblfbgaaDoor
open Go.Ev Go.RowKit
def stepsL : List Value := [.string ⟨#[]⟩, .string ⟨#[97, 115, 107]⟩, .string ⟨#[109, 111, 118, 101]⟩, .string ⟨#[114, 101, 115, 117, 109, 101]⟩, .string ⟨#[100, 111]⟩, .string ⟨#[114, 101, 97, 100, 111, 110, 108, 121]⟩, .string ⟨#[104, 101, 97, 100]⟩, .string ⟨#[102, 108, 117, 115, 104]⟩, .string ⟨#[115, 97, 118, 101]⟩, .string ⟨#[99, 114, 97, 115, 104]⟩, .string ⟨#[115, 116, 97, 114, 116]⟩]
def opsL : List Value := [.string ⟨#[]⟩, .string ⟨#[114, 101, 97, 100]⟩, .string ⟨#[112, 117, 116]⟩, .string ⟨#[97, 100, 100]⟩, .string ⟨#[100, 101, 108]⟩]
/-- The two tables, where they lie. -/
def ρW (a : Addr) : Option Value := match a.spot with
  | none => bif Nat.beq a.block 0 then stepsL[a.off]? else bif Nat.beq a.block 1 then opsL[a.off]? else none
  | some _ => none
def finT : Res → Bool
  | some (.bool true, _) => true
  | _ => false
theorem of_finT {r : Res} (h : finT r = true) : ∃ H, r = some (.bool true, H) := by
  rcases r with _ | ⟨v, H⟩
  · cases h
  · cases v with
    | bool b => cases b with
      | true => exact ⟨H, rfl⟩
      | false => cases h
    | _ => cases h
set_option maxRecDepth 1000000 in
theorem awake_fin : finT (fast ρW 20000 0 6 [] Heap.nil) = true := by kernel_rfl
theorem awake_run : ∃ H, evCall (cx ρW) 20000 0 6 [] Heap.nil = some (.bool true, H) := by
  have h := awake_fin
  rw [fast_eq] at h
  exact of_finT h
end Go.Proofs.YtnkeebchblfbgaaDoor

-- part SwC
/- Quote, walked: the program's and the reference's. -/
set_option linter.unusedVariables false
set_option linter.unusedSimpArgs false
namespace Go.Proofs.YtnkeebchblfbgaaDoor
attribute [local congr] Go.Ev.cond_congr1
open Go.Ev Go.RowKit
theorem qb_len (c : UInt8) : (qb c).length ≤ 3 := by unfold qb; split <;> simp
theorem fm_len : ∀ s : List UInt8, (s.flatMap qb).length ≤ 3 * s.length
  | [] => by simp
  | c :: s => by
    have := fm_len s
    have := qb_len c
    rw [List.flatMap_cons, List.length_append, List.length_cons]; omega
theorem fm_step (s : List UInt8) (i : Nat) (h : i < s.length) : (s.take (i + 1)).flatMap qb = (s.take i).flatMap qb ++ qb s[i] := by
  rw [List.take_succ_eq_append_getElem h, List.flatMap_append]
  simp
theorem s37 : ByteArray.mk #[37] = ba [37] := rfl
section
variable {ρ : Addr → Option Value} {k : Nat} {H : Heap}
theorem quote_spec (s : List UInt8) (hs : s.length ≤ 10000) (hk : s.length + 20 ≤ k) : Ret (fun v H' => v = .str (ba (quoteL s))) (evCall (cx ρ) k 0 10 [.str (ba s)] H) := by
  obtain ⟨k, rfl⟩ : ∃ q, k = q + 1 := ⟨k - 1, by omega⟩
  rw [E10]
  simp only [L10]
  refine (St.start Nop H).newP fun l H1 s1 hz f1 => ?_
  have b0 : Bu H1 l .nils [] := ⟨Or.inl (s1.at 0 rfl), Grow.nils .., s1.lt' 0 rfl, fun q => q⟩
  refine Ret.bind (wb_spec b0 61 (by omega) (by simp)) ?_
  rintro v H2 ⟨rfl, y, b2, f2, o2⟩
  simp only [N10_2, N10_3, lenT_ba, purK_some, resK_some, boolK_some, condK_true, condK_false, wantV_tt, wantV_tf, wantV_ft, wantV_ff, wantV_t, wantV_f, wantV_skip, Bool.not_true, Bool.not_false, gPur_true, gPur_false, gEff_true, gEff_false, gRes_true, gRes_false, pickA_true, pickA_false, extA_0, extA_1, extA_2, retK_one, retK_none, retK_two, valK_fn, valR_fn, cond_true, cond_false, bin_add, bin_sub, bin_mul, bin_eql, bin_neq, bin_lss, bin_leq, bin_gtr, bin_geq, bin_seql, bin_sneq, un_not_t, un_not_f, un_not, cvI_int, cvT_str, nilChk_ptr, nilChk_xp, addA_ptr, lenT_str, Bool.true_or, Bool.or_true, Bool.false_or, Bool.or_false, Bool.true_and, Bool.and_true, Bool.false_and, Bool.and_false, decide_true, decide_false, Int.reduceEq, Int.reduceLT, Int.reduceLE, Int.reduceNe, Int.reduceAdd, Int.reduceSub, Int.reduceMul, Int.reduceNeg, List.nil_append, List.append_nil, List.cons_append, ba_size, ba_inj, emp1, emp2]
  refine Ret.loop (fun m (x : AV) H' => ∃ i : Nat, ∃ y, x = .int .i64 i ∧ m = s.length - i ∧ i ≤ s.length ∧ Bu H' l y (61 :: (s.take i).flatMap qb)) ?_ s.length k _ H2 ⟨0, y, rfl, by omega, by omega, by simpa using b2⟩ (by omega)
  rintro m x H' kn ⟨i, y, rfl, hm, hi, hB⟩ next
  have hl := fm_len (s.take i)
  rw [List.length_take] at hl
  have hl2 : (61 :: (s.take i).flatMap qb).length ≤ 30001 := by rw [List.length_cons]; omega
  by_cases h : i < s.length
  · have h' : (i : Int) < s.length := by omega
    have hp := plain_spec (ρ := ρ) (H := H') (k := k) s[i] (by omega)
    have e : ∀ y' H'', Bu H'' l y' ((61 :: (s.take i).flatMap qb) ++ qb s[i]) → Ret (fun v H' => v = .str (ba (quoteL s))) (N10_4 ρ (evCall (cx ρ) k) (evCY (cx ρ) k).2 0 k (.str (ba s)) (.ptr l 0 0) (.int .i64 s.length) (.int .i64 i) H'' kn) := by
      intro y' H'' hB'
      simp only [N10_4, wrap_succN i (by omega : i + 1 < 9223372036854775808), purK_some, resK_some, boolK_some, condK_true, condK_false, wantV_tt, wantV_tf, wantV_ft, wantV_ff, wantV_t, wantV_f, wantV_skip, Bool.not_true, Bool.not_false, gPur_true, gPur_false, gEff_true, gEff_false, gRes_true, gRes_false, pickA_true, pickA_false, extA_0, extA_1, extA_2, retK_one, retK_none, retK_two, valK_fn, valR_fn, cond_true, cond_false, bin_add, bin_sub, bin_mul, bin_eql, bin_neq, bin_lss, bin_leq, bin_gtr, bin_geq, bin_seql, bin_sneq, un_not_t, un_not_f, un_not, cvI_int, cvT_str, nilChk_ptr, nilChk_xp, addA_ptr, lenT_str, Bool.true_or, Bool.or_true, Bool.false_or, Bool.or_false, Bool.true_and, Bool.and_true, Bool.false_and, Bool.and_false, decide_true, decide_false, Int.reduceEq, Int.reduceLT, Int.reduceLE, Int.reduceNe, Int.reduceAdd, Int.reduceSub, Int.reduceMul, Int.reduceNeg, List.nil_append, List.append_nil, List.cons_append, ba_size, ba_inj, emp1, emp2]
      exact next (m - 1) _ H'' (by omega) ⟨i + 1, y', rfl, by omega, by omega, by rw [fm_step s i h]; exact hB'⟩
    cases hpl : plainB s[i] with
    | true =>
      rw [hpl] at hp
      simp only [N10_3b, h', ixT_ba _ _ _ h, hp, purK_some, resK_some, boolK_some, condK_true, condK_false, wantV_tt, wantV_tf, wantV_ft, wantV_ff, wantV_t, wantV_f, wantV_skip, Bool.not_true, Bool.not_false, gPur_true, gPur_false, gEff_true, gEff_false, gRes_true, gRes_false, pickA_true, pickA_false, extA_0, extA_1, extA_2, retK_one, retK_none, retK_two, valK_fn, valR_fn, cond_true, cond_false, bin_add, bin_sub, bin_mul, bin_eql, bin_neq, bin_lss, bin_leq, bin_gtr, bin_geq, bin_seql, bin_sneq, un_not_t, un_not_f, un_not, cvI_int, cvT_str, nilChk_ptr, nilChk_xp, addA_ptr, lenT_str, Bool.true_or, Bool.or_true, Bool.false_or, Bool.or_false, Bool.true_and, Bool.and_true, Bool.false_and, Bool.and_false, decide_true, decide_false, Int.reduceEq, Int.reduceLT, Int.reduceLE, Int.reduceNe, Int.reduceAdd, Int.reduceSub, Int.reduceMul, Int.reduceNeg, List.nil_append, List.append_nil, List.cons_append, ba_size, ba_inj, emp1, emp2]
      refine Ret.bind (wb_spec hB s[i] (by omega) (by omega)) ?_
      rintro v H3 ⟨rfl, y3, b3, f3, o3⟩
      refine e y3 H3 ?_
      have : qb s[i] = [s[i]] := by unfold qb; rw [if_pos hpl]
      rw [this]; exact b3
    | false =>
      rw [hpl] at hp
      have hlt := s[i].toNat_lt
      simp only [N10_3b, h', ixT_ba _ _ _ h, hp, shr_q, and_q, inc_q _ (show s[i].toNat / 16 < 16 by omega), inc_q _ (show s[i].toNat % 16 < 16 by omega), hex_cut _ (show s[i].toNat / 16 < 16 by omega), hex_cut _ (show s[i].toNat % 16 < 16 by omega), s37, bin_scatB _ _ _ [37] [dig (s[i].toNat / 16)] (by simp), bin_scatB _ _ _ [37, dig (s[i].toNat / 16)] [dig (s[i].toNat % 16)] (by simp), List.cons_append, List.nil_append, purK_some, resK_some, boolK_some, condK_true, condK_false, wantV_tt, wantV_tf, wantV_ft, wantV_ff, wantV_t, wantV_f, wantV_skip, Bool.not_true, Bool.not_false, gPur_true, gPur_false, gEff_true, gEff_false, gRes_true, gRes_false, pickA_true, pickA_false, extA_0, extA_1, extA_2, retK_one, retK_none, retK_two, valK_fn, valR_fn, cond_true, cond_false, bin_add, bin_sub, bin_mul, bin_eql, bin_neq, bin_lss, bin_leq, bin_gtr, bin_geq, bin_seql, bin_sneq, un_not_t, un_not_f, un_not, cvI_int, cvT_str, nilChk_ptr, nilChk_xp, addA_ptr, lenT_str, Bool.true_or, Bool.or_true, Bool.false_or, Bool.or_false, Bool.true_and, Bool.and_true, Bool.false_and, Bool.and_false, decide_true, decide_false, Int.reduceEq, Int.reduceLT, Int.reduceLE, Int.reduceNe, Int.reduceAdd, Int.reduceSub, Int.reduceMul, Int.reduceNeg, List.nil_append, List.append_nil, List.cons_append, ba_size, ba_inj, emp1, emp2]
      refine Ret.bind (ws_spec hB [37, dig (s[i].toNat / 16), dig (s[i].toNat % 16)] (by omega) (by omega) (by show 3 < 1000000; omega)) ?_
      rintro v H3 ⟨rfl, y3, b3, f3, o3⟩
      refine e y3 H3 ?_
      have : qb s[i] = [37, dig (s[i].toNat / 16), dig (s[i].toNat % 16)] := by unfold qb; rw [if_neg (by simp [hpl])]
      rw [this]; exact b3
  · have h' : ¬ (i : Int) < s.length := by omega
    obtain rfl : i = s.length := by omega
    rw [List.take_length] at hB
    simp only [N10_3b, N10_1, h', purK_some, resK_some, boolK_some, condK_true, condK_false, wantV_tt, wantV_tf, wantV_ft, wantV_ff, wantV_t, wantV_f, wantV_skip, Bool.not_true, Bool.not_false, gPur_true, gPur_false, gEff_true, gEff_false, gRes_true, gRes_false, pickA_true, pickA_false, extA_0, extA_1, extA_2, retK_one, retK_none, retK_two, valK_fn, valR_fn, cond_true, cond_false, bin_add, bin_sub, bin_mul, bin_eql, bin_neq, bin_lss, bin_leq, bin_gtr, bin_geq, bin_seql, bin_sneq, un_not_t, un_not_f, un_not, cvI_int, cvT_str, nilChk_ptr, nilChk_xp, addA_ptr, lenT_str, Bool.true_or, Bool.or_true, Bool.false_or, Bool.or_false, Bool.true_and, Bool.and_true, Bool.false_and, Bool.and_false, decide_true, decide_false, Int.reduceEq, Int.reduceLT, Int.reduceLE, Int.reduceNe, Int.reduceAdd, Int.reduceSub, Int.reduceMul, Int.reduceNeg, List.nil_append, List.append_nil, List.cons_append, ba_size, ba_inj, emp1, emp2]
    refine Ret.bind (str_spec hB (by simp) (by omega) (by rw [List.length_cons] at hl2 ⊢; rw [List.take_length] at hl2; omega)) ?_
    rintro v H3 ⟨rfl, f3⟩
    exact .intro rfl
theorem rquote_spec (s : List UInt8) (hs : s.length ≤ 10000) (hk : s.length + 20 ≤ k) : Ret (fun v H' => v = .str (ba (quoteL s))) (evCall (cx ρ) k 0 13 [.str (ba s)] H) := by
  obtain ⟨k, rfl⟩ : ∃ q, k = q + 1 := ⟨k - 1, by omega⟩
  rw [E13]
  have bl : bldS H 5 1 [.int .u8 0] 1 [(0, 1, .int .u8 61)] = some (.sl H.sz 0 0 1 1 false, .new (.cells 0 5 (0, 0) false [.int .u8 61])) := rfl
  simp only [L13, N13_2, N13_3, bl]
  rw [effK_new]
  have F0 : GF (H.new (.cells 0 5 (0, 0) false [.int .u8 61])) 5 1 (.sl H.sz 0 0 1 1 false) (brow [61]) := Or.inl ⟨rfl, rfl, rfl, rfl, by rw [szn]; omega, brow_one _, (0, 0), false, Heap.get_new_same ..⟩
  generalize hH1 : H.new (.cells 0 5 (0, 0) false [.int .u8 61]) = H1 at F0 ⊢
  refine Ret.loop (fun m (x : AV × AV) H' => ∃ i : Nat, x.2 = .int .i64 i ∧ m = s.length - i ∧ i ≤ s.length ∧ GF H' 5 1 x.1 (brow (61 :: (s.take i).flatMap qb))) ?_ s.length k _ H1 ⟨0, rfl, by omega, by omega, by simpa using F0⟩ (by omega)
  rintro m ⟨x, xi⟩ H' kn ⟨i, hx, hm, hi, hB⟩ next
  simp only at hx hB
  subst hx
  have hl := fm_len (s.take i)
  rw [List.length_take] at hl
  have hl2 : (61 :: (s.take i).flatMap qb).length ≤ 30001 := by rw [List.length_cons]; omega
  by_cases h : i < s.length
  · have h' : (i : Int) < s.length := by omega
    have hp := rplain_spec (ρ := ρ) (H := H') (k := k) s[i] (by omega)
    have e : ∀ x' H'', GF H'' 5 1 x' (brow ((61 :: (s.take i).flatMap qb) ++ qb s[i])) → Ret (fun v H' => v = .str (ba (quoteL s))) (N13_4 ρ (evCall (cx ρ) k) (evCY (cx ρ) k).2 0 k (.str (ba s)) x' (.int .i64 i) H'' (fun x3 x4 H => kn (x3, x4) H)) := by
      intro x' H'' hB'
      simp only [N13_4, wrap_succN i (by omega : i + 1 < 9223372036854775808), purK_some, resK_some, boolK_some, condK_true, condK_false, wantV_tt, wantV_tf, wantV_ft, wantV_ff, wantV_t, wantV_f, wantV_skip, Bool.not_true, Bool.not_false, gPur_true, gPur_false, gEff_true, gEff_false, gRes_true, gRes_false, pickA_true, pickA_false, extA_0, extA_1, extA_2, retK_one, retK_none, retK_two, valK_fn, valR_fn, cond_true, cond_false, bin_add, bin_sub, bin_mul, bin_eql, bin_neq, bin_lss, bin_leq, bin_gtr, bin_geq, bin_seql, bin_sneq, un_not_t, un_not_f, un_not, cvI_int, cvT_str, nilChk_ptr, nilChk_xp, addA_ptr, lenT_str, Bool.true_or, Bool.or_true, Bool.false_or, Bool.or_false, Bool.true_and, Bool.and_true, Bool.false_and, Bool.and_false, decide_true, decide_false, Int.reduceEq, Int.reduceLT, Int.reduceLE, Int.reduceNe, Int.reduceAdd, Int.reduceSub, Int.reduceMul, Int.reduceNeg, List.nil_append, List.append_nil, List.cons_append, ba_size, ba_inj, emp1, emp2]
      exact next (m - 1) _ H'' (by omega) ⟨i + 1, rfl, by omega, by omega, by rw [fm_step s i h]; exact hB'⟩
    have app : ∀ (cs : List UInt8) (x0 : List AV) (n : Nat) (H1 : Heap) (K : AV → Heap → Res), cs ≠ [] → cs.length ≤ 3 → x0 = cs.map byteCell → H1.get n = .cells 0 5 (0, 0) false x0 → n < H1.sz → Fr Nop H' H1 → (∀ x' H'', GF H'' 5 1 x' (brow ((61 :: (s.take i).flatMap qb) ++ cs)) → Ret (fun v H' => v = .str (ba (quoteL s))) (K x' H'')) →
        Ret (fun v H' => v = .str (ba (quoteL s))) (effK H1 (apA ρ 0 H1 5 1 1 x (.sl n 0 0 cs.length cs.length false)) K) := by
      rintro cs x0 n H1 K hne hc rfl hg hn f2 hK
      have hE : Els ρ H1 1 (.sl n 0 0 cs.length cs.length false) (brow cs) := by
        have := Els.of_cells (ρ := ρ) (H := H1) (sz := 1) (l := n) (v := 0) (m := false) (els := brow cs) (e := 5) (fr := (0, 0)) (g := false) hn (by rw [hg, brow_flat]) (brow_one _)
        rwa [brow_len] at this
      refine Ret.appF (hB.frame Nop f2 fun _ _ q => q) hE (by simpa [brow] using hne) (brow_solid _) (by rw [brow_len, brow_len]; omega) (by rw [brow_len, brow_len]; omega) ?_
      intro x' H3 G3 f3 hy' sc
      exact hK x' H3 (by rw [brow_app]; exact Or.inr G3)
    cases hpl : plainB s[i] with
    | true =>
      rw [hpl] at hp
      have bl1 : bldS H' 5 1 [.int .u8 0] 1 [(0, 1, .int .u8 s[i].toNat)] = some (.sl H'.sz 0 0 1 1 false, .new (.cells 0 5 (0, 0) false [.int .u8 s[i].toNat])) := rfl
      simp only [N13_3b, lenT_ba, h', ixT_ba _ _ _ h, hp, bl1, effK_new, purK_some, resK_some, boolK_some, condK_true, condK_false, wantV_tt, wantV_tf, wantV_ft, wantV_ff, wantV_t, wantV_f, wantV_skip, Bool.not_true, Bool.not_false, gPur_true, gPur_false, gEff_true, gEff_false, gRes_true, gRes_false, pickA_true, pickA_false, extA_0, extA_1, extA_2, retK_one, retK_none, retK_two, valK_fn, valR_fn, cond_true, cond_false, bin_add, bin_sub, bin_mul, bin_eql, bin_neq, bin_lss, bin_leq, bin_gtr, bin_geq, bin_seql, bin_sneq, un_not_t, un_not_f, un_not, cvI_int, cvT_str, nilChk_ptr, nilChk_xp, addA_ptr, lenT_str, Bool.true_or, Bool.or_true, Bool.false_or, Bool.or_false, Bool.true_and, Bool.and_true, Bool.false_and, Bool.and_false, decide_true, decide_false, Int.reduceEq, Int.reduceLT, Int.reduceLE, Int.reduceNe, Int.reduceAdd, Int.reduceSub, Int.reduceMul, Int.reduceNeg, List.nil_append, List.append_nil, List.cons_append, ba_size, ba_inj, emp1, emp2]
      refine app [s[i]] _ _ _ _ (by simp) (by simp) rfl (Heap.get_new_same ..) (by rw [szn]; omega) (Fr.new Nop H' _) fun x' H3 G3 => e x' H3 ?_
      have : qb s[i] = [s[i]] := by unfold qb; rw [if_pos hpl]
      rw [this]; exact G3
    | false =>
      rw [hpl] at hp
      have hlt := s[i].toNat_lt
      have d1 := digit_spec (ρ := ρ) (H := H') (k := k) (s[i].toNat / 16) (by omega) (by omega)
      have d2 := digit_spec (ρ := ρ) (H := H') (k := k) (s[i].toNat % 16) (by omega) (by omega)
      have w1 : ∀ H' : Heap, binA Tryd.prog H' .quo 5 (.int .u8 s[i].toNat) (.int .u8 16) = some (.int .u8 ((s[i].toNat / 16 : Nat) : Int)) := by
        intro H'
        rw [bin_quo _ _ _ _ _ _ (by decide)]
        exact congrArg (fun z => some (AV.int .u8 z)) (wk8 (s[i].toNat / 16) (by omega))
      have w2 : ∀ H' : Heap, binA Tryd.prog H' .rem 5 (.int .u8 s[i].toNat) (.int .u8 16) = some (.int .u8 ((s[i].toNat % 16 : Nat) : Int)) := by
        intro H'
        rw [bin_rem _ _ _ _ _ _ (by decide)]; rfl
      have bl3 : bldS H' 5 1 [.int .u8 0] 3 [(0, 1, .int .u8 37), (1, 1, byteCell (dig (s[i].toNat / 16))), (2, 1, byteCell (dig (s[i].toNat % 16)))] = some (.sl H'.sz 0 0 3 3 false, .new (.cells 0 5 (0, 0) false [.int .u8 37, byteCell (dig (s[i].toNat / 16)), byteCell (dig (s[i].toNat % 16))])) := rfl
      have ey : ∀ n, AV.eqv (.int .u8 n) (.int .u8 n) = true := eqv_int .u8
      simp only [N13_3b, lenT_ba, h', ixT_ba _ _ _ h, hp, w1, w2, d1, d2, bl3, agn_some, ey, purK_some, resK_some, boolK_some, condK_true, condK_false, wantV_tt, wantV_tf, wantV_ft, wantV_ff, wantV_t, wantV_f, wantV_skip, Bool.not_true, Bool.not_false, gPur_true, gPur_false, gEff_true, gEff_false, gRes_true, gRes_false, pickA_true, pickA_false, extA_0, extA_1, extA_2, retK_one, retK_none, retK_two, valK_fn, valR_fn, cond_true, cond_false, bin_add, bin_sub, bin_mul, bin_eql, bin_neq, bin_lss, bin_leq, bin_gtr, bin_geq, bin_seql, bin_sneq, un_not_t, un_not_f, un_not, cvI_int, cvT_str, nilChk_ptr, nilChk_xp, addA_ptr, lenT_str, Bool.true_or, Bool.or_true, Bool.false_or, Bool.or_false, Bool.true_and, Bool.and_true, Bool.false_and, Bool.and_false, decide_true, decide_false, Int.reduceEq, Int.reduceLT, Int.reduceLE, Int.reduceNe, Int.reduceAdd, Int.reduceSub, Int.reduceMul, Int.reduceNeg, List.nil_append, List.append_nil, List.cons_append, ba_size, ba_inj, emp1, emp2]
      refine (St.start Nop H').mkS rfl fun n H1 s1 hz f1 => ?_
      refine app [37, dig (s[i].toNat / 16), dig (s[i].toNat % 16)] _ _ _ _ (by simp) (by simp) rfl (s1.at 0 rfl) (s1.lt' 0 rfl) f1 fun x' H3 G3 => e x' H3 ?_
      have : qb s[i] = [37, dig (s[i].toNat / 16), dig (s[i].toNat % 16)] := by unfold qb; rw [if_neg (by simp [hpl])]
      rw [this]; exact G3
  · have h' : ¬ (i : Int) < s.length := by omega
    obtain rfl : i = s.length := by omega
    rw [List.take_length] at hB
    have hb := b2s_brow (ρ := ρ) hB.toEls hB.notSx
    simp only [N13_3b, N13_1, lenT_ba, h', hb, purK_some, resK_some, boolK_some, condK_true, condK_false, wantV_tt, wantV_tf, wantV_ft, wantV_ff, wantV_t, wantV_f, wantV_skip, Bool.not_true, Bool.not_false, gPur_true, gPur_false, gEff_true, gEff_false, gRes_true, gRes_false, pickA_true, pickA_false, extA_0, extA_1, extA_2, retK_one, retK_none, retK_two, valK_fn, valR_fn, cond_true, cond_false, bin_add, bin_sub, bin_mul, bin_eql, bin_neq, bin_lss, bin_leq, bin_gtr, bin_geq, bin_seql, bin_sneq, un_not_t, un_not_f, un_not, cvI_int, cvT_str, nilChk_ptr, nilChk_xp, addA_ptr, lenT_str, Bool.true_or, Bool.or_true, Bool.false_or, Bool.or_false, Bool.true_and, Bool.and_true, Bool.false_and, Bool.and_false, decide_true, decide_false, Int.reduceEq, Int.reduceLT, Int.reduceLE, Int.reduceNe, Int.reduceAdd, Int.reduceSub, Int.reduceMul, Int.reduceNeg, List.nil_append, List.append_nil, List.cons_append, ba_size, ba_inj, emp1, emp2]
    exact .intro rfl
end
end Go.Proofs.YtnkeebchblfbgaaDoor

-- part SwD
/- Unquote, walked: the program's. -/
set_option linter.unusedVariables false
set_option linter.unusedSimpArgs false
namespace Go.Proofs.YtnkeebchblfbgaaDoor
attribute [local congr] Go.Ev.cond_congr1
open Go.Ev Go.RowKit
theorem s61 : ByteArray.mk #[61] = ba [61] := rfl
section
variable {ρ : Addr → Option Value} {k : Nat} {H : Heap}
/-- What Unquote tells of a word. -/
def uqV (o : Option (List UInt8)) : AV := match o with
  | some u => .tup [.str (ba u), .int .i64 0]
  | none => .tup [.str (ba []), .int .i64 4]
theorem cut_yes (r : List UInt8) (hk : 3 ≤ k) : evCall (cx ρ) k 0 26 [.str (ba (61 :: r)), .str (ByteArray.mk #[61])] H = some (.tup [.str (ba r), .bool true], H) := by
  obtain ⟨k, rfl⟩ : ∃ q, k = q + 3 := ⟨k - 3, by omega⟩
  have e1 : (1 : Int) ≤ ((61 :: r).length : Int) := by rw [List.length_cons]; omega
  have e2 : slT (.str (ba (61 :: r))) none (some (.int .i64 1)) = some (.str (ba [61])) := slT_hi (61 :: r) 1 (by simp) .i64
  have e3 : slT (.str (ba (61 :: r))) (some (.int .i64 1)) none = some (.str (ba r)) := slT_lo (61 :: r) 1 (by simp) .i64
  have e0 : lenT (.str (ba [61])) = some (.int .i64 1) := rfl
  have hp : evCall (cx ρ) (k + 1) 0 57 [.str (ba (61 :: r)), .str (ba [61])] H = some (.bool true, H) := by
    rw [E57]
    simp only [L57, lenT_ba (61 :: r), e0, bin_geq, e1, e2, bin_seqB, decide_true, purK_some, resK_some, boolK_some, condK_true, condK_false, wantV_tt, wantV_tf, wantV_ft, wantV_ff, wantV_t, wantV_f, wantV_skip, Bool.not_true, Bool.not_false, gPur_true, gPur_false, gEff_true, gEff_false, gRes_true, gRes_false, pickA_true, pickA_false, extA_0, extA_1, extA_2, retK_one, retK_none, retK_two, valK_fn, valR_fn, cond_true, cond_false, bin_add, bin_sub, bin_mul, bin_eql, bin_neq, bin_lss, bin_leq, bin_gtr, bin_geq, bin_seql, bin_sneq, un_not_t, un_not_f, un_not, cvI_int, cvT_str, nilChk_ptr, nilChk_xp, addA_ptr, lenT_str, Bool.true_or, Bool.or_true, Bool.false_or, Bool.or_false, Bool.true_and, Bool.and_true, Bool.false_and, Bool.and_false, decide_true, decide_false, Int.reduceEq, Int.reduceLT, Int.reduceLE, Int.reduceNe, Int.reduceAdd, Int.reduceSub, Int.reduceMul, Int.reduceNeg, List.nil_append, List.append_nil, List.cons_append]
  have hc : evCall (cx ρ) (k + 2) 0 46 [.str (ba (61 :: r)), .str (ba [61])] H = some (.tup [.str (ba r), .bool true], H) := by
    rw [E46]
    simp only [L46, hp, e0, e3, purK_some, resK_some, boolK_some, condK_true, condK_false, wantV_tt, wantV_tf, wantV_ft, wantV_ff, wantV_t, wantV_f, wantV_skip, Bool.not_true, Bool.not_false, gPur_true, gPur_false, gEff_true, gEff_false, gRes_true, gRes_false, pickA_true, pickA_false, extA_0, extA_1, extA_2, retK_one, retK_none, retK_two, valK_fn, valR_fn, cond_true, cond_false, bin_add, bin_sub, bin_mul, bin_eql, bin_neq, bin_lss, bin_leq, bin_gtr, bin_geq, bin_seql, bin_sneq, un_not_t, un_not_f, un_not, cvI_int, cvT_str, nilChk_ptr, nilChk_xp, addA_ptr, lenT_str, Bool.true_or, Bool.or_true, Bool.false_or, Bool.or_false, Bool.true_and, Bool.and_true, Bool.false_and, Bool.and_false, decide_true, decide_false, Int.reduceEq, Int.reduceLT, Int.reduceLE, Int.reduceNe, Int.reduceAdd, Int.reduceSub, Int.reduceMul, Int.reduceNeg, List.nil_append, List.append_nil, List.cons_append]
  rw [E26, s61]
  simp only [L26, hc, purK_some, resK_some, boolK_some, condK_true, condK_false, wantV_tt, wantV_tf, wantV_ft, wantV_ff, wantV_t, wantV_f, wantV_skip, Bool.not_true, Bool.not_false, gPur_true, gPur_false, gEff_true, gEff_false, gRes_true, gRes_false, pickA_true, pickA_false, extA_0, extA_1, extA_2, retK_one, retK_none, retK_two, valK_fn, valR_fn, cond_true, cond_false, bin_add, bin_sub, bin_mul, bin_eql, bin_neq, bin_lss, bin_leq, bin_gtr, bin_geq, bin_seql, bin_sneq, un_not_t, un_not_f, un_not, cvI_int, cvT_str, nilChk_ptr, nilChk_xp, addA_ptr, lenT_str, Bool.true_or, Bool.or_true, Bool.false_or, Bool.or_false, Bool.true_and, Bool.and_true, Bool.false_and, Bool.and_false, decide_true, decide_false, Int.reduceEq, Int.reduceLT, Int.reduceLE, Int.reduceNe, Int.reduceAdd, Int.reduceSub, Int.reduceMul, Int.reduceNeg, List.nil_append, List.append_nil, List.cons_append]
theorem cut_no (w : List UInt8) (hw : ∀ r, w ≠ 61 :: r) (hk : 3 ≤ k) : evCall (cx ρ) k 0 26 [.str (ba w), .str (ByteArray.mk #[61])] H = some (.tup [.str (ba w), .bool false], H) := by
  obtain ⟨k, rfl⟩ : ∃ q, k = q + 3 := ⟨k - 3, by omega⟩
  have e0 : lenT (.str (ba [61])) = some (.int .i64 1) := rfl
  have hp : evCall (cx ρ) (k + 1) 0 57 [.str (ba w), .str (ba [61])] H = some (.bool false, H) := by
    rw [E57]
    cases w with
    | nil =>
      have e1 : lenT (.str (ba [])) = some (.int .i64 0) := rfl
      simp only [L57, e1, e0, bin_geq, purK_some, resK_some, boolK_some, condK_true, condK_false, wantV_tt, wantV_tf, wantV_ft, wantV_ff, wantV_t, wantV_f, wantV_skip, Bool.not_true, Bool.not_false, gPur_true, gPur_false, gEff_true, gEff_false, gRes_true, gRes_false, pickA_true, pickA_false, extA_0, extA_1, extA_2, retK_one, retK_none, retK_two, valK_fn, valR_fn, cond_true, cond_false, bin_add, bin_sub, bin_mul, bin_eql, bin_neq, bin_lss, bin_leq, bin_gtr, bin_geq, bin_seql, bin_sneq, un_not_t, un_not_f, un_not, cvI_int, cvT_str, nilChk_ptr, nilChk_xp, addA_ptr, lenT_str, Bool.true_or, Bool.or_true, Bool.false_or, Bool.or_false, Bool.true_and, Bool.and_true, Bool.false_and, Bool.and_false, decide_true, decide_false, Int.reduceEq, Int.reduceLT, Int.reduceLE, Int.reduceNe, Int.reduceAdd, Int.reduceSub, Int.reduceMul, Int.reduceNeg, List.nil_append, List.append_nil, List.cons_append]
    | cons c r =>
      have e1 : (1 : Int) ≤ ((c :: r).length : Int) := by rw [List.length_cons]; omega
      have e2 : slT (.str (ba (c :: r))) none (some (.int .i64 1)) = some (.str (ba [c])) := slT_hi (c :: r) 1 (by simp) .i64
      have hc : decide (ba [c] = ba [(61 : UInt8)]) = false := by
        apply decide_eq_false
        intro h
        rw [ba_inj] at h
        simp only [List.cons.injEq, and_true] at h
        subst h
        exact hw r rfl
      simp only [L57, lenT_ba (c :: r), e0, bin_geq, e1, e2, bin_seqB, hc, decide_true, purK_some, resK_some, boolK_some, condK_true, condK_false, wantV_tt, wantV_tf, wantV_ft, wantV_ff, wantV_t, wantV_f, wantV_skip, Bool.not_true, Bool.not_false, gPur_true, gPur_false, gEff_true, gEff_false, gRes_true, gRes_false, pickA_true, pickA_false, extA_0, extA_1, extA_2, retK_one, retK_none, retK_two, valK_fn, valR_fn, cond_true, cond_false, bin_add, bin_sub, bin_mul, bin_eql, bin_neq, bin_lss, bin_leq, bin_gtr, bin_geq, bin_seql, bin_sneq, un_not_t, un_not_f, un_not, cvI_int, cvT_str, nilChk_ptr, nilChk_xp, addA_ptr, lenT_str, Bool.true_or, Bool.or_true, Bool.false_or, Bool.or_false, Bool.true_and, Bool.and_true, Bool.false_and, Bool.and_false, decide_true, decide_false, Int.reduceEq, Int.reduceLT, Int.reduceLE, Int.reduceNe, Int.reduceAdd, Int.reduceSub, Int.reduceMul, Int.reduceNeg, List.nil_append, List.append_nil, List.cons_append]
  have hc : evCall (cx ρ) (k + 2) 0 46 [.str (ba w), .str (ba [61])] H = some (.tup [.str (ba w), .bool false], H) := by
    rw [E46]
    simp only [L46, hp, e0, purK_some, resK_some, boolK_some, condK_true, condK_false, wantV_tt, wantV_tf, wantV_ft, wantV_ff, wantV_t, wantV_f, wantV_skip, Bool.not_true, Bool.not_false, gPur_true, gPur_false, gEff_true, gEff_false, gRes_true, gRes_false, pickA_true, pickA_false, extA_0, extA_1, extA_2, retK_one, retK_none, retK_two, valK_fn, valR_fn, cond_true, cond_false, bin_add, bin_sub, bin_mul, bin_eql, bin_neq, bin_lss, bin_leq, bin_gtr, bin_geq, bin_seql, bin_sneq, un_not_t, un_not_f, un_not, cvI_int, cvT_str, nilChk_ptr, nilChk_xp, addA_ptr, lenT_str, Bool.true_or, Bool.or_true, Bool.false_or, Bool.or_false, Bool.true_and, Bool.and_true, Bool.false_and, Bool.and_false, decide_true, decide_false, Int.reduceEq, Int.reduceLT, Int.reduceLE, Int.reduceNe, Int.reduceAdd, Int.reduceSub, Int.reduceMul, Int.reduceNeg, List.nil_append, List.append_nil, List.cons_append]
  rw [E26, s61]
  simp only [L26, hc, purK_some, resK_some, boolK_some, condK_true, condK_false, wantV_tt, wantV_tf, wantV_ft, wantV_ff, wantV_t, wantV_f, wantV_skip, Bool.not_true, Bool.not_false, gPur_true, gPur_false, gEff_true, gEff_false, gRes_true, gRes_false, pickA_true, pickA_false, extA_0, extA_1, extA_2, retK_one, retK_none, retK_two, valK_fn, valR_fn, cond_true, cond_false, bin_add, bin_sub, bin_mul, bin_eql, bin_neq, bin_lss, bin_leq, bin_gtr, bin_geq, bin_seql, bin_sneq, un_not_t, un_not_f, un_not, cvI_int, cvT_str, nilChk_ptr, nilChk_xp, addA_ptr, lenT_str, Bool.true_or, Bool.or_true, Bool.false_or, Bool.or_false, Bool.true_and, Bool.and_true, Bool.false_and, Bool.and_false, decide_true, decide_false, Int.reduceEq, Int.reduceLT, Int.reduceLE, Int.reduceNe, Int.reduceAdd, Int.reduceSub, Int.reduceMul, Int.reduceNeg, List.nil_append, List.append_nil, List.cons_append]
theorem str0_spec {l : Nat} (h : Bu H l .nils []) (hk : 1 ≤ k) : Ret (fun v H' => v = .str (ba [])) (evCall (cx ρ) k 0 25 [.ptr l 0 0] H) := by
  obtain ⟨k, rfl⟩ : ∃ q, k = q + 1 := ⟨k - 1, by omega⟩
  obtain ⟨p, hg⟩ : ∃ p, H.get l = .cells 0 54 (0, 0) false [p, .nils] := h.top.elim (fun h => ⟨_, h⟩) (fun h => ⟨_, h⟩)
  have l1 : ldC 0 1 (.cells 0 54 (0, 0) false [p, .nils]) = some .nils := by rw [ldC_cells]; rfl
  have e1 : builtinA (cx ρ) 0 H .unsafeSliceData #[52] [.nils] = some (.nilp, .nothing) := rfl
  have e2 : builtinA (cx ρ) 0 H .unsafeString #[84, 3] [.nilp, .int .i64 0] = some (.str (ba []), .nothing) := rfl
  have e3 : lenS .nils = some (.int .i64 0) := rfl
  have ey : ∀ n, AV.eqv (.int .i64 n) (.int .i64 n) = true := eqv_int .i64
  have en : AV.eqv .nils .nils = true := rfl
  rw [E25]
  simp only [L25, ld1_ptr, hg, l1, e3, e1, effK_nothing, agn_some, ey, en, e2, Nat.zero_add, purK_some, resK_some, boolK_some, condK_true, condK_false, wantV_tt, wantV_tf, wantV_ft, wantV_ff, wantV_t, wantV_f, wantV_skip, Bool.not_true, Bool.not_false, gPur_true, gPur_false, gEff_true, gEff_false, gRes_true, gRes_false, pickA_true, pickA_false, extA_0, extA_1, extA_2, retK_one, retK_none, retK_two, valK_fn, valR_fn, cond_true, cond_false, bin_add, bin_sub, bin_mul, bin_eql, bin_neq, bin_lss, bin_leq, bin_gtr, bin_geq, bin_seql, bin_sneq, un_not_t, un_not_f, un_not, cvI_int, cvT_str, nilChk_ptr, nilChk_xp, addA_ptr, lenT_str, Bool.true_or, Bool.or_true, Bool.false_or, Bool.or_false, Bool.true_and, Bool.and_true, Bool.false_and, Bool.and_false, decide_true, decide_false, Int.reduceEq, Int.reduceLT, Int.reduceLE, Int.reduceNe, Int.reduceAdd, Int.reduceSub, Int.reduceMul, Int.reduceNeg, List.nil_append, List.append_nil, List.cons_append]
  exact .intro rfl
theorem hexv (x y : Nat) (hx : x < 16) (hy : y < 16) : wrapK .u8 (Go.bits .or .i64 (wrapK .i64 ((x : Int) * 2 ^ min (4 : Int).toNat IntKind.i64.bits)) (y : Int)) = ((UInt8.ofNat (16 * x + y)).toNat : Int) := by
  have h : ∀ x y : Fin 16, wrapK .u8 (Go.bits .or .i64 (wrapK .i64 ((x.val : Int) * 2 ^ min (4 : Int).toNat IntKind.i64.bits)) (y.val : Int)) = ((UInt8.ofNat (16 * x.val + y.val)).toNat : Int) := by decide +kernel
  exact h ⟨x, hx⟩ ⟨y, hy⟩
theorem unquote_spec (w : List UInt8) (hs : w.length ≤ 10000) (hk : w.length + 20 ≤ k) : Ret (fun v H' => v = uqV (unquoteL w)) (evCall (cx ρ) k 0 11 [.str (ba w)] H) := by
  obtain ⟨k, rfl⟩ : ∃ q, k = q + 1 := ⟨k - 1, by omega⟩
  rw [E11]
  by_cases hw : ∃ r, w = 61 :: r
  · obtain ⟨r0, rfl⟩ := hw
    rw [List.length_cons] at hs hk
    have hq : unquoteL (61 :: r0) = unq r0 := by unfold unquoteL; simp
    rw [hq]
    simp only [L11, cut_yes r0 (show 3 ≤ k by omega), purK_some, resK_some, boolK_some, condK_true, condK_false, wantV_tt, wantV_tf, wantV_ft, wantV_ff, wantV_t, wantV_f, wantV_skip, Bool.not_true, Bool.not_false, gPur_true, gPur_false, gEff_true, gEff_false, gRes_true, gRes_false, pickA_true, pickA_false, extA_0, extA_1, extA_2, retK_one, retK_none, retK_two, valK_fn, valR_fn, cond_true, cond_false, bin_add, bin_sub, bin_mul, bin_eql, bin_neq, bin_lss, bin_leq, bin_gtr, bin_geq, bin_seql, bin_sneq, un_not_t, un_not_f, un_not, cvI_int, cvT_str, nilChk_ptr, nilChk_xp, addA_ptr, lenT_str, Bool.true_or, Bool.or_true, Bool.false_or, Bool.or_false, Bool.true_and, Bool.and_true, Bool.false_and, Bool.and_false, decide_true, decide_false, Int.reduceEq, Int.reduceLT, Int.reduceLE, Int.reduceNe, Int.reduceAdd, Int.reduceSub, Int.reduceMul, Int.reduceNeg, List.nil_append, List.append_nil, List.cons_append]
    refine (St.start Nop H).newP fun p H1 s1 hz f1 => ?_
    have b0 : Bu H1 p .nils [] := ⟨Or.inl (s1.at 0 rfl), Grow.nils .., s1.lt' 0 rfl, fun q => q⟩
    simp only [N11_1, N11_3]
    refine Ret.loop (fun m (x : AV) H' => ∃ l a y, x = .str (ba l) ∧ m = l.length ∧ Bu H' p y a ∧ (a = [] → y = .nils) ∧ a.length + l.length ≤ 10000 ∧ (unq l).map (a ++ ·) = unq r0) ?_ r0.length k _ H1 ⟨r0, [], .nils, rfl, rfl, b0, fun _ => rfl, by simp; omega, by simp⟩ (by omega)
    rintro m x H' kn ⟨l, a, y, rfl, hm, hB, hn, hl, hu⟩ next
    cases l with
    | nil =>
      have c0 : decide (ba [] ≠ ba []) = false := by simp
      have hu' : unq r0 = some a := by rw [← hu, unq_nil]; simp
      rw [hu']
      simp only [N11_3b, N11_2, emp1, bin_sneB, c0, purK_some, resK_some, boolK_some, condK_true, condK_false, wantV_tt, wantV_tf, wantV_ft, wantV_ff, wantV_t, wantV_f, wantV_skip, Bool.not_true, Bool.not_false, gPur_true, gPur_false, gEff_true, gEff_false, gRes_true, gRes_false, pickA_true, pickA_false, extA_0, extA_1, extA_2, retK_one, retK_none, retK_two, valK_fn, valR_fn, cond_true, cond_false, bin_add, bin_sub, bin_mul, bin_eql, bin_neq, bin_lss, bin_leq, bin_gtr, bin_geq, bin_seql, bin_sneq, un_not_t, un_not_f, un_not, cvI_int, cvT_str, nilChk_ptr, nilChk_xp, addA_ptr, lenT_str, Bool.true_or, Bool.or_true, Bool.false_or, Bool.or_false, Bool.true_and, Bool.and_true, Bool.false_and, Bool.and_false, decide_true, decide_false, Int.reduceEq, Int.reduceLT, Int.reduceLE, Int.reduceNe, Int.reduceAdd, Int.reduceSub, Int.reduceMul, Int.reduceNeg, List.nil_append, List.append_nil, List.cons_append]
      have hS : Ret (fun v H' => v = .str (ba a)) (evCall (cx ρ) k 0 25 [.ptr p 0 0] H') := by
        by_cases ha : a = []
        · obtain rfl := hn ha
          subst ha
          exact str0_spec hB (by omega)
        · exact (str_spec hB ha (by omega) (by omega)).mono fun v H' h => h.1
      refine Ret.bind hS ?_
      rintro v H2 rfl
      try simp only [purK_some, resK_some, boolK_some, condK_true, condK_false, wantV_tt, wantV_tf, wantV_ft, wantV_ff, wantV_t, wantV_f, wantV_skip, Bool.not_true, Bool.not_false, gPur_true, gPur_false, gEff_true, gEff_false, gRes_true, gRes_false, pickA_true, pickA_false, extA_0, extA_1, extA_2, retK_one, retK_none, retK_two, valK_fn, valR_fn, cond_true, cond_false, bin_add, bin_sub, bin_mul, bin_eql, bin_neq, bin_lss, bin_leq, bin_gtr, bin_geq, bin_seql, bin_sneq, un_not_t, un_not_f, un_not, cvI_int, cvT_str, nilChk_ptr, nilChk_xp, addA_ptr, lenT_str, Bool.true_or, Bool.or_true, Bool.false_or, Bool.or_false, Bool.true_and, Bool.and_true, Bool.false_and, Bool.and_false, decide_true, decide_false, Int.reduceEq, Int.reduceLT, Int.reduceLE, Int.reduceNe, Int.reduceAdd, Int.reduceSub, Int.reduceMul, Int.reduceNeg, List.nil_append, List.append_nil, List.cons_append]
      exact .intro rfl
    | cons c r =>
      rw [List.length_cons] at hl hm
      have c0 : decide (ba (c :: r) ≠ ba []) = true := by simp [ba_inj]
      have e1 : ixT (.str (ba (c :: r))) (.int .i64 0) = some (.int .u8 c.toNat) := ixT_ba (c :: r) .i64 0 (by simp)
      have e2 : slT (.str (ba (c :: r))) (some (.int .i64 1)) none = some (.str (ba r)) := slT_lo (c :: r) 1 (by simp) .i64
      have bad : unq1 (c :: r) = none → uqV none = uqV (unq r0) := fun h => by
        rw [← hu, unq_none (by simp) h]; rfl
      have good : ∀ d q y3 H3, unq1 (c :: r) = some (d, q) → q.length ≤ r.length → Bu H3 p y3 (a ++ [d]) → Ret (fun v H' => v = uqV (unq r0)) (kn (.str (ba q)) H3) := fun d q y3 H3 h hql hB3 =>
        next q.length _ H3 (by omega) ⟨q, a ++ [d], y3, rfl, rfl, hB3, fun h => (by simp at h), by rw [List.length_append, List.length_singleton]; omega, by
          rw [← hu, unq_step h, Option.map_map]
          congr 1
          funext z
          simp⟩
      by_cases hc : c = 37
      · subst hc
        have c1 : (((37 : UInt8).toNat : Int) = 37) := rfl
        match r, hl, hm, e1, e2, bad, good, c0, hu with
        | [], hl, hm, e1, e2, bad, good, c0, hu =>
          have e3 : lenT (.str (ba [])) = some (.int .i64 0) := rfl
          simp only [N11_3b, emp1, bin_sneB, c0, e1, e2, c1, bin_eql, e3, decide_true, purK_some, resK_some, boolK_some, condK_true, condK_false, wantV_tt, wantV_tf, wantV_ft, wantV_ff, wantV_t, wantV_f, wantV_skip, Bool.not_true, Bool.not_false, gPur_true, gPur_false, gEff_true, gEff_false, gRes_true, gRes_false, pickA_true, pickA_false, extA_0, extA_1, extA_2, retK_one, retK_none, retK_two, valK_fn, valR_fn, cond_true, cond_false, bin_add, bin_sub, bin_mul, bin_eql, bin_neq, bin_lss, bin_leq, bin_gtr, bin_geq, bin_seql, bin_sneq, un_not_t, un_not_f, un_not, cvI_int, cvT_str, nilChk_ptr, nilChk_xp, addA_ptr, lenT_str, Bool.true_or, Bool.or_true, Bool.false_or, Bool.or_false, Bool.true_and, Bool.and_true, Bool.false_and, Bool.and_false, decide_true, decide_false, Int.reduceEq, Int.reduceLT, Int.reduceLE, Int.reduceNe, Int.reduceAdd, Int.reduceSub, Int.reduceMul, Int.reduceNeg, List.nil_append, List.append_nil, List.cons_append]
          exact .intro (bad rfl)
        | [z], hl, hm, e1, e2, bad, good, c0, hu =>
          have e3 : lenT (.str (ba [z])) = some (.int .i64 1) := rfl
          simp only [N11_3b, emp1, bin_sneB, c0, e1, e2, c1, bin_eql, e3, decide_true, purK_some, resK_some, boolK_some, condK_true, condK_false, wantV_tt, wantV_tf, wantV_ft, wantV_ff, wantV_t, wantV_f, wantV_skip, Bool.not_true, Bool.not_false, gPur_true, gPur_false, gEff_true, gEff_false, gRes_true, gRes_false, pickA_true, pickA_false, extA_0, extA_1, extA_2, retK_one, retK_none, retK_two, valK_fn, valR_fn, cond_true, cond_false, bin_add, bin_sub, bin_mul, bin_eql, bin_neq, bin_lss, bin_leq, bin_gtr, bin_geq, bin_seql, bin_sneq, un_not_t, un_not_f, un_not, cvI_int, cvT_str, nilChk_ptr, nilChk_xp, addA_ptr, lenT_str, Bool.true_or, Bool.or_true, Bool.false_or, Bool.or_false, Bool.true_and, Bool.and_true, Bool.false_and, Bool.and_false, decide_true, decide_false, Int.reduceEq, Int.reduceLT, Int.reduceLE, Int.reduceNe, Int.reduceAdd, Int.reduceSub, Int.reduceMul, Int.reduceNeg, List.nil_append, List.append_nil, List.cons_append]
          exact .intro (bad rfl)
        | a1 :: b1 :: q, hl, hm, e1, e2, bad, good, c0, hu =>
          have e3 : ¬ ((a1 :: b1 :: q).length : Int) < 2 := by simp only [List.length_cons]; omega
          have e4 : ixT (.str (ba (a1 :: b1 :: q))) (.int .i64 0) = some (.int .u8 a1.toNat) := ixT_ba _ .i64 0 (by simp)
          have e5 : ixT (.str (ba (a1 :: b1 :: q))) (.int .i64 1) = some (.int .u8 b1.toNat) := ixT_ba _ .i64 1 (by simp)
          have e6 : slT (.str (ba (a1 :: b1 :: q))) (some (.int .i64 2)) none = some (.str (ba q)) := slT_lo _ 2 (by simp) .i64
          have i1 := ib_spec (ρ := ρ) (H := H') (k := k) a1 (by omega)
          have i2 := ib_spec (ρ := ρ) (H := H') (k := k) b1 (by omega)
          have sh : ∀ z : Int, binA Tryd.prog H' .shl 3 (.int .i64 z) (.int .u64 4) = some (.int .i64 (wrapK .i64 (z * 2 ^ min (4 : Int).toNat IntKind.i64.bits))) := fun z => bin_shl (P := Tryd.prog) (H := H') (t := 3) (k := .i64) (a := z) (b := 4) .u64 (by decide)
          simp only [N11_3b, N11_5, emp1, bin_sneB, c0, e1, e2, c1, bin_eql, lenT_ba (a1 :: b1 :: q), e3, e4, e5, e6, i1, i2, sh, bin_or, cvI_int, decide_true, purK_some, resK_some, boolK_some, condK_true, condK_false, wantV_tt, wantV_tf, wantV_ft, wantV_ff, wantV_t, wantV_f, wantV_skip, Bool.not_true, Bool.not_false, gPur_true, gPur_false, gEff_true, gEff_false, gRes_true, gRes_false, pickA_true, pickA_false, extA_0, extA_1, extA_2, retK_one, retK_none, retK_two, valK_fn, valR_fn, cond_true, cond_false, bin_add, bin_sub, bin_mul, bin_eql, bin_neq, bin_lss, bin_leq, bin_gtr, bin_geq, bin_seql, bin_sneq, un_not_t, un_not_f, un_not, cvI_int, cvT_str, nilChk_ptr, nilChk_xp, addA_ptr, lenT_str, Bool.true_or, Bool.or_true, Bool.false_or, Bool.or_false, Bool.true_and, Bool.and_true, Bool.false_and, Bool.and_false, decide_true, decide_false, Int.reduceEq, Int.reduceLT, Int.reduceLE, Int.reduceNe, Int.reduceAdd, Int.reduceSub, Int.reduceMul, Int.reduceNeg, List.nil_append, List.append_nil, List.cons_append]
          unfold worthI
          cases ha : worth a1 with
          | none =>
            have hx : hexB a1 b1 = none := by unfold hexB; rw [ha]
            simp only [bin_lss, purK_some, resK_some, boolK_some, condK_true, condK_false, wantV_tt, wantV_tf, wantV_ft, wantV_ff, wantV_t, wantV_f, wantV_skip, Bool.not_true, Bool.not_false, gPur_true, gPur_false, gEff_true, gEff_false, gRes_true, gRes_false, pickA_true, pickA_false, extA_0, extA_1, extA_2, retK_one, retK_none, retK_two, valK_fn, valR_fn, cond_true, cond_false, bin_add, bin_sub, bin_mul, bin_eql, bin_neq, bin_lss, bin_leq, bin_gtr, bin_geq, bin_seql, bin_sneq, un_not_t, un_not_f, un_not, cvI_int, cvT_str, nilChk_ptr, nilChk_xp, addA_ptr, lenT_str, Bool.true_or, Bool.or_true, Bool.false_or, Bool.or_false, Bool.true_and, Bool.and_true, Bool.false_and, Bool.and_false, decide_true, decide_false, Int.reduceEq, Int.reduceLT, Int.reduceLE, Int.reduceNe, Int.reduceAdd, Int.reduceSub, Int.reduceMul, Int.reduceNeg, List.nil_append, List.append_nil, List.cons_append]
            exact .intro (bad (by simp [unq1, hx]))
          | some x =>
            obtain ⟨hx16, _⟩ := worth_dig ha
            have nx : ¬ ((x : Int) < 0) := by omega
            cases hb : worth b1 with
            | none =>
              have hx : hexB a1 b1 = none := by unfold hexB; rw [ha, hb]
              simp only [bin_lss, nx, purK_some, resK_some, boolK_some, condK_true, condK_false, wantV_tt, wantV_tf, wantV_ft, wantV_ff, wantV_t, wantV_f, wantV_skip, Bool.not_true, Bool.not_false, gPur_true, gPur_false, gEff_true, gEff_false, gRes_true, gRes_false, pickA_true, pickA_false, extA_0, extA_1, extA_2, retK_one, retK_none, retK_two, valK_fn, valR_fn, cond_true, cond_false, bin_add, bin_sub, bin_mul, bin_eql, bin_neq, bin_lss, bin_leq, bin_gtr, bin_geq, bin_seql, bin_sneq, un_not_t, un_not_f, un_not, cvI_int, cvT_str, nilChk_ptr, nilChk_xp, addA_ptr, lenT_str, Bool.true_or, Bool.or_true, Bool.false_or, Bool.or_false, Bool.true_and, Bool.and_true, Bool.false_and, Bool.and_false, decide_true, decide_false, Int.reduceEq, Int.reduceLT, Int.reduceLE, Int.reduceNe, Int.reduceAdd, Int.reduceSub, Int.reduceMul, Int.reduceNeg, List.nil_append, List.append_nil, List.cons_append]
              exact .intro (bad (by simp [unq1, hx]))
            | some y =>
              obtain ⟨hy16, _⟩ := worth_dig hb
              have ny : ¬ ((y : Int) < 0) := by omega
              have hp := plain_spec (ρ := ρ) (H := H') (k := k) (UInt8.ofNat (16 * x + y)) (by omega)
              rw [← hexv x y hx16 hy16] at hp
              cases hpl : plainB (UInt8.ofNat (16 * x + y)) with
              | true =>
                rw [hpl] at hp
                have hx : hexB a1 b1 = none := by unfold hexB; rw [ha, hb]; simp only; rw [if_pos hpl]
                simp only [bin_lss, nx, ny, hp, purK_some, resK_some, boolK_some, condK_true, condK_false, wantV_tt, wantV_tf, wantV_ft, wantV_ff, wantV_t, wantV_f, wantV_skip, Bool.not_true, Bool.not_false, gPur_true, gPur_false, gEff_true, gEff_false, gRes_true, gRes_false, pickA_true, pickA_false, extA_0, extA_1, extA_2, retK_one, retK_none, retK_two, valK_fn, valR_fn, cond_true, cond_false, bin_add, bin_sub, bin_mul, bin_eql, bin_neq, bin_lss, bin_leq, bin_gtr, bin_geq, bin_seql, bin_sneq, un_not_t, un_not_f, un_not, cvI_int, cvT_str, nilChk_ptr, nilChk_xp, addA_ptr, lenT_str, Bool.true_or, Bool.or_true, Bool.false_or, Bool.or_false, Bool.true_and, Bool.and_true, Bool.false_and, Bool.and_false, decide_true, decide_false, Int.reduceEq, Int.reduceLT, Int.reduceLE, Int.reduceNe, Int.reduceAdd, Int.reduceSub, Int.reduceMul, Int.reduceNeg, List.nil_append, List.append_nil, List.cons_append]
                exact .intro (bad (by simp [unq1, hx]))
              | false =>
                rw [hpl] at hp
                have hx : hexB a1 b1 = some (UInt8.ofNat (16 * x + y)) := by unfold hexB; rw [ha, hb]; simp only; rw [if_neg (by rw [hpl]; decide)]
                simp only [bin_lss, nx, ny, hp, N11_4, e6, purK_some, resK_some, boolK_some, condK_true, condK_false, wantV_tt, wantV_tf, wantV_ft, wantV_ff, wantV_t, wantV_f, wantV_skip, Bool.not_true, Bool.not_false, gPur_true, gPur_false, gEff_true, gEff_false, gRes_true, gRes_false, pickA_true, pickA_false, extA_0, extA_1, extA_2, retK_one, retK_none, retK_two, valK_fn, valR_fn, cond_true, cond_false, bin_add, bin_sub, bin_mul, bin_eql, bin_neq, bin_lss, bin_leq, bin_gtr, bin_geq, bin_seql, bin_sneq, un_not_t, un_not_f, un_not, cvI_int, cvT_str, nilChk_ptr, nilChk_xp, addA_ptr, lenT_str, Bool.true_or, Bool.or_true, Bool.false_or, Bool.or_false, Bool.true_and, Bool.and_true, Bool.false_and, Bool.and_false, decide_true, decide_false, Int.reduceEq, Int.reduceLT, Int.reduceLE, Int.reduceNe, Int.reduceAdd, Int.reduceSub, Int.reduceMul, Int.reduceNeg, List.nil_append, List.append_nil, List.cons_append]
                rw [hexv x y hx16 hy16]
                refine Ret.bind (wb_spec hB (UInt8.ofNat (16 * x + y)) (by omega) (by omega)) ?_
                rintro v H3 ⟨rfl, y3, b3, f3, o3⟩
                exact good _ q y3 H3 (by simp [unq1, hx]) (by simp only [List.length_cons]; omega) b3
      · have c1 : ¬ ((c.toNat : Int) = 37) := fun h => hc (UInt8.toNat_inj.1 (show c.toNat = (37 : UInt8).toNat by have e : (37 : UInt8).toNat = 37 := rfl; omega))
        have hp := plain_spec (ρ := ρ) (H := H') (k := k) c (by omega)
        cases hpl : plainB c with
        | false =>
          rw [hpl] at hp
          simp only [N11_3b, emp1, bin_sneB, c0, e1, e2, c1, bin_eql, hp, purK_some, resK_some, boolK_some, condK_true, condK_false, wantV_tt, wantV_tf, wantV_ft, wantV_ff, wantV_t, wantV_f, wantV_skip, Bool.not_true, Bool.not_false, gPur_true, gPur_false, gEff_true, gEff_false, gRes_true, gRes_false, pickA_true, pickA_false, extA_0, extA_1, extA_2, retK_one, retK_none, retK_two, valK_fn, valR_fn, cond_true, cond_false, bin_add, bin_sub, bin_mul, bin_eql, bin_neq, bin_lss, bin_leq, bin_gtr, bin_geq, bin_seql, bin_sneq, un_not_t, un_not_f, un_not, cvI_int, cvT_str, nilChk_ptr, nilChk_xp, addA_ptr, lenT_str, Bool.true_or, Bool.or_true, Bool.false_or, Bool.or_false, Bool.true_and, Bool.and_true, Bool.false_and, Bool.and_false, decide_true, decide_false, Int.reduceEq, Int.reduceLT, Int.reduceLE, Int.reduceNe, Int.reduceAdd, Int.reduceSub, Int.reduceMul, Int.reduceNeg, List.nil_append, List.append_nil, List.cons_append]
          exact .intro (bad (by simp [unq1, hc, hpl]))
        | true =>
          rw [hpl] at hp
          simp only [N11_3b, N11_4, emp1, bin_sneB, c0, e1, e2, c1, bin_eql, hp, purK_some, resK_some, boolK_some, condK_true, condK_false, wantV_tt, wantV_tf, wantV_ft, wantV_ff, wantV_t, wantV_f, wantV_skip, Bool.not_true, Bool.not_false, gPur_true, gPur_false, gEff_true, gEff_false, gRes_true, gRes_false, pickA_true, pickA_false, extA_0, extA_1, extA_2, retK_one, retK_none, retK_two, valK_fn, valR_fn, cond_true, cond_false, bin_add, bin_sub, bin_mul, bin_eql, bin_neq, bin_lss, bin_leq, bin_gtr, bin_geq, bin_seql, bin_sneq, un_not_t, un_not_f, un_not, cvI_int, cvT_str, nilChk_ptr, nilChk_xp, addA_ptr, lenT_str, Bool.true_or, Bool.or_true, Bool.false_or, Bool.or_false, Bool.true_and, Bool.and_true, Bool.false_and, Bool.and_false, decide_true, decide_false, Int.reduceEq, Int.reduceLT, Int.reduceLE, Int.reduceNe, Int.reduceAdd, Int.reduceSub, Int.reduceMul, Int.reduceNeg, List.nil_append, List.append_nil, List.cons_append]
          refine Ret.bind (wb_spec hB c (by omega) (by omega)) ?_
          rintro v H3 ⟨rfl, y3, b3, f3, o3⟩
          exact good c r y3 H3 (by simp [unq1, hc, hpl]) (Nat.le_refl _) b3
  · have hq : unquoteL w = none := by
      unfold unquoteL
      match w, hw with
      | [], _ => rfl
      | c :: r, hw =>
        simp only
        rw [if_neg]
        rintro rfl
        exact hw ⟨r, rfl⟩
    rw [hq]
    simp only [L11, cut_no w (fun r e => hw ⟨r, e⟩) (show 3 ≤ k by omega), purK_some, resK_some, boolK_some, condK_true, condK_false, wantV_tt, wantV_tf, wantV_ft, wantV_ff, wantV_t, wantV_f, wantV_skip, Bool.not_true, Bool.not_false, gPur_true, gPur_false, gEff_true, gEff_false, gRes_true, gRes_false, pickA_true, pickA_false, extA_0, extA_1, extA_2, retK_one, retK_none, retK_two, valK_fn, valR_fn, cond_true, cond_false, bin_add, bin_sub, bin_mul, bin_eql, bin_neq, bin_lss, bin_leq, bin_gtr, bin_geq, bin_seql, bin_sneq, un_not_t, un_not_f, un_not, cvI_int, cvT_str, nilChk_ptr, nilChk_xp, addA_ptr, lenT_str, Bool.true_or, Bool.or_true, Bool.false_or, Bool.or_false, Bool.true_and, Bool.and_true, Bool.false_and, Bool.and_false, decide_true, decide_false, Int.reduceEq, Int.reduceLT, Int.reduceLE, Int.reduceNe, Int.reduceAdd, Int.reduceSub, Int.reduceMul, Int.reduceNeg, List.nil_append, List.append_nil, List.cons_append]
    exact .intro rfl
end
end Go.Proofs.YtnkeebchblfbgaaDoor

-- part SwE
/- Unquote, walked: the reference's. -/
set_option linter.unusedVariables false
set_option linter.unusedSimpArgs false
namespace Go.Proofs.YtnkeebchblfbgaaDoor
attribute [local congr] Go.Ev.cond_congr1
open Go.Ev Go.RowKit
section
variable {ρ : Addr → Option Value} {k : Nat} {H : Heap}
def ruV (o : Option (List UInt8)) : AV := match o with
  | some u => .tup [.str (ba u), .bool true]
  | none => .tup [.str (ba []), .bool false]
theorem drop_cons {l r : List UInt8} {c : UInt8} {i : Nat} (h : l.drop i = c :: r) : ∃ hi : i < l.length, l[i] = c ∧ l.drop (i + 1) = r := by
  have hi : i < l.length := by
    rcases Nat.lt_or_ge i l.length with q | q
    · exact q
    · rw [List.drop_eq_nil_of_le q] at h; cases h
  rw [List.drop_eq_getElem_cons hi] at h
  simp only [List.cons.injEq] at h
  exact ⟨hi, h.1, h.2⟩
theorem w2_spec (n : Nat) (h : n ≤ 10000) : wrapK .i64 ((n : Int) - 2) = (n : Int) - 2 := by
  simp only [wrapK]
  omega
theorem runquote_spec (w : List UInt8) (hs : w.length ≤ 10000) (hk : w.length + 20 ≤ k) : Ret (fun v H' => v = ruV (unquoteL w)) (evCall (cx ρ) k 0 12 [.str (ba w)] H) := by
  obtain ⟨k, rfl⟩ : ∃ q, k = q + 1 := ⟨k - 1, by omega⟩
  rw [E12]
  cases w with
  | nil =>
    have e1 : lenT (.str (ba [])) = some (.int .i64 0) := rfl
    simp only [L12, e1, bin_eql, decide_true, purK_some, resK_some, boolK_some, condK_true, condK_false, wantV_tt, wantV_tf, wantV_ft, wantV_ff, wantV_t, wantV_f, wantV_skip, Bool.not_true, Bool.not_false, gPur_true, gPur_false, gEff_true, gEff_false, gRes_true, gRes_false, pickA_true, pickA_false, extA_0, extA_1, extA_2, retK_one, retK_none, retK_two, valK_fn, valR_fn, cond_true, cond_false, bin_add, bin_sub, bin_mul, bin_eql, bin_neq, bin_lss, bin_leq, bin_gtr, bin_geq, bin_seql, bin_sneq, un_not_t, un_not_f, un_not, cvI_int, cvT_str, nilChk_ptr, nilChk_xp, addA_ptr, lenT_str, Bool.true_or, Bool.or_true, Bool.false_or, Bool.or_false, Bool.true_and, Bool.and_true, Bool.false_and, Bool.and_false, decide_true, decide_false, Int.reduceEq, Int.reduceLT, Int.reduceLE, Int.reduceNe, Int.reduceAdd, Int.reduceSub, Int.reduceMul, Int.reduceNeg, List.nil_append, List.append_nil, List.cons_append]
    exact .intro rfl
  | cons c0 r0 =>
    have e1 : ¬ (((c0 :: r0).length : Int) = 0) := by rw [List.length_cons]; omega
    have e2 : ixT (.str (ba (c0 :: r0))) (.int .i64 0) = some (.int .u8 c0.toNat) := ixT_ba (c0 :: r0) .i64 0 (by simp)
    by_cases hc0 : c0 = 61
    · subst hc0
      have hq : unquoteL (61 :: r0) = unq r0 := by unfold unquoteL; simp
      rw [hq]
      have c1 : (((61 : UInt8).toNat : Int) = 61) := rfl
      have bl : bldS H 5 1 [.int .u8 0] 0 [] = some (.sl H.sz 0 0 0 0 false, .new (.cells 0 5 (0, 0) false [])) := rfl
      simp only [L12, lenT_ba (61 :: r0), e1, e2, c1, bl, effK_new, ne_eq, not_true_eq_false, decide_false, purK_some, resK_some, boolK_some, condK_true, condK_false, wantV_tt, wantV_tf, wantV_ft, wantV_ff, wantV_t, wantV_f, wantV_skip, Bool.not_true, Bool.not_false, gPur_true, gPur_false, gEff_true, gEff_false, gRes_true, gRes_false, pickA_true, pickA_false, extA_0, extA_1, extA_2, retK_one, retK_none, retK_two, valK_fn, valR_fn, cond_true, cond_false, bin_add, bin_sub, bin_mul, bin_eql, bin_neq, bin_lss, bin_leq, bin_gtr, bin_geq, bin_seql, bin_sneq, un_not_t, un_not_f, un_not, cvI_int, cvT_str, nilChk_ptr, nilChk_xp, addA_ptr, lenT_str, Bool.true_or, Bool.or_true, Bool.false_or, Bool.or_false, Bool.true_and, Bool.and_true, Bool.false_and, Bool.and_false, decide_true, decide_false, Int.reduceEq, Int.reduceLT, Int.reduceLE, Int.reduceNe, Int.reduceAdd, Int.reduceSub, Int.reduceMul, Int.reduceNeg, List.nil_append, List.append_nil, List.cons_append]
      have F0 : GF (H.new (.cells 0 5 (0, 0) false [])) 5 1 (.sl H.sz 0 0 0 0 false) (brow []) := Or.inl ⟨rfl, rfl, rfl, rfl, by rw [szn]; omega, brow_one _, (0, 0), false, Heap.get_new_same ..⟩
      generalize H.new (.cells 0 5 (0, 0) false []) = H1 at F0 ⊢
      obtain ⟨w, hw⟩ : ∃ w, w = 61 :: r0 := ⟨_, rfl⟩
      have hwl : w.length = r0.length + 1 := by rw [hw, List.length_cons]
      have hd1 : w.drop 1 = r0 := by rw [hw]; rfl
      have hs' : w.length ≤ 10000 := by rw [hw]; exact hs
      have hk' : w.length + 20 ≤ k + 1 := by rw [hw]; exact hk
      rw [← hw]
      clear e1 e2 hs hk hq
      simp only [N12_2, N12_3]
      refine Ret.loop (fun m (x : AV × AV) H' => ∃ (i : Nat) (a : List UInt8), x.2 = .int .i64 i ∧ m = w.length - i ∧ 1 ≤ i ∧ i ≤ w.length ∧ a.length ≤ i ∧ GF H' 5 1 x.1 (brow a) ∧ (unq (w.drop i)).map (a ++ ·) = unq r0) ?_ (w.length - 1) k _ H1 ⟨1, [], rfl, rfl, by omega, by omega, by simp, F0, by rw [hd1]; simp⟩ (by omega)
      rintro m ⟨x, xi⟩ H' kn ⟨i, a, hx, hm, hi1, hi, hal, hB, hu⟩ next
      simp only at hx hB
      subst hx
      have lw : lenT (.str (ba w)) = some (.int .i64 w.length) := lenT_ba w
      cases hdr : w.drop i with
      | nil =>
        have hge : w.length ≤ i := by
          rcases Nat.lt_or_ge i w.length with q | q
          · rw [List.drop_eq_getElem_cons q] at hdr; cases hdr
          · exact q
        have h' : ¬ (i : Int) < w.length := by omega
        have hu' : unq r0 = some a := by rw [← hu, hdr, unq_nil]; simp
        rw [hu']
        have hb := b2s_brow (ρ := ρ) hB.toEls hB.notSx
        simp only [N12_3b, N12_1, lw, h', hb, purK_some, resK_some, boolK_some, condK_true, condK_false, wantV_tt, wantV_tf, wantV_ft, wantV_ff, wantV_t, wantV_f, wantV_skip, Bool.not_true, Bool.not_false, gPur_true, gPur_false, gEff_true, gEff_false, gRes_true, gRes_false, pickA_true, pickA_false, extA_0, extA_1, extA_2, retK_one, retK_none, retK_two, valK_fn, valR_fn, cond_true, cond_false, bin_add, bin_sub, bin_mul, bin_eql, bin_neq, bin_lss, bin_leq, bin_gtr, bin_geq, bin_seql, bin_sneq, un_not_t, un_not_f, un_not, cvI_int, cvT_str, nilChk_ptr, nilChk_xp, addA_ptr, lenT_str, Bool.true_or, Bool.or_true, Bool.false_or, Bool.or_false, Bool.true_and, Bool.and_true, Bool.false_and, Bool.and_false, decide_true, decide_false, Int.reduceEq, Int.reduceLT, Int.reduceLE, Int.reduceNe, Int.reduceAdd, Int.reduceSub, Int.reduceMul, Int.reduceNeg, List.nil_append, List.append_nil, List.cons_append]
        exact .intro rfl
      | cons c r =>
        obtain ⟨hil, hci, hdr1⟩ := drop_cons hdr
        have h' : (i : Int) < w.length := by omega
        have e3 : ixT (.str (ba w)) (.int .i64 i) = some (.int .u8 c.toNat) := by rw [ixT_ba w .i64 i hil, hci]
        rw [hdr] at hu
        have hrl : r.length + i + 1 = w.length := by
          have := congrArg List.length hdr
          rw [List.length_drop, List.length_cons] at this; omega
        have bad : unq1 (c :: r) = none → ruV none = ruV (unq r0) := fun h => by
          rw [← hu, unq_none (by simp) h]; rfl
        have good : ∀ (d : UInt8) (q : List UInt8) (j : Nat) y3 H3, unq1 (c :: r) = some (d, q) → w.drop j = q → i < j → j ≤ w.length → GF H3 5 1 y3 (brow (a ++ [d])) → Ret (fun v H' => v = ruV (unq r0)) (kn (y3, .int .i64 j) H3) := fun d q j y3 H3 h hj hij hjl hB3 =>
          next (w.length - j) _ H3 (by omega) ⟨j, a ++ [d], rfl, rfl, by omega, hjl, by rw [List.length_append, List.length_singleton]; omega, hB3, by
            rw [hj, ← hu, unq_step h, Option.map_map]
            congr 1
            funext z
            simp⟩
        have hp := rplain_spec (ρ := ρ) (H := H') (k := k) c (by omega)
        have app : ∀ (d : UInt8) (K : AV → Heap → Res), (∀ x' H'', GF H'' 5 1 x' (brow (a ++ [d])) → Ret (fun v H' => v = ruV (unq r0)) (K x' H'')) →
            Ret (fun v H' => v = ruV (unq r0)) (effK (H'.new (.cells 0 5 (0, 0) false [.int .u8 d.toNat])) (apA ρ 0 (H'.new (.cells 0 5 (0, 0) false [.int .u8 d.toNat])) 5 1 1 x (.sl H'.sz 0 0 1 1 false)) K) := by
          intro d K hK
          have f2 : Fr Nop H' (H'.new (.cells 0 5 (0, 0) false [.int .u8 d.toNat])) := Fr.new Nop H' _
          have hE : Els ρ (H'.new (.cells 0 5 (0, 0) false [.int .u8 d.toNat])) 1 (.sl H'.sz 0 0 1 1 false) (brow [d]) := Els.of_cells (els := brow [d]) (e := 5) (fr := (0, 0)) (g := false) (by rw [szn]; omega) (by rw [Heap.get_new_same]; rfl) (brow_one _)
          refine Ret.appF (hB.frame Nop f2 fun _ _ q => q) hE (by simp [brow]) (brow_solid _) (by rw [brow_len, brow_len, List.length_singleton]; omega) (by rw [brow_len, brow_len, List.length_singleton]; omega) ?_
          intro x' H3 G3 f3 hy' sc
          exact hK x' H3 (by rw [brow_app]; exact Or.inr G3)
        have bl1 : ∀ z : Int, bldS H' 5 1 [.int .u8 0] 1 [(0, 1, .int .u8 z)] = some (.sl H'.sz 0 0 1 1 false, .new (.cells 0 5 (0, 0) false [.int .u8 z])) := fun z => rfl
        cases hpl : plainB c with
        | true =>
          rw [hpl] at hp
          have hc : c ≠ 37 := plain37 c hpl
          simp only [N12_3b, N12_4, lw, h', e3, hp, bl1, effK_new, purK_some, resK_some, boolK_some, condK_true, condK_false, wantV_tt, wantV_tf, wantV_ft, wantV_ff, wantV_t, wantV_f, wantV_skip, Bool.not_true, Bool.not_false, gPur_true, gPur_false, gEff_true, gEff_false, gRes_true, gRes_false, pickA_true, pickA_false, extA_0, extA_1, extA_2, retK_one, retK_none, retK_two, valK_fn, valR_fn, cond_true, cond_false, bin_add, bin_sub, bin_mul, bin_eql, bin_neq, bin_lss, bin_leq, bin_gtr, bin_geq, bin_seql, bin_sneq, un_not_t, un_not_f, un_not, cvI_int, cvT_str, nilChk_ptr, nilChk_xp, addA_ptr, lenT_str, Bool.true_or, Bool.or_true, Bool.false_or, Bool.or_false, Bool.true_and, Bool.and_true, Bool.false_and, Bool.and_false, decide_true, decide_false, Int.reduceEq, Int.reduceLT, Int.reduceLE, Int.reduceNe, Int.reduceAdd, Int.reduceSub, Int.reduceMul, Int.reduceNeg, List.nil_append, List.append_nil, List.cons_append]
          refine app c _ fun x' H3 G3 => ?_
          simp only [N12_4, wrap_succN i (by omega : i + 1 < 9223372036854775808), purK_some, resK_some, boolK_some, condK_true, condK_false, wantV_tt, wantV_tf, wantV_ft, wantV_ff, wantV_t, wantV_f, wantV_skip, Bool.not_true, Bool.not_false, gPur_true, gPur_false, gEff_true, gEff_false, gRes_true, gRes_false, pickA_true, pickA_false, extA_0, extA_1, extA_2, retK_one, retK_none, retK_two, valK_fn, valR_fn, cond_true, cond_false, bin_add, bin_sub, bin_mul, bin_eql, bin_neq, bin_lss, bin_leq, bin_gtr, bin_geq, bin_seql, bin_sneq, un_not_t, un_not_f, un_not, cvI_int, cvT_str, nilChk_ptr, nilChk_xp, addA_ptr, lenT_str, Bool.true_or, Bool.or_true, Bool.false_or, Bool.or_false, Bool.true_and, Bool.and_true, Bool.false_and, Bool.and_false, decide_true, decide_false, Int.reduceEq, Int.reduceLT, Int.reduceLE, Int.reduceNe, Int.reduceAdd, Int.reduceSub, Int.reduceMul, Int.reduceNeg, List.nil_append, List.append_nil, List.cons_append]
          exact good c r (i + 1) x' H3 (by simp [unq1, hc, hpl]) hdr1 (by omega) (by omega) G3
        | false =>
          rw [hpl] at hp
          by_cases hc : c = 37
          · subst hc
            have c1 : (((37 : UInt8).toNat : Int) = 37) := rfl
            rw [c1] at hp
            have w2 := w2_spec w.length (by omega)
            by_cases hsh : (w.length : Int) - 2 ≤ (i : Int)
            · have hn : unq1 (37 :: r) = none := by
                match r, hrl with
                | [], _ => rfl
                | [z], _ => rfl
                | _ :: _ :: q, hrl => simp only [List.length_cons] at hrl; omega
              have e39 : decide ((i : Int) ≥ (w.length : Int) - 2) = true := by simp; omega
              simp only [N12_3b, N12_7, lw, h', e3, hp, c1, w2, hsh, bin_geq, ne_eq, not_true_eq_false, decide_false, purK_some, resK_some, boolK_some, condK_true, condK_false, wantV_tt, wantV_tf, wantV_ft, wantV_ff, wantV_t, wantV_f, wantV_skip, Bool.not_true, Bool.not_false, gPur_true, gPur_false, gEff_true, gEff_false, gRes_true, gRes_false, pickA_true, pickA_false, extA_0, extA_1, extA_2, retK_one, retK_none, retK_two, valK_fn, valR_fn, cond_true, cond_false, bin_add, bin_sub, bin_mul, bin_eql, bin_neq, bin_lss, bin_leq, bin_gtr, bin_geq, bin_seql, bin_sneq, un_not_t, un_not_f, un_not, cvI_int, cvT_str, nilChk_ptr, nilChk_xp, addA_ptr, lenT_str, Bool.true_or, Bool.or_true, Bool.false_or, Bool.or_false, Bool.true_and, Bool.and_true, Bool.false_and, Bool.and_false, decide_true, decide_false, Int.reduceEq, Int.reduceLT, Int.reduceLE, Int.reduceNe, Int.reduceAdd, Int.reduceSub, Int.reduceMul, Int.reduceNeg, List.nil_append, List.append_nil, List.cons_append]
              clear w2
              exact .intro (bad hn)
            · clear w2
              obtain ⟨a1, b1, q, rfl⟩ : ∃ a1 b1 q, r = a1 :: b1 :: q := by
                match r, hrl with
                | [], hrl => simp only [List.length_nil] at hrl; omega
                | [z], hrl => simp only [List.length_cons, List.length_nil] at hrl; omega
                | a1 :: b1 :: q, _ => exact ⟨a1, b1, q, rfl⟩
              obtain ⟨hi1', ha1, hd2⟩ := drop_cons hdr1
              obtain ⟨hi2', hb1, hd3⟩ := drop_cons hd2
              have e4 : ixT (.str (ba w)) (.int .i64 ((i + 1 : Nat) : Int)) = some (.int .u8 a1.toNat) := by rw [ixT_ba w .i64 (i + 1) hi1', ha1]
              have e5 : ixT (.str (ba w)) (.int .i64 ((i + 2 : Nat) : Int)) = some (.int .u8 b1.toNat) := by rw [ixT_ba w .i64 (i + 2) hi2', hb1]
              have g1 := fun H => worth_spec (ρ := ρ) (H := H) (k := k) a1 (by omega)
              have g2 := fun H => worth_spec (ρ := ρ) (H := H) (k := k) b1 (by omega)
              have hi3 : i + 2 < 10001 := by omega
              have hi4 : i + 3 ≤ w.length := by omega
              have wa := wrap_succN i (by omega)
              have wb : wrapK .i64 ((i : Int) + 2) = ((i + 2 : Nat) : Int) := wrap_addN i 2 (by clear wa; omega)
              have w2 := w2_spec w.length hs'
              have s15 : ∀ z : Nat, z < 16 → ¬ ((15 : Int) < (z : Int)) := fun z hz => by clear wa wb w2; omega
              have b15 : (15 : Int) < 99 := by decide
              unfold worthI at g1 g2
              cases ha : worth a1 with
              | none =>
                rw [ha] at g1
                have hx : unq1 (37 :: a1 :: b1 :: q) = none := by simp [unq1, hexB, ha]
                simp only [N12_3b, N12_7, lw, h', e3, hp, c1, w2, hsh, wa, wb, e4, e5, g1, b15, ne_eq, not_true_eq_false, decide_false, purK_some, resK_some, boolK_some, condK_true, condK_false, wantV_tt, wantV_tf, wantV_ft, wantV_ff, wantV_t, wantV_f, wantV_skip, Bool.not_true, Bool.not_false, gPur_true, gPur_false, gEff_true, gEff_false, gRes_true, gRes_false, pickA_true, pickA_false, extA_0, extA_1, extA_2, retK_one, retK_none, retK_two, valK_fn, valR_fn, cond_true, cond_false, bin_add, bin_sub, bin_mul, bin_eql, bin_neq, bin_lss, bin_leq, bin_gtr, bin_geq, bin_seql, bin_sneq, un_not_t, un_not_f, un_not, cvI_int, cvT_str, nilChk_ptr, nilChk_xp, addA_ptr, lenT_str, Bool.true_or, Bool.or_true, Bool.false_or, Bool.or_false, Bool.true_and, Bool.and_true, Bool.false_and, Bool.and_false, decide_true, decide_false, Int.reduceEq, Int.reduceLT, Int.reduceLE, Int.reduceNe, Int.reduceAdd, Int.reduceSub, Int.reduceMul, Int.reduceNeg, List.nil_append, List.append_nil, List.cons_append]
                exact .intro (bad hx)
              | some x =>
                obtain ⟨hx16, _⟩ := worth_dig ha
                rw [ha] at g1
                cases hb : worth b1 with
                | none =>
                  rw [hb] at g2
                  have hx : unq1 (37 :: a1 :: b1 :: q) = none := by
                    have : hexB a1 b1 = none := by unfold hexB; rw [ha, hb]
                    simp [unq1, this]
                  simp only [N12_3b, N12_7, lw, h', e3, hp, c1, w2, hsh, wa, wb, e4, e5, g1, g2, s15 x hx16, b15, ne_eq, not_true_eq_false, decide_false, purK_some, resK_some, boolK_some, condK_true, condK_false, wantV_tt, wantV_tf, wantV_ft, wantV_ff, wantV_t, wantV_f, wantV_skip, Bool.not_true, Bool.not_false, gPur_true, gPur_false, gEff_true, gEff_false, gRes_true, gRes_false, pickA_true, pickA_false, extA_0, extA_1, extA_2, retK_one, retK_none, retK_two, valK_fn, valR_fn, cond_true, cond_false, bin_add, bin_sub, bin_mul, bin_eql, bin_neq, bin_lss, bin_leq, bin_gtr, bin_geq, bin_seql, bin_sneq, un_not_t, un_not_f, un_not, cvI_int, cvT_str, nilChk_ptr, nilChk_xp, addA_ptr, lenT_str, Bool.true_or, Bool.or_true, Bool.false_or, Bool.or_false, Bool.true_and, Bool.and_true, Bool.false_and, Bool.and_false, decide_true, decide_false, Int.reduceEq, Int.reduceLT, Int.reduceLE, Int.reduceNe, Int.reduceAdd, Int.reduceSub, Int.reduceMul, Int.reduceNeg, List.nil_append, List.append_nil, List.cons_append]
                  exact .intro (bad hx)
                | some y =>
                  obtain ⟨hy16, _⟩ := worth_dig hb
                  rw [hb] at g2
                  have wm : wrapK .i64 ((16 : Int) * (x : Int)) = ((16 * x : Nat) : Int) := wrap_mulN 16 x (by clear wa wb w2; omega)
                  have wd : wrapK .i64 (((16 * x : Nat) : Int) + (y : Int)) = ((16 * x + y : Nat) : Int) := wrap_addN _ _ (by clear wa wb w2 wm; omega)
                  have wu : wrapK .u8 ((16 * x + y : Nat) : Int) = ((UInt8.ofNat (16 * x + y)).toNat : Int) := u8n _
                  have hp2 := fun H => rplain_spec (ρ := ρ) (H := H) (k := k) (UInt8.ofNat (16 * x + y)) (by clear wa wb w2 wm wd wu; omega)
                  have wi : wrapK .i64 (((i + 2 : Nat) : Int) + 1) = ((i + 3 : Nat) : Int) := wrap_succN (i + 2) (by clear wa wb w2 wm wd wu; omega)
                  have ey : ∀ n, AV.eqv (.int .i64 n) (.int .i64 n) = true := eqv_int .i64
                  cases hpl2 : plainB (UInt8.ofNat (16 * x + y)) with
                  | true =>
                    rw [hpl2] at hp2
                    have hx : unq1 (37 :: a1 :: b1 :: q) = none := by
                      have : hexB a1 b1 = none := by unfold hexB; rw [ha, hb]; simp only; rw [if_pos hpl2]
                      simp [unq1, this]
                    simp only [N12_3b, N12_7, lw, h', e3, hp, c1, w2, hsh, wa, wb, e4, e5, g1, g2, s15 x hx16, s15 y hy16, ne_eq, not_true_eq_false, decide_false, purK_some, resK_some, boolK_some, condK_true, condK_false, wantV_tt, wantV_tf, wantV_ft, wantV_ff, wantV_t, wantV_f, wantV_skip, Bool.not_true, Bool.not_false, gPur_true, gPur_false, gEff_true, gEff_false, gRes_true, gRes_false, pickA_true, pickA_false, extA_0, extA_1, extA_2, retK_one, retK_none, retK_two, valK_fn, valR_fn, cond_true, cond_false, bin_add, bin_sub, bin_mul, bin_eql, bin_neq, bin_lss, bin_leq, bin_gtr, bin_geq, bin_seql, bin_sneq, un_not_t, un_not_f, un_not, cvI_int, cvT_str, nilChk_ptr, nilChk_xp, addA_ptr, lenT_str, Bool.true_or, Bool.or_true, Bool.false_or, Bool.or_false, Bool.true_and, Bool.and_true, Bool.false_and, Bool.and_false, decide_true, decide_false, Int.reduceEq, Int.reduceLT, Int.reduceLE, Int.reduceNe, Int.reduceAdd, Int.reduceSub, Int.reduceMul, Int.reduceNeg, List.nil_append, List.append_nil, List.cons_append]
                    simp only [N12_5]
                    simp only [wa, wb, e4, e5, g1, g2, purK_some, resK_some, boolK_some, condK_true, condK_false, wantV_tt, wantV_tf, wantV_ft, wantV_ff, wantV_t, wantV_f, wantV_skip, Bool.not_true, Bool.not_false, gPur_true, gPur_false, gEff_true, gEff_false, gRes_true, gRes_false, pickA_true, pickA_false, extA_0, extA_1, extA_2, retK_one, retK_none, retK_two, valK_fn, valR_fn, cond_true, cond_false, bin_add, bin_sub, bin_mul, bin_eql, bin_neq, bin_lss, bin_leq, bin_gtr, bin_geq, bin_seql, bin_sneq, un_not_t, un_not_f, un_not, cvI_int, cvT_str, nilChk_ptr, nilChk_xp, addA_ptr, lenT_str, Bool.true_or, Bool.or_true, Bool.false_or, Bool.or_false, Bool.true_and, Bool.and_true, Bool.false_and, Bool.and_false, decide_true, decide_false, Int.reduceEq, Int.reduceLT, Int.reduceLE, Int.reduceNe, Int.reduceAdd, Int.reduceSub, Int.reduceMul, Int.reduceNeg, List.nil_append, List.append_nil, List.cons_append]
                    simp only [wm, wd, purK_some, resK_some, boolK_some, condK_true, condK_false, wantV_tt, wantV_tf, wantV_ft, wantV_ff, wantV_t, wantV_f, wantV_skip, Bool.not_true, Bool.not_false, gPur_true, gPur_false, gEff_true, gEff_false, gRes_true, gRes_false, pickA_true, pickA_false, extA_0, extA_1, extA_2, retK_one, retK_none, retK_two, valK_fn, valR_fn, cond_true, cond_false, bin_add, bin_sub, bin_mul, bin_eql, bin_neq, bin_lss, bin_leq, bin_gtr, bin_geq, bin_seql, bin_sneq, un_not_t, un_not_f, un_not, cvI_int, cvT_str, nilChk_ptr, nilChk_xp, addA_ptr, lenT_str, Bool.true_or, Bool.or_true, Bool.false_or, Bool.or_false, Bool.true_and, Bool.and_true, Bool.false_and, Bool.and_false, decide_true, decide_false, Int.reduceEq, Int.reduceLT, Int.reduceLE, Int.reduceNe, Int.reduceAdd, Int.reduceSub, Int.reduceMul, Int.reduceNeg, List.nil_append, List.append_nil, List.cons_append]
                    try simp only [agn_some, ey, purK_some, resK_some, boolK_some, condK_true, condK_false, wantV_tt, wantV_tf, wantV_ft, wantV_ff, wantV_t, wantV_f, wantV_skip, Bool.not_true, Bool.not_false, gPur_true, gPur_false, gEff_true, gEff_false, gRes_true, gRes_false, pickA_true, pickA_false, extA_0, extA_1, extA_2, retK_one, retK_none, retK_two, valK_fn, valR_fn, cond_true, cond_false, bin_add, bin_sub, bin_mul, bin_eql, bin_neq, bin_lss, bin_leq, bin_gtr, bin_geq, bin_seql, bin_sneq, un_not_t, un_not_f, un_not, cvI_int, cvT_str, nilChk_ptr, nilChk_xp, addA_ptr, lenT_str, Bool.true_or, Bool.or_true, Bool.false_or, Bool.or_false, Bool.true_and, Bool.and_true, Bool.false_and, Bool.and_false, decide_true, decide_false, Int.reduceEq, Int.reduceLT, Int.reduceLE, Int.reduceNe, Int.reduceAdd, Int.reduceSub, Int.reduceMul, Int.reduceNeg, List.nil_append, List.append_nil, List.cons_append]
                    try simp only [wm, wd, purK_some, resK_some, boolK_some, condK_true, condK_false, wantV_tt, wantV_tf, wantV_ft, wantV_ff, wantV_t, wantV_f, wantV_skip, Bool.not_true, Bool.not_false, gPur_true, gPur_false, gEff_true, gEff_false, gRes_true, gRes_false, pickA_true, pickA_false, extA_0, extA_1, extA_2, retK_one, retK_none, retK_two, valK_fn, valR_fn, cond_true, cond_false, bin_add, bin_sub, bin_mul, bin_eql, bin_neq, bin_lss, bin_leq, bin_gtr, bin_geq, bin_seql, bin_sneq, un_not_t, un_not_f, un_not, cvI_int, cvT_str, nilChk_ptr, nilChk_xp, addA_ptr, lenT_str, Bool.true_or, Bool.or_true, Bool.false_or, Bool.or_false, Bool.true_and, Bool.and_true, Bool.false_and, Bool.and_false, decide_true, decide_false, Int.reduceEq, Int.reduceLT, Int.reduceLE, Int.reduceNe, Int.reduceAdd, Int.reduceSub, Int.reduceMul, Int.reduceNeg, List.nil_append, List.append_nil, List.cons_append]
                    try simp only [agn_some, ey, purK_some, resK_some, boolK_some, condK_true, condK_false, wantV_tt, wantV_tf, wantV_ft, wantV_ff, wantV_t, wantV_f, wantV_skip, Bool.not_true, Bool.not_false, gPur_true, gPur_false, gEff_true, gEff_false, gRes_true, gRes_false, pickA_true, pickA_false, extA_0, extA_1, extA_2, retK_one, retK_none, retK_two, valK_fn, valR_fn, cond_true, cond_false, bin_add, bin_sub, bin_mul, bin_eql, bin_neq, bin_lss, bin_leq, bin_gtr, bin_geq, bin_seql, bin_sneq, un_not_t, un_not_f, un_not, cvI_int, cvT_str, nilChk_ptr, nilChk_xp, addA_ptr, lenT_str, Bool.true_or, Bool.or_true, Bool.false_or, Bool.or_false, Bool.true_and, Bool.and_true, Bool.false_and, Bool.and_false, decide_true, decide_false, Int.reduceEq, Int.reduceLT, Int.reduceLE, Int.reduceNe, Int.reduceAdd, Int.reduceSub, Int.reduceMul, Int.reduceNeg, List.nil_append, List.append_nil, List.cons_append]
                    try simp only [wm, wd, purK_some, resK_some, boolK_some, condK_true, condK_false, wantV_tt, wantV_tf, wantV_ft, wantV_ff, wantV_t, wantV_f, wantV_skip, Bool.not_true, Bool.not_false, gPur_true, gPur_false, gEff_true, gEff_false, gRes_true, gRes_false, pickA_true, pickA_false, extA_0, extA_1, extA_2, retK_one, retK_none, retK_two, valK_fn, valR_fn, cond_true, cond_false, bin_add, bin_sub, bin_mul, bin_eql, bin_neq, bin_lss, bin_leq, bin_gtr, bin_geq, bin_seql, bin_sneq, un_not_t, un_not_f, un_not, cvI_int, cvT_str, nilChk_ptr, nilChk_xp, addA_ptr, lenT_str, Bool.true_or, Bool.or_true, Bool.false_or, Bool.or_false, Bool.true_and, Bool.and_true, Bool.false_and, Bool.and_false, decide_true, decide_false, Int.reduceEq, Int.reduceLT, Int.reduceLE, Int.reduceNe, Int.reduceAdd, Int.reduceSub, Int.reduceMul, Int.reduceNeg, List.nil_append, List.append_nil, List.cons_append]
                    try simp only [cvI_int, wu]
                    simp only [hp2, purK_some, resK_some, boolK_some, condK_true, condK_false, wantV_tt, wantV_tf, wantV_ft, wantV_ff, wantV_t, wantV_f, wantV_skip, Bool.not_true, Bool.not_false, gPur_true, gPur_false, gEff_true, gEff_false, gRes_true, gRes_false, pickA_true, pickA_false, extA_0, extA_1, extA_2, retK_one, retK_none, retK_two, valK_fn, valR_fn, cond_true, cond_false, bin_add, bin_sub, bin_mul, bin_eql, bin_neq, bin_lss, bin_leq, bin_gtr, bin_geq, bin_seql, bin_sneq, un_not_t, un_not_f, un_not, cvI_int, cvT_str, nilChk_ptr, nilChk_xp, addA_ptr, lenT_str, Bool.true_or, Bool.or_true, Bool.false_or, Bool.or_false, Bool.true_and, Bool.and_true, Bool.false_and, Bool.and_false, decide_true, decide_false, Int.reduceEq, Int.reduceLT, Int.reduceLE, Int.reduceNe, Int.reduceAdd, Int.reduceSub, Int.reduceMul, Int.reduceNeg, List.nil_append, List.append_nil, List.cons_append]
                    exact .intro (bad hx)
                  | false =>
                    rw [hpl2] at hp2
                    have hx : unq1 (37 :: a1 :: b1 :: q) = some (UInt8.ofNat (16 * x + y), q) := by
                      have : hexB a1 b1 = some (UInt8.ofNat (16 * x + y)) := by unfold hexB; rw [ha, hb]; simp only; rw [if_neg (by rw [hpl2]; decide)]
                      simp only [unq1, this, if_true, Option.map_some]
                    simp only [N12_3b, N12_7, lw, h', e3, hp, c1, w2, hsh, wa, wb, e4, e5, g1, g2, s15 x hx16, s15 y hy16, ne_eq, not_true_eq_false, decide_false, purK_some, resK_some, boolK_some, condK_true, condK_false, wantV_tt, wantV_tf, wantV_ft, wantV_ff, wantV_t, wantV_f, wantV_skip, Bool.not_true, Bool.not_false, gPur_true, gPur_false, gEff_true, gEff_false, gRes_true, gRes_false, pickA_true, pickA_false, extA_0, extA_1, extA_2, retK_one, retK_none, retK_two, valK_fn, valR_fn, cond_true, cond_false, bin_add, bin_sub, bin_mul, bin_eql, bin_neq, bin_lss, bin_leq, bin_gtr, bin_geq, bin_seql, bin_sneq, un_not_t, un_not_f, un_not, cvI_int, cvT_str, nilChk_ptr, nilChk_xp, addA_ptr, lenT_str, Bool.true_or, Bool.or_true, Bool.false_or, Bool.or_false, Bool.true_and, Bool.and_true, Bool.false_and, Bool.and_false, decide_true, decide_false, Int.reduceEq, Int.reduceLT, Int.reduceLE, Int.reduceNe, Int.reduceAdd, Int.reduceSub, Int.reduceMul, Int.reduceNeg, List.nil_append, List.append_nil, List.cons_append]
                    simp only [N12_5]
                    simp only [wa, wb, e4, e5, g1, g2, purK_some, resK_some, boolK_some, condK_true, condK_false, wantV_tt, wantV_tf, wantV_ft, wantV_ff, wantV_t, wantV_f, wantV_skip, Bool.not_true, Bool.not_false, gPur_true, gPur_false, gEff_true, gEff_false, gRes_true, gRes_false, pickA_true, pickA_false, extA_0, extA_1, extA_2, retK_one, retK_none, retK_two, valK_fn, valR_fn, cond_true, cond_false, bin_add, bin_sub, bin_mul, bin_eql, bin_neq, bin_lss, bin_leq, bin_gtr, bin_geq, bin_seql, bin_sneq, un_not_t, un_not_f, un_not, cvI_int, cvT_str, nilChk_ptr, nilChk_xp, addA_ptr, lenT_str, Bool.true_or, Bool.or_true, Bool.false_or, Bool.or_false, Bool.true_and, Bool.and_true, Bool.false_and, Bool.and_false, decide_true, decide_false, Int.reduceEq, Int.reduceLT, Int.reduceLE, Int.reduceNe, Int.reduceAdd, Int.reduceSub, Int.reduceMul, Int.reduceNeg, List.nil_append, List.append_nil, List.cons_append]
                    simp only [wm, wd, purK_some, resK_some, boolK_some, condK_true, condK_false, wantV_tt, wantV_tf, wantV_ft, wantV_ff, wantV_t, wantV_f, wantV_skip, Bool.not_true, Bool.not_false, gPur_true, gPur_false, gEff_true, gEff_false, gRes_true, gRes_false, pickA_true, pickA_false, extA_0, extA_1, extA_2, retK_one, retK_none, retK_two, valK_fn, valR_fn, cond_true, cond_false, bin_add, bin_sub, bin_mul, bin_eql, bin_neq, bin_lss, bin_leq, bin_gtr, bin_geq, bin_seql, bin_sneq, un_not_t, un_not_f, un_not, cvI_int, cvT_str, nilChk_ptr, nilChk_xp, addA_ptr, lenT_str, Bool.true_or, Bool.or_true, Bool.false_or, Bool.or_false, Bool.true_and, Bool.and_true, Bool.false_and, Bool.and_false, decide_true, decide_false, Int.reduceEq, Int.reduceLT, Int.reduceLE, Int.reduceNe, Int.reduceAdd, Int.reduceSub, Int.reduceMul, Int.reduceNeg, List.nil_append, List.append_nil, List.cons_append]
                    try simp only [agn_some, ey, purK_some, resK_some, boolK_some, condK_true, condK_false, wantV_tt, wantV_tf, wantV_ft, wantV_ff, wantV_t, wantV_f, wantV_skip, Bool.not_true, Bool.not_false, gPur_true, gPur_false, gEff_true, gEff_false, gRes_true, gRes_false, pickA_true, pickA_false, extA_0, extA_1, extA_2, retK_one, retK_none, retK_two, valK_fn, valR_fn, cond_true, cond_false, bin_add, bin_sub, bin_mul, bin_eql, bin_neq, bin_lss, bin_leq, bin_gtr, bin_geq, bin_seql, bin_sneq, un_not_t, un_not_f, un_not, cvI_int, cvT_str, nilChk_ptr, nilChk_xp, addA_ptr, lenT_str, Bool.true_or, Bool.or_true, Bool.false_or, Bool.or_false, Bool.true_and, Bool.and_true, Bool.false_and, Bool.and_false, decide_true, decide_false, Int.reduceEq, Int.reduceLT, Int.reduceLE, Int.reduceNe, Int.reduceAdd, Int.reduceSub, Int.reduceMul, Int.reduceNeg, List.nil_append, List.append_nil, List.cons_append]
                    try simp only [wm, wd, purK_some, resK_some, boolK_some, condK_true, condK_false, wantV_tt, wantV_tf, wantV_ft, wantV_ff, wantV_t, wantV_f, wantV_skip, Bool.not_true, Bool.not_false, gPur_true, gPur_false, gEff_true, gEff_false, gRes_true, gRes_false, pickA_true, pickA_false, extA_0, extA_1, extA_2, retK_one, retK_none, retK_two, valK_fn, valR_fn, cond_true, cond_false, bin_add, bin_sub, bin_mul, bin_eql, bin_neq, bin_lss, bin_leq, bin_gtr, bin_geq, bin_seql, bin_sneq, un_not_t, un_not_f, un_not, cvI_int, cvT_str, nilChk_ptr, nilChk_xp, addA_ptr, lenT_str, Bool.true_or, Bool.or_true, Bool.false_or, Bool.or_false, Bool.true_and, Bool.and_true, Bool.false_and, Bool.and_false, decide_true, decide_false, Int.reduceEq, Int.reduceLT, Int.reduceLE, Int.reduceNe, Int.reduceAdd, Int.reduceSub, Int.reduceMul, Int.reduceNeg, List.nil_append, List.append_nil, List.cons_append]
                    try simp only [agn_some, ey, purK_some, resK_some, boolK_some, condK_true, condK_false, wantV_tt, wantV_tf, wantV_ft, wantV_ff, wantV_t, wantV_f, wantV_skip, Bool.not_true, Bool.not_false, gPur_true, gPur_false, gEff_true, gEff_false, gRes_true, gRes_false, pickA_true, pickA_false, extA_0, extA_1, extA_2, retK_one, retK_none, retK_two, valK_fn, valR_fn, cond_true, cond_false, bin_add, bin_sub, bin_mul, bin_eql, bin_neq, bin_lss, bin_leq, bin_gtr, bin_geq, bin_seql, bin_sneq, un_not_t, un_not_f, un_not, cvI_int, cvT_str, nilChk_ptr, nilChk_xp, addA_ptr, lenT_str, Bool.true_or, Bool.or_true, Bool.false_or, Bool.or_false, Bool.true_and, Bool.and_true, Bool.false_and, Bool.and_false, decide_true, decide_false, Int.reduceEq, Int.reduceLT, Int.reduceLE, Int.reduceNe, Int.reduceAdd, Int.reduceSub, Int.reduceMul, Int.reduceNeg, List.nil_append, List.append_nil, List.cons_append]
                    try simp only [wm, wd, purK_some, resK_some, boolK_some, condK_true, condK_false, wantV_tt, wantV_tf, wantV_ft, wantV_ff, wantV_t, wantV_f, wantV_skip, Bool.not_true, Bool.not_false, gPur_true, gPur_false, gEff_true, gEff_false, gRes_true, gRes_false, pickA_true, pickA_false, extA_0, extA_1, extA_2, retK_one, retK_none, retK_two, valK_fn, valR_fn, cond_true, cond_false, bin_add, bin_sub, bin_mul, bin_eql, bin_neq, bin_lss, bin_leq, bin_gtr, bin_geq, bin_seql, bin_sneq, un_not_t, un_not_f, un_not, cvI_int, cvT_str, nilChk_ptr, nilChk_xp, addA_ptr, lenT_str, Bool.true_or, Bool.or_true, Bool.false_or, Bool.or_false, Bool.true_and, Bool.and_true, Bool.false_and, Bool.and_false, decide_true, decide_false, Int.reduceEq, Int.reduceLT, Int.reduceLE, Int.reduceNe, Int.reduceAdd, Int.reduceSub, Int.reduceMul, Int.reduceNeg, List.nil_append, List.append_nil, List.cons_append]
                    try simp only [cvI_int, wu]
                    simp only [hp2, purK_some, resK_some, boolK_some, condK_true, condK_false, wantV_tt, wantV_tf, wantV_ft, wantV_ff, wantV_t, wantV_f, wantV_skip, Bool.not_true, Bool.not_false, gPur_true, gPur_false, gEff_true, gEff_false, gRes_true, gRes_false, pickA_true, pickA_false, extA_0, extA_1, extA_2, retK_one, retK_none, retK_two, valK_fn, valR_fn, cond_true, cond_false, bin_add, bin_sub, bin_mul, bin_eql, bin_neq, bin_lss, bin_leq, bin_gtr, bin_geq, bin_seql, bin_sneq, un_not_t, un_not_f, un_not, cvI_int, cvT_str, nilChk_ptr, nilChk_xp, addA_ptr, lenT_str, Bool.true_or, Bool.or_true, Bool.false_or, Bool.or_false, Bool.true_and, Bool.and_true, Bool.false_and, Bool.and_false, decide_true, decide_false, Int.reduceEq, Int.reduceLT, Int.reduceLE, Int.reduceNe, Int.reduceAdd, Int.reduceSub, Int.reduceMul, Int.reduceNeg, List.nil_append, List.append_nil, List.cons_append]
                    simp only [bl1, effK_new, purK_some, resK_some, boolK_some, condK_true, condK_false, wantV_tt, wantV_tf, wantV_ft, wantV_ff, wantV_t, wantV_f, wantV_skip, Bool.not_true, Bool.not_false, gPur_true, gPur_false, gEff_true, gEff_false, gRes_true, gRes_false, pickA_true, pickA_false, extA_0, extA_1, extA_2, retK_one, retK_none, retK_two, valK_fn, valR_fn, cond_true, cond_false, bin_add, bin_sub, bin_mul, bin_eql, bin_neq, bin_lss, bin_leq, bin_gtr, bin_geq, bin_seql, bin_sneq, un_not_t, un_not_f, un_not, cvI_int, cvT_str, nilChk_ptr, nilChk_xp, addA_ptr, lenT_str, Bool.true_or, Bool.or_true, Bool.false_or, Bool.or_false, Bool.true_and, Bool.and_true, Bool.false_and, Bool.and_false, decide_true, decide_false, Int.reduceEq, Int.reduceLT, Int.reduceLE, Int.reduceNe, Int.reduceAdd, Int.reduceSub, Int.reduceMul, Int.reduceNeg, List.nil_append, List.append_nil, List.cons_append]
                    clear wa wb w2 wm wd wu
                    refine app (UInt8.ofNat (16 * x + y)) _ fun x' H3 G3 => ?_
                    have wb2 := wrap_addN i 2 (by clear wi; omega)
                    have wb3 : wrapK .i64 ((i : Int) + 2) = ((i + 2 : Nat) : Int) := wb2
                    simp only [N12_6, N12_4, wb3, wi, purK_some, resK_some, boolK_some, condK_true, condK_false, wantV_tt, wantV_tf, wantV_ft, wantV_ff, wantV_t, wantV_f, wantV_skip, Bool.not_true, Bool.not_false, gPur_true, gPur_false, gEff_true, gEff_false, gRes_true, gRes_false, pickA_true, pickA_false, extA_0, extA_1, extA_2, retK_one, retK_none, retK_two, valK_fn, valR_fn, cond_true, cond_false, bin_add, bin_sub, bin_mul, bin_eql, bin_neq, bin_lss, bin_leq, bin_gtr, bin_geq, bin_seql, bin_sneq, un_not_t, un_not_f, un_not, cvI_int, cvT_str, nilChk_ptr, nilChk_xp, addA_ptr, lenT_str, Bool.true_or, Bool.or_true, Bool.false_or, Bool.or_false, Bool.true_and, Bool.and_true, Bool.false_and, Bool.and_false, decide_true, decide_false, Int.reduceEq, Int.reduceLT, Int.reduceLE, Int.reduceNe, Int.reduceAdd, Int.reduceSub, Int.reduceMul, Int.reduceNeg, List.nil_append, List.append_nil, List.cons_append]
                    clear wb2 wb3 wi
                    exact good _ q (i + 3) x' H3 hx hd3 (by omega) hi4 G3
          · have c1 : ¬ ((c.toNat : Int) = 37) := fun h => hc (UInt8.toNat_inj.1 (show c.toNat = (37 : UInt8).toNat by have e : (37 : UInt8).toNat = 37 := rfl; omega))
            simp only [N12_3b, N12_7, lw, h', e3, hp, c1, ne_eq, not_false_eq_true, decide_true, purK_some, resK_some, boolK_some, condK_true, condK_false, wantV_tt, wantV_tf, wantV_ft, wantV_ff, wantV_t, wantV_f, wantV_skip, Bool.not_true, Bool.not_false, gPur_true, gPur_false, gEff_true, gEff_false, gRes_true, gRes_false, pickA_true, pickA_false, extA_0, extA_1, extA_2, retK_one, retK_none, retK_two, valK_fn, valR_fn, cond_true, cond_false, bin_add, bin_sub, bin_mul, bin_eql, bin_neq, bin_lss, bin_leq, bin_gtr, bin_geq, bin_seql, bin_sneq, un_not_t, un_not_f, un_not, cvI_int, cvT_str, nilChk_ptr, nilChk_xp, addA_ptr, lenT_str, Bool.true_or, Bool.or_true, Bool.false_or, Bool.or_false, Bool.true_and, Bool.and_true, Bool.false_and, Bool.and_false, decide_true, decide_false, Int.reduceEq, Int.reduceLT, Int.reduceLE, Int.reduceNe, Int.reduceAdd, Int.reduceSub, Int.reduceMul, Int.reduceNeg, List.nil_append, List.append_nil, List.cons_append]
            exact .intro (bad (by simp [unq1, hc, hpl]))
    · have c1 : ¬ ((c0.toNat : Int) = 61) := fun h => hc0 (UInt8.toNat_inj.1 (show c0.toNat = (61 : UInt8).toNat by have e : (61 : UInt8).toNat = 61 := rfl; omega))
      have hq : unquoteL (c0 :: r0) = none := by unfold unquoteL; simp [hc0]
      rw [hq]
      simp only [L12, lenT_ba (c0 :: r0), e1, e2, c1, ne_eq, not_false_eq_true, decide_true, purK_some, resK_some, boolK_some, condK_true, condK_false, wantV_tt, wantV_tf, wantV_ft, wantV_ff, wantV_t, wantV_f, wantV_skip, Bool.not_true, Bool.not_false, gPur_true, gPur_false, gEff_true, gEff_false, gRes_true, gRes_false, pickA_true, pickA_false, extA_0, extA_1, extA_2, retK_one, retK_none, retK_two, valK_fn, valR_fn, cond_true, cond_false, bin_add, bin_sub, bin_mul, bin_eql, bin_neq, bin_lss, bin_leq, bin_gtr, bin_geq, bin_seql, bin_sneq, un_not_t, un_not_f, un_not, cvI_int, cvT_str, nilChk_ptr, nilChk_xp, addA_ptr, lenT_str, Bool.true_or, Bool.or_true, Bool.false_or, Bool.or_false, Bool.true_and, Bool.and_true, Bool.false_and, Bool.and_false, decide_true, decide_false, Int.reduceEq, Int.reduceLT, Int.reduceLE, Int.reduceNe, Int.reduceAdd, Int.reduceSub, Int.reduceMul, Int.reduceNeg, List.nil_append, List.append_nil, List.cons_append]
      exact .intro rfl
end
end Go.Proofs.YtnkeebchblfbgaaDoor

-- part SwF
/- ScriptWords: the law. -/
set_option linter.unusedVariables false
set_option linter.unusedSimpArgs false
namespace Go.Proofs.YtnkeebchblfbgaaDoor
attribute [local congr] Go.Ev.cond_congr1
open Go.Ev Go.RowKit
theorem dn (l : List UInt8) : decide (ba l ≠ ba l) = false := by simp
theorem d40 : decide ((4 : Int) = 0) = false := rfl
theorem d4n : decide ((4 : Int) ≠ 0) = true := rfl
theorem d00 : decide ((0 : Int) ≠ 0) = false := rfl
theorem fm_ge : ∀ s : List UInt8, s.length ≤ (s.flatMap qb).length
  | [] => by simp
  | c :: s => by
    have := fm_ge s
    have h1 : 1 ≤ (qb c).length := by unfold qb; split <;> simp
    rw [List.flatMap_cons, List.length_append, List.length_cons]; omega
theorem neb1 (H : Heap) : binA Tryd.prog H .neq 4 (.bool true) (.bool true) = some (.bool false) := by kernel_rfl
theorem neb2 (H : Heap) : binA Tryd.prog H .neq 4 (.bool false) (.bool false) = some (.bool false) := by kernel_rfl
theorem awake_ret : Ret (fun v H' => v = .bool true) (evCall (cx ρW) 20000 0 6 [] Heap.nil) := by
  obtain ⟨H, h⟩ := awake_run
  rw [h]
  exact .intro rfl
theorem words_ret (s w : List UInt8) : Ret (fun v H' => v = .bool true) (evCall (cx ρW) 20001 0 4 [.str (ba s), .str (ba w)] Heap.nil) := by
  rw [E4]
  simp only [L4]
  have hq : (quoteL s).length ≤ 3 * s.length + 1 := by
    have := fm_len s
    unfold quoteL; rw [List.length_cons]; omega
  refine Ret.bind (Q := fun v H' => v = .bool true) (awake_ret) ?_
  rintro v H1 rfl
  by_cases h1 : (1000 : Int) < (s.length : Int)
  · simp only [lenT_ba, h1, purK_some, resK_some, boolK_some, condK_true, condK_false, wantV_tt, wantV_tf, wantV_ft, wantV_ff, wantV_t, wantV_f, wantV_skip, Bool.not_true, Bool.not_false, gPur_true, gPur_false, gEff_true, gEff_false, gRes_true, gRes_false, pickA_true, pickA_false, extA_0, extA_1, extA_2, retK_one, retK_none, retK_two, valK_fn, valR_fn, cond_true, cond_false, bin_add, bin_sub, bin_mul, bin_eql, bin_neq, bin_lss, bin_leq, bin_gtr, bin_geq, bin_seql, bin_sneq, un_not_t, un_not_f, un_not, cvI_int, cvT_str, nilChk_ptr, nilChk_xp, addA_ptr, lenT_str, Bool.true_or, Bool.or_true, Bool.false_or, Bool.or_false, Bool.true_and, Bool.and_true, Bool.false_and, Bool.and_false, decide_true, decide_false, Int.reduceEq, Int.reduceLT, Int.reduceLE, Int.reduceNe, Int.reduceAdd, Int.reduceSub, Int.reduceMul, Int.reduceNeg, List.nil_append, List.append_nil, List.cons_append, ba_size, ba_inj, emp1, emp2]
    exact .intro rfl
  by_cases h2 : (1000 : Int) < (w.length : Int)
  · simp only [lenT_ba, h1, h2, purK_some, resK_some, boolK_some, condK_true, condK_false, wantV_tt, wantV_tf, wantV_ft, wantV_ff, wantV_t, wantV_f, wantV_skip, Bool.not_true, Bool.not_false, gPur_true, gPur_false, gEff_true, gEff_false, gRes_true, gRes_false, pickA_true, pickA_false, extA_0, extA_1, extA_2, retK_one, retK_none, retK_two, valK_fn, valR_fn, cond_true, cond_false, bin_add, bin_sub, bin_mul, bin_eql, bin_neq, bin_lss, bin_leq, bin_gtr, bin_geq, bin_seql, bin_sneq, un_not_t, un_not_f, un_not, cvI_int, cvT_str, nilChk_ptr, nilChk_xp, addA_ptr, lenT_str, Bool.true_or, Bool.or_true, Bool.false_or, Bool.or_false, Bool.true_and, Bool.and_true, Bool.false_and, Bool.and_false, decide_true, decide_false, Int.reduceEq, Int.reduceLT, Int.reduceLE, Int.reduceNe, Int.reduceAdd, Int.reduceSub, Int.reduceMul, Int.reduceNeg, List.nil_append, List.append_nil, List.cons_append, ba_size, ba_inj, emp1, emp2]
    exact .intro rfl
  simp only [lenT_ba, h1, h2, purK_some, resK_some, boolK_some, condK_true, condK_false, wantV_tt, wantV_tf, wantV_ft, wantV_ff, wantV_t, wantV_f, wantV_skip, Bool.not_true, Bool.not_false, gPur_true, gPur_false, gEff_true, gEff_false, gRes_true, gRes_false, pickA_true, pickA_false, extA_0, extA_1, extA_2, retK_one, retK_none, retK_two, valK_fn, valR_fn, cond_true, cond_false, bin_add, bin_sub, bin_mul, bin_eql, bin_neq, bin_lss, bin_leq, bin_gtr, bin_geq, bin_seql, bin_sneq, un_not_t, un_not_f, un_not, cvI_int, cvT_str, nilChk_ptr, nilChk_xp, addA_ptr, lenT_str, Bool.true_or, Bool.or_true, Bool.false_or, Bool.or_false, Bool.true_and, Bool.and_true, Bool.false_and, Bool.and_false, decide_true, decide_false, Int.reduceEq, Int.reduceLT, Int.reduceLE, Int.reduceNe, Int.reduceAdd, Int.reduceSub, Int.reduceMul, Int.reduceNeg, List.nil_append, List.append_nil, List.cons_append, ba_size, ba_inj, emp1, emp2]
  refine Ret.bind (quote_spec s (by omega) (by omega)) ?_
  rintro v H2 rfl
  refine Ret.bind (unquote_spec (quoteL s) (by omega) (by omega)) ?_
  rintro v H3 rfl
  rw [unquote_quote]
  have x0 : extA 0 (uqV (some s)) = some (.str (ba s)) := rfl
  have x1 : extA 1 (uqV (some s)) = some (.int .i64 0) := rfl
  simp only [x0, x1, purK_some, resK_some, boolK_some, condK_true, condK_false, wantV_tt, wantV_tf, wantV_ft, wantV_ff, wantV_t, wantV_f, wantV_skip, Bool.not_true, Bool.not_false, gPur_true, gPur_false, gEff_true, gEff_false, gRes_true, gRes_false, pickA_true, pickA_false, extA_0, extA_1, extA_2, retK_one, retK_none, retK_two, valK_fn, valR_fn, cond_true, cond_false, bin_add, bin_sub, bin_mul, bin_eql, bin_neq, bin_lss, bin_leq, bin_gtr, bin_geq, bin_seql, bin_sneq, un_not_t, un_not_f, un_not, cvI_int, cvT_str, nilChk_ptr, nilChk_xp, addA_ptr, lenT_str, Bool.true_or, Bool.or_true, Bool.false_or, Bool.or_false, Bool.true_and, Bool.and_true, Bool.false_and, Bool.and_false, decide_true, decide_false, Int.reduceEq, Int.reduceLT, Int.reduceLE, Int.reduceNe, Int.reduceAdd, Int.reduceSub, Int.reduceMul, Int.reduceNeg, List.nil_append, List.append_nil, List.cons_append]
  refine Ret.bind (unquote_spec w (by omega) (by omega)) ?_
  rintro v H4 rfl
  cases hu : unquoteL w with
  | none =>
    have y0 : extA 0 (uqV none) = some (.str (ba [])) := rfl
    have y1 : extA 1 (uqV none) = some (.int .i64 4) := rfl
    have z0 : extA 0 (ruV none) = some (.str (ba [])) := rfl
    have z1 : extA 1 (ruV none) = some (.bool false) := rfl
    simp only [y0, y1, N4_1, purK_some, resK_some, boolK_some, condK_true, condK_false, wantV_tt, wantV_tf, wantV_ft, wantV_ff, wantV_t, wantV_f, wantV_skip, Bool.not_true, Bool.not_false, gPur_true, gPur_false, gEff_true, gEff_false, gRes_true, gRes_false, pickA_true, pickA_false, extA_0, extA_1, extA_2, retK_one, retK_none, retK_two, valK_fn, valR_fn, cond_true, cond_false, bin_add, bin_sub, bin_mul, bin_eql, bin_neq, bin_lss, bin_leq, bin_gtr, bin_geq, bin_seql, bin_sneq, un_not_t, un_not_f, un_not, cvI_int, cvT_str, nilChk_ptr, nilChk_xp, addA_ptr, lenT_str, Bool.true_or, Bool.or_true, Bool.false_or, Bool.or_false, Bool.true_and, Bool.and_true, Bool.false_and, Bool.and_false, decide_true, decide_false, Int.reduceEq, Int.reduceLT, Int.reduceLE, Int.reduceNe, Int.reduceAdd, Int.reduceSub, Int.reduceMul, Int.reduceNeg, List.nil_append, List.append_nil, List.cons_append]
    refine Ret.bind (runquote_spec w (by omega) (by omega)) ?_
    rintro v H5 rfl
    rw [hu]
    simp only [z0, z1, purK_some, resK_some, boolK_some, condK_true, condK_false, wantV_tt, wantV_tf, wantV_ft, wantV_ff, wantV_t, wantV_f, wantV_skip, Bool.not_true, Bool.not_false, gPur_true, gPur_false, gEff_true, gEff_false, gRes_true, gRes_false, pickA_true, pickA_false, extA_0, extA_1, extA_2, retK_one, retK_none, retK_two, valK_fn, valR_fn, cond_true, cond_false, bin_add, bin_sub, bin_mul, bin_eql, bin_neq, bin_lss, bin_leq, bin_gtr, bin_geq, bin_seql, bin_sneq, un_not_t, un_not_f, un_not, cvI_int, cvT_str, nilChk_ptr, nilChk_xp, addA_ptr, lenT_str, Bool.true_or, Bool.or_true, Bool.false_or, Bool.or_false, Bool.true_and, Bool.and_true, Bool.false_and, Bool.and_false, decide_true, decide_false, Int.reduceEq, Int.reduceLT, Int.reduceLE, Int.reduceNe, Int.reduceAdd, Int.reduceSub, Int.reduceMul, Int.reduceNeg, List.nil_append, List.append_nil, List.cons_append]
    refine Ret.bind (rquote_spec s (by omega) (by omega)) ?_
    rintro v H6 rfl
    simp only [N4_3, N4_2, neb1, neb2, dn, d40, d4n, d00, purK_some, resK_some, boolK_some, condK_true, condK_false, wantV_tt, wantV_tf, wantV_ft, wantV_ff, wantV_t, wantV_f, wantV_skip, Bool.not_true, Bool.not_false, gPur_true, gPur_false, gEff_true, gEff_false, gRes_true, gRes_false, pickA_true, pickA_false, extA_0, extA_1, extA_2, retK_one, retK_none, retK_two, valK_fn, valR_fn, cond_true, cond_false, bin_add, bin_sub, bin_mul, bin_eql, bin_neq, bin_lss, bin_leq, bin_gtr, bin_geq, bin_seql, bin_sneq, un_not_t, un_not_f, un_not, cvI_int, cvT_str, nilChk_ptr, nilChk_xp, addA_ptr, lenT_str, Bool.true_or, Bool.or_true, Bool.false_or, Bool.or_false, Bool.true_and, Bool.and_true, Bool.false_and, Bool.and_false, decide_true, decide_false, Int.reduceEq, Int.reduceLT, Int.reduceLE, Int.reduceNe, Int.reduceAdd, Int.reduceSub, Int.reduceMul, Int.reduceNeg, List.nil_append, List.append_nil, List.cons_append, ba_size, ba_inj, emp1, emp2]
    exact .intro rfl
  | some u =>
    have y0 : extA 0 (uqV (some u)) = some (.str (ba u)) := rfl
    have y1 : extA 1 (uqV (some u)) = some (.int .i64 0) := rfl
    have z0 : extA 0 (ruV (some u)) = some (.str (ba u)) := rfl
    have z1 : extA 1 (ruV (some u)) = some (.bool true) := rfl
    simp only [y0, y1, N4_1, purK_some, resK_some, boolK_some, condK_true, condK_false, wantV_tt, wantV_tf, wantV_ft, wantV_ff, wantV_t, wantV_f, wantV_skip, Bool.not_true, Bool.not_false, gPur_true, gPur_false, gEff_true, gEff_false, gRes_true, gRes_false, pickA_true, pickA_false, extA_0, extA_1, extA_2, retK_one, retK_none, retK_two, valK_fn, valR_fn, cond_true, cond_false, bin_add, bin_sub, bin_mul, bin_eql, bin_neq, bin_lss, bin_leq, bin_gtr, bin_geq, bin_seql, bin_sneq, un_not_t, un_not_f, un_not, cvI_int, cvT_str, nilChk_ptr, nilChk_xp, addA_ptr, lenT_str, Bool.true_or, Bool.or_true, Bool.false_or, Bool.or_false, Bool.true_and, Bool.and_true, Bool.false_and, Bool.and_false, decide_true, decide_false, Int.reduceEq, Int.reduceLT, Int.reduceLE, Int.reduceNe, Int.reduceAdd, Int.reduceSub, Int.reduceMul, Int.reduceNeg, List.nil_append, List.append_nil, List.cons_append]
    refine Ret.bind (runquote_spec w (by omega) (by omega)) ?_
    rintro v H5 rfl
    rw [hu]
    simp only [z0, z1, purK_some, resK_some, boolK_some, condK_true, condK_false, wantV_tt, wantV_tf, wantV_ft, wantV_ff, wantV_t, wantV_f, wantV_skip, Bool.not_true, Bool.not_false, gPur_true, gPur_false, gEff_true, gEff_false, gRes_true, gRes_false, pickA_true, pickA_false, extA_0, extA_1, extA_2, retK_one, retK_none, retK_two, valK_fn, valR_fn, cond_true, cond_false, bin_add, bin_sub, bin_mul, bin_eql, bin_neq, bin_lss, bin_leq, bin_gtr, bin_geq, bin_seql, bin_sneq, un_not_t, un_not_f, un_not, cvI_int, cvT_str, nilChk_ptr, nilChk_xp, addA_ptr, lenT_str, Bool.true_or, Bool.or_true, Bool.false_or, Bool.or_false, Bool.true_and, Bool.and_true, Bool.false_and, Bool.and_false, decide_true, decide_false, Int.reduceEq, Int.reduceLT, Int.reduceLE, Int.reduceNe, Int.reduceAdd, Int.reduceSub, Int.reduceMul, Int.reduceNeg, List.nil_append, List.append_nil, List.cons_append]
    refine Ret.bind (rquote_spec s (by omega) (by omega)) ?_
    rintro v H6 rfl
    have hw := quote_unquote hu
    have hul : u.length ≤ 10000 := by
      have := fm_ge u
      rw [← hw] at h2
      unfold quoteL at h2
      rw [List.length_cons] at h2
      omega
    simp only [N4_3, N4_2, neb1, neb2, dn, d40, d4n, d00, purK_some, resK_some, boolK_some, condK_true, condK_false, wantV_tt, wantV_tf, wantV_ft, wantV_ff, wantV_t, wantV_f, wantV_skip, Bool.not_true, Bool.not_false, gPur_true, gPur_false, gEff_true, gEff_false, gRes_true, gRes_false, pickA_true, pickA_false, extA_0, extA_1, extA_2, retK_one, retK_none, retK_two, valK_fn, valR_fn, cond_true, cond_false, bin_add, bin_sub, bin_mul, bin_eql, bin_neq, bin_lss, bin_leq, bin_gtr, bin_geq, bin_seql, bin_sneq, un_not_t, un_not_f, un_not, cvI_int, cvT_str, nilChk_ptr, nilChk_xp, addA_ptr, lenT_str, Bool.true_or, Bool.or_true, Bool.false_or, Bool.or_false, Bool.true_and, Bool.and_true, Bool.false_and, Bool.and_false, decide_true, decide_false, Int.reduceEq, Int.reduceLT, Int.reduceLE, Int.reduceNe, Int.reduceAdd, Int.reduceSub, Int.reduceMul, Int.reduceNeg, List.nil_append, List.append_nil, List.cons_append, ba_size, ba_inj, emp1, emp2]
    refine Ret.bind (quote_spec u hul (by omega)) ?_
    rintro v H7 rfl
    rw [hw]
    simp only [purK_some, resK_some, boolK_some, condK_true, condK_false, wantV_tt, wantV_tf, wantV_ft, wantV_ff, wantV_t, wantV_f, wantV_skip, Bool.not_true, Bool.not_false, gPur_true, gPur_false, gEff_true, gEff_false, gRes_true, gRes_false, pickA_true, pickA_false, extA_0, extA_1, extA_2, retK_one, retK_none, retK_two, valK_fn, valR_fn, cond_true, cond_false, bin_add, bin_sub, bin_mul, bin_eql, bin_neq, bin_lss, bin_leq, bin_gtr, bin_geq, bin_seql, bin_sneq, un_not_t, un_not_f, un_not, cvI_int, cvT_str, nilChk_ptr, nilChk_xp, addA_ptr, lenT_str, Bool.true_or, Bool.or_true, Bool.false_or, Bool.or_false, Bool.true_and, Bool.and_true, Bool.false_and, Bool.and_false, decide_true, decide_false, Int.reduceEq, Int.reduceLT, Int.reduceLE, Int.reduceNe, Int.reduceAdd, Int.reduceSub, Int.reduceMul, Int.reduceNeg, List.nil_append, List.append_nil, List.cons_append, ba_size, ba_inj, emp1, emp2]
    exact .intro rfl
end Go.Proofs.YtnkeebchblfbgaaDoor

-- part SwG
/- What is laid in memory: rows of texts. -/
set_option linter.unusedVariables false
namespace Go.Ev
open Go.RowKit Go.ChangeShapes Go.WideShapes
theorem texts_of {P : Program} {w : World} {spare : Nat → Bool} {t e : TypeId} {n fuel : Nat} {cs : List Value} {ls : List (List UInt8)} {p : List MemPlace} (ht : P.underlying t = some (.array n e)) (he : P.underlying e = some .string) (hc : P.cellsOf e = 1) (hct : P.cellsOf t = n)
    (h : DataW.trod (fun _ => ()) P w 0 spare false fuel t cs = some (.agg (ls.map fun l => .lit (.string l)), p)) : cs = ls.map fun l => .string (ba l) := by
  obtain ⟨xs, m, rfl, hx, hlen, hxn, hall⟩ := DataW.trod_array ht h
  have h1 : ls.map (fun l => (DataW.lit (.string l) : DataW Unit)) = xs.map (·.1) := by
    have := (Prod.mk.inj hx).1
    simpa using this
  have hl : ls.length = xs.length := by simpa using congrArg List.length h1
  apply List.ext_getElem
  · rw [List.length_map]; omega
  · intro i hi1 hi2
    have hi : i < n := by omega
    have ha := hall i hi
    rw [hc, Nat.mul_one, List.drop_eq_getElem_cons hi1, List.take_succ_cons, List.take_zero, List.getElem?_eq_getElem (by omega)] at ha
    obtain ⟨s, e1, e2, _⟩ := DataW.trod_string he ha
    have e3 : (ls.map (fun l => (DataW.lit (.string l) : DataW Unit)))[i]? = (xs.map (·.1))[i]? := by rw [h1]
    rw [List.getElem?_map, List.getElem?_map, List.getElem?_eq_getElem (by omega), List.getElem?_eq_getElem (by omega)] at e3
    simp only [Option.map_some, Option.some.injEq] at e3
    rw [e2] at e3
    simp only [DataW.lit.injEq, Lit.string.injEq] at e3
    rw [List.getElem_map, e3]
    simp only [List.cons.injEq, and_true] at e1
    rw [e1]
    exact congrArg Value.string (ba_bs s).symm
end Go.Ev

-- part SwH
/- What the laid variables read as: the two tables of words. -/
set_option linter.unusedVariables false
namespace Go.Proofs.YtnkeebchblfbgaaDoor
open Go.Ev Go.RowKit
theorem gt0 : (Tryd.prog.globals[0]?).map (·.type) = some 77 := by kernel_rfl
theorem gt1 : (Tryd.prog.globals[1]?).map (·.type) = some 86 := by kernel_rfl
theorem gn0 : Tryd.prog.globalNamed "haycroft/script.steps" = some 0 := by kernel_rfl
theorem gn1 : Tryd.prog.globalNamed "haycroft/script.ops" = some 1 := by kernel_rfl
theorem ut77 : Tryd.prog.underlying 77 = some (.array 11 9) := by kernel_rfl
theorem ut86 : Tryd.prog.underlying 86 = some (.array 5 9) := by kernel_rfl
theorem ut9 : Tryd.prog.underlying 9 = some .string := by kernel_rfl
theorem ct9 : Tryd.prog.cellsOf 9 = 1 := by kernel_rfl
theorem ct77 : Tryd.prog.cellsOf 77 = 11 := by kernel_rfl
theorem ct86 : Tryd.prog.cellsOf 86 = 5 := by kernel_rfl
theorem laid_cells {W : World} (h : laidMet Tryd.prog Rows.scriptWordsRow.laid W) : (∃ cs, W.var? Tryd.prog "haycroft/script.steps" = some cs ∧ cs.toList = stepsL) ∧ (∃ cs, W.var? Tryd.prog "haycroft/script.ops" = some cs ∧ cs.toList = opsL) := by
  obtain ⟨ps, ⟨_, _, _, _, _, _, _, _, _, _, ⟨_, _, _, _, _, _, _, _, _, _, ⟨_, _, _, _, _, _, _, _, _, _, ⟨_, _, _, _, _, _, _, _, _, _, ⟨_, _, _, _, _, _, _, _, _, _, ⟨_, _, _, _, _, _, _, _, _, _, ⟨g1, t1, cs1, f1, p1, q1, hg1, ht1, hv1, hd1, ⟨g0, t0, cs0, f0, p0, q0, hg0, ht0, hv0, hd0, _, _⟩, _⟩, _⟩, _⟩, _⟩, _⟩, _⟩, _⟩, _⟩ := h
  obtain rfl := Option.some.inj (gn0.symm.trans hg0)
  obtain rfl := Option.some.inj (gn1.symm.trans hg1)
  obtain rfl := Option.some.inj (gt0.symm.trans ht0)
  obtain rfl := Option.some.inj (gt1.symm.trans ht1)
  refine ⟨⟨cs0, hv0, ?_⟩, ⟨cs1, hv1, ?_⟩⟩
  · exact texts_of (ls := [[], [97, 115, 107], [109, 111, 118, 101], [114, 101, 115, 117, 109, 101], [100, 111], [114, 101, 97, 100, 111, 110, 108, 121], [104, 101, 97, 100], [102, 108, 117, 115, 104], [115, 97, 118, 101], [99, 114, 97, 115, 104], [115, 116, 97, 114, 116]]) ut77 ut9 ct9 ct77 hd0
  · exact texts_of (ls := [[], [114, 101, 97, 100], [112, 117, 116], [97, 100, 100], [100, 101, 108]]) ut86 ut9 ct9 ct86 hd1
end Go.Proofs.YtnkeebchblfbgaaDoor

-- part SwI
/- ScriptWords: the call, whatever the texts, where the tables are laid. -/
set_option linter.unusedVariables false
set_option linter.unusedSimpArgs false
namespace Go.Proofs.YtnkeebchblfbgaaDoor
open Go.Ev Go.RowKit Go.ChangeShapes
theorem cell_row {W : World} {n : String} {g : Nat} {cs : Array Value} {l : List Value} {a : Addr} {v : Value} (hg : Tryd.prog.globalNamed n = some g) (hv : W.var? Tryd.prog n = some cs) (hl : cs.toList = l) (hs : a.spot = none) (hb : a.block = g) (h : l[a.off]? = some v) : a.block < W.heap.size ∧ W.cell? a = some v := by
  obtain ⟨b, o, s⟩ := a
  simp only at hs hb h
  subst hs; subst hb; subst hl
  constructor
  · simp only [World.var?, hg, Option.bind_some] at hv
    rcases Nat.lt_or_ge b W.heap.size with q | q
    · exact q
    · rw [Array.getElem?_eq_none q] at hv; cases hv
  · rw [World.var?_cell hg hv o]
    simpa using h
theorem reads_of {W : World} (h : laidMet Tryd.prog Rows.scriptWordsRow.laid W) : Reads (cx ρW) W := by
  obtain ⟨⟨c0, v0, l0⟩, ⟨c1, v1, l1⟩⟩ := laid_cells h
  intro a v e
  have e' : ρW a = some v := e
  unfold ρW at e'
  split at e'
  · rename_i hs
    cases h0 : Nat.beq a.block 0 with
    | true =>
      rw [h0] at e'
      exact cell_row gn0 v0 l0 hs (Nat.eq_of_beq_eq_true h0) e'
    | false =>
      rw [h0] at e'
      cases h1 : Nat.beq a.block 1 with
      | true =>
        rw [h1] at e'
        exact cell_row gn1 v1 l1 hs (Nat.eq_of_beq_eq_true h1) e'
      | false => rw [h1] at e'; cases e'
  · cases e'
end Go.Proofs.YtnkeebchblfbgaaDoor

-- part SwL
/- One world in which the laid variables read as listed. -/
set_option linter.unusedVariables false
namespace Go.Proofs.YtnkeebchblfbgaaDoor
open Go
noncomputable def lit1 : DataW Unit → Value
  | .lit (.int k n) => .int k n
  | .lit (.string s) => .string ⟨s.toArray⟩
  | _ => .bool false
noncomputable def cells1 : DataW Unit → List Value
  | .agg ds => ds.map lit1
  | _ => []
noncomputable def cells2 : DataW Unit → List Value
  | .agg ds => ds.flatMap cells1
  | _ => []
noncomputable def layAt (n : String) (cs : List Value) (h : Array Obj) : Array Obj := match Tryd.prog.globalNamed n with
  | some g => h.modify g fun
    | .cells _ t frozen => .cells cs.toArray t frozen
    | o => o
  | none => h
/-- So many blocks has the settled world. -/
noncomputable def low : Nat := (World.holding Tryd.prog default ⟨#[], #[], []⟩).heap.size
abbrev txtRange : ByteArray := { data := #[118, 97, 108, 117, 101, 32, 111, 117, 116, 32, 111, 102, 32, 114, 97, 110, 103, 101] }
abbrev txtSyntax : ByteArray := { data := #[105, 110, 118, 97, 108, 105, 100, 32, 115, 121, 110, 116, 97, 120] }
noncomputable def laidWorld (os : Os) : World :=
  let w0 := World.holding Tryd.prog os ⟨#[.cells #[.string txtRange] 131, .cells #[.string txtSyntax] 131], #[], []⟩
  { w0 with heap := (layAt "math/bits.deBruijn32tab" (cells1 Rows.laid_math_bits_deBruijn32tab) (layAt "math/bits.deBruijn64tab" (cells1 Rows.laid_math_bits_deBruijn64tab) (layAt "internal/strconv.uint64pow10" (cells1 Rows.laid_internal_strconv_uint64pow10) (layAt "unicode/utf8.acceptRanges" (cells2 Rows.laid_unicode_utf8_acceptRanges) (layAt "strconv.ErrRange" [.iface 129 (.pointer (some ⟨low, 0, none⟩))] (layAt "strconv.ErrSyntax" [.iface 129 (.pointer (some ⟨low + 1, 0, none⟩))] (layAt "haycroft/script.ops" (cells1 Rows.laid_haycroft_script_ops) (layAt "haycroft/script.steps" (cells1 Rows.laid_haycroft_script_steps) (layAt "unicode/utf8.first" (cells1 Rows.laid_unicode_utf8_first) w0.heap))))))))) }
set_option maxRecDepth 1000000 in
theorem laid_met (os : Os) (args : Array Value) : laidMet Tryd.prog Rows.scriptWordsRow.laid ((laidWorld os).forCall (fun _ _ => 0) ⟨#[], args, []⟩).memory :=
  laidMet_of_run3 8 (by kernel_rfl) (by kernel_rfl) (by kernel_rfl)
end Go.Proofs.YtnkeebchblfbgaaDoor

-- part SwJ
/- ScriptWords: the call, whatever the texts, where the tables are laid. -/
set_option linter.unusedVariables false
set_option linter.unusedSimpArgs false
namespace Go.Proofs.YtnkeebchblfbgaaDoor
open Go.Ev Go.RowKit
theorem walk (s w : ByteArray) (W : World) (h : laidMet Tryd.prog Rows.scriptWordsRow.laid W) : Calls Tryd.prog 4 #[.string s, .string w] W fun e w' => e = .returned (.bool true) ∧ Below W.heap.size W w' := by
  obtain ⟨r, H1, hrun, rfl⟩ := words_ret (bs s) (bs w)
  simp only [ba_bs] at hrun
  exact calls_of_run_reads (C := cx ρW) (vs := [.string s, .string w]) (reads_of h) (by kernel_rfl) (cx_ext _) Tryd.func4 rfl hrun ⟨_, _, rfl, rfl, ⟨_, _, rfl, rfl, rfl⟩⟩
end Go.Proofs.YtnkeebchblfbgaaDoor
