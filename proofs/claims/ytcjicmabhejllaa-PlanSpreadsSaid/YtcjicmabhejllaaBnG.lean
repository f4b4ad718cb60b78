/- Part 7 of the proof of PlanSpreads: PsO PqA PqB PqC PqD PqE PqF. -/
import Derived.Test.YtcjicmabhejllaaBnF
import Derived.Test.YtcjicmabhejllaaBnE
import Derived.Test.YtcjicmabhejllaaBnB
import Derived.KernelRfl
import Derived.WalkKit
-- part PsO
/- Whether two schedules are the same; the law. -/
set_option linter.unusedVariables false
set_option linter.unusedSimpArgs false
namespace Go.Proofs.Ytcjicmabhejllaa
attribute [local congr] Go.Ev.cond_congr1
open Go.Ev Go.RowKit
section
variable {ρ : Addr → Option Value} {k : Nat} {H : Heap}
theorem ints_spec (l : List Int) (x y : AV) (hx : Els ρ H 1 x (prow l)) (hy : Els ρ H 1 y (prow l)) (hl : l.length < 4611686018427387904) (hk : l.length + 2 ≤ k) :
    Ret (fun v H' => v = .bool true ∧ H' = H) (evCall (cx ρ) k 0 30 [x, y] H) := by
  obtain ⟨k, rfl⟩ : ∃ q, k = q + 1 := ⟨k - 1, by omega⟩
  have lx := hx.lenS
  have ly := hy.lenS
  rw [prow_len] at lx ly
  rw [E30]
  simp only [L30, lx, ly, ne_eq, not_true, N30_2, N30_3, purK_some, resK_some, boolK_some, condK_true, condK_false, wantV_tt, wantV_tf, wantV_ft, wantV_ff, wantV_t, wantV_f, wantV_skip, Bool.not_true, Bool.not_false, gPur_true, gPur_false, gEff_true, gEff_false, gRes_true, gRes_false, pickA_true, pickA_false, extA_0, extA_1, extA_2, retK_one, retK_none, retK_two, valK_fn, valR_fn, cond_true, cond_false, bin_add, bin_sub, bin_mul, bin_eql, bin_neq, bin_lss, bin_leq, bin_gtr, bin_geq, bin_seql, bin_sneq, un_not_t, un_not_f, un_not, cvI_int, cvT_str, nilChk_ptr, nilChk_xp, addA_ptr, lenT_str, Bool.true_or, Bool.or_true, Bool.false_or, Bool.or_false, Bool.true_and, Bool.and_true, Bool.false_and, Bool.and_false, decide_true, decide_false, Int.reduceEq, Int.reduceLT, Int.reduceLE, Int.reduceNe, Int.reduceAdd, Int.reduceSub, Int.reduceMul, Int.reduceNeg, List.nil_append, List.append_nil, List.cons_append]
  refine Ret.loop (fun m y' H' => ∃ i : Nat, y' = .int .i64 i ∧ m = l.length - i ∧ i ≤ l.length ∧ H' = H) ?_ l.length k _ H ⟨0, rfl, rfl, by omega, rfl⟩ (by omega)
  rintro m y' H' kn ⟨i, rfl, hm, hi, rfl⟩ next
  by_cases h : i < l.length
  · have h' : (i : Int) < l.length := by omega
    have hi' : i < (prow l).length := by rw [prow_len]; exact h
    have e1 := hx.ix .i64 i (by omega) (by rw [prow_len]; exact h')
    have e2 := hy.ix .i64 i (by omega) (by rw [prow_len]; exact h')
    have e3 := hx.ld1 i 0 hi' (by decide)
    have e4 := hy.ld1 i 0 hi' (by decide)
    have e5 : (prow l)[i][0]? = some (.int .i64 l[i]) := by simp [prow]
    rw [Int.toNat_natCast] at e1 e2
    rw [e5] at e3 e4
    simp only [N30_3b, lx, h', e1, e2, e3, e4, ne_eq, not_true, wrap_succN i (by omega : i + 1 < 9223372036854775808), purK_some, resK_some, boolK_some, condK_true, condK_false, wantV_tt, wantV_tf, wantV_ft, wantV_ff, wantV_t, wantV_f, wantV_skip, Bool.not_true, Bool.not_false, gPur_true, gPur_false, gEff_true, gEff_false, gRes_true, gRes_false, pickA_true, pickA_false, extA_0, extA_1, extA_2, retK_one, retK_none, retK_two, valK_fn, valR_fn, cond_true, cond_false, bin_add, bin_sub, bin_mul, bin_eql, bin_neq, bin_lss, bin_leq, bin_gtr, bin_geq, bin_seql, bin_sneq, un_not_t, un_not_f, un_not, cvI_int, cvT_str, nilChk_ptr, nilChk_xp, addA_ptr, lenT_str, Bool.true_or, Bool.or_true, Bool.false_or, Bool.or_false, Bool.true_and, Bool.and_true, Bool.false_and, Bool.and_false, decide_true, decide_false, Int.reduceEq, Int.reduceLT, Int.reduceLE, Int.reduceNe, Int.reduceAdd, Int.reduceSub, Int.reduceMul, Int.reduceNeg, List.nil_append, List.append_nil, List.cons_append]
    exact next (m - 1) _ H' (by omega) ⟨i + 1, rfl, by omega, by omega, rfl⟩
  · have h' : ¬ (i : Int) < l.length := by omega
    simp only [N30_3b, N30_1, lx, h', purK_some, resK_some, boolK_some, condK_true, condK_false, wantV_tt, wantV_tf, wantV_ft, wantV_ff, wantV_t, wantV_f, wantV_skip, Bool.not_true, Bool.not_false, gPur_true, gPur_false, gEff_true, gEff_false, gRes_true, gRes_false, pickA_true, pickA_false, extA_0, extA_1, extA_2, retK_one, retK_none, retK_two, valK_fn, valR_fn, cond_true, cond_false, bin_add, bin_sub, bin_mul, bin_eql, bin_neq, bin_lss, bin_leq, bin_gtr, bin_geq, bin_seql, bin_sneq, un_not_t, un_not_f, un_not, cvI_int, cvT_str, nilChk_ptr, nilChk_xp, addA_ptr, lenT_str, Bool.true_or, Bool.or_true, Bool.false_or, Bool.or_false, Bool.true_and, Bool.and_true, Bool.false_and, Bool.and_false, decide_true, decide_false, Int.reduceEq, Int.reduceLT, Int.reduceLE, Int.reduceNe, Int.reduceAdd, Int.reduceSub, Int.reduceMul, Int.reduceNeg, List.nil_append, List.append_nil, List.cons_append]
    exact .intro ⟨rfl, rfl⟩
theorem neqOp2 (H : Heap) (a n : Int) (s t : ByteArray) : binA Try.prog H .neq 39 (.agg [.int .i64 a, .str s, .str t, .int .u64 n]) (.agg [.int .i64 a, .str s, .str t, .int .u64 n]) = some (.bool false) := by
  have : binA Try.prog H .neq 39 (.agg [.int .i64 a, .str s, .str t, .int .u64 n]) (.agg [.int .i64 a, .str s, .str t, .int .u64 n]) = (bif a == a then bif s == s then bif t == t then bif n == n then some true else some false else some false else some false else some false).map fun b => .bool !b := by kernel_rfl
  rw [this]
  simp [ba_beq]
theorem same_spec (x y : AV) (ps qs : List (StepV × AV)) (hx : RowsS ρ H x ps) (hy : RowsS ρ H y qs) (hpq : ps.map Prod.fst = qs.map Prod.fst) (hl : ps.length < 4611686018427387904) (hk : ps.length + 3 ≤ k) (hpk : ∀ q ∈ ps, q.1.picks.length < 1000) (hk3 : 2000 ≤ k) :
    Ret (fun v H' => v = .bool true ∧ H' = H) (evCall (cx ρ) k 0 29 [x, y] H) := by
  obtain ⟨k, rfl⟩ : ∃ q, k = q + 1 := ⟨k - 1, by omega⟩
  have hlen : qs.length = ps.length := by have := congrArg List.length hpq; simpa using this.symm
  have lx := hx.1.lenS
  have ly := hy.1.lenS
  rw [List.length_map] at lx ly
  rw [hlen] at ly
  rw [E29]
  simp only [L29, lx, ly, ne_eq, not_true, N29_2, N29_3, purK_some, resK_some, boolK_some, condK_true, condK_false, wantV_tt, wantV_tf, wantV_ft, wantV_ff, wantV_t, wantV_f, wantV_skip, Bool.not_true, Bool.not_false, gPur_true, gPur_false, gEff_true, gEff_false, gRes_true, gRes_false, pickA_true, pickA_false, extA_0, extA_1, extA_2, retK_one, retK_none, retK_two, valK_fn, valR_fn, cond_true, cond_false, bin_add, bin_sub, bin_mul, bin_eql, bin_neq, bin_lss, bin_leq, bin_gtr, bin_geq, bin_seql, bin_sneq, un_not_t, un_not_f, un_not, cvI_int, cvT_str, nilChk_ptr, nilChk_xp, addA_ptr, lenT_str, Bool.true_or, Bool.or_true, Bool.false_or, Bool.or_false, Bool.true_and, Bool.and_true, Bool.false_and, Bool.and_false, decide_true, decide_false, Int.reduceEq, Int.reduceLT, Int.reduceLE, Int.reduceNe, Int.reduceAdd, Int.reduceSub, Int.reduceMul, Int.reduceNeg, List.nil_append, List.append_nil, List.cons_append]
  refine Ret.loop (fun m y' H' => ∃ i : Nat, y' = .int .i64 i ∧ m = ps.length - i ∧ i ≤ ps.length ∧ H' = H) ?_ ps.length k _ H ⟨0, rfl, rfl, by omega, rfl⟩ (by omega)
  rintro m y' H' kn ⟨i, rfl, hm, hi, rfl⟩ next
  by_cases h : i < ps.length
  · have h' : (i : Int) < ps.length := by omega
    have hq : i < qs.length := by omega
    have hi' : i < (ps.map orow).length := by rw [List.length_map]; exact h
    have hj' : i < (qs.map orow).length := by rw [List.length_map]; exact hq
    have ed : qs[i].1 = ps[i].1 := by
      have := congrArg (fun l => l[i]?) hpq
      simp only [List.getElem?_map, List.getElem?_eq_getElem h, List.getElem?_eq_getElem hq, Option.map_some, Option.some.injEq] at this
      exact this.symm
    have e1 := hx.1.ix .i64 i (by omega) (by rw [List.length_map]; exact h')
    have e2 := hy.1.ix .i64 i (by omega) (by rw [List.length_map, hlen]; exact h')
    rw [Int.toNat_natCast] at e1 e2
    have a0 : ∀ n, addA n (elp 8 x i 0) = some (elp 8 x i (0 + n)) := fun n => elp_add hx.1 i 0 n hi'
    have b0 : ∀ n, addA n (elp 8 y i 0) = some (elp 8 y i (0 + n)) := fun n => elp_add hy.1 i 0 n hj'
    have rx : (ps.map orow)[i] = ps[i].1.row ps[i].2 := by rw [List.getElem_map]; rfl
    have ry : (qs.map orow)[i] = ps[i].1.row qs[i].2 := by rw [List.getElem_map, ← ed]; rfl
    have l1 : ∀ o, o < 8 → ld1 ρ H' (elp 8 x i o) = (ps[i].1.row ps[i].2)[o]? := fun o ho => by rw [hx.1.ld1 i o hi' ho, rx]
    have l2 : ∀ o, o < 8 → ld1 ρ H' (elp 8 y i o) = (ps[i].1.row qs[i].2)[o]? := fun o ho => by rw [hy.1.ld1 i o hj' ho, ry]
    have n1 := hx.1.ldSub i 3 4 hi' (by decide)
    have n2 := hy.1.ldSub i 3 4 hj' (by decide)
    rw [rx] at n1
    rw [ry] at n2
    have hp1 := hx.2 _ (List.getElem_mem h)
    have hp2 := hy.2 _ (List.getElem_mem hq)
    rw [ed] at hp2
    have hk2 := hpk _ (List.getElem_mem h)
    generalize ps[i].2 = u at *
    generalize qs[i].2 = w at *
    generalize ps[i].1 = d at *
    obtain ⟨dk, ds, dn, ⟨ok, okey, oval, on⟩, dp⟩ := d
    have x0 := l1 0 (by decide); have x1 := l1 1 (by decide); have x2 := l1 2 (by decide); have x7 := l1 7 (by decide)
    have y0 := l2 0 (by decide); have y1 := l2 1 (by decide); have y2 := l2 2 (by decide); have y7 := l2 7 (by decide)
    simp only [StepV.row, List.getElem?_cons_zero, List.getElem?_cons_succ] at x0 x1 x2 x7 y0 y1 y2 y7
    simp only [StepV.row, List.drop_succ_cons, List.drop_zero, List.take_succ_cons, List.take_zero] at n1 n2
    clear l1 l2
    have ei := ints_spec (ρ := ρ) (k := k) dp u w hp1 hp2 (by simp only at hk2; omega) (by simp only at hk2; omega)
    simp only [N29_3b, lx, h', e1, e2, a0, b0, x0, x1, x2, x7, y0, y1, y2, y7, n1, n2, neqOp2, ne_eq, not_true, Nat.zero_add, Nat.reduceAdd, purK_some, resK_some, boolK_some, condK_true, condK_false, wantV_tt, wantV_tf, wantV_ft, wantV_ff, wantV_t, wantV_f, wantV_skip, Bool.not_true, Bool.not_false, gPur_true, gPur_false, gEff_true, gEff_false, gRes_true, gRes_false, pickA_true, pickA_false, extA_0, extA_1, extA_2, retK_one, retK_none, retK_two, valK_fn, valR_fn, cond_true, cond_false, bin_add, bin_sub, bin_mul, bin_eql, bin_neq, bin_lss, bin_leq, bin_gtr, bin_geq, bin_seql, bin_sneq, un_not_t, un_not_f, un_not, cvI_int, cvT_str, nilChk_ptr, nilChk_xp, addA_ptr, lenT_str, Bool.true_or, Bool.or_true, Bool.false_or, Bool.or_false, Bool.true_and, Bool.and_true, Bool.false_and, Bool.and_false, decide_true, decide_false, Int.reduceEq, Int.reduceLT, Int.reduceLE, Int.reduceNe, Int.reduceAdd, Int.reduceSub, Int.reduceMul, Int.reduceNeg, List.nil_append, List.append_nil, List.cons_append]
    refine Ret.bind ei ?_
    rintro v H1 ⟨rfl, rfl⟩
    simp only [N29_4, N29_5, wrap_succN i (by omega : i + 1 < 9223372036854775808), purK_some, resK_some, boolK_some, condK_true, condK_false, wantV_tt, wantV_tf, wantV_ft, wantV_ff, wantV_t, wantV_f, wantV_skip, Bool.not_true, Bool.not_false, gPur_true, gPur_false, gEff_true, gEff_false, gRes_true, gRes_false, pickA_true, pickA_false, extA_0, extA_1, extA_2, retK_one, retK_none, retK_two, valK_fn, valR_fn, cond_true, cond_false, bin_add, bin_sub, bin_mul, bin_eql, bin_neq, bin_lss, bin_leq, bin_gtr, bin_geq, bin_seql, bin_sneq, un_not_t, un_not_f, un_not, cvI_int, cvT_str, nilChk_ptr, nilChk_xp, addA_ptr, lenT_str, Bool.true_or, Bool.or_true, Bool.false_or, Bool.or_false, Bool.true_and, Bool.and_true, Bool.false_and, Bool.and_false, decide_true, decide_false, Int.reduceEq, Int.reduceLT, Int.reduceLE, Int.reduceNe, Int.reduceAdd, Int.reduceSub, Int.reduceMul, Int.reduceNeg, List.nil_append, List.append_nil, List.cons_append]
    exact next (m - 1) _ H1 (by omega) ⟨i + 1, rfl, by omega, by omega, rfl⟩
  · have h' : ¬ (i : Int) < ps.length := by omega
    simp only [N29_3b, N29_1, lx, h', purK_some, resK_some, boolK_some, condK_true, condK_false, wantV_tt, wantV_tf, wantV_ft, wantV_ff, wantV_t, wantV_f, wantV_skip, Bool.not_true, Bool.not_false, gPur_true, gPur_false, gEff_true, gEff_false, gRes_true, gRes_false, pickA_true, pickA_false, extA_0, extA_1, extA_2, retK_one, retK_none, retK_two, valK_fn, valR_fn, cond_true, cond_false, bin_add, bin_sub, bin_mul, bin_eql, bin_neq, bin_lss, bin_leq, bin_gtr, bin_geq, bin_seql, bin_sneq, un_not_t, un_not_f, un_not, cvI_int, cvT_str, nilChk_ptr, nilChk_xp, addA_ptr, lenT_str, Bool.true_or, Bool.or_true, Bool.false_or, Bool.or_false, Bool.true_and, Bool.and_true, Bool.false_and, Bool.and_false, decide_true, decide_false, Int.reduceEq, Int.reduceLT, Int.reduceLE, Int.reduceNe, Int.reduceAdd, Int.reduceSub, Int.reduceMul, Int.reduceNeg, List.nil_append, List.append_nil, List.cons_append]
    exact .intro ⟨rfl, rfl⟩
theorem beq_bool (H : Heap) (a b : Bool) : binA Try.prog H .neq 4 (.bool a) (.bool b) = some (.bool (a != b)) := by cases a <;> cases b <;> kernel_rfl
theorem pickGo_len : ∀ (n : Nat) (x : Int), (pickGo n x).1.length = n
  | 0, x => rfl
  | n + 1, x => by rw [pickGo, List.length_cons, pickGo_len]
theorem stepP_picks (p : PlanD) (x : Int) : (stepP p x).1.picks.length < 1000 := by
  have r := bl_range (nx (nx x)) 4 (by decide)
  unfold stepP; simp only
  split
  · exact (by decide : ([] : List Int).length < 1000)
  split
  · exact (by decide : ([] : List Int).length < 1000)
  split
  · exact (by decide : ([] : List Int).length < 1000)
  split
  · exact (by decide : ([] : List Int).length < 1000)
  split
  · simp only [pickGo_len]; omega
  · exact (by decide : ([] : List Int).length < 1000)
theorem stepsP_picks (p : PlanD) : ∀ (n : Nat) (x : Int), ∀ d ∈ stepsP p n x, d.picks.length < 1000
  | 0, x, d, h => by cases h
  | n + 1, x, d, h => by
    rcases List.mem_cons.1 h with rfl | h
    · exact stepP_picks p x
    · exact stepsP_picks p n _ d h
theorem picks_of (p : PlanD) {n : Nat} {x : Int} {ps : List (StepV × AV)} (h : ps.map Prod.fst = stepsP p n x) : ∀ q ∈ ps, q.1.picks.length < 1000 := fun q hq => stepsP_picks p n x q.1 (by rw [← h]; exact List.mem_map.2 ⟨q, hq, rfl⟩)
/-- The law's own loop: the reference's steps. -/
theorem law_loop {yc : YieldF} {n3 n9 : Nat} (p : PlanD) (hW : p.W.length = 10) (hp : p.Ok) (hx : u64r p.seed) (N : Nat) (hN : N ≤ 200) (hk : 300 ≤ k) (x2 x7 x8 : AV) (k0 : AV → AV → AV → AV → AV → AV → Heap → Res) {Q : AV → Heap → Prop}
    (l3 : n3 < H.sz) (l9 : n9 < H.sz) (n39 : n3 ≠ n9) (g3 : H.get n3 = planO p) (g9 : H.get n9 = .cells 0 51 (0, 0) false [.int .u64 p.seed]) (y0 : AV) (z : Nat) (z3 : n3 < z) (z9 : n9 < z) (zz : z ≤ H.sz) (hPL0 : PL H z y0 [])
    (hk0 : ∀ H' y ps, PL H' z y ps → ps.map Prod.fst = stepsP p N p.seed → H'.get n3 = planO p → Fr (fun t => t = n9 ∨ z ≤ t) H H' → Ret Q (k0 (.int .i64 N) x2 (.ptr n3 0 0) x7 x8 y H')) :
    Ret Q (loopL (fun (x : AV × AV) H kn => N7_5b ρ (evCall (cx ρ) k) yc 0 k (.int .i64 N) x2 (.ptr n3 0 0) x7 x8 (.ptr n9 0 0) x.1 x.2 H (fun x10 x11 H => kn (x10, x11) H) k0) k (y0, .int .i64 0) H) := by
  refine Ret.loop (fun m y H' => ∃ i : Nat, ∃ ys ps, y = (ys, .int .i64 i) ∧ m = N - i ∧ i ≤ N ∧ PL H' z ys ps ∧ ps.map Prod.fst = stepsP p i p.seed ∧ H'.get n3 = planO p ∧ H'.get n9 = .cells 0 51 (0, 0) false [.int .u64 (stateP p i p.seed)] ∧ Fr (fun t => t = n9 ∨ z ≤ t) H H')
    ?_ N k _ H ⟨0, y0, [], rfl, rfl, by omega, hPL0, rfl, g3, g9, Fr.refl ..⟩ (by omega)
  rintro m y H' kn ⟨i, ys, ps, rfl, hm, hi, hPL, hps, gp, gd, fr⟩ next
  have hlen : ps.length = i := by rw [← stepsP_len p i p.seed, ← hps, List.length_map]
  by_cases hl : i < N
  · have h : (i : Int) < N := by omega
    simp only [N7_5b, h, ldN_ptr, gp, planO, ldPl p hW, purK_some, resK_some, boolK_some, condK_true, condK_false, wantV_tt, wantV_tf, wantV_ft, wantV_ff, wantV_t, wantV_f, wantV_skip, Bool.not_true, Bool.not_false, gPur_true, gPur_false, gEff_true, gEff_false, gRes_true, gRes_false, pickA_true, pickA_false, extA_0, extA_1, extA_2, retK_one, retK_none, retK_two, valK_fn, valR_fn, cond_true, cond_false, bin_add, bin_sub, bin_mul, bin_eql, bin_neq, bin_lss, bin_leq, bin_gtr, bin_geq, bin_seql, bin_sneq, un_not_t, un_not_f, un_not, cvI_int, cvT_str, nilChk_ptr, nilChk_xp, addA_ptr, lenT_str, Bool.true_or, Bool.or_true, Bool.false_or, Bool.or_false, Bool.true_and, Bool.and_true, Bool.false_and, Bool.and_false, decide_true, decide_false, Int.reduceEq, Int.reduceLT, Int.reduceLE, Int.reduceNe, Int.reduceAdd, Int.reduceSub, Int.reduceMul, Int.reduceNeg, List.nil_append, List.append_nil, List.cons_append]
    have zf := fr.sz
    refine Ret.bind (rstep_spec (ρ := ρ) p hp (stateP p i p.seed) (Nat.lt_of_lt_of_le l9 zf) gd (stateP_range p i _ hx) (by omega)) ?_
    rintro v H5 ⟨y1, rfl, r1, r2, r3, r4⟩
    have hPL5 := hPL.frame r4 fun t ht => by omega
    refine hPL5.push r2 (fun t ht => ⟨by have := r3 t ht; omega, fun q => ?_⟩) (by have := r4.sz; omega) (by omega) ?_
    · have := (hPL.out.toEls (ρ := ρ)).lies_lt t q
      have := r3 t ht
      omega
    · intro y' H6 hP6 f6
      simp only [wrap_succN i (by omega : i + 1 < 9223372036854775808), purK_some, resK_some, boolK_some, condK_true, condK_false, wantV_tt, wantV_tf, wantV_ft, wantV_ff, wantV_t, wantV_f, wantV_skip, Bool.not_true, Bool.not_false, gPur_true, gPur_false, gEff_true, gEff_false, gRes_true, gRes_false, pickA_true, pickA_false, extA_0, extA_1, extA_2, retK_one, retK_none, retK_two, valK_fn, valR_fn, cond_true, cond_false, bin_add, bin_sub, bin_mul, bin_eql, bin_neq, bin_lss, bin_leq, bin_gtr, bin_geq, bin_seql, bin_sneq, un_not_t, un_not_f, un_not, cvI_int, cvT_str, nilChk_ptr, nilChk_xp, addA_ptr, lenT_str, Bool.true_or, Bool.or_true, Bool.false_or, Bool.or_false, Bool.true_and, Bool.and_true, Bool.false_and, Bool.and_false, decide_true, decide_false, Int.reduceEq, Int.reduceLT, Int.reduceLE, Int.reduceNe, Int.reduceAdd, Int.reduceSub, Int.reduceMul, Int.reduceNeg, List.nil_append, List.append_nil, List.cons_append]
      refine next (m - 1) _ H6 (by omega) ⟨i + 1, y', _, rfl, by omega, by omega, hP6, ?_, ?_, ?_, ?_⟩
      · rw [List.map_append, hps, stepsP_succ]; rfl
      · have l5 : n3 < H5.sz := by have := r4.sz; omega
        rw [f6.get n3 l5 (by omega), r4.get n3 (by omega) n39, gp]
      · have l5 : n9 < H5.sz := by have := r4.sz; omega
        rw [f6.get n9 l5 (by omega), r1, stateP_succ]
      · exact (fr.trans (r4.mono fun t _ q => Or.inl q)).trans (f6.mono fun t _ q => Or.inr q)
  · obtain rfl : i = N := by omega
    have h : ¬ (i : Int) < i := by omega
    simp only [N7_5b, h, purK_some, resK_some, boolK_some, condK_true, condK_false, wantV_tt, wantV_tf, wantV_ft, wantV_ff, wantV_t, wantV_f, wantV_skip, Bool.not_true, Bool.not_false, gPur_true, gPur_false, gEff_true, gEff_false, gRes_true, gRes_false, pickA_true, pickA_false, extA_0, extA_1, extA_2, retK_one, retK_none, retK_two, valK_fn, valR_fn, cond_true, cond_false, bin_add, bin_sub, bin_mul, bin_eql, bin_neq, bin_lss, bin_leq, bin_gtr, bin_geq, bin_seql, bin_sneq, un_not_t, un_not_f, un_not, cvI_int, cvT_str, nilChk_ptr, nilChk_xp, addA_ptr, lenT_str, Bool.true_or, Bool.or_true, Bool.false_or, Bool.or_false, Bool.true_and, Bool.and_true, Bool.false_and, Bool.and_false, decide_true, decide_false, Int.reduceEq, Int.reduceLT, Int.reduceLE, Int.reduceNe, Int.reduceAdd, Int.reduceSub, Int.reduceMul, Int.reduceNeg, List.nil_append, List.append_nil, List.cons_append]
    exact hk0 H' ys ps hPL hps gp fr
theorem mod_nat (a : Int) (N : Nat) (hN : N ≤ 200) : ∃ m : Nat, m ≤ N ∧ wrapK .i64 ((wrapK .u64 a).tmod (wrapK .u64 (wrapK .i64 ((N : Int) + 1)))) = m := by
  have e1 : wrapK .i64 ((N : Int) + 1) = ((N + 1 : Nat) : Int) := wrap_succN N (by omega)
  have e2 : wrapK .u64 ((N + 1 : Nat) : Int) = ((N + 1 : Nat) : Int) := wrap_u64 _ (by omega)
  have r := wrap_u64_range a
  rw [e1, e2]
  clear e1 e2
  generalize wrapK .u64 a = b at r
  obtain ⟨c, rfl⟩ : ∃ c : Nat, b = c := ⟨b.toNat, by omega⟩
  refine ⟨c % (N + 1), Nat.le_of_lt_succ (Nat.mod_lt _ (by omega)), ?_⟩
  have e3 : ((c : Int).tmod ((N + 1 : Nat) : Int)) = ((c % (N + 1) : Nat) : Int) := rfl
  have lt := Nat.mod_lt c (show 0 < N + 1 by omega)
  rw [e3, wrap_nat _ (by omega)]
end
theorem eqvs_self : ∀ l : List AV, (∀ c ∈ l, AV.eqv c c = true) → AV.eqvs l l = true
  | [], _ => eqvs_nil
  | c :: l, h => by rw [eqvs_cons, h c (by simp), eqvs_self l fun c hc => h c (by simp [hc])]; rfl
theorem agnPl (p : PlanD) : agn (some (.agg p.cells)) (.agg p.cells) = true := by
  rw [agn_some, eqv_agg]
  refine eqvs_self _ fun c hc => ?_
  unfold PlanD.cells wts at hc
  simp only [List.mem_cons, List.mem_map] at hc
  rcases hc with rfl | rfl | rfl | ⟨n, _, rfl⟩ <;> exact eqv_int _ _
section
variable {ρ : Addr → Option Value} {k : Nat}
theorem law_two {n3 : Nat} (p : PlanD) (hW : p.W.length = 10) (hx : u64r p.seed) (hk : 2500 ≤ k) (hb : okB p = true) (N : Nat) (hN : N ≤ 200) (m : Int) {H : Heap} {y : AV} {ps : List (StepV × AV)} (l3 : n3 < H.sz) (g3 : H.get n3 = planO p) (hy : ∃ z, PL H z y ps) (hps : ps.map Prod.fst = stepsP p N p.seed) :
    Ret (fun v H' => v = .bool true) (N7_2 ρ (evCall (cx ρ) k) (evCY (cx ρ) k).2 0 k (.int .i64 N) (.int .i64 m) (.ptr n3 0 0) y (.int .i64 0) H retK) := by
  have hp := (okB_iff p hW).1 hb
  have l0 : ldC 0 0 (planO p) = some (.int .u64 p.seed) := by rw [ldC_cells]; rfl
  have bx : ∀ H : Heap, boxA H 51 (.agg [.int .u64 p.seed]) = some (.ptr H.sz 0 0, .new (.cells 0 51 (0, 0) false [.int .u64 p.seed])) := fun H => boxA_agg H _ _ rfl
  have bA : bldA [.int .u64 0] [(0, 1, .int .u64 p.seed)] = some (.agg [.int .u64 p.seed]) := rfl
  simp only [N7_2, ld1_ptr, g3, l0, bA, bx, Nat.zero_add, Nat.add_zero, purK_some, resK_some, boolK_some, condK_true, condK_false, wantV_tt, wantV_tf, wantV_ft, wantV_ff, wantV_t, wantV_f, wantV_skip, Bool.not_true, Bool.not_false, gPur_true, gPur_false, gEff_true, gEff_false, gRes_true, gRes_false, pickA_true, pickA_false, extA_0, extA_1, extA_2, retK_one, retK_none, retK_two, valK_fn, valR_fn, cond_true, cond_false, bin_add, bin_sub, bin_mul, bin_eql, bin_neq, bin_lss, bin_leq, bin_gtr, bin_geq, bin_seql, bin_sneq, un_not_t, un_not_f, un_not, cvI_int, cvT_str, nilChk_ptr, nilChk_xp, addA_ptr, lenT_str, Bool.true_or, Bool.or_true, Bool.false_or, Bool.or_false, Bool.true_and, Bool.and_true, Bool.false_and, Bool.and_false, decide_true, decide_false, Int.reduceEq, Int.reduceLT, Int.reduceLE, Int.reduceNe, Int.reduceAdd, Int.reduceSub, Int.reduceMul, Int.reduceNeg, List.nil_append, List.append_nil, List.cons_append]
  have s0 : St Nop H [(n3, planO p)] H → True := fun _ => trivial
  rw [effK_new]
  obtain ⟨H1, hH1⟩ : ∃ H1, H1 = H.new (.cells 0 51 (0, 0) false [.int .u64 p.seed]) := ⟨_, rfl⟩
  have f1 : Fr Nop H H1 := hH1 ▸ Fr.new Nop H _
  have z1 : H1.sz = H.sz + 1 := by rw [hH1, szn]
  have g91 : H1.get H.sz = .cells 0 51 (0, 0) false [.int .u64 p.seed] := by rw [hH1, Heap.get_new_same]
  have g31 : H1.get n3 = planO p := by rw [f1.get n3 l3 (fun q => q), g3]
  rw [← hH1]
  have b0 : bldS H1 42 8 Z8 0 [] = some (.sl H1.sz 0 0 0 0 false, .new (.cells 0 42 (0, 0) false [])) := rfl
  rw [b0, effK_new]
  obtain ⟨H2, hH2⟩ : ∃ H2, H2 = H1.new (.cells 0 42 (0, 0) false []) := ⟨_, rfl⟩
  have f2 : Fr Nop H1 H2 := hH2 ▸ Fr.new Nop H1 _
  have z2 : H2.sz = H1.sz + 1 := by rw [hH2, szn]
  have g2 : H2.get H1.sz = .cells 0 42 (0, 0) false [] := by rw [hH2, Heap.get_new_same]
  rw [← hH2]
  simp only [N7_4, N7_5]
  have hnil : PL H2 H1.sz (.sl H1.sz 0 0 0 0 false) [] := ⟨Or.inl ⟨rfl, rfl, rfl, rfl, by omega, _, _, _, _, g2, by simp⟩, fun t ht => Nat.le_of_eq ht, by simp⟩
  refine law_loop (ρ := ρ) (k := k) (n3 := n3) (n9 := H.sz) p hW hp hx N hN (by omega) _ _ _ _ (by omega) (by omega) (by omega) (by rw [f2.get n3 (by omega) (fun q => q), g31]) (by rw [f2.get _ (by omega) (fun q => q), g91]) _ H1.sz (by omega) (by omega) (by omega) hnil ?_
  intro H3 y' ps' hP3 hps' g33 f3
  obtain ⟨M, hM, hMe⟩ := mod_nat m N hN
  have nz : wrapK .u64 (wrapK .i64 ((N : Int) + 1)) ≠ 0 := by
    rw [wrap_succN N (by omega), wrap_u64 _ (by omega)]; omega
  have hrem : binA Try.prog H3 .rem 53 (.int .u64 (wrapK .u64 m)) (.int .u64 (wrapK .u64 (wrapK .i64 ((N : Int) + 1)))) = some (.int .u64 ((wrapK .u64 m).tmod (wrapK .u64 (wrapK .i64 ((N : Int) + 1))))) := bin_rem _ _ _ _ _ _ nz
  clear nz
  simp only [N7_3, hrem, hMe, ldN_ptr, g33, planO, ldPl p hW, purK_some, resK_some, boolK_some, condK_true, condK_false, wantV_tt, wantV_tf, wantV_ft, wantV_ff, wantV_t, wantV_f, wantV_skip, Bool.not_true, Bool.not_false, gPur_true, gPur_false, gEff_true, gEff_false, gRes_true, gRes_false, pickA_true, pickA_false, extA_0, extA_1, extA_2, retK_one, retK_none, retK_two, valK_fn, valR_fn, cond_true, cond_false, bin_add, bin_sub, bin_mul, bin_eql, bin_neq, bin_lss, bin_leq, bin_gtr, bin_geq, bin_seql, bin_sneq, un_not_t, un_not_f, un_not, cvI_int, cvT_str, nilChk_ptr, nilChk_xp, addA_ptr, lenT_str, Bool.true_or, Bool.or_true, Bool.false_or, Bool.or_false, Bool.true_and, Bool.and_true, Bool.false_and, Bool.and_false, decide_true, decide_false, Int.reduceEq, Int.reduceLT, Int.reduceLE, Int.reduceNe, Int.reduceAdd, Int.reduceSub, Int.reduceMul, Int.reduceNeg, List.nil_append, List.append_nil, List.cons_append]
  clear hMe hrem
  obtain ⟨zy, hyP⟩ := hy
  have hR3 : RowsS ρ H3 y ps := by
    have r0 : RowsS ρ H2 y ps := (hyP.rows.frame0 f1).frame0 f2
    have lo : ∀ t, y.lies t → t < H.sz := fun t ht => (hyP.rows (ρ := ρ)).1.lies_lt t ht
    have li : ∀ q ∈ ps, ∀ t, q.2.lies t → t < H.sz := fun q hq t ht => ((hyP.rows (ρ := ρ)).2 q hq).lies_lt t ht
    have f3' : ∀ t, t < H.sz → ¬ (t = H.sz ∨ H1.sz ≤ t) := by intro t ht hc; rcases hc with h | h <;> omega
    exact ⟨r0.1.frame _ f3 fun t ht => f3' t (lo t ht), fun q hq => (r0.2 q hq).frame _ f3 fun t ht => f3' t (li q hq t ht)⟩
  refine Ret.bind (steps_spec (ρ := ρ) (k := k) (H := H3) p hW hx (M : Int) (by omega) (by intro _; rw [Int.toNat_natCast]; omega)) ?_
  rintro v H4 (⟨h1, _⟩ | ⟨_, h1, _⟩ | ⟨_, _, _, y4, ps4, rfl, hP4, hps4, f4⟩)
  · rw [hb] at h1; cases h1
  · omega
  rw [Int.toNat_natCast] at hps4
  have hlen : ps.length = N := by rw [← stepsP_len p N p.seed, ← hps, List.length_map]
  have hlen' : ps'.length = N := by rw [← stepsP_len p N p.seed, ← hps', List.length_map]
  have hlen4 : ps4.length = M := by rw [← stepsP_len p M p.seed, ← hps4, List.length_map]
  simp only [purK_some, resK_some, boolK_some, condK_true, condK_false, wantV_tt, wantV_tf, wantV_ft, wantV_ff, wantV_t, wantV_f, wantV_skip, Bool.not_true, Bool.not_false, gPur_true, gPur_false, gEff_true, gEff_false, gRes_true, gRes_false, pickA_true, pickA_false, extA_0, extA_1, extA_2, retK_one, retK_none, retK_two, valK_fn, valR_fn, cond_true, cond_false, bin_add, bin_sub, bin_mul, bin_eql, bin_neq, bin_lss, bin_leq, bin_gtr, bin_geq, bin_seql, bin_sneq, un_not_t, un_not_f, un_not, cvI_int, cvT_str, nilChk_ptr, nilChk_xp, addA_ptr, lenT_str, Bool.true_or, Bool.or_true, Bool.false_or, Bool.or_false, Bool.true_and, Bool.and_true, Bool.false_and, Bool.and_false, decide_true, decide_false, Int.reduceEq, Int.reduceLT, Int.reduceLE, Int.reduceNe, Int.reduceAdd, Int.reduceSub, Int.reduceMul, Int.reduceNeg, List.nil_append, List.append_nil, List.cons_append]
  have hP34 := hP3.frame0 f4
  refine Ret.bind (same_spec (ρ := ρ) (k := k) y y' ps ps' (hR3.frame0 f4) hP34.rows (by rw [hps, hps']) (by omega) (by omega) (picks_of p hps) (by omega)) ?_
  rintro v H5 ⟨rfl, rfl⟩
  obtain ⟨w, hw1, hw2, hw3⟩ := (hP34.rows (ρ := ρ)).1.cut (lo := 0) (hi := M) (by omega) (by simp; omega) none (some (.int .i64 M)) (Or.inl ⟨rfl, rfl⟩) (Or.inr ⟨.i64, rfl⟩) hP34.out.notSx
  simp only [hw1, purK_some, resK_some, boolK_some, condK_true, condK_false, wantV_tt, wantV_tf, wantV_ft, wantV_ff, wantV_t, wantV_f, wantV_skip, Bool.not_true, Bool.not_false, gPur_true, gPur_false, gEff_true, gEff_false, gRes_true, gRes_false, pickA_true, pickA_false, extA_0, extA_1, extA_2, retK_one, retK_none, retK_two, valK_fn, valR_fn, cond_true, cond_false, bin_add, bin_sub, bin_mul, bin_eql, bin_neq, bin_lss, bin_leq, bin_gtr, bin_geq, bin_seql, bin_sneq, un_not_t, un_not_f, un_not, cvI_int, cvT_str, nilChk_ptr, nilChk_xp, addA_ptr, lenT_str, Bool.true_or, Bool.or_true, Bool.false_or, Bool.or_false, Bool.true_and, Bool.and_true, Bool.false_and, Bool.and_false, decide_true, decide_false, Int.reduceEq, Int.reduceLT, Int.reduceLE, Int.reduceNe, Int.reduceAdd, Int.reduceSub, Int.reduceMul, Int.reduceNeg, List.nil_append, List.append_nil, List.cons_append]
  have hw : RowsS ρ H5 w (ps'.take M) := by
    refine ⟨?_, fun q hq => (hP34.rows (ρ := ρ)).2 q (List.mem_of_mem_take hq)⟩
    rw [List.drop_zero, Nat.sub_zero, ← List.map_take] at hw2
    exact hw2
  refine Ret.bind (same_spec (ρ := ρ) (k := k) y4 w ps4 (ps'.take M) hP4.rows hw (by rw [hps4, List.map_take, hps', stepsP_take p M N _ hM]) (by omega) (by omega) (picks_of p hps4) (by omega)) ?_
  rintro v H6 ⟨rfl, rfl⟩
  try simp only [purK_some, resK_some, boolK_some, condK_true, condK_false, wantV_tt, wantV_tf, wantV_ft, wantV_ff, wantV_t, wantV_f, wantV_skip, Bool.not_true, Bool.not_false, gPur_true, gPur_false, gEff_true, gEff_false, gRes_true, gRes_false, pickA_true, pickA_false, extA_0, extA_1, extA_2, retK_one, retK_none, retK_two, valK_fn, valR_fn, cond_true, cond_false, bin_add, bin_sub, bin_mul, bin_eql, bin_neq, bin_lss, bin_leq, bin_gtr, bin_geq, bin_seql, bin_sneq, un_not_t, un_not_f, un_not, cvI_int, cvT_str, nilChk_ptr, nilChk_xp, addA_ptr, lenT_str, Bool.true_or, Bool.or_true, Bool.false_or, Bool.or_false, Bool.true_and, Bool.and_true, Bool.false_and, Bool.and_false, decide_true, decide_false, Int.reduceEq, Int.reduceLT, Int.reduceLE, Int.reduceNe, Int.reduceAdd, Int.reduceSub, Int.reduceMul, Int.reduceNeg, List.nil_append, List.append_nil, List.cons_append]
  exact .intro rfl
theorem cnd (n : Int) (c : ¬ (200 < n ∧ n ≤ 10000)) {H : Heap} (K : AV → Res) : (purK (binA Try.prog H .gtr 3 (.int .i64 n) (.int .i64 200)) fun x17 =>
    purK (gPur (wantV x17 true) (some (.int .i64 n))) fun x19 =>
    purK (gPur (wantV x17 true) (binA Try.prog H .leq 3 x19 (.int .i64 10000))) fun x20 =>
    purK (pickA x17 x20 (.bool false)) K) = K (.bool false) := by
  by_cases a : 200 < n
  · have b : ¬ n ≤ 10000 := fun b => c ⟨a, b⟩
    simp only [a, b, purK_some, resK_some, boolK_some, condK_true, condK_false, wantV_tt, wantV_tf, wantV_ft, wantV_ff, wantV_t, wantV_f, wantV_skip, Bool.not_true, Bool.not_false, gPur_true, gPur_false, gEff_true, gEff_false, gRes_true, gRes_false, pickA_true, pickA_false, extA_0, extA_1, extA_2, retK_one, retK_none, retK_two, valK_fn, valR_fn, cond_true, cond_false, bin_add, bin_sub, bin_mul, bin_eql, bin_neq, bin_lss, bin_leq, bin_gtr, bin_geq, bin_seql, bin_sneq, un_not_t, un_not_f, un_not, cvI_int, cvT_str, nilChk_ptr, nilChk_xp, addA_ptr, lenT_str, Bool.true_or, Bool.or_true, Bool.false_or, Bool.or_false, Bool.true_and, Bool.and_true, Bool.false_and, Bool.and_false, decide_true, decide_false, Int.reduceEq, Int.reduceLT, Int.reduceLE, Int.reduceNe, Int.reduceAdd, Int.reduceSub, Int.reduceMul, Int.reduceNeg, List.nil_append, List.append_nil, List.cons_append]
  · simp only [a, purK_some, resK_some, boolK_some, condK_true, condK_false, wantV_tt, wantV_tf, wantV_ft, wantV_ff, wantV_t, wantV_f, wantV_skip, Bool.not_true, Bool.not_false, gPur_true, gPur_false, gEff_true, gEff_false, gRes_true, gRes_false, pickA_true, pickA_false, extA_0, extA_1, extA_2, retK_one, retK_none, retK_two, valK_fn, valR_fn, cond_true, cond_false, bin_add, bin_sub, bin_mul, bin_eql, bin_neq, bin_lss, bin_leq, bin_gtr, bin_geq, bin_seql, bin_sneq, un_not_t, un_not_f, un_not, cvI_int, cvT_str, nilChk_ptr, nilChk_xp, addA_ptr, lenT_str, Bool.true_or, Bool.or_true, Bool.false_or, Bool.or_false, Bool.true_and, Bool.and_true, Bool.false_and, Bool.and_false, decide_true, decide_false, Int.reduceEq, Int.reduceLT, Int.reduceLE, Int.reduceNe, Int.reduceAdd, Int.reduceSub, Int.reduceMul, Int.reduceNeg, List.nil_append, List.append_nil, List.cons_append]
theorem law_ret (p : PlanD) (hW : p.W.length = 10) (hx : u64r p.seed) (hk : 2500 ≤ k) (n m : Int) : Ret (fun v H' => v = .bool true) (evCall (cx ρ) (k + 1) 0 7 [.agg p.cells, .int .i64 n, .int .i64 m] Heap.nil) := by
  rw [E7]
  simp only [L7, boxA_agg _ _ _ p.solid]
  refine (St.start Nop Heap.nil).newP fun n3 H1 s1 hz1 f1 => ?_
  rw [show k = (k - 2) + 2 by omega, awake_spec, ← show k = (k - 2) + 2 by omega]
  simp only [resK_some, un_not_t, purK_some, condK_false]
  by_cases c : 200 < n ∧ n ≤ 10000
  · simp only [c.1, c.2, purK_some, resK_some, boolK_some, condK_true, condK_false, wantV_tt, wantV_tf, wantV_ft, wantV_ff, wantV_t, wantV_f, wantV_skip, Bool.not_true, Bool.not_false, gPur_true, gPur_false, gEff_true, gEff_false, gRes_true, gRes_false, pickA_true, pickA_false, extA_0, extA_1, extA_2, retK_one, retK_none, retK_two, valK_fn, valR_fn, cond_true, cond_false, bin_add, bin_sub, bin_mul, bin_eql, bin_neq, bin_lss, bin_leq, bin_gtr, bin_geq, bin_seql, bin_sneq, un_not_t, un_not_f, un_not, cvI_int, cvT_str, nilChk_ptr, nilChk_xp, addA_ptr, lenT_str, Bool.true_or, Bool.or_true, Bool.false_or, Bool.or_false, Bool.true_and, Bool.and_true, Bool.false_and, Bool.and_false, decide_true, decide_false, Int.reduceEq, Int.reduceLT, Int.reduceLE, Int.reduceNe, Int.reduceAdd, Int.reduceSub, Int.reduceMul, Int.reduceNeg, List.nil_append, List.append_nil, List.cons_append]
    exact .intro rfl
  rw [cnd n c, condK_false]
  have g3 := s1.at 0 rfl
  simp only [ldN_ptr, g3, ldPl p hW, purK_some]
  refine Ret.bind (steps_spec (ρ := ρ) (k := k) (H := H1) p hW hx n (by omega) (by omega)) ?_
  intro v H2 hv
  obtain ⟨x7, x8, rfl, f2, hv⟩ : ∃ x7 x8, v = .tup [x7, x8] ∧ Fr Nop H1 H2 ∧ ((okB p = false ∧ x7 = .nils ∧ x8 = .int .i64 1) ∨ (okB p = true ∧ (n < 0 ∨ 10000 < n) ∧ x7 = .nils ∧ x8 = .int .i64 5) ∨
      (okB p = true ∧ 0 ≤ n ∧ n ≤ 10000 ∧ x8 = .int .i64 0 ∧ ∃ ps, PL H2 H1.sz x7 ps ∧ ps.map Prod.fst = stepsP p n.toNat p.seed)) := by
    rcases hv with ⟨hb, rfl, f2⟩ | ⟨hb, hn, rfl, f2⟩ | ⟨hb, hn, hn2, y, ps, rfl, hPL, hps, f2⟩
    · exact ⟨_, _, rfl, f2, Or.inl ⟨hb, rfl, rfl⟩⟩
    · exact ⟨_, _, rfl, f2, Or.inr (Or.inl ⟨hb, hn, rfl, rfl⟩)⟩
    · exact ⟨_, _, rfl, f2, Or.inr (Or.inr ⟨hb, hn, hn2, rfl, ps, hPL, hps⟩)⟩
  have s2 := s1.frame0 f2
  simp only [ldN_ptr, s2.at 0 rfl, ldPl p hW, purK_some, resK_some, boolK_some, condK_true, condK_false, wantV_tt, wantV_tf, wantV_ft, wantV_ff, wantV_t, wantV_f, wantV_skip, Bool.not_true, Bool.not_false, gPur_true, gPur_false, gEff_true, gEff_false, gRes_true, gRes_false, pickA_true, pickA_false, extA_0, extA_1, extA_2, retK_one, retK_none, retK_two, valK_fn, valR_fn, cond_true, cond_false, bin_add, bin_sub, bin_mul, bin_eql, bin_neq, bin_lss, bin_leq, bin_gtr, bin_geq, bin_seql, bin_sneq, un_not_t, un_not_f, un_not, cvI_int, cvT_str, nilChk_ptr, nilChk_xp, addA_ptr, lenT_str, Bool.true_or, Bool.or_true, Bool.false_or, Bool.or_false, Bool.true_and, Bool.and_true, Bool.false_and, Bool.and_false, decide_true, decide_false, Int.reduceEq, Int.reduceLT, Int.reduceLE, Int.reduceNe, Int.reduceAdd, Int.reduceSub, Int.reduceMul, Int.reduceNeg, List.nil_append, List.append_nil, List.cons_append]
  refine Ret.bind (right_spec p hW (by omega)) ?_
  rintro v H3 ⟨rfl, f3⟩
  have s3 := s2.frame0 f3
  simp only [ldN_ptr, s3.at 0 rfl, ldPl p hW, agnPl, purK_some, resK_some, boolK_some, condK_true, condK_false, wantV_tt, wantV_tf, wantV_ft, wantV_ff, wantV_t, wantV_f, wantV_skip, Bool.not_true, Bool.not_false, gPur_true, gPur_false, gEff_true, gEff_false, gRes_true, gRes_false, pickA_true, pickA_false, extA_0, extA_1, extA_2, retK_one, retK_none, retK_two, valK_fn, valR_fn, cond_true, cond_false, bin_add, bin_sub, bin_mul, bin_eql, bin_neq, bin_lss, bin_leq, bin_gtr, bin_geq, bin_seql, bin_sneq, un_not_t, un_not_f, un_not, cvI_int, cvT_str, nilChk_ptr, nilChk_xp, addA_ptr, lenT_str, Bool.true_or, Bool.or_true, Bool.false_or, Bool.or_false, Bool.true_and, Bool.and_true, Bool.false_and, Bool.and_false, decide_true, decide_false, Int.reduceEq, Int.reduceLT, Int.reduceLE, Int.reduceNe, Int.reduceAdd, Int.reduceSub, Int.reduceMul, Int.reduceNeg, List.nil_append, List.append_nil, List.cons_append]
  refine Ret.bind (rright_spec p hW (by omega)) ?_
  rintro v H4 ⟨rfl, f4⟩
  have s4 := s3.frame0 f4
  have e : (okB p != okB p) = false := by simp
  simp only [beq_bool, e, N7_6, N7_1, ldN_ptr, s4.at 0 rfl, ldPl p hW, purK_some, resK_some, boolK_some, condK_true, condK_false, wantV_tt, wantV_tf, wantV_ft, wantV_ff, wantV_t, wantV_f, wantV_skip, Bool.not_true, Bool.not_false, gPur_true, gPur_false, gEff_true, gEff_false, gRes_true, gRes_false, pickA_true, pickA_false, extA_0, extA_1, extA_2, retK_one, retK_none, retK_two, valK_fn, valR_fn, cond_true, cond_false, bin_add, bin_sub, bin_mul, bin_eql, bin_neq, bin_lss, bin_leq, bin_gtr, bin_geq, bin_seql, bin_sneq, un_not_t, un_not_f, un_not, cvI_int, cvT_str, nilChk_ptr, nilChk_xp, addA_ptr, lenT_str, Bool.true_or, Bool.or_true, Bool.false_or, Bool.or_false, Bool.true_and, Bool.and_true, Bool.false_and, Bool.and_false, decide_true, decide_false, Int.reduceEq, Int.reduceLT, Int.reduceLE, Int.reduceNe, Int.reduceAdd, Int.reduceSub, Int.reduceMul, Int.reduceNeg, List.nil_append, List.append_nil, List.cons_append]
  refine Ret.bind (rright_spec p hW (by omega)) ?_
  rintro v H5 ⟨rfl, f5⟩
  have s5 := s4.frame0 f5
  rcases hv with ⟨hb, rfl, rfl⟩ | ⟨hb, hn, rfl, rfl⟩ | ⟨hb, hn, hn2, rfl, ps, hPL, hps⟩
  · simp only [hb, lenS, purK_some, resK_some, boolK_some, condK_true, condK_false, wantV_tt, wantV_tf, wantV_ft, wantV_ff, wantV_t, wantV_f, wantV_skip, Bool.not_true, Bool.not_false, gPur_true, gPur_false, gEff_true, gEff_false, gRes_true, gRes_false, pickA_true, pickA_false, extA_0, extA_1, extA_2, retK_one, retK_none, retK_two, valK_fn, valR_fn, cond_true, cond_false, bin_add, bin_sub, bin_mul, bin_eql, bin_neq, bin_lss, bin_leq, bin_gtr, bin_geq, bin_seql, bin_sneq, un_not_t, un_not_f, un_not, cvI_int, cvT_str, nilChk_ptr, nilChk_xp, addA_ptr, lenT_str, Bool.true_or, Bool.or_true, Bool.false_or, Bool.or_false, Bool.true_and, Bool.and_true, Bool.false_and, Bool.and_false, decide_true, decide_false, Int.reduceEq, Int.reduceLT, Int.reduceLE, Int.reduceNe, Int.reduceAdd, Int.reduceSub, Int.reduceMul, Int.reduceNeg, List.nil_append, List.append_nil, List.cons_append]
    exact .intro rfl
  · simp only [hb, purK_some, resK_some, boolK_some, condK_true, condK_false, wantV_tt, wantV_tf, wantV_ft, wantV_ff, wantV_t, wantV_f, wantV_skip, Bool.not_true, Bool.not_false, gPur_true, gPur_false, gEff_true, gEff_false, gRes_true, gRes_false, pickA_true, pickA_false, extA_0, extA_1, extA_2, retK_one, retK_none, retK_two, valK_fn, valR_fn, cond_true, cond_false, bin_add, bin_sub, bin_mul, bin_eql, bin_neq, bin_lss, bin_leq, bin_gtr, bin_geq, bin_seql, bin_sneq, un_not_t, un_not_f, un_not, cvI_int, cvT_str, nilChk_ptr, nilChk_xp, addA_ptr, lenT_str, Bool.true_or, Bool.or_true, Bool.false_or, Bool.or_false, Bool.true_and, Bool.and_true, Bool.false_and, Bool.and_false, decide_true, decide_false, Int.reduceEq, Int.reduceLT, Int.reduceLE, Int.reduceNe, Int.reduceAdd, Int.reduceSub, Int.reduceMul, Int.reduceNeg, List.nil_append, List.append_nil, List.cons_append]
    by_cases h1 : n < 0
    · simp only [h1, lenS, purK_some, resK_some, boolK_some, condK_true, condK_false, wantV_tt, wantV_tf, wantV_ft, wantV_ff, wantV_t, wantV_f, wantV_skip, Bool.not_true, Bool.not_false, gPur_true, gPur_false, gEff_true, gEff_false, gRes_true, gRes_false, pickA_true, pickA_false, extA_0, extA_1, extA_2, retK_one, retK_none, retK_two, valK_fn, valR_fn, cond_true, cond_false, bin_add, bin_sub, bin_mul, bin_eql, bin_neq, bin_lss, bin_leq, bin_gtr, bin_geq, bin_seql, bin_sneq, un_not_t, un_not_f, un_not, cvI_int, cvT_str, nilChk_ptr, nilChk_xp, addA_ptr, lenT_str, Bool.true_or, Bool.or_true, Bool.false_or, Bool.or_false, Bool.true_and, Bool.and_true, Bool.false_and, Bool.and_false, decide_true, decide_false, Int.reduceEq, Int.reduceLT, Int.reduceLE, Int.reduceNe, Int.reduceAdd, Int.reduceSub, Int.reduceMul, Int.reduceNeg, List.nil_append, List.append_nil, List.cons_append]
      exact .intro rfl
    · have h2 : 10000 < n := by omega
      simp only [h1, h2, lenS, purK_some, resK_some, boolK_some, condK_true, condK_false, wantV_tt, wantV_tf, wantV_ft, wantV_ff, wantV_t, wantV_f, wantV_skip, Bool.not_true, Bool.not_false, gPur_true, gPur_false, gEff_true, gEff_false, gRes_true, gRes_false, pickA_true, pickA_false, extA_0, extA_1, extA_2, retK_one, retK_none, retK_two, valK_fn, valR_fn, cond_true, cond_false, bin_add, bin_sub, bin_mul, bin_eql, bin_neq, bin_lss, bin_leq, bin_gtr, bin_geq, bin_seql, bin_sneq, un_not_t, un_not_f, un_not, cvI_int, cvT_str, nilChk_ptr, nilChk_xp, addA_ptr, lenT_str, Bool.true_or, Bool.or_true, Bool.false_or, Bool.or_false, Bool.true_and, Bool.and_true, Bool.false_and, Bool.and_false, decide_true, decide_false, Int.reduceEq, Int.reduceLT, Int.reduceLE, Int.reduceNe, Int.reduceAdd, Int.reduceSub, Int.reduceMul, Int.reduceNeg, List.nil_append, List.append_nil, List.cons_append]
      exact .intro rfl
  · obtain ⟨N, rfl⟩ : ∃ N : Nat, n = N := ⟨n.toNat, by omega⟩
    rw [Int.toNat_natCast] at hps
    have h2 : ¬ 10000 < (N : Int) := by omega
    have h1 : ¬ (N : Int) < 0 := by omega
    simp only [hb, h1, h2, purK_some, resK_some, boolK_some, condK_true, condK_false, wantV_tt, wantV_tf, wantV_ft, wantV_ff, wantV_t, wantV_f, wantV_skip, Bool.not_true, Bool.not_false, gPur_true, gPur_false, gEff_true, gEff_false, gRes_true, gRes_false, pickA_true, pickA_false, extA_0, extA_1, extA_2, retK_one, retK_none, retK_two, valK_fn, valR_fn, cond_true, cond_false, bin_add, bin_sub, bin_mul, bin_eql, bin_neq, bin_lss, bin_leq, bin_gtr, bin_geq, bin_seql, bin_sneq, un_not_t, un_not_f, un_not, cvI_int, cvT_str, nilChk_ptr, nilChk_xp, addA_ptr, lenT_str, Bool.true_or, Bool.or_true, Bool.false_or, Bool.or_false, Bool.true_and, Bool.and_true, Bool.false_and, Bool.and_false, decide_true, decide_false, Int.reduceEq, Int.reduceLT, Int.reduceLE, Int.reduceNe, Int.reduceAdd, Int.reduceSub, Int.reduceMul, Int.reduceNeg, List.nil_append, List.append_nil, List.cons_append]
    exact law_two p hW hx hk hb N (by omega) m (s5.lt' 0 rfl) (s5.at 0 rfl) ⟨_, ((hPL.frame0 f3).frame0 f4).frame0 f5⟩ hps
end
end Go.Proofs.Ytcjicmabhejllaa

-- part PqA
/- Steps: a function over a slice; whether each session moves. -/
set_option linter.unusedVariables false
set_option linter.unusedSimpArgs false
namespace Go.Proofs.Ytcjicmabhejllaa
attribute [local congr] Go.Ev.cond_congr1
open Go.Ev Go.RowKit
section
variable {ρ : Addr → Option Value} {call : CallF} {yc : YieldF} {k : Nat} {H0 : Heap} {x : AV} {els : List (List AV)} {g : FuncId} {a c : List AV} {p : Nat → Bool}
theorem ixS_loop (hx : Els ρ H0 8 x els) (hlen : els.length < 4611686018427387904) (hf : ∀ (i : Nat) (h : i < els.length), ∀ H', Fr Nop H0 H' → ∃ H'', call 0 g (a ++ [.agg els[i]] ++ c) H' = some (.bool (p i), H'') ∧ Fr Nop H' H'') (k0 : Heap → Res) (R : List AV → Heap → Res)
    (B : AV → Heap → (AV → Heap → Res) → Res) (hB : ∀ x8 H kn, B x8 H kn = N48_3b ρ call yc 0 k x (.fn (.func g) a c) (.int .i64 els.length) x8 H (fun x8 H => kn x8 H) k0 R) :
    ∀ (m i n : Nat) (H : Heap), els.length - i = m → i ≤ els.length → m < n → Fr Nop H0 H → ∃ H', Fr Nop H H' ∧
      ((∃ j, i ≤ j ∧ j < els.length ∧ p j = true ∧ (∀ t, i ≤ t → t < j → p t = false) ∧ loopL B n (.int .i64 i) H = R [.int .i64 j] H') ∨
       ((∀ t, i ≤ t → t < els.length → p t = false) ∧ loopL B n (.int .i64 i) H = k0 H')) := by
  intro m
  induction m with
  | zero =>
    intro i n H hm hi hn hF
    obtain ⟨n, rfl⟩ : ∃ q, n = q + 1 := ⟨n - 1, by omega⟩
    have h : ¬ (i : Int) < els.length := by omega
    refine ⟨H, Fr.refl .., Or.inr ⟨fun t _ _ => by omega, ?_⟩⟩
    rw [loopL_succ, hB]
    simp only [N48_3b, h, purK_some, resK_some, boolK_some, condK_true, condK_false, wantV_tt, wantV_tf, wantV_ft, wantV_ff, wantV_t, wantV_f, wantV_skip, Bool.not_true, Bool.not_false, gPur_true, gPur_false, gEff_true, gEff_false, gRes_true, gRes_false, pickA_true, pickA_false, extA_0, extA_1, extA_2, retK_one, retK_none, retK_two, valK_fn, valR_fn, cond_true, cond_false, bin_add, bin_sub, bin_mul, bin_eql, bin_neq, bin_lss, bin_leq, bin_gtr, bin_geq, bin_seql, bin_sneq, un_not_t, un_not_f, un_not, cvI_int, cvT_str, nilChk_ptr, nilChk_xp, addA_ptr, lenT_str, Bool.true_or, Bool.or_true, Bool.false_or, Bool.or_false, Bool.true_and, Bool.and_true, Bool.false_and, Bool.and_false, decide_true, decide_false, Int.reduceEq, Int.reduceLT, Int.reduceLE, Int.reduceNe, Int.reduceAdd, Int.reduceSub, Int.reduceMul, Int.reduceNeg, List.nil_append, List.append_nil, List.cons_append]
  | succ m ih =>
    intro i n H hm hi hn hF
    obtain ⟨n, rfl⟩ : ∃ q, n = q + 1 := ⟨n - 1, by omega⟩
    have hi' : i < els.length := by omega
    have h : (i : Int) < els.length := by omega
    have hX := hx.frame0 hF
    obtain ⟨H1, hc, hF1⟩ := hf i hi' H hF
    have e1 := hX.ix .i64 i (by omega) h
    have e2 := hX.ldN i hi'
    have e3 : wrapK .i64 ((i : Int) + 1) = ((i + 1 : Nat) : Int) := by rw [wrap_i64] <;> omega
    have step : loopL B (n + 1) (.int .i64 i) H = condK (.bool (p i)) (R [.int .i64 i] H1) (loopL B n (.int .i64 (i + 1 : Nat)) H1) := by
      rw [loopL_succ, hB]
      simp only [N48_3b, bin_lss, bin_add, purK_some, h, decide_true, condK_true, e1, Int.toNat_natCast, e2, valK_fn, hc, resK_some, e3]
    obtain ⟨H', hF', q⟩ := ih (i + 1) n H1 (by omega) (by omega) (by omega) (hF.trans hF1)
    cases hp : p i with
    | true => exact ⟨H1, hF1, Or.inl ⟨i, Nat.le_refl _, hi', hp, fun t a b => by omega, by rw [step, hp]; rfl⟩⟩
    | false =>
      refine ⟨H', hF1.trans hF', ?_⟩
      rw [step, hp, condK_false]
      have hp' : ∀ t, i ≤ t → t = i ∨ i + 1 ≤ t := fun t h => by omega
      rcases q with ⟨j, q1, q2, q3, q4, q5⟩ | ⟨q1, q2⟩
      · exact Or.inl ⟨j, by omega, q2, q3, fun t a b => (hp' t a).elim (fun e => e ▸ hp) (fun e => q4 t e b), q5⟩
      · exact Or.inr ⟨fun t a b => (hp' t a).elim (fun e => e ▸ hp) (fun e => q1 t e b), q2⟩
end
section
variable {ρ : Addr → Option Value} {k : Nat} {H0 : Heap} {x : AV} {els : List (List AV)} {g : FuncId} {a c : List AV} {p : Nat → Bool}
theorem cfS_spec (hx : Els ρ H0 8 x els) (hlen : els.length < 4611686018427387904) (hk : els.length < k) (hf : ∀ (i : Nat) (h : i < els.length), ∀ H', Fr Nop H0 H' → ∃ H'', evCall (cx ρ) k 0 g (a ++ [.agg els[i]] ++ c) H' = some (.bool (p i), H'') ∧ Fr Nop H' H'') :
    ∃ H' b, evCall (cx ρ) (k + 2) 0 42 [x, .fn (.func g) a c] H0 = some (.bool b, H') ∧ Fr Nop H0 H' ∧ (b = true ↔ ∃ j, j < els.length ∧ p j = true) := by
  obtain ⟨H', hF, q⟩ := ixS_loop (ρ := ρ) (call := evCall (cx ρ) k) (yc := (evCY (cx ρ) k).2) (k := k) hx hlen hf (fun H => N48_1 ρ (evCall (cx ρ) k) (evCY (cx ρ) k).2 0 k H retK) retK _ (fun _ _ _ => rfl) els.length 0 k H0 (by omega) (by omega) hk (Fr.refl ..)
  rw [E42]
  simp only [L42, E48, L48, hx.lenS, N48_2, N48_3, purK_some]
  have z : ((0 : Nat) : Int) = 0 := rfl
  rw [z] at q
  rcases q with ⟨j, q1, q2, q3, q4, q5⟩ | ⟨q1, q2⟩
  · refine ⟨H', true, ?_, hF, ⟨fun _ => ⟨j, q2, q3⟩, fun _ => rfl⟩⟩
    have : (0 : Int) ≤ j := by omega
    rw [q5]
    simp only [this, purK_some, resK_some, boolK_some, condK_true, condK_false, wantV_tt, wantV_tf, wantV_ft, wantV_ff, wantV_t, wantV_f, wantV_skip, Bool.not_true, Bool.not_false, gPur_true, gPur_false, gEff_true, gEff_false, gRes_true, gRes_false, pickA_true, pickA_false, extA_0, extA_1, extA_2, retK_one, retK_none, retK_two, valK_fn, valR_fn, cond_true, cond_false, bin_add, bin_sub, bin_mul, bin_eql, bin_neq, bin_lss, bin_leq, bin_gtr, bin_geq, bin_seql, bin_sneq, un_not_t, un_not_f, un_not, cvI_int, cvT_str, nilChk_ptr, nilChk_xp, addA_ptr, lenT_str, Bool.true_or, Bool.or_true, Bool.false_or, Bool.or_false, Bool.true_and, Bool.and_true, Bool.false_and, Bool.and_false, decide_true, decide_false, Int.reduceEq, Int.reduceLT, Int.reduceLE, Int.reduceNe, Int.reduceAdd, Int.reduceSub, Int.reduceMul, Int.reduceNeg, List.nil_append, List.append_nil, List.cons_append]
  · refine ⟨H', false, ?_, hF, ⟨fun h => (by cases h), fun ⟨j, h1, h2⟩ => (by rw [q1 j (by omega) h1] at h2; cases h2)⟩⟩
    rw [q2]
    simp only [N48_1, purK_some, resK_some, boolK_some, condK_true, condK_false, wantV_tt, wantV_tf, wantV_ft, wantV_ff, wantV_t, wantV_f, wantV_skip, Bool.not_true, Bool.not_false, gPur_true, gPur_false, gEff_true, gEff_false, gRes_true, gRes_false, pickA_true, pickA_false, extA_0, extA_1, extA_2, retK_one, retK_none, retK_two, valK_fn, valR_fn, cond_true, cond_false, bin_add, bin_sub, bin_mul, bin_eql, bin_neq, bin_lss, bin_leq, bin_gtr, bin_geq, bin_seql, bin_sneq, un_not_t, un_not_f, un_not, cvI_int, cvT_str, nilChk_ptr, nilChk_xp, addA_ptr, lenT_str, Bool.true_or, Bool.or_true, Bool.false_or, Bool.or_false, Bool.true_and, Bool.and_true, Bool.false_and, Bool.and_false, decide_true, decide_false, Int.reduceEq, Int.reduceLT, Int.reduceLE, Int.reduceNe, Int.reduceAdd, Int.reduceSub, Int.reduceMul, Int.reduceNeg, List.nil_append, List.append_nil, List.cons_append]
    try rfl
end
theorem StepD.solidA {d : StepD} (h : AV.solid d.picks = true) : d.cells.all AV.solid = true := by
  simp only [StepD.cells, List.all_cons, List.all_nil, sol_int, sol_str, h, Bool.and_self]
def hasMove (ds : List StepD) (s : Int) : Bool := ds.any fun d => decide (d.kind = 2) && decide (d.s = s)
def movesP (ds : List StepD) (sessions : Int) : Bool := (List.range sessions.toNat).all fun s => hasMove ds s
section
variable {ρ : Addr → Option Value} {k : Nat} {H : Heap} {x : AV} {ds : List StepD}
theorem mvA_spec (d : StepD) (hd : AV.solid d.picks = true) (l v e : Nat) (fr : Nat × Nat) (g : Bool) (s0 : Int) (hl : l < H.sz) (hg : H.get l = .cells v e fr g [.int .i64 s0]) :
    evCall (cx ρ) (k + 1) 0 43 [.agg d.cells, .ptr l v 0] H = some (.bool (decide (d.kind = 2) && decide (d.s = s0)), H.new (.cells 0 42 (0, 0) false d.cells)) := by
  rw [E43]
  have hs := StepD.solidA hd
  simp only [StepD.cells] at hs ⊢
  have hb := boxA_agg H 42 _ hs
  have hg' : ∀ o, (H.new o).get l = .cells v e fr g [.int .i64 s0] := fun o => by rw [Heap.get_new, if_neg (by omega), hg]
  by_cases h1 : d.kind = 2
  · have h1 := eq_true h1
    simp (disch := first | ((try simp only [szn, szp, List.length_cons, List.length_nil, List.length_set, List.all_cons, List.all_nil, Bool.and_true, scal_int, sol_int, scal_bool, sol_bool, scal_str, sol_str, scal_nilp, sol_nilp, scal_ptr, sol_ptr, scal_nils, sol_nils, scal_sl, sol_sl, scal_sx, sol_sx, scal_xp, sol_xp, scal_xs, sol_xs, scal_nilm, sol_nilm, scal_mp, sol_mp, scal_nilf, sol_nilf, scal_fn, sol_fn, scal_nili, sol_nili, scal_ifc, sol_ifc]) <;> omega) | with_unfolding_all rfl) only [L43, hb, hg', h1, purK_some, resK_some, boolK_some, condK_true, condK_false, wantV_tt, wantV_tf, wantV_ft, wantV_ff, wantV_t, wantV_f, wantV_skip, Bool.not_true, Bool.not_false, gPur_true, gPur_false, gEff_true, gEff_false, gRes_true, gRes_false, pickA_true, pickA_false, extA_0, extA_1, extA_2, retK_one, retK_none, retK_two, valK_fn, valR_fn, cond_true, cond_false, bin_add, bin_sub, bin_mul, bin_eql, bin_neq, bin_lss, bin_leq, bin_gtr, bin_geq, bin_seql, bin_sneq, un_not_t, un_not_f, un_not, cvI_int, cvT_str, nilChk_ptr, nilChk_xp, addA_ptr, lenT_str, Bool.true_or, Bool.or_true, Bool.false_or, Bool.or_false, Bool.true_and, Bool.and_true, Bool.false_and, Bool.and_false, decide_true, decide_false, Int.reduceEq, Int.reduceLT, Int.reduceLE, Int.reduceNe, Int.reduceAdd, Int.reduceSub, Int.reduceMul, Int.reduceNeg, List.nil_append, List.append_nil, List.cons_append, effK_new, effK_put, effK_nothing, on_new, on_put, on_nothing, ld1_ptr, ldN_ptr, stA_one_ptr, stA_agg_ptr, ldC_cells, ldCN_cells, stC_one, stC_many, lay_all, lay_one, newCells_eq, get_new_at, get_put_at, Heap.get_new_ne, Heap.get_put_ne, szn, szp, box1, boxA_agg, List.getElem?_cons_zero, List.getElem?_cons_succ, List.drop_zero, List.drop_succ_cons, List.take_zero, List.take_succ_cons, List.set_cons_zero, List.set_cons_succ, Nat.zero_add, Nat.add_zero, Nat.reduceAdd]
  · have h1 := eq_false h1
    simp (disch := first | ((try simp only [szn, szp, List.length_cons, List.length_nil, List.length_set, List.all_cons, List.all_nil, Bool.and_true, scal_int, sol_int, scal_bool, sol_bool, scal_str, sol_str, scal_nilp, sol_nilp, scal_ptr, sol_ptr, scal_nils, sol_nils, scal_sl, sol_sl, scal_sx, sol_sx, scal_xp, sol_xp, scal_xs, sol_xs, scal_nilm, sol_nilm, scal_mp, sol_mp, scal_nilf, sol_nilf, scal_fn, sol_fn, scal_nili, sol_nili, scal_ifc, sol_ifc]) <;> omega) | with_unfolding_all rfl) only [L43, hb, hg', h1, purK_some, resK_some, boolK_some, condK_true, condK_false, wantV_tt, wantV_tf, wantV_ft, wantV_ff, wantV_t, wantV_f, wantV_skip, Bool.not_true, Bool.not_false, gPur_true, gPur_false, gEff_true, gEff_false, gRes_true, gRes_false, pickA_true, pickA_false, extA_0, extA_1, extA_2, retK_one, retK_none, retK_two, valK_fn, valR_fn, cond_true, cond_false, bin_add, bin_sub, bin_mul, bin_eql, bin_neq, bin_lss, bin_leq, bin_gtr, bin_geq, bin_seql, bin_sneq, un_not_t, un_not_f, un_not, cvI_int, cvT_str, nilChk_ptr, nilChk_xp, addA_ptr, lenT_str, Bool.true_or, Bool.or_true, Bool.false_or, Bool.or_false, Bool.true_and, Bool.and_true, Bool.false_and, Bool.and_false, decide_true, decide_false, Int.reduceEq, Int.reduceLT, Int.reduceLE, Int.reduceNe, Int.reduceAdd, Int.reduceSub, Int.reduceMul, Int.reduceNeg, List.nil_append, List.append_nil, List.cons_append, effK_new, effK_put, effK_nothing, on_new, on_put, on_nothing, ld1_ptr, ldN_ptr, stA_one_ptr, stA_agg_ptr, ldC_cells, ldCN_cells, stC_one, stC_many, lay_all, lay_one, newCells_eq, get_new_at, get_put_at, Heap.get_new_ne, Heap.get_put_ne, szn, szp, box1, boxA_agg, List.getElem?_cons_zero, List.getElem?_cons_succ, List.drop_zero, List.drop_succ_cons, List.take_zero, List.take_succ_cons, List.set_cons_zero, List.set_cons_succ, Nat.zero_add, Nat.add_zero, Nat.reduceAdd]
theorem mv_spec (hx : Els ρ H 8 x (ds.map StepD.cells)) (hds : ∀ d ∈ ds, AV.solid d.picks = true) (hlen : ds.length < 4611686018427387904) (sessions : Int) (hs : sessions < 4611686018427387904) (hk : ds.length + 4 ≤ k) (hk2 : sessions.toNat < k) :
    ∃ H', evCall (cx ρ) (k + 1) 0 34 [x, .int .i64 sessions] H = some (.bool (movesP ds sessions), H') ∧ Fr Nop H H' := by
  rw [E34]
  obtain ⟨k, rfl⟩ : ∃ q, k = q + 3 := ⟨k - 3, by omega⟩
  simp only [L34, N34_2, N34_3]
  refine loopL_wp (W := fun r => ∃ H', r = some (.bool (movesP ds sessions), H') ∧ Fr Nop H H')
    (fun m y H1 => ∃ s : Nat, y = .int .i64 s ∧ m = sessions.toNat - s ∧ s ≤ sessions.toNat ∧ Fr Nop H H1 ∧ ∀ t, t < s → hasMove ds t = true) ?_ sessions.toNat _ _ _ ⟨0, rfl, by omega, by omega, Fr.refl .., fun t h => by omega⟩ hk2
  rintro m y H1 f ⟨s, rfl, hm, hle, hF, hall⟩ hkn
  by_cases h : (s : Int) < sessions
  · obtain ⟨H2, hH2⟩ : ∃ H2, H2 = (H1.new (.cells 0 3 (0, 0) false [.int .i64 0])).put H1.sz (.cells 0 3 (0, 0) false [.int .i64 s]) := ⟨_, rfl⟩
    have hF2 : Fr Nop H1 H2 := hH2 ▸ (Fr.new _ _ _).trans' (Fr.put _ _ _ (S := fun l => l = H1.sz) fun _ => rfl) fun l h q => by omega
    have hx2 : Els ρ H2 8 x (ds.map StepD.cells) := (hx.frame0 hF).frame0 hF2
    have hg2 : H2.get H1.sz = .cells 0 3 (0, 0) false [.int .i64 s] := by rw [hH2, Heap.get_put, if_pos rfl]
    have hz2 : H1.sz < H2.sz := by rw [hH2, Heap.sz_put, Heap.sz_new]; omega
    obtain ⟨H3, b, h3, hF3, hb⟩ := cfS_spec (k := k + 1) (g := 43) (a := []) (c := [.ptr H1.sz 0 0]) (p := fun i => if h : i < ds.length then decide (ds[i].kind = 2) && decide (ds[i].s = s) else false) hx2 (by simpa using hlen) (by simp; omega)
      (fun i hi H' hF' => by
        have hi' : i < ds.length := by simpa using hi
        have := mvA_spec (ρ := ρ) (k := k) (H := H') ds[i] (hds _ (List.getElem_mem hi')) H1.sz 0 3 (0, 0) false s (Nat.lt_of_lt_of_le hz2 hF'.sz) (by rw [hF'.get _ hz2 (fun q => q), hg2])
        refine ⟨_, ?_, Fr.new _ _ (.cells 0 42 (0, 0) false ds[i].cells)⟩
        rw [List.getElem_map, List.nil_append]
        simp only [hi', dif_pos]
        exact this)
    have hb' : b = hasMove ds s := by
      rw [Bool.eq_iff_iff, hb, List.length_map]
      exact any_idx ds _ _ fun i hi => by simp [hi]
    clear hb
    have e3 : wrapK .i64 ((s : Int) + 1) = ((s + 1 : Nat) : Int) := by rw [wrap_i64] <;> omega
    have step : N34_3b ρ (evCall (cx ρ) (k + 3)) (evCY (cx ρ) (k + 3)).2 0 (k + 3) x (.int .i64 sessions) (.int .i64 s) H1 (fun x7 H => f x7 H) (fun H => N34_1 ρ (evCall (cx ρ) (k + 3)) (evCY (cx ρ) (k + 3)).2 0 (k + 3) H retK) retK = condK (.bool (hasMove ds s)) (f (.int .i64 (s + 1 : Nat)) H3) (some (.bool false, H3)) := by
      simp (disch := first | ((try simp only [szn, szp, List.length_cons, List.length_nil, List.length_set, List.all_cons, List.all_nil, Bool.and_true, scal_int, sol_int, scal_bool, sol_bool, scal_str, sol_str, scal_nilp, sol_nilp, scal_ptr, sol_ptr, scal_nils, sol_nils, scal_sl, sol_sl, scal_sx, sol_sx, scal_xp, sol_xp, scal_xs, sol_xs, scal_nilm, sol_nilm, scal_mp, sol_mp, scal_nilf, sol_nilf, scal_fn, sol_fn, scal_nili, sol_nili, scal_ifc, sol_ifc]) <;> omega) | with_unfolding_all rfl) only [N34_3b, h, purK_some, resK_some, boolK_some, condK_true, condK_false, wantV_tt, wantV_tf, wantV_ft, wantV_ff, wantV_t, wantV_f, wantV_skip, Bool.not_true, Bool.not_false, gPur_true, gPur_false, gEff_true, gEff_false, gRes_true, gRes_false, pickA_true, pickA_false, extA_0, extA_1, extA_2, retK_one, retK_none, retK_two, valK_fn, valR_fn, cond_true, cond_false, bin_add, bin_sub, bin_mul, bin_eql, bin_neq, bin_lss, bin_leq, bin_gtr, bin_geq, bin_seql, bin_sneq, un_not_t, un_not_f, un_not, cvI_int, cvT_str, nilChk_ptr, nilChk_xp, addA_ptr, lenT_str, Bool.true_or, Bool.or_true, Bool.false_or, Bool.or_false, Bool.true_and, Bool.and_true, Bool.false_and, Bool.and_false, decide_true, decide_false, Int.reduceEq, Int.reduceLT, Int.reduceLE, Int.reduceNe, Int.reduceAdd, Int.reduceSub, Int.reduceMul, Int.reduceNeg, List.nil_append, List.append_nil, List.cons_append, effK_new, effK_put, effK_nothing, on_new, on_put, on_nothing, ld1_ptr, ldN_ptr, stA_one_ptr, stA_agg_ptr, ldC_cells, ldCN_cells, stC_one, stC_many, lay_all, lay_one, newCells_eq, get_new_at, get_put_at, Heap.get_new_ne, Heap.get_put_ne, szn, szp, box1, boxA_agg, List.getElem?_cons_zero, List.getElem?_cons_succ, List.drop_zero, List.drop_succ_cons, List.take_zero, List.take_succ_cons, List.set_cons_zero, List.set_cons_succ, Nat.zero_add, Nat.add_zero, Nat.reduceAdd]
      rw [show (H1.new (.cells 0 3 (0, 0) false [.int .i64 0])).put H1.sz (.cells 0 3 (0, 0) false [.int .i64 s]) = H2 from hH2.symm, h3]
      simp only [hb', e3, purK_some, resK_some, boolK_some, condK_true, condK_false, wantV_tt, wantV_tf, wantV_ft, wantV_ff, wantV_t, wantV_f, wantV_skip, Bool.not_true, Bool.not_false, gPur_true, gPur_false, gEff_true, gEff_false, gRes_true, gRes_false, pickA_true, pickA_false, extA_0, extA_1, extA_2, retK_one, retK_none, retK_two, valK_fn, valR_fn, cond_true, cond_false, bin_add, bin_sub, bin_mul, bin_eql, bin_neq, bin_lss, bin_leq, bin_gtr, bin_geq, bin_seql, bin_sneq, un_not_t, un_not_f, un_not, cvI_int, cvT_str, nilChk_ptr, nilChk_xp, addA_ptr, lenT_str, Bool.true_or, Bool.or_true, Bool.false_or, Bool.or_false, Bool.true_and, Bool.and_true, Bool.false_and, Bool.and_false, decide_true, decide_false, Int.reduceEq, Int.reduceLT, Int.reduceLE, Int.reduceNe, Int.reduceAdd, Int.reduceSub, Int.reduceMul, Int.reduceNeg, List.nil_append, List.append_nil, List.cons_append]
      cases hasMove ds s <;> rfl
    rw [step]
    cases hq : hasMove ds s with
    | true => exact hkn _ _ _ (by omega) ⟨s + 1, rfl, rfl, by omega, (hF.trans hF2).trans hF3, fun t ht => by
        by_cases e : t = s
        · rw [e, hq]
        · exact hall t (by omega)⟩
    | false =>
      refine ⟨H3, ?_, (hF.trans hF2).trans hF3⟩
      rw [condK_false]
      have : movesP ds sessions = false := by
        unfold movesP
        rw [List.all_eq_false]
        exact ⟨s, List.mem_range.2 (by omega), by simp [hq]⟩
      rw [this]
  · refine ⟨H1, ?_, hF⟩
    simp only [N34_3b, N34_1, h, purK_some, resK_some, boolK_some, condK_true, condK_false, wantV_tt, wantV_tf, wantV_ft, wantV_ff, wantV_t, wantV_f, wantV_skip, Bool.not_true, Bool.not_false, gPur_true, gPur_false, gEff_true, gEff_false, gRes_true, gRes_false, pickA_true, pickA_false, extA_0, extA_1, extA_2, retK_one, retK_none, retK_two, valK_fn, valR_fn, cond_true, cond_false, bin_add, bin_sub, bin_mul, bin_eql, bin_neq, bin_lss, bin_leq, bin_gtr, bin_geq, bin_seql, bin_sneq, un_not_t, un_not_f, un_not, cvI_int, cvT_str, nilChk_ptr, nilChk_xp, addA_ptr, lenT_str, Bool.true_or, Bool.or_true, Bool.false_or, Bool.or_false, Bool.true_and, Bool.and_true, Bool.false_and, Bool.and_false, decide_true, decide_false, Int.reduceEq, Int.reduceLT, Int.reduceLE, Int.reduceNe, Int.reduceAdd, Int.reduceSub, Int.reduceMul, Int.reduceNeg, List.nil_append, List.append_nil, List.cons_append]
    have : movesP ds sessions = true := by
      unfold movesP
      rw [List.all_eq_true]
      intro t ht
      exact hall t (by have := List.mem_range.1 ht; omega)
    rw [this]
end
end Go.Proofs.Ytcjicmabhejllaa

-- part PqB
/- Fair: by windows each session moves; the program's and the reference's. -/
set_option linter.unusedVariables false
set_option linter.unusedSimpArgs false
namespace Go.Proofs.Ytcjicmabhejllaa
attribute [local congr] Go.Ev.cond_congr1
open Go.Ev Go.RowKit
theorem pigeon : ∀ (s : Nat) (ds : List StepD), (∀ t : Nat, t < s → ∃ d ∈ ds, d.s = t) → s ≤ ds.length
  | 0, _, _ => Nat.zero_le _
  | s + 1, ds, h => by
    obtain ⟨d, hd, e⟩ := h s (by omega)
    obtain ⟨l1, l2, rfl⟩ := List.append_of_mem hd
    have := pigeon s (l1 ++ l2) fun t ht => by
      obtain ⟨d', hd', e'⟩ := h t (by omega)
      refine ⟨d', ?_, e'⟩
      rcases List.mem_append.1 hd' with q | q
      · exact List.mem_append.2 (Or.inl q)
      · rcases List.mem_cons.1 q with rfl | q
        · omega
        · exact List.mem_append.2 (Or.inr q)
    simp only [List.length_append, List.length_cons] at this ⊢
    omega
theorem hasMove_ex {ds : List StepD} {s : Int} (h : hasMove ds s = true) : ∃ d ∈ ds, d.s = s := by
  unfold hasMove at h
  obtain ⟨d, hd, h⟩ := List.any_eq_true.1 h
  simp only [Bool.and_eq_true, decide_eq_true_eq] at h
  exact ⟨d, hd, h.2⟩
theorem moves_few {ds : List StepD} {s : Nat} (h : ∀ t : Nat, t < s → hasMove ds t = true) : s ≤ ds.length := pigeon s ds fun t ht => hasMove_ex (h t ht)
theorem movesP_few {ds : List StepD} {sessions : Int} (h : (ds.length : Int) < sessions) : movesP ds sessions = false := by
  cases hm : movesP ds sessions with
  | false => rfl
  | true =>
    have := moves_few (s := sessions.toNat) (ds := ds) fun t ht => by
      unfold movesP at hm
      exact List.all_eq_true.1 hm t (List.mem_range.2 ht)
    omega
def fairGo (sessions : Int) (w : Nat) : Nat → List StepD → Bool
  | 0, _ => true
  | n + 1, ds => if w ≤ ds.length then movesP (ds.take w) sessions && fairGo sessions w n (ds.drop w) else true
def fairP (ds : List StepD) (sessions window : Int) : Bool := if window < 1 then false else fairGo sessions window.toNat (ds.length + 1) ds
section
variable {ρ : Addr → Option Value} {k : Nat} {H : Heap} {x : AV} {ds : List StepD}
theorem fair_spec (hx : Els ρ H 8 x (ds.map StepD.cells)) (hds : ∀ d ∈ ds, AV.solid d.picks = true) (hlen : ds.length < 4611686018427387904) (sessions window : Int) (hk : ds.length + 10 ≤ k) :
    ∃ H', evCall (cx ρ) (k + 2) 0 23 [x, .int .i64 sessions, .int .i64 window] H = some (.bool (fairP ds sessions window), H') ∧ Fr Nop H H' := by
  rw [E23]
  unfold fairP
  by_cases h1 : window < 1
  · refine ⟨H, ?_, Fr.refl ..⟩
    simp only [L23, h1, if_true, purK_some, resK_some, boolK_some, condK_true, condK_false, wantV_tt, wantV_tf, wantV_ft, wantV_ff, wantV_t, wantV_f, wantV_skip, Bool.not_true, Bool.not_false, gPur_true, gPur_false, gEff_true, gEff_false, gRes_true, gRes_false, pickA_true, pickA_false, extA_0, extA_1, extA_2, retK_one, retK_none, retK_two, valK_fn, valR_fn, cond_true, cond_false, bin_add, bin_sub, bin_mul, bin_eql, bin_neq, bin_lss, bin_leq, bin_gtr, bin_geq, bin_seql, bin_sneq, un_not_t, un_not_f, un_not, cvI_int, cvT_str, nilChk_ptr, nilChk_xp, addA_ptr, lenT_str, Bool.true_or, Bool.or_true, Bool.false_or, Bool.or_false, Bool.true_and, Bool.and_true, Bool.false_and, Bool.and_false, decide_true, decide_false, Int.reduceEq, Int.reduceLT, Int.reduceLE, Int.reduceNe, Int.reduceAdd, Int.reduceSub, Int.reduceMul, Int.reduceNeg, List.nil_append, List.append_nil, List.cons_append]
  rw [if_neg h1]
  simp only [L23, h1, N23_1, N23_3, purK_some, resK_some, boolK_some, condK_true, condK_false, wantV_tt, wantV_tf, wantV_ft, wantV_ff, wantV_t, wantV_f, wantV_skip, Bool.not_true, Bool.not_false, gPur_true, gPur_false, gEff_true, gEff_false, gRes_true, gRes_false, pickA_true, pickA_false, extA_0, extA_1, extA_2, retK_one, retK_none, retK_two, valK_fn, valR_fn, cond_true, cond_false, bin_add, bin_sub, bin_mul, bin_eql, bin_neq, bin_lss, bin_leq, bin_gtr, bin_geq, bin_seql, bin_sneq, un_not_t, un_not_f, un_not, cvI_int, cvT_str, nilChk_ptr, nilChk_xp, addA_ptr, lenT_str, Bool.true_or, Bool.or_true, Bool.false_or, Bool.or_false, Bool.true_and, Bool.and_true, Bool.false_and, Bool.and_false, decide_true, decide_false, Int.reduceEq, Int.reduceLT, Int.reduceLE, Int.reduceNe, Int.reduceAdd, Int.reduceSub, Int.reduceMul, Int.reduceNeg, List.nil_append, List.append_nil, List.cons_append]
  obtain ⟨w, rfl⟩ : ∃ w : Nat, window = w := ⟨window.toNat, by omega⟩
  rw [Int.toNat_natCast]
  refine loopL_wp (W := fun r => ∃ H', r = some (.bool (fairGo sessions w (ds.length + 1) ds), H') ∧ Fr Nop H H')
    (fun m y H1 => ∃ ds', Els ρ H1 8 y (ds'.map StepD.cells) ∧ (∀ d ∈ ds', AV.solid d.picks = true) ∧ ds'.length ≤ m ∧ ds'.length ≤ ds.length ∧ fairGo sessions w (m + 1) ds' = fairGo sessions w (ds.length + 1) ds ∧ Fr Nop H H1) ?_ ds.length _ _ _ ⟨ds, hx, hds, Nat.le_refl _, Nat.le_refl _, rfl, Fr.refl ..⟩ (by omega)
  rintro m y H1 f ⟨ds', hy, hds', hm, hl', hg, hF⟩ hkn
  rw [← hg]
  simp only [N23_3b, hy.lenS, List.length_map, purK_some, resK_some, boolK_some, condK_true, condK_false, wantV_tt, wantV_tf, wantV_ft, wantV_ff, wantV_t, wantV_f, wantV_skip, Bool.not_true, Bool.not_false, gPur_true, gPur_false, gEff_true, gEff_false, gRes_true, gRes_false, pickA_true, pickA_false, extA_0, extA_1, extA_2, retK_one, retK_none, retK_two, valK_fn, valR_fn, cond_true, cond_false, bin_add, bin_sub, bin_mul, bin_eql, bin_neq, bin_lss, bin_leq, bin_gtr, bin_geq, bin_seql, bin_sneq, un_not_t, un_not_f, un_not, cvI_int, cvT_str, nilChk_ptr, nilChk_xp, addA_ptr, lenT_str, Bool.true_or, Bool.or_true, Bool.false_or, Bool.or_false, Bool.true_and, Bool.and_true, Bool.false_and, Bool.and_false, decide_true, decide_false, Int.reduceEq, Int.reduceLT, Int.reduceLE, Int.reduceNe, Int.reduceAdd, Int.reduceSub, Int.reduceMul, Int.reduceNeg, List.nil_append, List.append_nil, List.cons_append]
  by_cases h2 : (w : Int) ≤ ds'.length
  · have hne : ds'.map StepD.cells ≠ [] := by
      intro e; have : ds'.length = 0 := by simpa using e
      omega
    have hw : w ≤ ds'.length := by omega
    have ef : fairGo sessions w (m + 1) ds' = (movesP (ds'.take w) sessions && fairGo sessions w m (ds'.drop w)) := by rw [fairGo, if_pos hw]
    obtain ⟨y2, e2, hy2, _⟩ := hy.cut (lo := w) (hi := ds'.length) hw (by simp) (some (.int .i64 w)) none (Or.inr ⟨_, rfl⟩) (Or.inl ⟨rfl, by simp⟩) (hy.notSx hne)
    by_cases h3 : (w : Int) < sessions
    · refine ⟨H1, ?_, hF⟩
      rw [ef, movesP_few (by rw [List.length_take]; omega)]
      simp only [h2, h3, purK_some, resK_some, boolK_some, condK_true, condK_false, wantV_tt, wantV_tf, wantV_ft, wantV_ff, wantV_t, wantV_f, wantV_skip, Bool.not_true, Bool.not_false, gPur_true, gPur_false, gEff_true, gEff_false, gRes_true, gRes_false, pickA_true, pickA_false, extA_0, extA_1, extA_2, retK_one, retK_none, retK_two, valK_fn, valR_fn, cond_true, cond_false, bin_add, bin_sub, bin_mul, bin_eql, bin_neq, bin_lss, bin_leq, bin_gtr, bin_geq, bin_seql, bin_sneq, un_not_t, un_not_f, un_not, cvI_int, cvT_str, nilChk_ptr, nilChk_xp, addA_ptr, lenT_str, Bool.true_or, Bool.or_true, Bool.false_or, Bool.or_false, Bool.true_and, Bool.and_true, Bool.false_and, Bool.and_false, decide_true, decide_false, Int.reduceEq, Int.reduceLT, Int.reduceLE, Int.reduceNe, Int.reduceAdd, Int.reduceSub, Int.reduceMul, Int.reduceNeg, List.nil_append, List.append_nil, List.cons_append]
    · obtain ⟨y1, e1, hy1, _⟩ := hy.cut (lo := 0) (hi := w) (Nat.zero_le _) (by simpa using hw) none (some (.int .i64 w)) (Or.inl ⟨rfl, rfl⟩) (Or.inr ⟨_, rfl⟩) (hy.notSx hne)
      rw [List.drop_zero, Nat.sub_zero, ← List.map_take] at hy1
      have hlt : (ds'.take w).length = w := by rw [List.length_take]; omega
      obtain ⟨H2, h4, hF2⟩ := mv_spec (k := k) hy1 (fun d hd => hds' d (List.mem_of_mem_take hd)) (by omega) sessions (by omega) (by omega) (by omega)
      simp only [h2, h3, e1, e2, h4, purK_some, resK_some, boolK_some, condK_true, condK_false, wantV_tt, wantV_tf, wantV_ft, wantV_ff, wantV_t, wantV_f, wantV_skip, Bool.not_true, Bool.not_false, gPur_true, gPur_false, gEff_true, gEff_false, gRes_true, gRes_false, pickA_true, pickA_false, extA_0, extA_1, extA_2, retK_one, retK_none, retK_two, valK_fn, valR_fn, cond_true, cond_false, bin_add, bin_sub, bin_mul, bin_eql, bin_neq, bin_lss, bin_leq, bin_gtr, bin_geq, bin_seql, bin_sneq, un_not_t, un_not_f, un_not, cvI_int, cvT_str, nilChk_ptr, nilChk_xp, addA_ptr, lenT_str, Bool.true_or, Bool.or_true, Bool.false_or, Bool.or_false, Bool.true_and, Bool.and_true, Bool.false_and, Bool.and_false, decide_true, decide_false, Int.reduceEq, Int.reduceLT, Int.reduceLE, Int.reduceNe, Int.reduceAdd, Int.reduceSub, Int.reduceMul, Int.reduceNeg, List.nil_append, List.append_nil, List.cons_append]
      rw [ef]
      cases hq : movesP (ds'.take w) sessions with
      | false => exact ⟨H2, by simp only [purK_some, resK_some, boolK_some, condK_true, condK_false, wantV_tt, wantV_tf, wantV_ft, wantV_ff, wantV_t, wantV_f, wantV_skip, Bool.not_true, Bool.not_false, gPur_true, gPur_false, gEff_true, gEff_false, gRes_true, gRes_false, pickA_true, pickA_false, extA_0, extA_1, extA_2, retK_one, retK_none, retK_two, valK_fn, valR_fn, cond_true, cond_false, bin_add, bin_sub, bin_mul, bin_eql, bin_neq, bin_lss, bin_leq, bin_gtr, bin_geq, bin_seql, bin_sneq, un_not_t, un_not_f, un_not, cvI_int, cvT_str, nilChk_ptr, nilChk_xp, addA_ptr, lenT_str, Bool.true_or, Bool.or_true, Bool.false_or, Bool.or_false, Bool.true_and, Bool.and_true, Bool.false_and, Bool.and_false, decide_true, decide_false, Int.reduceEq, Int.reduceLT, Int.reduceLE, Int.reduceNe, Int.reduceAdd, Int.reduceSub, Int.reduceMul, Int.reduceNeg, List.nil_append, List.append_nil, List.cons_append], hF.trans hF2⟩
      | true =>
        have hy3 := hy2.frame0 hF2
        have hle : (ds'.drop w).length = ds'.length - w := List.length_drop ..
        rw [List.take_of_length_le (by simp), ← List.map_drop] at hy3
        simp only [purK_some, resK_some, boolK_some, condK_true, condK_false, wantV_tt, wantV_tf, wantV_ft, wantV_ff, wantV_t, wantV_f, wantV_skip, Bool.not_true, Bool.not_false, gPur_true, gPur_false, gEff_true, gEff_false, gRes_true, gRes_false, pickA_true, pickA_false, extA_0, extA_1, extA_2, retK_one, retK_none, retK_two, valK_fn, valR_fn, cond_true, cond_false, bin_add, bin_sub, bin_mul, bin_eql, bin_neq, bin_lss, bin_leq, bin_gtr, bin_geq, bin_seql, bin_sneq, un_not_t, un_not_f, un_not, cvI_int, cvT_str, nilChk_ptr, nilChk_xp, addA_ptr, lenT_str, Bool.true_or, Bool.or_true, Bool.false_or, Bool.or_false, Bool.true_and, Bool.and_true, Bool.false_and, Bool.and_false, decide_true, decide_false, Int.reduceEq, Int.reduceLT, Int.reduceLE, Int.reduceNe, Int.reduceAdd, Int.reduceSub, Int.reduceMul, Int.reduceNeg, List.nil_append, List.append_nil, List.cons_append]
        have := hkn (m - 1) y2 H2 (by omega) ⟨ds'.drop w, hy3, fun d hd => hds' d (List.mem_of_mem_drop hd), by omega, by omega, by rw [← hg, ef, hq, Bool.true_and, show m - 1 + 1 = m by omega], hF.trans hF2⟩
        rw [← hg, ef, hq, Bool.true_and] at this
        exact this
  · refine ⟨H1, ?_, hF⟩
    have : ¬ w ≤ ds'.length := by omega
    rw [fairGo, if_neg this]
    simp only [h2, N23_2, purK_some, resK_some, boolK_some, condK_true, condK_false, wantV_tt, wantV_tf, wantV_ft, wantV_ff, wantV_t, wantV_f, wantV_skip, Bool.not_true, Bool.not_false, gPur_true, gPur_false, gEff_true, gEff_false, gRes_true, gRes_false, pickA_true, pickA_false, extA_0, extA_1, extA_2, retK_one, retK_none, retK_two, valK_fn, valR_fn, cond_true, cond_false, bin_add, bin_sub, bin_mul, bin_eql, bin_neq, bin_lss, bin_leq, bin_gtr, bin_geq, bin_seql, bin_sneq, un_not_t, un_not_f, un_not, cvI_int, cvT_str, nilChk_ptr, nilChk_xp, addA_ptr, lenT_str, Bool.true_or, Bool.or_true, Bool.false_or, Bool.or_false, Bool.true_and, Bool.and_true, Bool.false_and, Bool.and_false, decide_true, decide_false, Int.reduceEq, Int.reduceLT, Int.reduceLE, Int.reduceNe, Int.reduceAdd, Int.reduceSub, Int.reduceMul, Int.reduceNeg, List.nil_append, List.append_nil, List.cons_append]
end
end Go.Proofs.Ytcjicmabhejllaa

-- part PqC
/- Fair, as the reference has it: the same. -/
set_option linter.unusedVariables false
set_option linter.unusedSimpArgs false
namespace Go.Proofs.Ytcjicmabhejllaa
attribute [local congr] Go.Ev.cond_congr1
open Go.Ev Go.RowKit
theorem hasMove_succ (ds : List StepD) (i m : Nat) (s : Int) (h : i < ds.length) : hasMove ((ds.drop i).take (m + 1)) s = ((decide (ds[i].kind = 2) && decide (ds[i].s = s)) || hasMove ((ds.drop (i + 1)).take m) s) := by
  rw [List.drop_eq_getElem_cons h, List.take_succ_cons, hasMove, List.any_cons]; rfl
section
variable {ρ : Addr → Option Value} {call : CallF} {yc : YieldF} {k : Nat} {H : Heap} {x : AV} {ds : List StepD}
theorem rf_inner (hx : Els ρ H 8 x (ds.map StepD.cells)) (hlen : ds.length < 4611686018427387904) (sess s : Int) (fr w : Nat) (hfw : fr + w ≤ ds.length) (k4 : AV → AV → Heap → Res)
    (B : AV × AV → Heap → (AV × AV → Heap → Res) → Res) (hB : ∀ y H kn, B y H kn = N24_10b ρ call yc 0 k x (.int .i64 sess) (.int .i64 w) (.int .i64 fr) (.int .i64 s) y.1 y.2 H (fun x9 x10 H => kn (x9, x10) H) k4) :
    ∀ (m i n : Nat) (b : Bool), fr + w - i = m → i ≤ fr + w → m < n → loopL B n (.bool b, .int .i64 i) H = k4 (.int .i64 s) (.bool (b || hasMove ((ds.drop i).take m) s)) H := by
  intro m
  induction m with
  | zero =>
    intro i n b hm hi hn
    obtain ⟨n, rfl⟩ : ∃ q, n = q + 1 := ⟨n - 1, by omega⟩
    rw [loopL_succ, hB]
    have e1 : wrapK .i64 ((fr : Int) + w) = ((fr : Int) + w) := by rw [wrap_i64]; omega
    have h : ¬ (i : Int) < (fr : Int) + w := by omega
    simp only [N24_10b, e1, h, List.take_zero, hasMove, List.any_nil, purK_some, resK_some, boolK_some, condK_true, condK_false, wantV_tt, wantV_tf, wantV_ft, wantV_ff, wantV_t, wantV_f, wantV_skip, Bool.not_true, Bool.not_false, gPur_true, gPur_false, gEff_true, gEff_false, gRes_true, gRes_false, pickA_true, pickA_false, extA_0, extA_1, extA_2, retK_one, retK_none, retK_two, valK_fn, valR_fn, cond_true, cond_false, bin_add, bin_sub, bin_mul, bin_eql, bin_neq, bin_lss, bin_leq, bin_gtr, bin_geq, bin_seql, bin_sneq, un_not_t, un_not_f, un_not, cvI_int, cvT_str, nilChk_ptr, nilChk_xp, addA_ptr, lenT_str, Bool.true_or, Bool.or_true, Bool.false_or, Bool.or_false, Bool.true_and, Bool.and_true, Bool.false_and, Bool.and_false, decide_true, decide_false, Int.reduceEq, Int.reduceLT, Int.reduceLE, Int.reduceNe, Int.reduceAdd, Int.reduceSub, Int.reduceMul, Int.reduceNeg, List.nil_append, List.append_nil, List.cons_append]
  | succ m ih =>
    intro i n b hm hi hn
    obtain ⟨n, rfl⟩ : ∃ q, n = q + 1 := ⟨n - 1, by omega⟩
    rw [loopL_succ, hB]
    have e1 : wrapK .i64 ((fr : Int) + w) = ((fr : Int) + w) := by rw [wrap_i64]; omega
    have e2 : wrapK .i64 ((i : Int) + 1) = ((i + 1 : Nat) : Int) := by rw [wrap_i64] <;> omega
    have h : (i : Int) < (fr : Int) + w := by omega
    have hi1 : i < ds.length := by omega
    have hi2 : i < (ds.map StepD.cells).length := by simpa using hi1
    have e3 := hx.ix .i64 i (by omega) (by simpa using hi1)
    rw [Int.toNat_natCast] at e3
    have e4 := elp_add hx i 0 0 hi2
    have e5 := elp_add hx i 0 1 hi2
    have e6 := hx.ld1 i 0 hi2 (by omega)
    have e7 := hx.ld1 i 1 hi2 (by omega)
    simp only [List.getElem_map, StepD.cells, List.getElem?_cons_zero, List.getElem?_cons_succ] at e6 e7
    rw [hasMove_succ ds i m s hi1]
    have ih' := fun b => ih (i + 1) n b (by omega) (by omega) (by omega)
    cases b with
    | true =>
      simp only [N24_10b, e1, e2, h, purK_some, resK_some, boolK_some, condK_true, condK_false, wantV_tt, wantV_tf, wantV_ft, wantV_ff, wantV_t, wantV_f, wantV_skip, Bool.not_true, Bool.not_false, gPur_true, gPur_false, gEff_true, gEff_false, gRes_true, gRes_false, pickA_true, pickA_false, extA_0, extA_1, extA_2, retK_one, retK_none, retK_two, valK_fn, valR_fn, cond_true, cond_false, bin_add, bin_sub, bin_mul, bin_eql, bin_neq, bin_lss, bin_leq, bin_gtr, bin_geq, bin_seql, bin_sneq, un_not_t, un_not_f, un_not, cvI_int, cvT_str, nilChk_ptr, nilChk_xp, addA_ptr, lenT_str, Bool.true_or, Bool.or_true, Bool.false_or, Bool.or_false, Bool.true_and, Bool.and_true, Bool.false_and, Bool.and_false, decide_true, decide_false, Int.reduceEq, Int.reduceLT, Int.reduceLE, Int.reduceNe, Int.reduceAdd, Int.reduceSub, Int.reduceMul, Int.reduceNeg, List.nil_append, List.append_nil, List.cons_append]
      rw [ih' true, Bool.true_or]
    | false =>
      simp only [N24_10b, e1, e2, h, e3, e4, e5, e6, e7, purK_some, resK_some, boolK_some, condK_true, condK_false, wantV_tt, wantV_tf, wantV_ft, wantV_ff, wantV_t, wantV_f, wantV_skip, Bool.not_true, Bool.not_false, gPur_true, gPur_false, gEff_true, gEff_false, gRes_true, gRes_false, pickA_true, pickA_false, extA_0, extA_1, extA_2, retK_one, retK_none, retK_two, valK_fn, valR_fn, cond_true, cond_false, bin_add, bin_sub, bin_mul, bin_eql, bin_neq, bin_lss, bin_leq, bin_gtr, bin_geq, bin_seql, bin_sneq, un_not_t, un_not_f, un_not, cvI_int, cvT_str, nilChk_ptr, nilChk_xp, addA_ptr, lenT_str, Bool.true_or, Bool.or_true, Bool.false_or, Bool.or_false, Bool.true_and, Bool.and_true, Bool.false_and, Bool.and_false, decide_true, decide_false, Int.reduceEq, Int.reduceLT, Int.reduceLE, Int.reduceNe, Int.reduceAdd, Int.reduceSub, Int.reduceMul, Int.reduceNeg, List.nil_append, List.append_nil, List.cons_append]
      by_cases h2 : ds[i].kind = 2
      · have h2 := eq_true h2
        simp only [h2, e3, e5, e7, purK_some, resK_some, boolK_some, condK_true, condK_false, wantV_tt, wantV_tf, wantV_ft, wantV_ff, wantV_t, wantV_f, wantV_skip, Bool.not_true, Bool.not_false, gPur_true, gPur_false, gEff_true, gEff_false, gRes_true, gRes_false, pickA_true, pickA_false, extA_0, extA_1, extA_2, retK_one, retK_none, retK_two, valK_fn, valR_fn, cond_true, cond_false, bin_add, bin_sub, bin_mul, bin_eql, bin_neq, bin_lss, bin_leq, bin_gtr, bin_geq, bin_seql, bin_sneq, un_not_t, un_not_f, un_not, cvI_int, cvT_str, nilChk_ptr, nilChk_xp, addA_ptr, lenT_str, Bool.true_or, Bool.or_true, Bool.false_or, Bool.or_false, Bool.true_and, Bool.and_true, Bool.false_and, Bool.and_false, decide_true, decide_false, Int.reduceEq, Int.reduceLT, Int.reduceLE, Int.reduceNe, Int.reduceAdd, Int.reduceSub, Int.reduceMul, Int.reduceNeg, List.nil_append, List.append_nil, List.cons_append]
        rw [ih' (decide (ds[i].s = s))]
      · have h2 := eq_false h2
        simp only [h2, purK_some, resK_some, boolK_some, condK_true, condK_false, wantV_tt, wantV_tf, wantV_ft, wantV_ff, wantV_t, wantV_f, wantV_skip, Bool.not_true, Bool.not_false, gPur_true, gPur_false, gEff_true, gEff_false, gRes_true, gRes_false, pickA_true, pickA_false, extA_0, extA_1, extA_2, retK_one, retK_none, retK_two, valK_fn, valR_fn, cond_true, cond_false, bin_add, bin_sub, bin_mul, bin_eql, bin_neq, bin_lss, bin_leq, bin_gtr, bin_geq, bin_seql, bin_sneq, un_not_t, un_not_f, un_not, cvI_int, cvT_str, nilChk_ptr, nilChk_xp, addA_ptr, lenT_str, Bool.true_or, Bool.or_true, Bool.false_or, Bool.or_false, Bool.true_and, Bool.and_true, Bool.false_and, Bool.and_false, decide_true, decide_false, Int.reduceEq, Int.reduceLT, Int.reduceLE, Int.reduceNe, Int.reduceAdd, Int.reduceSub, Int.reduceMul, Int.reduceNeg, List.nil_append, List.append_nil, List.cons_append]
        rw [ih' false, Bool.false_or]
theorem rf_mid (hx : Els ρ H 8 x (ds.map StepD.cells)) (hlen : ds.length < 4611686018427387904) (sess : Int) (fr w : Nat) (hfw : fr + w ≤ ds.length) (hk : w < k) (k2 : AV → Heap → Res) (R : List AV → Heap → Res)
    (B : AV → Heap → (AV → Heap → Res) → Res) (hB : ∀ y H kn, B y H kn = N24_6b ρ call yc 0 k x (.int .i64 sess) (.int .i64 w) (.int .i64 fr) y H (fun x8 H => kn x8 H) k2 R) :
    ∀ (m s n : Nat), w + 1 - s = m → (∀ t : Nat, t < s → hasMove ((ds.drop fr).take w) t = true) → (s : Int) ≤ sess ∨ s = 0 → m < n →
      loopL B n (.int .i64 s) H = if movesP ((ds.drop fr).take w) sess = true then k2 (.int .i64 fr) H else R [.bool false] H := by
  intro m
  induction m with
  | zero =>
    intro s n hm hall hs hn
    have := moves_few hall
    rw [List.length_take] at this
    omega
  | succ m ih =>
    intro s n hm hall hs hn
    obtain ⟨n, rfl⟩ : ∃ q, n = q + 1 := ⟨n - 1, by omega⟩
    rw [loopL_succ, hB]
    by_cases h : (s : Int) < sess
    · have inner := rf_inner (ρ := ρ) (call := call) (yc := yc) (k := k) hx hlen sess s fr w hfw (fun x8_1 x9_1 H =>
      N24_8 ρ call yc 0 k x (.int .i64 sess) (.int .i64 w) (.int .i64 fr) x8_1 x9_1 H (fun x8_2 H =>
        N24_7 ρ call yc 0 k x (.int .i64 sess) (.int .i64 w) (.int .i64 fr) x8_2 H (fun x8 H => loopL B n x8 H)) R) _ (fun _ _ _ => rfl) w fr k false (by omega) (by omega) hk
      have e2 : wrapK .i64 ((s : Int) + 1) = ((s + 1 : Nat) : Int) := by rw [wrap_i64] <;> omega
      simp only [N24_6b, N24_9, N24_10, h, purK_some, resK_some, boolK_some, condK_true, condK_false, wantV_tt, wantV_tf, wantV_ft, wantV_ff, wantV_t, wantV_f, wantV_skip, Bool.not_true, Bool.not_false, gPur_true, gPur_false, gEff_true, gEff_false, gRes_true, gRes_false, pickA_true, pickA_false, extA_0, extA_1, extA_2, retK_one, retK_none, retK_two, valK_fn, valR_fn, cond_true, cond_false, bin_add, bin_sub, bin_mul, bin_eql, bin_neq, bin_lss, bin_leq, bin_gtr, bin_geq, bin_seql, bin_sneq, un_not_t, un_not_f, un_not, cvI_int, cvT_str, nilChk_ptr, nilChk_xp, addA_ptr, lenT_str, Bool.true_or, Bool.or_true, Bool.false_or, Bool.or_false, Bool.true_and, Bool.and_true, Bool.false_and, Bool.and_false, decide_true, decide_false, Int.reduceEq, Int.reduceLT, Int.reduceLE, Int.reduceNe, Int.reduceAdd, Int.reduceSub, Int.reduceMul, Int.reduceNeg, List.nil_append, List.append_nil, List.cons_append]
      rw [inner]
      rw [Bool.false_or]
      cases hq : hasMove ((ds.drop fr).take w) s with
      | true =>
        simp only [N24_8, N24_7, e2, purK_some, resK_some, boolK_some, condK_true, condK_false, wantV_tt, wantV_tf, wantV_ft, wantV_ff, wantV_t, wantV_f, wantV_skip, Bool.not_true, Bool.not_false, gPur_true, gPur_false, gEff_true, gEff_false, gRes_true, gRes_false, pickA_true, pickA_false, extA_0, extA_1, extA_2, retK_one, retK_none, retK_two, valK_fn, valR_fn, cond_true, cond_false, bin_add, bin_sub, bin_mul, bin_eql, bin_neq, bin_lss, bin_leq, bin_gtr, bin_geq, bin_seql, bin_sneq, un_not_t, un_not_f, un_not, cvI_int, cvT_str, nilChk_ptr, nilChk_xp, addA_ptr, lenT_str, Bool.true_or, Bool.or_true, Bool.false_or, Bool.or_false, Bool.true_and, Bool.and_true, Bool.false_and, Bool.and_false, decide_true, decide_false, Int.reduceEq, Int.reduceLT, Int.reduceLE, Int.reduceNe, Int.reduceAdd, Int.reduceSub, Int.reduceMul, Int.reduceNeg, List.nil_append, List.append_nil, List.cons_append]
        exact ih (s + 1) n (by omega) (fun t ht => by
          by_cases e : t = s
          · rw [e, hq]
          · exact hall t (by omega)) (Or.inl (by omega)) (by omega)
      | false =>
        have : movesP ((ds.drop fr).take w) sess = false := by
          unfold movesP
          rw [List.all_eq_false]
          exact ⟨s, List.mem_range.2 (by omega), by simp [hq]⟩
        simp only [N24_8, this, purK_some, resK_some, boolK_some, condK_true, condK_false, wantV_tt, wantV_tf, wantV_ft, wantV_ff, wantV_t, wantV_f, wantV_skip, Bool.not_true, Bool.not_false, gPur_true, gPur_false, gEff_true, gEff_false, gRes_true, gRes_false, pickA_true, pickA_false, extA_0, extA_1, extA_2, retK_one, retK_none, retK_two, valK_fn, valR_fn, cond_true, cond_false, bin_add, bin_sub, bin_mul, bin_eql, bin_neq, bin_lss, bin_leq, bin_gtr, bin_geq, bin_seql, bin_sneq, un_not_t, un_not_f, un_not, cvI_int, cvT_str, nilChk_ptr, nilChk_xp, addA_ptr, lenT_str, Bool.true_or, Bool.or_true, Bool.false_or, Bool.or_false, Bool.true_and, Bool.and_true, Bool.false_and, Bool.and_false, decide_true, decide_false, Int.reduceEq, Int.reduceLT, Int.reduceLE, Int.reduceNe, Int.reduceAdd, Int.reduceSub, Int.reduceMul, Int.reduceNeg, List.nil_append, List.append_nil, List.cons_append]
        rfl
    · have : movesP ((ds.drop fr).take w) sess = true := by
        unfold movesP
        rw [List.all_eq_true]
        intro t ht
        exact hall t (by have := List.mem_range.1 ht; omega)
      simp only [N24_6b, h, this, if_true, purK_some, resK_some, boolK_some, condK_true, condK_false, wantV_tt, wantV_tf, wantV_ft, wantV_ff, wantV_t, wantV_f, wantV_skip, Bool.not_true, Bool.not_false, gPur_true, gPur_false, gEff_true, gEff_false, gRes_true, gRes_false, pickA_true, pickA_false, extA_0, extA_1, extA_2, retK_one, retK_none, retK_two, valK_fn, valR_fn, cond_true, cond_false, bin_add, bin_sub, bin_mul, bin_eql, bin_neq, bin_lss, bin_leq, bin_gtr, bin_geq, bin_seql, bin_sneq, un_not_t, un_not_f, un_not, cvI_int, cvT_str, nilChk_ptr, nilChk_xp, addA_ptr, lenT_str, Bool.true_or, Bool.or_true, Bool.false_or, Bool.or_false, Bool.true_and, Bool.and_true, Bool.false_and, Bool.and_false, decide_true, decide_false, Int.reduceEq, Int.reduceLT, Int.reduceLE, Int.reduceNe, Int.reduceAdd, Int.reduceSub, Int.reduceMul, Int.reduceNeg, List.nil_append, List.append_nil, List.cons_append]
end
section
variable {ρ : Addr → Option Value} {k : Nat} {H : Heap} {x : AV} {ds : List StepD}
theorem rfair_spec (hx : Els ρ H 8 x (ds.map StepD.cells)) (hlen : ds.length < 4611686018427387904) (sessions window : Int) (hw : window < 9223372036854775808) (hk : ds.length + 10 ≤ k) :
    evCall (cx ρ) (k + 1) 0 24 [x, .int .i64 sessions, .int .i64 window] H = some (.bool (fairP ds sessions window), H) := by
  rw [E24]
  unfold fairP
  by_cases h1 : window < 1
  · simp only [L24, h1, if_true, purK_some, resK_some, boolK_some, condK_true, condK_false, wantV_tt, wantV_tf, wantV_ft, wantV_ff, wantV_t, wantV_f, wantV_skip, Bool.not_true, Bool.not_false, gPur_true, gPur_false, gEff_true, gEff_false, gRes_true, gRes_false, pickA_true, pickA_false, extA_0, extA_1, extA_2, retK_one, retK_none, retK_two, valK_fn, valR_fn, cond_true, cond_false, bin_add, bin_sub, bin_mul, bin_eql, bin_neq, bin_lss, bin_leq, bin_gtr, bin_geq, bin_seql, bin_sneq, un_not_t, un_not_f, un_not, cvI_int, cvT_str, nilChk_ptr, nilChk_xp, addA_ptr, lenT_str, Bool.true_or, Bool.or_true, Bool.false_or, Bool.or_false, Bool.true_and, Bool.and_true, Bool.false_and, Bool.and_false, decide_true, decide_false, Int.reduceEq, Int.reduceLT, Int.reduceLE, Int.reduceNe, Int.reduceAdd, Int.reduceSub, Int.reduceMul, Int.reduceNeg, List.nil_append, List.append_nil, List.cons_append]
  rw [if_neg h1]
  obtain ⟨w, rfl⟩ : ∃ w : Nat, window = w := ⟨window.toNat, by omega⟩
  rw [Int.toNat_natCast]
  simp only [L24, h1, N24_2, N24_3, purK_some, resK_some, boolK_some, condK_true, condK_false, wantV_tt, wantV_tf, wantV_ft, wantV_ff, wantV_t, wantV_f, wantV_skip, Bool.not_true, Bool.not_false, gPur_true, gPur_false, gEff_true, gEff_false, gRes_true, gRes_false, pickA_true, pickA_false, extA_0, extA_1, extA_2, retK_one, retK_none, retK_two, valK_fn, valR_fn, cond_true, cond_false, bin_add, bin_sub, bin_mul, bin_eql, bin_neq, bin_lss, bin_leq, bin_gtr, bin_geq, bin_seql, bin_sneq, un_not_t, un_not_f, un_not, cvI_int, cvT_str, nilChk_ptr, nilChk_xp, addA_ptr, lenT_str, Bool.true_or, Bool.or_true, Bool.false_or, Bool.or_false, Bool.true_and, Bool.and_true, Bool.false_and, Bool.and_false, decide_true, decide_false, Int.reduceEq, Int.reduceLT, Int.reduceLE, Int.reduceNe, Int.reduceAdd, Int.reduceSub, Int.reduceMul, Int.reduceNeg, List.nil_append, List.append_nil, List.cons_append]
  refine loopL_wp (W := fun r => r = some (.bool (fairGo sessions w (ds.length + 1) ds), H))
    (fun m y H1 => ∃ fr : Nat, y = .int .i64 fr ∧ H1 = H ∧ fr ≤ ds.length ∧ ds.length - fr ≤ m ∧ fairGo sessions w (m + 1) (ds.drop fr) = fairGo sessions w (ds.length + 1) ds) ?_ ds.length _ _ _ ⟨0, rfl, rfl, by omega, by omega, by rw [List.drop_zero]⟩ (by omega)
  rintro m y H1 f ⟨fr, rfl, rfl, hfr, hm, hg⟩ hkn
  have e1 : wrapK .i64 ((ds.length : Int) - w) = (ds.length : Int) - w := by rw [wrap_i64]; omega
  have hdl : (ds.drop fr).length = ds.length - fr := List.length_drop ..
  rw [← hg]
  by_cases h2 : (fr : Int) ≤ (ds.length : Int) - w
  · have ef : fairGo sessions w (m + 1) (ds.drop fr) = (movesP ((ds.drop fr).take w) sessions && fairGo sessions w m (ds.drop (fr + w))) := by rw [fairGo, if_pos (by omega), List.drop_drop]
    have mid := rf_mid (ρ := ρ) (call := evCall (cx ρ) k) (yc := (evCY (cx ρ) k).2) (k := k) hx hlen sessions fr w (by omega) (by omega) (fun x7_1 H =>
      N24_4 ρ (evCall (cx ρ) k) (evCY (cx ρ) k).2 0 k x (.int .i64 sessions) (.int .i64 w) x7_1 H (fun x7 H => f x7 H)) retK _ (fun _ _ _ => rfl) (w + 1) 0 k (by omega) (fun t h => by omega) (Or.inr rfl) (by omega)
    have z : ((0 : Nat) : Int) = 0 := rfl
    rw [z] at mid
    have e2 : wrapK .i64 ((fr : Int) + w) = ((fr + w : Nat) : Int) := by rw [wrap_i64] <;> omega
    simp only [N24_3b, N24_5, N24_6, hx.lenS, List.length_map, e1, h2, purK_some, resK_some, boolK_some, condK_true, condK_false, wantV_tt, wantV_tf, wantV_ft, wantV_ff, wantV_t, wantV_f, wantV_skip, Bool.not_true, Bool.not_false, gPur_true, gPur_false, gEff_true, gEff_false, gRes_true, gRes_false, pickA_true, pickA_false, extA_0, extA_1, extA_2, retK_one, retK_none, retK_two, valK_fn, valR_fn, cond_true, cond_false, bin_add, bin_sub, bin_mul, bin_eql, bin_neq, bin_lss, bin_leq, bin_gtr, bin_geq, bin_seql, bin_sneq, un_not_t, un_not_f, un_not, cvI_int, cvT_str, nilChk_ptr, nilChk_xp, addA_ptr, lenT_str, Bool.true_or, Bool.or_true, Bool.false_or, Bool.or_false, Bool.true_and, Bool.and_true, Bool.false_and, Bool.and_false, decide_true, decide_false, Int.reduceEq, Int.reduceLT, Int.reduceLE, Int.reduceNe, Int.reduceAdd, Int.reduceSub, Int.reduceMul, Int.reduceNeg, List.nil_append, List.append_nil, List.cons_append]
    rw [mid, ef]
    cases hq : movesP ((ds.drop fr).take w) sessions with
    | false => simp only [Bool.false_eq_true, if_false, purK_some, resK_some, boolK_some, condK_true, condK_false, wantV_tt, wantV_tf, wantV_ft, wantV_ff, wantV_t, wantV_f, wantV_skip, Bool.not_true, Bool.not_false, gPur_true, gPur_false, gEff_true, gEff_false, gRes_true, gRes_false, pickA_true, pickA_false, extA_0, extA_1, extA_2, retK_one, retK_none, retK_two, valK_fn, valR_fn, cond_true, cond_false, bin_add, bin_sub, bin_mul, bin_eql, bin_neq, bin_lss, bin_leq, bin_gtr, bin_geq, bin_seql, bin_sneq, un_not_t, un_not_f, un_not, cvI_int, cvT_str, nilChk_ptr, nilChk_xp, addA_ptr, lenT_str, Bool.true_or, Bool.or_true, Bool.false_or, Bool.or_false, Bool.true_and, Bool.and_true, Bool.false_and, Bool.and_false, decide_true, decide_false, Int.reduceEq, Int.reduceLT, Int.reduceLE, Int.reduceNe, Int.reduceAdd, Int.reduceSub, Int.reduceMul, Int.reduceNeg, List.nil_append, List.append_nil, List.cons_append]
    | true =>
      simp only [if_true, N24_4, e2, purK_some, resK_some, boolK_some, condK_true, condK_false, wantV_tt, wantV_tf, wantV_ft, wantV_ff, wantV_t, wantV_f, wantV_skip, Bool.not_true, Bool.not_false, gPur_true, gPur_false, gEff_true, gEff_false, gRes_true, gRes_false, pickA_true, pickA_false, extA_0, extA_1, extA_2, retK_one, retK_none, retK_two, valK_fn, valR_fn, cond_true, cond_false, bin_add, bin_sub, bin_mul, bin_eql, bin_neq, bin_lss, bin_leq, bin_gtr, bin_geq, bin_seql, bin_sneq, un_not_t, un_not_f, un_not, cvI_int, cvT_str, nilChk_ptr, nilChk_xp, addA_ptr, lenT_str, Bool.true_or, Bool.or_true, Bool.false_or, Bool.or_false, Bool.true_and, Bool.and_true, Bool.false_and, Bool.and_false, decide_true, decide_false, Int.reduceEq, Int.reduceLT, Int.reduceLE, Int.reduceNe, Int.reduceAdd, Int.reduceSub, Int.reduceMul, Int.reduceNeg, List.nil_append, List.append_nil, List.cons_append]
      have := hkn (m - 1) (.int .i64 (fr + w : Nat)) H1 (by omega) ⟨fr + w, rfl, rfl, by omega, by omega, by rw [← hg, ef, hq, Bool.true_and, show m - 1 + 1 = m by omega]⟩
      rw [← hg, ef, hq, Bool.true_and] at this
      exact this
  · have h3 : ¬ w ≤ (ds.drop fr).length := by omega
    rw [fairGo, if_neg h3]
    simp only [N24_3b, N24_1, hx.lenS, List.length_map, e1, h2, purK_some, resK_some, boolK_some, condK_true, condK_false, wantV_tt, wantV_tf, wantV_ft, wantV_ff, wantV_t, wantV_f, wantV_skip, Bool.not_true, Bool.not_false, gPur_true, gPur_false, gEff_true, gEff_false, gRes_true, gRes_false, pickA_true, pickA_false, extA_0, extA_1, extA_2, retK_one, retK_none, retK_two, valK_fn, valR_fn, cond_true, cond_false, bin_add, bin_sub, bin_mul, bin_eql, bin_neq, bin_lss, bin_leq, bin_gtr, bin_geq, bin_seql, bin_sneq, un_not_t, un_not_f, un_not, cvI_int, cvT_str, nilChk_ptr, nilChk_xp, addA_ptr, lenT_str, Bool.true_or, Bool.or_true, Bool.false_or, Bool.or_false, Bool.true_and, Bool.and_true, Bool.false_and, Bool.and_false, decide_true, decide_false, Int.reduceEq, Int.reduceLT, Int.reduceLE, Int.reduceNe, Int.reduceAdd, Int.reduceSub, Int.reduceMul, Int.reduceNeg, List.nil_append, List.append_nil, List.cons_append]
end
end Go.Proofs.Ytcjicmabhejllaa

-- part PqD
/- How many steps there are of each kind. -/
set_option linter.unusedVariables false
set_option linter.unusedSimpArgs false
namespace Go.Proofs.Ytcjicmabhejllaa
attribute [local congr] Go.Ev.cond_congr1
open Go.Ev Go.RowKit
def bump (c : List Int) (k : Int) : List Int := if 1 ≤ k ∧ k ≤ 10 then c.set (k - 1).toNat (c.getD (k - 1).toNat 0 + 1) else c
def cntK (ks : List Int) : List Int := ks.foldl bump (List.replicate 10 0)
def cnt (ds : List StepD) : List Int := cntK (ds.map StepD.kind)
theorem cntK_snoc (ks : List Int) (k : Int) : cntK (ks ++ [k]) = bump (cntK ks) k := by simp [cntK]
theorem bump_len (c : List Int) (k : Int) : (bump c k).length = c.length := by unfold bump; split <;> simp
theorem cntK_len : ∀ ks : List Int, (cntK ks).length = 10 := by
  intro ks
  unfold cntK
  have : ∀ (ks c : List Int), (ks.foldl bump c).length = c.length := by
    intro ks
    induction ks with
    | nil => intro c; rfl
    | cons k ks ih => intro c; rw [List.foldl_cons, ih, bump_len]
  rw [this]; rfl
theorem getD_eq (c : List Int) (i : Nat) (h : i < c.length) : c.getD i 0 = c[i] := by simp [List.getD, h]
theorem cnt_small (ks : List Int) : ∀ i, i < 10 → 0 ≤ (cntK ks).getD i 0 ∧ (cntK ks).getD i 0 ≤ ks.length := by
  have aux : ∀ (ks c : List Int) (m : Nat), c.length = 10 → (∀ i, i < 10 → 0 ≤ c.getD i 0 ∧ c.getD i 0 ≤ m) → ∀ i, i < 10 → 0 ≤ (ks.foldl bump c).getD i 0 ∧ (ks.foldl bump c).getD i 0 ≤ m + ks.length := by
    intro ks
    induction ks with
    | nil => intro c m hc h i hi; simpa using h i hi
    | cons k ks ih =>
      intro c m hc h i hi
      rw [List.foldl_cons]
      have := ih (bump c k) (m + 1) (by rw [bump_len, hc]) (by
        intro j hj
        have hj' := h j hj
        unfold bump
        split
        · rename_i hk
          by_cases e : (k - 1).toNat = j
          · subst e
            have h0 := h (k - 1).toNat hj
            rw [getD_eq _ _ (by rw [List.length_set, hc]; exact hj), List.getElem_set, if_pos rfl]
            omega
          · have e2 : (c.set (k - 1).toNat (c.getD (k - 1).toNat 0 + 1)).getD j 0 = c.getD j 0 := by
              simp only [List.getD_eq_getElem?_getD, List.getElem?_set_ne e]
            rw [e2]; omega
        · omega) i hi
      simp only [List.length_cons]
      omega
  intro i hi
  have := aux ks (List.replicate 10 0) 0 (by simp) (by
    intro i hi
    have e : (List.replicate 10 (0 : Int)).getD i 0 = 0 := by rw [getD_eq _ _ (by simpa using hi), List.getElem_replicate]
    omega) i hi
  simpa [cntK] using this
section
variable {ρ : Addr → Option Value} {k : Nat} {H : Heap} {x : AV} {ds : List StepD}
theorem prow_flat : ∀ l : List Int, (prow l).flatten = l.map (AV.int .i64)
  | [] => rfl
  | n :: l => by
    have : (prow (n :: l)).flatten = [AV.int .i64 n] ++ (prow l).flatten := rfl
    rw [this, prow_flat l]; rfl
theorem rep_zero : repeatL [AV.int .i64 0] 10 = (cntK []).map (AV.int .i64) := rfl
/-- One more of a kind. -/
theorem bump_set (c : List Int) (k : Int) (h1 : 1 ≤ k) (h2 : k ≤ 10) (hc : c.length = 10) : (c.map (AV.int .i64)).set (k - 1).toNat (.int .i64 (c.getD (k - 1).toNat 0 + 1)) = (bump c k).map (AV.int .i64) := by
  unfold bump
  rw [if_pos ⟨h1, h2⟩, List.map_set]
theorem cell_at (c : List Int) (i : Nat) (hi : i < c.length) : (c.map (AV.int .i64))[i]? = some (.int .i64 (c.getD i 0)) := by
  rw [List.getElem?_map, List.getElem?_eq_getElem hi, getD_eq c i hi]; rfl
abbrev cntO (c : List Int) : AObj := .cells 0 3 (0, 0) false (c.map (AV.int .i64))
theorem cnt_els {n : Nat} {c : List Int} (hn : n < H.sz) (hg : H.get n = cntO c) (hc : c.length = 10) : Els ρ H 1 (.sl n 0 0 10 10 false) (prow c) := by
  have h := Els.of_cells (ρ := ρ) (H := H) (l := n) (v := 0) (e := 3) (fr := (0, 0)) (g := false) (m := false) (els := prow c) (sz := 1) hn (by rw [hg, prow_flat]) (by intro r hr; simp [prow] at hr; obtain ⟨a, _, rfl⟩ := hr; rfl)
  rwa [prow_len, hc] at h
theorem spread_spec (hx : Els ρ H 8 x (ds.map StepD.cells)) (hds : ∀ d ∈ ds, AV.solid d.picks = true) (hlen : ds.length < 100000) (hk : ds.length + 10 ≤ k) :
    Ret (fun v H' => ∃ n, v = .sl n 0 0 10 10 false ∧ H.sz ≤ n ∧ n < H'.sz ∧ H'.get n = cntO (cnt ds) ∧ Fr Nop H H') (evCall (cx ρ) k 0 31 [x] H) := by
  obtain ⟨k, rfl⟩ : ∃ q, k = q + 1 := ⟨k - 1, by omega⟩
  rw [E31]
  have mk : mkS H 3 1 8 [.int .i64 0] (.int .i64 10) (.int .i64 10) = some (.sl H.sz 0 0 10 10 false, .new (cntO (cntK []))) := rfl
  have lx := hx.lenS
  rw [List.length_map] at lx
  simp only [L31, mk]
  refine (St.start Nop H).newS fun n H1 s1 hz f1 => ?_
  simp only [lx, N31_2, N31_3, purK_some, resK_some, boolK_some, condK_true, condK_false, wantV_tt, wantV_tf, wantV_ft, wantV_ff, wantV_t, wantV_f, wantV_skip, Bool.not_true, Bool.not_false, gPur_true, gPur_false, gEff_true, gEff_false, gRes_true, gRes_false, pickA_true, pickA_false, extA_0, extA_1, extA_2, retK_one, retK_none, retK_two, valK_fn, valR_fn, cond_true, cond_false, bin_add, bin_sub, bin_mul, bin_eql, bin_neq, bin_lss, bin_leq, bin_gtr, bin_geq, bin_seql, bin_sneq, un_not_t, un_not_f, un_not, cvI_int, cvT_str, nilChk_ptr, nilChk_xp, addA_ptr, lenT_str, Bool.true_or, Bool.or_true, Bool.false_or, Bool.or_false, Bool.true_and, Bool.and_true, Bool.false_and, Bool.and_false, decide_true, decide_false, Int.reduceEq, Int.reduceLT, Int.reduceLE, Int.reduceNe, Int.reduceAdd, Int.reduceSub, Int.reduceMul, Int.reduceNeg, List.nil_append, List.append_nil, List.cons_append]
  refine Ret.loop (fun m y H' => ∃ i : Nat, y = .int .i64 i ∧ m = ds.length - i ∧ i ≤ ds.length ∧ St Nop H [(n, cntO (cnt (ds.take i)))] H' ∧ Fr (fun t => t = n) H1 H') ?_ ds.length k _ H1 ⟨0, rfl, rfl, by omega, s1, Fr.refl ..⟩ (by omega)
  rintro m y H' kn ⟨i, rfl, hm, hi, s, fr⟩ next
  by_cases h : i < ds.length
  · have h' : (i : Int) < ds.length := by omega
    have hi' : i < (ds.map StepD.cells).length := by rw [List.length_map]; exact h
    have hX := (hx.frame0 f1).frame (fun t => t = n) fr fun t ht e => by have := hx.lies_lt t ht; omega
    have e1 := hX.ix .i64 i (by omega) (by rw [List.length_map]; exact h')
    have e2 := hX.ldN i hi'
    rw [List.getElem_map] at e2
    rw [Int.toNat_natCast] at e1
    simp only [N31_3b, h', e1, e2, newCells_eq, purK_some, resK_some, boolK_some, condK_true, condK_false, wantV_tt, wantV_tf, wantV_ft, wantV_ff, wantV_t, wantV_f, wantV_skip, Bool.not_true, Bool.not_false, gPur_true, gPur_false, gEff_true, gEff_false, gRes_true, gRes_false, pickA_true, pickA_false, extA_0, extA_1, extA_2, retK_one, retK_none, retK_two, valK_fn, valR_fn, cond_true, cond_false, bin_add, bin_sub, bin_mul, bin_eql, bin_neq, bin_lss, bin_leq, bin_gtr, bin_geq, bin_seql, bin_sneq, un_not_t, un_not_f, un_not, cvI_int, cvT_str, nilChk_ptr, nilChk_xp, addA_ptr, lenT_str, Bool.true_or, Bool.or_true, Bool.false_or, Bool.or_false, Bool.true_and, Bool.and_true, Bool.false_and, Bool.and_false, decide_true, decide_false, Int.reduceEq, Int.reduceLT, Int.reduceLE, Int.reduceNe, Int.reduceAdd, Int.reduceSub, Int.reduceMul, Int.reduceNeg, List.nil_append, List.append_nil, List.cons_append]
    have ht : cnt (ds.take (i + 1)) = bump (cnt (ds.take i)) ds[i].kind := by
      unfold cnt
      rw [List.take_succ_eq_append_getElem h, List.map_append, List.map_cons, List.map_nil, cntK_snoc]
    have hsd := hds _ (List.getElem_mem h)
    have hcl : (cnt (ds.take i)).length = 10 := cntK_len _
    have hcs := cnt_small ((ds.take i).map StepD.kind)
    rw [List.length_map, List.length_take] at hcs
    generalize ds[i] = d at *
    have hfin : ∀ H6, St Nop H [(n, cntO (bump (cnt (ds.take i)) d.kind))] H6 → Fr (fun t => t = n) H' H6 → Ret (fun v H' => ∃ n, v = .sl n 0 0 10 10 false ∧ H.sz ≤ n ∧ n < H'.sz ∧ H'.get n = cntO (cnt ds) ∧ Fr Nop H H') (N31_4 ρ (evCall (cx ρ) k) (evCY (cx ρ) k).2 0 k (.sl n 0 0 10 10 false) x (.int .i64 ds.length) (.int .i64 i) H6 fun x9 H => kn x9 H) := by
      intro H6 s6 f6
      simp only [N31_4, wrap_succN i (by omega : i + 1 < 9223372036854775808), purK_some, resK_some, boolK_some, condK_true, condK_false, wantV_tt, wantV_tf, wantV_ft, wantV_ff, wantV_t, wantV_f, wantV_skip, Bool.not_true, Bool.not_false, gPur_true, gPur_false, gEff_true, gEff_false, gRes_true, gRes_false, pickA_true, pickA_false, extA_0, extA_1, extA_2, retK_one, retK_none, retK_two, valK_fn, valR_fn, cond_true, cond_false, bin_add, bin_sub, bin_mul, bin_eql, bin_neq, bin_lss, bin_leq, bin_gtr, bin_geq, bin_seql, bin_sneq, un_not_t, un_not_f, un_not, cvI_int, cvT_str, nilChk_ptr, nilChk_xp, addA_ptr, lenT_str, Bool.true_or, Bool.or_true, Bool.false_or, Bool.or_false, Bool.true_and, Bool.and_true, Bool.false_and, Bool.and_false, decide_true, decide_false, Int.reduceEq, Int.reduceLT, Int.reduceLE, Int.reduceNe, Int.reduceAdd, Int.reduceSub, Int.reduceMul, Int.reduceNeg, List.nil_append, List.append_nil, List.cons_append]
      exact next (m - 1) _ H6 (by omega) ⟨i + 1, rfl, by omega, by omega, by rw [ht]; exact s6, fr.trans f6⟩
    refine s.newP fun n5 H2 s2 hz2 f2 => ?_
    have hsol := StepD.solidA hsd
    refine s2.stN 1 rfl rfl hsol (by decide) fun H3 s3 z3 f3 => ?_
    rw [lay_all Z8 d.cells rfl] at s3
    have g5 := s3.at 1 rfl
    have l0 : ldC 0 0 (.cells 0 42 (0, 0) false d.cells) = some (.int .i64 d.kind) := by rw [ldC_cells]; rfl
    have f03 : Fr (fun t => t = n) H' H3 := (f2.mono fun t _ q => q.elim : Fr (fun t => t = n) H' H2).trans' f3 fun t ht e => by omega
    by_cases h1 : 1 ≤ d.kind
    · by_cases h2 : d.kind ≤ 10
      · have w1 : wrapK .i64 (d.kind - 1) = d.kind - 1 := wrap_i64 _ (by omega)
        have hE := cnt_els (ρ := ρ) (s3.lt' 0 rfl) (s3.at 0 rfl) hcl
        have e5 := hE.ix .i64 (d.kind - 1) (by omega) (by rw [prow_len, hcl]; omega)
        have hb := hcs (d.kind - 1).toNat (by omega)
        have e6 : elp 1 (.sl n 0 0 10 10 false) (d.kind - 1).toNat 0 = .ptr n 0 (d.kind - 1).toNat := by simp [elp]
        have l6 : ldC 0 (d.kind - 1).toNat (cntO (cnt (ds.take i))) = some (.int .i64 ((cnt (ds.take i)).getD (d.kind - 1).toNat 0)) := by rw [ldC_cells]; exact cell_at _ _ (by rw [hcl]; omega)
        have w2 : wrapK .i64 ((cnt (ds.take i)).getD (d.kind - 1).toNat 0 + 1) = (cnt (ds.take i)).getD (d.kind - 1).toNat 0 + 1 := wrap_i64 _ (by unfold cnt; omega)
        rw [e6] at e5
        simp only [ld1_ptr, g5, l0, h1, h2, w1, e5, s3.at 0 rfl, l6, w2, Nat.zero_add, Nat.add_zero, purK_some, resK_some, boolK_some, condK_true, condK_false, wantV_tt, wantV_tf, wantV_ft, wantV_ff, wantV_t, wantV_f, wantV_skip, Bool.not_true, Bool.not_false, gPur_true, gPur_false, gEff_true, gEff_false, gRes_true, gRes_false, pickA_true, pickA_false, extA_0, extA_1, extA_2, retK_one, retK_none, retK_two, valK_fn, valR_fn, cond_true, cond_false, bin_add, bin_sub, bin_mul, bin_eql, bin_neq, bin_lss, bin_leq, bin_gtr, bin_geq, bin_seql, bin_sneq, un_not_t, un_not_f, un_not, cvI_int, cvT_str, nilChk_ptr, nilChk_xp, addA_ptr, lenT_str, Bool.true_or, Bool.or_true, Bool.false_or, Bool.or_false, Bool.true_and, Bool.and_true, Bool.false_and, Bool.and_false, decide_true, decide_false, Int.reduceEq, Int.reduceLT, Int.reduceLE, Int.reduceNe, Int.reduceAdd, Int.reduceSub, Int.reduceMul, Int.reduceNeg, List.nil_append, List.append_nil, List.cons_append]
        clear w1 w2
        refine s3.st 0 rfl rfl (by rw [List.length_map, hcl]; omega) fun H4 s4 z4 f4 => ?_
        rw [bump_set _ _ h1 h2 hcl] at s4
        exact hfin H4 (St.drop (R := [_]) s4) (f03.trans f4)
      · have hb : bump (cnt (ds.take i)) d.kind = cnt (ds.take i) := by unfold bump; rw [if_neg (by omega)]
        simp only [ld1_ptr, g5, l0, h1, h2, Nat.zero_add, Nat.add_zero, purK_some, resK_some, boolK_some, condK_true, condK_false, wantV_tt, wantV_tf, wantV_ft, wantV_ff, wantV_t, wantV_f, wantV_skip, Bool.not_true, Bool.not_false, gPur_true, gPur_false, gEff_true, gEff_false, gRes_true, gRes_false, pickA_true, pickA_false, extA_0, extA_1, extA_2, retK_one, retK_none, retK_two, valK_fn, valR_fn, cond_true, cond_false, bin_add, bin_sub, bin_mul, bin_eql, bin_neq, bin_lss, bin_leq, bin_gtr, bin_geq, bin_seql, bin_sneq, un_not_t, un_not_f, un_not, cvI_int, cvT_str, nilChk_ptr, nilChk_xp, addA_ptr, lenT_str, Bool.true_or, Bool.or_true, Bool.false_or, Bool.or_false, Bool.true_and, Bool.and_true, Bool.false_and, Bool.and_false, decide_true, decide_false, Int.reduceEq, Int.reduceLT, Int.reduceLE, Int.reduceNe, Int.reduceAdd, Int.reduceSub, Int.reduceMul, Int.reduceNeg, List.nil_append, List.append_nil, List.cons_append]
        exact hfin H3 (by rw [hb]; exact St.drop (R := [_]) s3) f03
    · have hb : bump (cnt (ds.take i)) d.kind = cnt (ds.take i) := by unfold bump; rw [if_neg (by omega)]
      simp only [ld1_ptr, g5, l0, h1, Nat.zero_add, Nat.add_zero, purK_some, resK_some, boolK_some, condK_true, condK_false, wantV_tt, wantV_tf, wantV_ft, wantV_ff, wantV_t, wantV_f, wantV_skip, Bool.not_true, Bool.not_false, gPur_true, gPur_false, gEff_true, gEff_false, gRes_true, gRes_false, pickA_true, pickA_false, extA_0, extA_1, extA_2, retK_one, retK_none, retK_two, valK_fn, valR_fn, cond_true, cond_false, bin_add, bin_sub, bin_mul, bin_eql, bin_neq, bin_lss, bin_leq, bin_gtr, bin_geq, bin_seql, bin_sneq, un_not_t, un_not_f, un_not, cvI_int, cvT_str, nilChk_ptr, nilChk_xp, addA_ptr, lenT_str, Bool.true_or, Bool.or_true, Bool.false_or, Bool.or_false, Bool.true_and, Bool.and_true, Bool.false_and, Bool.and_false, decide_true, decide_false, Int.reduceEq, Int.reduceLT, Int.reduceLE, Int.reduceNe, Int.reduceAdd, Int.reduceSub, Int.reduceMul, Int.reduceNeg, List.nil_append, List.append_nil, List.cons_append]
      exact hfin H3 (by rw [hb]; exact St.drop (R := [_]) s3) f03
  · obtain rfl : i = ds.length := by omega
    have h' : ¬ ((ds.length : Nat) : Int) < (ds.length : Nat) := by omega
    simp only [N31_3b, N31_1, h', purK_some, resK_some, boolK_some, condK_true, condK_false, wantV_tt, wantV_tf, wantV_ft, wantV_ff, wantV_t, wantV_f, wantV_skip, Bool.not_true, Bool.not_false, gPur_true, gPur_false, gEff_true, gEff_false, gRes_true, gRes_false, pickA_true, pickA_false, extA_0, extA_1, extA_2, retK_one, retK_none, retK_two, valK_fn, valR_fn, cond_true, cond_false, bin_add, bin_sub, bin_mul, bin_eql, bin_neq, bin_lss, bin_leq, bin_gtr, bin_geq, bin_seql, bin_sneq, un_not_t, un_not_f, un_not, cvI_int, cvT_str, nilChk_ptr, nilChk_xp, addA_ptr, lenT_str, Bool.true_or, Bool.or_true, Bool.false_or, Bool.or_false, Bool.true_and, Bool.and_true, Bool.false_and, Bool.and_false, decide_true, decide_false, Int.reduceEq, Int.reduceLT, Int.reduceLE, Int.reduceNe, Int.reduceAdd, Int.reduceSub, Int.reduceMul, Int.reduceNeg, List.nil_append, List.append_nil, List.cons_append]
    rw [List.take_length] at s
    exact .intro ⟨n, rfl, hz, s.lt' 0 rfl, s.at 0 rfl, s.fr⟩
end
end Go.Proofs.Ytcjicmabhejllaa

-- part PqE
/- PlanSpreads: the law. -/
set_option linter.unusedVariables false
set_option linter.unusedSimpArgs false
namespace Go.Proofs.Ytcjicmabhejllaa
attribute [local congr] Go.Ev.cond_congr1
open Go.Ev Go.RowKit
-- plain laws
theorem kindGo_pos : ∀ (W : List Int) (i : Nat) (a : Int), (∀ w ∈ W, 0 ≤ w) → 0 ≤ a → a < W.sum → ∃ j : Nat, j < W.length ∧ kindGo W i a = i + j + 1 ∧ 0 < W.getD j 0
  | [], i, a, _, h0, h => by simp at h; omega
  | n :: r, i, a, hw, h0, h => by
    rw [List.sum_cons] at h
    rw [kindGo]
    by_cases hn : a - n < 0
    · rw [if_pos hn]
      exact ⟨0, by simp, by omega, by simp; omega⟩
    · rw [if_neg hn]
      obtain ⟨j, h1, h2, h3⟩ := kindGo_pos r (i + 1) (a - n) (fun w hw' => hw w (by simp [hw'])) (by omega) (by omega)
      exact ⟨j + 1, by simp; omega, by rw [h2]; omega, by simpa using h3⟩
theorem stepP_kind (p : PlanD) (x : Int) : (stepP p x).1.kind = kindGo p.W 0 (bl x p.W.sum) := by
  unfold stepP; simp only
  split
  · rfl
  split
  · rfl
  split
  · rfl
  split
  · rfl
  split <;> rfl
theorem stepsP_kinds (p : PlanD) (hp : p.Ok) : ∀ (n : Nat) (x : Int), ∀ d ∈ stepsP p n x, 1 ≤ d.kind ∧ d.kind ≤ 10 ∧ 0 < p.W.getD (d.kind - 1).toNat 0
  | 0, x, d, h => by cases h
  | n + 1, x, d, h => by
    rcases List.mem_cons.1 h with rfl | h
    · have hb := bl_range x p.W.sum hp.sum
      obtain ⟨j, h1, h2, h3⟩ := kindGo_pos p.W 0 (bl x p.W.sum) (fun w hw => (hp.w.2 w hw).1) hb.1 hb.2
      rw [stepP_kind, h2]
      rw [hp.w.1] at h1
      refine ⟨by omega, by omega, ?_⟩
      rw [show (((0 : Nat) : Int) + (j : Int) + 1 - 1).toNat = j by omega]
      exact h3
    · exact stepsP_kinds p hp n _ d h
theorem set_sum : ∀ (c : List Int) (i : Nat) (v : Int), i < c.length → (c.set i v).sum = c.sum - c.getD i 0 + v
  | [], i, v, h => by simp at h
  | a :: c, 0, v, _ => by simp; omega
  | a :: c, i + 1, v, h => by
    have := set_sum c i v (by simpa using h)
    simp only [List.set_cons_succ, List.sum_cons, this, List.getD_cons_succ]
    omega
theorem cntK_sum : ∀ ks : List Int, (∀ k ∈ ks, 1 ≤ k ∧ k ≤ 10) → (cntK ks).sum = ks.length := by
  have aux : ∀ (ks c : List Int), c.length = 10 → (∀ k ∈ ks, 1 ≤ k ∧ k ≤ 10) → (ks.foldl bump c).sum = c.sum + ks.length := by
    intro ks
    induction ks with
    | nil => intro c _ _; simp
    | cons k ks ih =>
      intro c hc h
      have hk := h k (by simp)
      rw [List.foldl_cons, ih _ (by rw [bump_len, hc]) fun k' hk' => h k' (by simp [hk'])]
      unfold bump
      rw [if_pos hk, set_sum _ _ _ (by omega)]
      simp only [List.length_cons]
      omega
  intro ks h
  have := aux ks (List.replicate 10 0) (by simp) h
  unfold cntK
  rw [this]
  simp
theorem cntK_zero : ∀ (ks : List Int) (i : Nat), i < 10 → (∀ k ∈ ks, (k - 1).toNat ≠ i ∨ ¬ (1 ≤ k ∧ k ≤ 10)) → (cntK ks).getD i 0 = 0 := by
  have aux : ∀ (ks c : List Int) (i : Nat), (∀ k ∈ ks, (k - 1).toNat ≠ i ∨ ¬ (1 ≤ k ∧ k ≤ 10)) → (ks.foldl bump c).getD i 0 = c.getD i 0 := by
    intro ks
    induction ks with
    | nil => intro c i _; rfl
    | cons k ks ih =>
      intro c i h
      rw [List.foldl_cons, ih _ i fun k' hk' => h k' (by simp [hk'])]
      unfold bump
      split
      · rename_i hk
        rcases h k (by simp) with e | e
        · simp only [List.getD_eq_getElem?_getD, List.getElem?_set_ne e]
        · exact absurd hk e
      · rfl
  intro ks i hi h
  unfold cntK
  rw [aux ks _ i h, getD_eq _ _ (by simpa using hi), List.getElem_replicate]
def stD (q : StepV × AV) : StepD := ⟨q.1.kind, q.1.s, q.1.n, q.1.op, q.2⟩
theorem orow_stD (ps : List (StepV × AV)) : ps.map orow = (ps.map stD).map StepD.cells := by rw [List.map_map]; rfl
theorem cnd2 (n s : Int) {H : Heap} (K : AV → Res) : (purK (binA Try.prog H .gtr 3 (.int .i64 n) (.int .i64 200)) fun x20 =>
    purK (gPur (wantV x20 false) (some (.int .i64 s))) fun x22 =>
    purK (gPur (wantV x20 false) (binA Try.prog H .gtr 3 x22 (.int .i64 20))) fun x23 =>
    purK (pickA x20 (.bool true) x23) K) = K (.bool (decide (200 < n ∨ 20 < s))) := by
  by_cases a : 200 < n
  · simp only [a, true_or, purK_some, resK_some, boolK_some, condK_true, condK_false, wantV_tt, wantV_tf, wantV_ft, wantV_ff, wantV_t, wantV_f, wantV_skip, Bool.not_true, Bool.not_false, gPur_true, gPur_false, gEff_true, gEff_false, gRes_true, gRes_false, pickA_true, pickA_false, extA_0, extA_1, extA_2, retK_one, retK_none, retK_two, valK_fn, valR_fn, cond_true, cond_false, bin_add, bin_sub, bin_mul, bin_eql, bin_neq, bin_lss, bin_leq, bin_gtr, bin_geq, bin_seql, bin_sneq, un_not_t, un_not_f, un_not, cvI_int, cvT_str, nilChk_ptr, nilChk_xp, addA_ptr, lenT_str, Bool.true_or, Bool.or_true, Bool.false_or, Bool.or_false, Bool.true_and, Bool.and_true, Bool.false_and, Bool.and_false, decide_true, decide_false, Int.reduceEq, Int.reduceLT, Int.reduceLE, Int.reduceNe, Int.reduceAdd, Int.reduceSub, Int.reduceMul, Int.reduceNeg, List.nil_append, List.append_nil, List.cons_append]
  · simp only [a, false_or, purK_some, resK_some, boolK_some, condK_true, condK_false, wantV_tt, wantV_tf, wantV_ft, wantV_ff, wantV_t, wantV_f, wantV_skip, Bool.not_true, Bool.not_false, gPur_true, gPur_false, gEff_true, gEff_false, gRes_true, gRes_false, pickA_true, pickA_false, extA_0, extA_1, extA_2, retK_one, retK_none, retK_two, valK_fn, valR_fn, cond_true, cond_false, bin_add, bin_sub, bin_mul, bin_eql, bin_neq, bin_lss, bin_leq, bin_gtr, bin_geq, bin_seql, bin_sneq, un_not_t, un_not_f, un_not, cvI_int, cvT_str, nilChk_ptr, nilChk_xp, addA_ptr, lenT_str, Bool.true_or, Bool.or_true, Bool.false_or, Bool.or_false, Bool.true_and, Bool.and_true, Bool.false_and, Bool.and_false, decide_true, decide_false, Int.reduceEq, Int.reduceLT, Int.reduceLE, Int.reduceNe, Int.reduceAdd, Int.reduceSub, Int.reduceMul, Int.reduceNeg, List.nil_append, List.append_nil, List.cons_append]
section
variable {ρ : Addr → Option Value} {k : Nat} {H : Heap} {x : AV} {ds : List StepD}
/-- The law's own count. -/
theorem want_loop {yc : YieldF} {call : CallF} {n7 n : Nat} {Q : AV → Heap → Prop} (hx : ∀ H, Els ρ H 8 x (ds.map StepD.cells)) (hlen : ds.length ≤ 200) (hk : 300 ≤ k) (x1 x2 : AV) (o7 : AObj) (k0 : AV → AV → AV → AV → AV → Heap → Res) (s0 : St Nop Heap.nil [(n7, o7), (n, cntO (cntK []))] H)
    (hk0 : ∀ H', St Nop Heap.nil [(n7, o7), (n, cntO (cnt ds))] H' → Ret Q (k0 x x1 x2 (.ptr n7 0 0) (.sl n 0 0 10 10 false) H')) :
    Ret Q (loopL (fun (y : AV) H kn => N8_9b ρ call yc 0 k x x1 x2 (.ptr n7 0 0) (.sl n 0 0 10 10 false) y H (fun x10 H => kn x10 H) k0) k (.int .i64 0) H) := by
  refine Ret.loop (fun m y H' => ∃ i : Nat, y = .int .i64 i ∧ m = ds.length - i ∧ i ≤ ds.length ∧ St Nop Heap.nil [(n7, o7), (n, cntO (cnt (ds.take i)))] H') ?_ ds.length k _ H ⟨0, rfl, rfl, by omega, s0⟩ (by omega)
  rintro m y H' kn ⟨i, rfl, hm, hi, s⟩ next
  have hX := hx H'
  have lx := hX.lenS
  rw [List.length_map] at lx
  by_cases h : i < ds.length
  · have h' : (i : Int) < ds.length := by omega
    have hi' : i < (ds.map StepD.cells).length := by rw [List.length_map]; exact h
    have e1 := hX.ix .i64 i (by omega) (by rw [List.length_map]; exact h')
    rw [Int.toNat_natCast] at e1
    have e2 := elp_add hX i 0 0 hi'
    have e3 := hX.ld1 i 0 hi' (by decide)
    have r3 : (ds.map StepD.cells)[i][0]? = some (.int .i64 ds[i].kind) := by rw [List.getElem_map]; rfl
    rw [r3] at e3
    rw [Nat.add_zero] at e2
    have ht : cnt (ds.take (i + 1)) = bump (cnt (ds.take i)) ds[i].kind := by
      unfold cnt
      rw [List.take_succ_eq_append_getElem h, List.map_append, List.map_cons, List.map_nil, cntK_snoc]
    have hcl : (cnt (ds.take i)).length = 10 := cntK_len _
    have hcs := cnt_small ((ds.take i).map StepD.kind)
    rw [List.length_map, List.length_take] at hcs
    generalize ds[i] = d at *
    have hfin : ∀ H6, St Nop Heap.nil [(n7, o7), (n, cntO (bump (cnt (ds.take i)) d.kind))] H6 → Ret Q (N8_10 ρ call yc 0 k x x1 x2 (.ptr n7 0 0) (.sl n 0 0 10 10 false) (.int .i64 i) H6 fun x10 H => kn x10 H) := by
      intro H6 s6
      simp only [N8_10, wrap_succN i (by omega : i + 1 < 9223372036854775808), purK_some, resK_some, boolK_some, condK_true, condK_false, wantV_tt, wantV_tf, wantV_ft, wantV_ff, wantV_t, wantV_f, wantV_skip, Bool.not_true, Bool.not_false, gPur_true, gPur_false, gEff_true, gEff_false, gRes_true, gRes_false, pickA_true, pickA_false, extA_0, extA_1, extA_2, retK_one, retK_none, retK_two, valK_fn, valR_fn, cond_true, cond_false, bin_add, bin_sub, bin_mul, bin_eql, bin_neq, bin_lss, bin_leq, bin_gtr, bin_geq, bin_seql, bin_sneq, un_not_t, un_not_f, un_not, cvI_int, cvT_str, nilChk_ptr, nilChk_xp, addA_ptr, lenT_str, Bool.true_or, Bool.or_true, Bool.false_or, Bool.or_false, Bool.true_and, Bool.and_true, Bool.false_and, Bool.and_false, decide_true, decide_false, Int.reduceEq, Int.reduceLT, Int.reduceLE, Int.reduceNe, Int.reduceAdd, Int.reduceSub, Int.reduceMul, Int.reduceNeg, List.nil_append, List.append_nil, List.cons_append]
      exact next (m - 1) _ H6 (by omega) ⟨i + 1, rfl, by omega, by omega, by rw [ht]; exact s6⟩
    by_cases h1 : 1 ≤ d.kind
    · by_cases h2 : d.kind ≤ 10
      · have w1 : wrapK .i64 (d.kind - 1) = d.kind - 1 := wrap_i64 _ (by omega)
        have hE := cnt_els (ρ := ρ) (s.lt' 1 rfl) (s.at 1 rfl) hcl
        have e5 := hE.ix .i64 (d.kind - 1) (by omega) (by rw [prow_len, hcl]; omega)
        have hb := hcs (d.kind - 1).toNat (by omega)
        have e6 : elp 1 (.sl n 0 0 10 10 false) (d.kind - 1).toNat 0 = .ptr n 0 (d.kind - 1).toNat := by simp [elp]
        have l6 : ldC 0 (d.kind - 1).toNat (cntO (cnt (ds.take i))) = some (.int .i64 ((cnt (ds.take i)).getD (d.kind - 1).toNat 0)) := by rw [ldC_cells]; exact cell_at _ _ (by rw [hcl]; omega)
        have w2 : wrapK .i64 ((cnt (ds.take i)).getD (d.kind - 1).toNat 0 + 1) = (cnt (ds.take i)).getD (d.kind - 1).toNat 0 + 1 := wrap_i64 _ (by unfold cnt; omega)
        rw [e6] at e5
        have g1 := s.at 1 rfl
        simp only [N8_9b, lx, h', e1, e2, e3, h1, h2, w1, e5, ld1_ptr, g1, l6, w2, purK_some, resK_some, boolK_some, condK_true, condK_false, wantV_tt, wantV_tf, wantV_ft, wantV_ff, wantV_t, wantV_f, wantV_skip, Bool.not_true, Bool.not_false, gPur_true, gPur_false, gEff_true, gEff_false, gRes_true, gRes_false, pickA_true, pickA_false, extA_0, extA_1, extA_2, retK_one, retK_none, retK_two, valK_fn, valR_fn, cond_true, cond_false, bin_add, bin_sub, bin_mul, bin_eql, bin_neq, bin_lss, bin_leq, bin_gtr, bin_geq, bin_seql, bin_sneq, un_not_t, un_not_f, un_not, cvI_int, cvT_str, nilChk_ptr, nilChk_xp, addA_ptr, lenT_str, Bool.true_or, Bool.or_true, Bool.false_or, Bool.or_false, Bool.true_and, Bool.and_true, Bool.false_and, Bool.and_false, decide_true, decide_false, Int.reduceEq, Int.reduceLT, Int.reduceLE, Int.reduceNe, Int.reduceAdd, Int.reduceSub, Int.reduceMul, Int.reduceNeg, List.nil_append, List.append_nil, List.cons_append]
        clear w1 w2
        refine s.st 1 rfl rfl (by rw [List.length_map, hcl]; omega) fun H4 s4 z4 f4 => ?_
        rw [bump_set _ _ h1 h2 hcl] at s4
        exact hfin H4 s4
      · have hb : bump (cnt (ds.take i)) d.kind = cnt (ds.take i) := by unfold bump; rw [if_neg (by omega)]
        simp only [N8_9b, lx, h', e1, e2, e3, h1, h2, purK_some, resK_some, boolK_some, condK_true, condK_false, wantV_tt, wantV_tf, wantV_ft, wantV_ff, wantV_t, wantV_f, wantV_skip, Bool.not_true, Bool.not_false, gPur_true, gPur_false, gEff_true, gEff_false, gRes_true, gRes_false, pickA_true, pickA_false, extA_0, extA_1, extA_2, retK_one, retK_none, retK_two, valK_fn, valR_fn, cond_true, cond_false, bin_add, bin_sub, bin_mul, bin_eql, bin_neq, bin_lss, bin_leq, bin_gtr, bin_geq, bin_seql, bin_sneq, un_not_t, un_not_f, un_not, cvI_int, cvT_str, nilChk_ptr, nilChk_xp, addA_ptr, lenT_str, Bool.true_or, Bool.or_true, Bool.false_or, Bool.or_false, Bool.true_and, Bool.and_true, Bool.false_and, Bool.and_false, decide_true, decide_false, Int.reduceEq, Int.reduceLT, Int.reduceLE, Int.reduceNe, Int.reduceAdd, Int.reduceSub, Int.reduceMul, Int.reduceNeg, List.nil_append, List.append_nil, List.cons_append]
        exact hfin H' (by rw [hb]; exact s)
    · have hb : bump (cnt (ds.take i)) d.kind = cnt (ds.take i) := by unfold bump; rw [if_neg (by omega)]
      simp only [N8_9b, lx, h', e1, e2, e3, h1, purK_some, resK_some, boolK_some, condK_true, condK_false, wantV_tt, wantV_tf, wantV_ft, wantV_ff, wantV_t, wantV_f, wantV_skip, Bool.not_true, Bool.not_false, gPur_true, gPur_false, gEff_true, gEff_false, gRes_true, gRes_false, pickA_true, pickA_false, extA_0, extA_1, extA_2, retK_one, retK_none, retK_two, valK_fn, valR_fn, cond_true, cond_false, bin_add, bin_sub, bin_mul, bin_eql, bin_neq, bin_lss, bin_leq, bin_gtr, bin_geq, bin_seql, bin_sneq, un_not_t, un_not_f, un_not, cvI_int, cvT_str, nilChk_ptr, nilChk_xp, addA_ptr, lenT_str, Bool.true_or, Bool.or_true, Bool.false_or, Bool.or_false, Bool.true_and, Bool.and_true, Bool.false_and, Bool.and_false, decide_true, decide_false, Int.reduceEq, Int.reduceLT, Int.reduceLE, Int.reduceNe, Int.reduceAdd, Int.reduceSub, Int.reduceMul, Int.reduceNeg, List.nil_append, List.append_nil, List.cons_append]
      exact hfin H' (by rw [hb]; exact s)
  · obtain rfl : i = ds.length := by omega
    have h' : ¬ ((ds.length : Nat) : Int) < (ds.length : Nat) := by omega
    simp only [N8_9b, lx, h', purK_some, resK_some, boolK_some, condK_true, condK_false, wantV_tt, wantV_tf, wantV_ft, wantV_ff, wantV_t, wantV_f, wantV_skip, Bool.not_true, Bool.not_false, gPur_true, gPur_false, gEff_true, gEff_false, gRes_true, gRes_false, pickA_true, pickA_false, extA_0, extA_1, extA_2, retK_one, retK_none, retK_two, valK_fn, valR_fn, cond_true, cond_false, bin_add, bin_sub, bin_mul, bin_eql, bin_neq, bin_lss, bin_leq, bin_gtr, bin_geq, bin_seql, bin_sneq, un_not_t, un_not_f, un_not, cvI_int, cvT_str, nilChk_ptr, nilChk_xp, addA_ptr, lenT_str, Bool.true_or, Bool.or_true, Bool.false_or, Bool.or_false, Bool.true_and, Bool.and_true, Bool.false_and, Bool.and_false, decide_true, decide_false, Int.reduceEq, Int.reduceLT, Int.reduceLE, Int.reduceNe, Int.reduceAdd, Int.reduceSub, Int.reduceMul, Int.reduceNeg, List.nil_append, List.append_nil, List.cons_append]
    rw [List.take_length] at s
    exact hk0 H' s
/-- The sum, and no kind without a weight. -/
theorem sum_loop {yc : YieldF} {call : CallF} {n7 n : Nat} (p : PlanD) (hW : p.W.length = 10) (c : List Int) (hc : c.length = 10) (hcs : ∀ i, i < 10 → 0 ≤ c.getD i 0 ∧ c.getD i 0 ≤ 1000) (hk : 300 ≤ k) (g7 : H.get n7 = planO p) (hn : n < H.sz) (gn : H.get n = cntO c)
    (hz : ∀ i, i < 10 → p.W.getD i 0 = 0 → c.getD i 0 = 0) (hs : c.sum = 100) :
    Ret (fun v H' => v = .bool true) (N8_2 ρ call yc 0 k (.ptr n7 0 0) (.int .i64 0) (.sl n 0 0 10 10 false) H retK) := by
  simp only [N8_2, N8_4, N8_5]
  refine Ret.loop (fun m y H' => ∃ i : Nat, y = (.int .i64 (c.take i).sum, .int .i64 i) ∧ m = 10 - i ∧ i ≤ 10 ∧ H' = H) ?_ 10 k _ H ⟨0, rfl, rfl, by omega, rfl⟩ (by omega)
  rintro m y H' kn ⟨i, rfl, hm, hi, rfl⟩ next
  by_cases h : i < 10
  · have h' : (i : Int) < 10 := by omega
    have hi' : i < c.length := by omega
    have hiW : i < p.W.length := by omega
    have hE := cnt_els (ρ := ρ) hn gn hc
    have e5 := hE.ix .i64 i (by omega) (by rw [prow_len, hc]; omega)
    have e6 : elp 1 (.sl n 0 0 10 10 false) i 0 = .ptr n 0 i := by simp [elp]
    rw [Int.toNat_natCast, e6] at e5
    have l6 : ldC 0 i (cntO c) = some (.int .i64 (c.getD i 0)) := by rw [ldC_cells]; exact cell_at _ _ hi'
    have hb := hcs i h
    have hst : (c.take (i + 1)).sum = (c.take i).sum + c.getD i 0 := by rw [sum_take c i hi', getD_eq c i hi']
    have bnd : ∀ j : Nat, j ≤ 10 → 0 ≤ (c.take j).sum ∧ (c.take j).sum ≤ 1000 * j := by
      intro j
      induction j with
      | zero => intro _; simp
      | succ j ih =>
        intro hj
        have := ih (by omega)
        have := hcs j (by omega)
        rw [sum_take c j (by omega)]
        rw [getD_eq c j (by omega)] at this
        omega
    have b1 := bnd i (by omega)
    have w1 : wrapK .i64 ((c.take i).sum + c.getD i 0) = (c.take (i + 1)).sum := by rw [hst, wrap_i64]; omega
    have e1 := ixRW n7 0 i h
    have e4 := ldW p 46 i hiW
    have w3 := wrap_succN i (by omega : i + 1 < 9223372036854775808)
    by_cases hw : p.W[i] = 0
    · have hzi := hz i h (by rw [getD_eq _ _ hiW, hw])
      have hc0 : ¬ 0 < c.getD i 0 := by omega
      simp only [N8_5b, N8_7, N8_6, h', e5, ld1_ptr, gn, l6, g7, planO, w1, e1, e4, hw, hc0, w3, Nat.zero_add, purK_some, resK_some, boolK_some, condK_true, condK_false, wantV_tt, wantV_tf, wantV_ft, wantV_ff, wantV_t, wantV_f, wantV_skip, Bool.not_true, Bool.not_false, gPur_true, gPur_false, gEff_true, gEff_false, gRes_true, gRes_false, pickA_true, pickA_false, extA_0, extA_1, extA_2, retK_one, retK_none, retK_two, valK_fn, valR_fn, cond_true, cond_false, bin_add, bin_sub, bin_mul, bin_eql, bin_neq, bin_lss, bin_leq, bin_gtr, bin_geq, bin_seql, bin_sneq, un_not_t, un_not_f, un_not, cvI_int, cvT_str, nilChk_ptr, nilChk_xp, addA_ptr, lenT_str, Bool.true_or, Bool.or_true, Bool.false_or, Bool.or_false, Bool.true_and, Bool.and_true, Bool.false_and, Bool.and_false, decide_true, decide_false, Int.reduceEq, Int.reduceLT, Int.reduceLE, Int.reduceNe, Int.reduceAdd, Int.reduceSub, Int.reduceMul, Int.reduceNeg, List.nil_append, List.append_nil, List.cons_append]
      clear w1 w3
      exact next (m - 1) _ H' (by omega) ⟨i + 1, rfl, by omega, by omega, rfl⟩
    · simp only [N8_5b, N8_7, N8_6, h', e5, ld1_ptr, gn, l6, g7, planO, w1, e1, e4, hw, w3, Nat.zero_add, purK_some, resK_some, boolK_some, condK_true, condK_false, wantV_tt, wantV_tf, wantV_ft, wantV_ff, wantV_t, wantV_f, wantV_skip, Bool.not_true, Bool.not_false, gPur_true, gPur_false, gEff_true, gEff_false, gRes_true, gRes_false, pickA_true, pickA_false, extA_0, extA_1, extA_2, retK_one, retK_none, retK_two, valK_fn, valR_fn, cond_true, cond_false, bin_add, bin_sub, bin_mul, bin_eql, bin_neq, bin_lss, bin_leq, bin_gtr, bin_geq, bin_seql, bin_sneq, un_not_t, un_not_f, un_not, cvI_int, cvT_str, nilChk_ptr, nilChk_xp, addA_ptr, lenT_str, Bool.true_or, Bool.or_true, Bool.false_or, Bool.or_false, Bool.true_and, Bool.and_true, Bool.false_and, Bool.and_false, decide_true, decide_false, Int.reduceEq, Int.reduceLT, Int.reduceLE, Int.reduceNe, Int.reduceAdd, Int.reduceSub, Int.reduceMul, Int.reduceNeg, List.nil_append, List.append_nil, List.cons_append]
      clear w1 w3
      exact next (m - 1) _ H' (by omega) ⟨i + 1, rfl, by omega, by omega, rfl⟩
  · obtain rfl : i = 10 := by omega
    have h' : ¬ ((10 : Nat) : Int) < 10 := by omega
    have ht : c.take 10 = c := List.take_of_length_le (by omega)
    simp only [N8_5b, N8_3, h', ht, hs, ne_eq, not_true, purK_some, resK_some, boolK_some, condK_true, condK_false, wantV_tt, wantV_tf, wantV_ft, wantV_ff, wantV_t, wantV_f, wantV_skip, Bool.not_true, Bool.not_false, gPur_true, gPur_false, gEff_true, gEff_false, gRes_true, gRes_false, pickA_true, pickA_false, extA_0, extA_1, extA_2, retK_one, retK_none, retK_two, valK_fn, valR_fn, cond_true, cond_false, bin_add, bin_sub, bin_mul, bin_eql, bin_neq, bin_lss, bin_leq, bin_gtr, bin_geq, bin_seql, bin_sneq, un_not_t, un_not_f, un_not, cvI_int, cvT_str, nilChk_ptr, nilChk_xp, addA_ptr, lenT_str, Bool.true_or, Bool.or_true, Bool.false_or, Bool.or_false, Bool.true_and, Bool.and_true, Bool.false_and, Bool.and_false, decide_true, decide_false, Int.reduceEq, Int.reduceLT, Int.reduceLE, Int.reduceNe, Int.reduceAdd, Int.reduceSub, Int.reduceMul, Int.reduceNeg, List.nil_append, List.append_nil, List.cons_append]
    exact .intro rfl
theorem law2_ret (hx : ∀ H, Els ρ H 8 x (ds.map StepD.cells)) (hds : ∀ d ∈ ds, AV.solid d.picks = true) (p : PlanD) (hW : p.W.length = 10) (hxs : u64r p.seed) (hk : 2500 ≤ k) (sess window : Int) (hwin : window < 9223372036854775808) :
    Ret (fun v H' => v = .bool true) (evCall (cx ρ) (k + 1) 0 8 [x, .int .i64 sess, .int .i64 window, .agg p.cells] Heap.nil) := by
  rw [E8]
  simp only [L8, boxA_agg _ _ _ p.solid]
  refine (St.start Nop Heap.nil).newP fun n7 H1 s1 hz1 f1 => ?_
  rw [show k = (k - 2) + 2 by omega, awake_spec, ← show k = (k - 2) + 2 by omega]
  have lx := (hx H1).lenS
  rw [List.length_map] at lx
  simp only [resK_some, un_not_t, purK_some, condK_false, lx]
  rw [cnd2]
  by_cases c : 200 < (ds.length : Int) ∨ 20 < sess
  · simp only [c, purK_some, resK_some, boolK_some, condK_true, condK_false, wantV_tt, wantV_tf, wantV_ft, wantV_ff, wantV_t, wantV_f, wantV_skip, Bool.not_true, Bool.not_false, gPur_true, gPur_false, gEff_true, gEff_false, gRes_true, gRes_false, pickA_true, pickA_false, extA_0, extA_1, extA_2, retK_one, retK_none, retK_two, valK_fn, valR_fn, cond_true, cond_false, bin_add, bin_sub, bin_mul, bin_eql, bin_neq, bin_lss, bin_leq, bin_gtr, bin_geq, bin_seql, bin_sneq, un_not_t, un_not_f, un_not, cvI_int, cvT_str, nilChk_ptr, nilChk_xp, addA_ptr, lenT_str, Bool.true_or, Bool.or_true, Bool.false_or, Bool.or_false, Bool.true_and, Bool.and_true, Bool.false_and, Bool.and_false, decide_true, decide_false, Int.reduceEq, Int.reduceLT, Int.reduceLE, Int.reduceNe, Int.reduceAdd, Int.reduceSub, Int.reduceMul, Int.reduceNeg, List.nil_append, List.append_nil, List.cons_append]
    exact .intro rfl
  have hlen : ds.length ≤ 200 := by omega
  have mk : ∀ H : Heap, mkS H 3 1 8 [.int .i64 0] (.int .i64 10) (.int .i64 10) = some (.sl H.sz 0 0 10 10 false, .new (cntO (cntK []))) := fun H => rfl
  simp only [c, mk, purK_some, resK_some, boolK_some, condK_true, condK_false, wantV_tt, wantV_tf, wantV_ft, wantV_ff, wantV_t, wantV_f, wantV_skip, Bool.not_true, Bool.not_false, gPur_true, gPur_false, gEff_true, gEff_false, gRes_true, gRes_false, pickA_true, pickA_false, extA_0, extA_1, extA_2, retK_one, retK_none, retK_two, valK_fn, valR_fn, cond_true, cond_false, bin_add, bin_sub, bin_mul, bin_eql, bin_neq, bin_lss, bin_leq, bin_gtr, bin_geq, bin_seql, bin_sneq, un_not_t, un_not_f, un_not, cvI_int, cvT_str, nilChk_ptr, nilChk_xp, addA_ptr, lenT_str, Bool.true_or, Bool.or_true, Bool.false_or, Bool.or_false, Bool.true_and, Bool.and_true, Bool.false_and, Bool.and_false, decide_true, decide_false, Int.reduceEq, Int.reduceLT, Int.reduceLE, Int.reduceNe, Int.reduceAdd, Int.reduceSub, Int.reduceMul, Int.reduceNeg, List.nil_append, List.append_nil, List.cons_append]
  refine s1.newS fun n9 H2 s2 hz2 f2 => ?_
  simp only [N8_8, N8_9]
  refine want_loop (n7 := n7) (n := n9) hx hlen (by omega) _ _ (planO p) _ s2 ?_
  intro H3 s3
  simp only [N8_1]
  refine Ret.bind (spread_spec (ρ := ρ) (k := k) (H := H3) (hx H3) hds (by omega) (by omega)) ?_
  rintro v H4 ⟨n4, rfl, hn4, hl4, g4, f4⟩
  have s4 := s3.frame0 f4
  have hcl : (cnt ds).length = 10 := cntK_len _
  refine Ret.bind (ints_spec (ρ := ρ) (k := k) (cnt ds) _ _ (cnt_els hl4 g4 hcl) (cnt_els (s4.lt' 1 rfl) (s4.at 1 rfl) hcl) (by omega) (by omega)) ?_
  rintro v H5 ⟨rfl, rfl⟩
  simp only [purK_some, resK_some, boolK_some, condK_true, condK_false, wantV_tt, wantV_tf, wantV_ft, wantV_ff, wantV_t, wantV_f, wantV_skip, Bool.not_true, Bool.not_false, gPur_true, gPur_false, gEff_true, gEff_false, gRes_true, gRes_false, pickA_true, pickA_false, extA_0, extA_1, extA_2, retK_one, retK_none, retK_two, valK_fn, valR_fn, cond_true, cond_false, bin_add, bin_sub, bin_mul, bin_eql, bin_neq, bin_lss, bin_leq, bin_gtr, bin_geq, bin_seql, bin_sneq, un_not_t, un_not_f, un_not, cvI_int, cvT_str, nilChk_ptr, nilChk_xp, addA_ptr, lenT_str, Bool.true_or, Bool.or_true, Bool.false_or, Bool.or_false, Bool.true_and, Bool.and_true, Bool.false_and, Bool.and_false, decide_true, decide_false, Int.reduceEq, Int.reduceLT, Int.reduceLE, Int.reduceNe, Int.reduceAdd, Int.reduceSub, Int.reduceMul, Int.reduceNeg, List.nil_append, List.append_nil, List.cons_append]
  obtain ⟨H6, e6, f6⟩ := fair_spec (ρ := ρ) (k := k - 2) (H := H5) (hx H5) hds (by omega) sess window (by omega)
  rw [show k - 2 + 2 = k by omega] at e6
  have e7 := rfair_spec (ρ := ρ) (k := k - 1) (H := H6) (hx H6) (by omega) sess window hwin (by omega)
  rw [show k - 1 + 1 = k by omega] at e7
  have eb : (fairP ds sess window != fairP ds sess window) = false := by simp
  simp only [e6, e7, beq_bool, eb, purK_some, resK_some, boolK_some, condK_true, condK_false, wantV_tt, wantV_tf, wantV_ft, wantV_ff, wantV_t, wantV_f, wantV_skip, Bool.not_true, Bool.not_false, gPur_true, gPur_false, gEff_true, gEff_false, gRes_true, gRes_false, pickA_true, pickA_false, extA_0, extA_1, extA_2, retK_one, retK_none, retK_two, valK_fn, valR_fn, cond_true, cond_false, bin_add, bin_sub, bin_mul, bin_eql, bin_neq, bin_lss, bin_leq, bin_gtr, bin_geq, bin_seql, bin_sneq, un_not_t, un_not_f, un_not, cvI_int, cvT_str, nilChk_ptr, nilChk_xp, addA_ptr, lenT_str, Bool.true_or, Bool.or_true, Bool.false_or, Bool.or_false, Bool.true_and, Bool.and_true, Bool.false_and, Bool.and_false, decide_true, decide_false, Int.reduceEq, Int.reduceLT, Int.reduceLE, Int.reduceNe, Int.reduceAdd, Int.reduceSub, Int.reduceMul, Int.reduceNeg, List.nil_append, List.append_nil, List.cons_append]
  have s6 := s4.frame0 f6
  have hW' := hW
  simp only [ldN_ptr, s6.at 0 rfl, planO, ldPl p hW, purK_some, resK_some, boolK_some, condK_true, condK_false, wantV_tt, wantV_tf, wantV_ft, wantV_ff, wantV_t, wantV_f, wantV_skip, Bool.not_true, Bool.not_false, gPur_true, gPur_false, gEff_true, gEff_false, gRes_true, gRes_false, pickA_true, pickA_false, extA_0, extA_1, extA_2, retK_one, retK_none, retK_two, valK_fn, valR_fn, cond_true, cond_false, bin_add, bin_sub, bin_mul, bin_eql, bin_neq, bin_lss, bin_leq, bin_gtr, bin_geq, bin_seql, bin_sneq, un_not_t, un_not_f, un_not, cvI_int, cvT_str, nilChk_ptr, nilChk_xp, addA_ptr, lenT_str, Bool.true_or, Bool.or_true, Bool.false_or, Bool.or_false, Bool.true_and, Bool.and_true, Bool.false_and, Bool.and_false, decide_true, decide_false, Int.reduceEq, Int.reduceLT, Int.reduceLE, Int.reduceNe, Int.reduceAdd, Int.reduceSub, Int.reduceMul, Int.reduceNeg, List.nil_append, List.append_nil, List.cons_append]
  refine Ret.bind (steps_spec (ρ := ρ) (k := k) (H := H6) p hW hxs 100 (by omega) (by intro _; omega)) ?_
  rintro v H7 (⟨hb, rfl, f7⟩ | ⟨hb, hn, rfl, f7⟩ | ⟨hb, _, _, y, ps, rfl, hPL, hps, f7⟩)
  · simp only [purK_some, resK_some, boolK_some, condK_true, condK_false, wantV_tt, wantV_tf, wantV_ft, wantV_ff, wantV_t, wantV_f, wantV_skip, Bool.not_true, Bool.not_false, gPur_true, gPur_false, gEff_true, gEff_false, gRes_true, gRes_false, pickA_true, pickA_false, extA_0, extA_1, extA_2, retK_one, retK_none, retK_two, valK_fn, valR_fn, cond_true, cond_false, bin_add, bin_sub, bin_mul, bin_eql, bin_neq, bin_lss, bin_leq, bin_gtr, bin_geq, bin_seql, bin_sneq, un_not_t, un_not_f, un_not, cvI_int, cvT_str, nilChk_ptr, nilChk_xp, addA_ptr, lenT_str, Bool.true_or, Bool.or_true, Bool.false_or, Bool.or_false, Bool.true_and, Bool.and_true, Bool.false_and, Bool.and_false, decide_true, decide_false, Int.reduceEq, Int.reduceLT, Int.reduceLE, Int.reduceNe, Int.reduceAdd, Int.reduceSub, Int.reduceMul, Int.reduceNeg, List.nil_append, List.append_nil, List.cons_append]
    refine Ret.bind (spread_spec (ρ := ρ) (k := k) (H := H7) (x := .nils) (ds := []) Els.nils (by simp) (by simp) (by simp; omega)) ?_
    rintro v H8 ⟨n8, rfl, hn8, hl8, g8, f8⟩
    obtain ⟨k', hk'⟩ : ∃ q, k = q + 1 := ⟨k - 1, by omega⟩
    simp only [N8_2, N8_4, N8_5]
    rw [hk', loopL_succ]
    have c1 : ¬ (1 : Int) = 0 := by decide
    simp only [N8_5b, N8_3, c1, ne_eq, not_false_eq_true, purK_some, resK_some, boolK_some, condK_true, condK_false, wantV_tt, wantV_tf, wantV_ft, wantV_ff, wantV_t, wantV_f, wantV_skip, Bool.not_true, Bool.not_false, gPur_true, gPur_false, gEff_true, gEff_false, gRes_true, gRes_false, pickA_true, pickA_false, extA_0, extA_1, extA_2, retK_one, retK_none, retK_two, valK_fn, valR_fn, cond_true, cond_false, bin_add, bin_sub, bin_mul, bin_eql, bin_neq, bin_lss, bin_leq, bin_gtr, bin_geq, bin_seql, bin_sneq, un_not_t, un_not_f, un_not, cvI_int, cvT_str, nilChk_ptr, nilChk_xp, addA_ptr, lenT_str, Bool.true_or, Bool.or_true, Bool.false_or, Bool.or_false, Bool.true_and, Bool.and_true, Bool.false_and, Bool.and_false, decide_true, decide_false, Int.reduceEq, Int.reduceLT, Int.reduceLE, Int.reduceNe, Int.reduceAdd, Int.reduceSub, Int.reduceMul, Int.reduceNeg, List.nil_append, List.append_nil, List.cons_append]
    exact .intro rfl
  · omega
  · have hp := (okB_iff p hW).1 hb
    have hps' : ps.map Prod.fst = stepsP p 100 p.seed := hps
    have hpl : ps.length = 100 := by rw [← stepsP_len p 100 p.seed, ← hps', List.length_map]
    have hE := hPL.out.toEls (ρ := ρ)
    rw [orow_stD] at hE
    simp only [purK_some, resK_some, boolK_some, condK_true, condK_false, wantV_tt, wantV_tf, wantV_ft, wantV_ff, wantV_t, wantV_f, wantV_skip, Bool.not_true, Bool.not_false, gPur_true, gPur_false, gEff_true, gEff_false, gRes_true, gRes_false, pickA_true, pickA_false, extA_0, extA_1, extA_2, retK_one, retK_none, retK_two, valK_fn, valR_fn, cond_true, cond_false, bin_add, bin_sub, bin_mul, bin_eql, bin_neq, bin_lss, bin_leq, bin_gtr, bin_geq, bin_seql, bin_sneq, un_not_t, un_not_f, un_not, cvI_int, cvT_str, nilChk_ptr, nilChk_xp, addA_ptr, lenT_str, Bool.true_or, Bool.or_true, Bool.false_or, Bool.or_false, Bool.true_and, Bool.and_true, Bool.false_and, Bool.and_false, decide_true, decide_false, Int.reduceEq, Int.reduceLT, Int.reduceLE, Int.reduceNe, Int.reduceAdd, Int.reduceSub, Int.reduceMul, Int.reduceNeg, List.nil_append, List.append_nil, List.cons_append]
    refine Ret.bind (spread_spec (ρ := ρ) (k := k) (H := H7) (x := y) (ds := ps.map stD) hE ?_ (by simp; omega) (by simp; omega)) ?_
    · intro d hd
      obtain ⟨q, hq, rfl⟩ := List.mem_map.1 hd
      exact scal_solid (Grow.scal (hPL.ins q hq).1).1
    rintro v H8 ⟨n8, rfl, hn8, hl8, g8, f8⟩
    have s8 := (s6.frame0 f7).frame0 f8
    have hks : (ps.map stD).map StepD.kind = (stepsP p 100 p.seed).map StepV.kind := by rw [← hps', List.map_map, List.map_map]; rfl
    have hkind := stepsP_kinds p hp 100 p.seed
    refine sum_loop (ρ := ρ) p hW (cnt (ps.map stD)) (cntK_len _) ?_ (by omega) (s8.at 0 rfl) hl8 g8 ?_ ?_
    · intro i hi
      have := cnt_small ((ps.map stD).map StepD.kind) i hi
      rw [List.length_map, List.length_map, hpl] at this
      unfold cnt; omega
    · intro i hi hw
      unfold cnt
      refine cntK_zero _ i hi fun kd hkd => ?_
      rw [hks] at hkd
      obtain ⟨d, hd, rfl⟩ := List.mem_map.1 hkd
      obtain ⟨h1, h2, h3⟩ := hkind d hd
      left
      intro e
      rw [e] at h3
      omega
    · unfold cnt
      rw [cntK_sum, List.length_map, List.length_map, hpl]
      · rfl
      · intro kd hkd
        rw [hks] at hkd
        obtain ⟨d, hd, rfl⟩ := List.mem_map.1 hkd
        obtain ⟨h1, h2, h3⟩ := hkind d hd
        exact ⟨h1, h2⟩
end
end Go.Proofs.Ytcjicmabhejllaa

-- part PqF
/- PlanSpreads: the call, whatever the slice and the plan hold. -/
set_option linter.unusedVariables false
set_option linter.unusedSimpArgs false
namespace Go.Proofs.Ytcjicmabhejllaa
open Go.Ev Go.RowKit
theorem u64_of {n : Int} (h : (Lit.int .u64 n).wf = true) : u64r n := by
  unfold u64r
  simp [Lit.wf, IntKind.min, IntKind.max, IntKind.bits, IntKind.signed] at h
  omega
theorem i64_of {n : Int} (h : (Lit.int .i64 n).wf = true) : n < 9223372036854775808 := by
  simp [Lit.wf, IntKind.min, IntKind.max, IntKind.bits, IntKind.signed] at h
  omega
def vals (kd s n ok : Int) (key val : ByteArray) (on : Int) (p : Option Addr) (m c : Nat) : List Value := [.int .i64 kd, .int .i64 s, .int .i64 n, .int .i64 ok, .string key, .string val, .int .u64 on, .slice p m c]
structure RawD where
  kd : Int
  s : Int
  n : Int
  ok : Int
  key : ByteArray
  val : ByteArray
  on : Int
  p : Option Addr
  m : Nat
  c : Nat
def RawD.vals (d : RawD) : List Value := [.int .i64 d.kd, .int .i64 d.s, .int .i64 d.n, .int .i64 d.ok, .string d.key, .string d.val, .int .u64 d.on, .slice d.p d.m d.c]
def RawD.step (d : RawD) : StepD := ⟨d.kd, d.s, d.n, ⟨d.ok, d.key, d.val, d.on⟩, ofCell (.slice d.p d.m d.c)⟩
theorem sl_solid (p : Option Addr) (m c : Nat) : AV.solid (ofCell (.slice p m c)) = true := by
  cases p with
  | some a => rfl
  | none =>
    cases m with
    | zero => cases c <;> rfl
    | succ m => rfl
theorem walk {Hh : Type} {enc : TypeId × Value → Hh} {W : World} {base : Nat} {spare : Nat → Bool} {held : Bool} {p : Option Addr} {n c : Nat} {dd : DataW Hh} {ps : List MemPlace} (h : DataW.Trod enc Try.prog W base spare held 33 (.slice p n c) dd ps) (sess window : Int) (hw : (Lit.int .i64 window).wf = true)
    (seed S K w0 w1 w2 w3 w4 w5 w6 w7 w8 w9 : Int) (hs : (Lit.int .u64 seed).wf = true) :
    Calls Try.prog 8 #[.slice p n c, .int .i64 sess, .int .i64 window, .agg #[.int .u64 seed, .int .i64 S, .int .i64 K, .int .i64 w0, .int .i64 w1, .int .i64 w2, .int .i64 w3, .int .i64 w4, .int .i64 w5, .int .i64 w6, .int .i64 w7, .int .i64 w8, .int .i64 w9]] W fun e w' => e = .returned (.bool true) ∧ Below W.heap.size W w' := by
  obtain ⟨els, hl, hc, hnc, hf, hE, hR⟩ := open_slice (ks := [.int .i64, .int .i64, .int .i64, .int .i64, .str, .str, .int .u64, .sl]) 20 Try.underlying33 (by kernel_rfl) (by kernel_rfl) h
  obtain ⟨ds, rfl, _⟩ := exists_map (f := RawD.vals) (Q := fun _ => True) els fun r hr => by
    obtain ⟨_, _, rfl, ⟨a, rfl, _⟩, _, _, rfl, ⟨b, rfl, _⟩, _, _, rfl, ⟨c, rfl, _⟩, _, _, rfl, ⟨d, rfl, _⟩, _, _, rfl, ⟨e, rfl, _⟩, _, _, rfl, ⟨f, rfl, _⟩, _, _, rfl, ⟨g, rfl, _⟩, _, _, rfl, ⟨p, m, q, rfl⟩, rfl⟩ := hf r hr
    exact ⟨⟨a, b, c, d, e, f, g, p, m, q⟩, rfl, trivial⟩
  have hx0 : ∀ Hp, Els (fun a => W.cell? a) Hp 8 (argSl p n c) ((ds.map RawD.step).map StepD.cells) := fun Hp => by
    have := hE Hp
    rw [List.map_map] at this
    rw [List.map_map]
    exact this
  have hds : ∀ d ∈ ds.map RawD.step, AV.solid d.picks = true := by
    intro d hd
    obtain ⟨q, _, rfl⟩ := List.mem_map.1 hd
    exact sl_solid _ _ _
  obtain ⟨v, H1, hrun, rfl⟩ := law2_ret (ρ := fun a => W.cell? a) (k := 3000) hx0 hds ⟨seed, S, K, [w0, w1, w2, w3, w4, w5, w6, w7, w8, w9]⟩ rfl (u64_of hs) (by omega) sess window (i64_of hw)
  exact calls_of_run_reads (C := cx fun a => W.cell? a) (vs := [.slice p n c, .int .i64 sess, .int .i64 window, .agg #[.int .u64 seed, .int .i64 S, .int .i64 K, .int .i64 w0, .int .i64 w1, .int .i64 w2, .int .i64 w3, .int .i64 w4, .int .i64 w5, .int .i64 w6, .int .i64 w7, .int .i64 w8, .int .i64 w9]]) (reads_cell _ _ rfl) (by kernel_rfl) (cx_ext _) Try.func8 rfl hrun ⟨_, _, rfl, hR _ _, ⟨_, _, rfl, rfl, ⟨_, _, rfl, rfl, ⟨_, _, rfl, ⟨_, rfl, ⟨_, _, rfl, rfl, ⟨_, _, rfl, rfl, ⟨_, _, rfl, rfl, ⟨_, _, rfl, rfl, ⟨_, _, rfl, rfl, ⟨_, _, rfl, rfl, ⟨_, _, rfl, rfl, ⟨_, _, rfl, rfl, ⟨_, _, rfl, rfl, ⟨_, _, rfl, rfl, ⟨_, _, rfl, rfl, ⟨_, _, rfl, rfl, ⟨_, _, rfl, rfl, rfl⟩⟩⟩⟩⟩⟩⟩⟩⟩⟩⟩⟩⟩⟩, rfl⟩⟩⟩⟩
end Go.Proofs.Ytcjicmabhejllaa
