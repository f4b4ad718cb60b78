/- Part 7 of the proof of PlanSteps: PsO PsP. -/
import Derived.Test.YtcjicmabhejllaaBnF
import Derived.Test.YtcjicmabhejllaaBnB
import Derived.WalkKit
-- part PsO
/- Whether two schedules are the same; the law. -/
set_option linter.unusedVariables false
set_option linter.unusedSimpArgs false
namespace Go.Proofs.Ytcjicmabhejllaa
attribute [local congr] Go.Ev.cond_congr1
open Go.Ev Go.RowKit
section
variable {ρ : Addr → Option Value} {k : Nat} {H : Heap}
theorem ints_spec (l : List Int) (x y : AV) (hx : Els ρ H 1 x (prow l)) (hy : Els ρ H 1 y (prow l)) (hl : l.length < 4611686018427387904) (hk : l.length + 2 ≤ k) :
    Ret (fun v H' => v = .bool true ∧ H' = H) (evCall (cx ρ) k 0 30 [x, y] H) := by
  obtain ⟨k, rfl⟩ : ∃ q, k = q + 1 := ⟨k - 1, by omega⟩
  have lx := hx.lenS
  have ly := hy.lenS
  rw [prow_len] at lx ly
  rw [E30]
  simp only [L30, lx, ly, ne_eq, not_true, N30_2, N30_3, purK_some, resK_some, boolK_some, condK_true, condK_false, wantV_tt, wantV_tf, wantV_ft, wantV_ff, wantV_t, wantV_f, wantV_skip, Bool.not_true, Bool.not_false, gPur_true, gPur_false, gEff_true, gEff_false, gRes_true, gRes_false, pickA_true, pickA_false, extA_0, extA_1, extA_2, retK_one, retK_none, retK_two, valK_fn, valR_fn, cond_true, cond_false, bin_add, bin_sub, bin_mul, bin_eql, bin_neq, bin_lss, bin_leq, bin_gtr, bin_geq, bin_seql, bin_sneq, un_not_t, un_not_f, un_not, cvI_int, cvT_str, nilChk_ptr, nilChk_xp, addA_ptr, lenT_str, Bool.true_or, Bool.or_true, Bool.false_or, Bool.or_false, Bool.true_and, Bool.and_true, Bool.false_and, Bool.and_false, decide_true, decide_false, Int.reduceEq, Int.reduceLT, Int.reduceLE, Int.reduceNe, Int.reduceAdd, Int.reduceSub, Int.reduceMul, Int.reduceNeg, List.nil_append, List.append_nil, List.cons_append]
  refine Ret.loop (fun m y' H' => ∃ i : Nat, y' = .int .i64 i ∧ m = l.length - i ∧ i ≤ l.length ∧ H' = H) ?_ l.length k _ H ⟨0, rfl, rfl, by omega, rfl⟩ (by omega)
  rintro m y' H' kn ⟨i, rfl, hm, hi, rfl⟩ next
  by_cases h : i < l.length
  · have h' : (i : Int) < l.length := by omega
    have hi' : i < (prow l).length := by rw [prow_len]; exact h
    have e1 := hx.ix .i64 i (by omega) (by rw [prow_len]; exact h')
    have e2 := hy.ix .i64 i (by omega) (by rw [prow_len]; exact h')
    have e3 := hx.ld1 i 0 hi' (by decide)
    have e4 := hy.ld1 i 0 hi' (by decide)
    have e5 : (prow l)[i][0]? = some (.int .i64 l[i]) := by simp [prow]
    rw [Int.toNat_natCast] at e1 e2
    rw [e5] at e3 e4
    simp only [N30_3b, lx, h', e1, e2, e3, e4, ne_eq, not_true, wrap_succN i (by omega : i + 1 < 9223372036854775808), purK_some, resK_some, boolK_some, condK_true, condK_false, wantV_tt, wantV_tf, wantV_ft, wantV_ff, wantV_t, wantV_f, wantV_skip, Bool.not_true, Bool.not_false, gPur_true, gPur_false, gEff_true, gEff_false, gRes_true, gRes_false, pickA_true, pickA_false, extA_0, extA_1, extA_2, retK_one, retK_none, retK_two, valK_fn, valR_fn, cond_true, cond_false, bin_add, bin_sub, bin_mul, bin_eql, bin_neq, bin_lss, bin_leq, bin_gtr, bin_geq, bin_seql, bin_sneq, un_not_t, un_not_f, un_not, cvI_int, cvT_str, nilChk_ptr, nilChk_xp, addA_ptr, lenT_str, Bool.true_or, Bool.or_true, Bool.false_or, Bool.or_false, Bool.true_and, Bool.and_true, Bool.false_and, Bool.and_false, decide_true, decide_false, Int.reduceEq, Int.reduceLT, Int.reduceLE, Int.reduceNe, Int.reduceAdd, Int.reduceSub, Int.reduceMul, Int.reduceNeg, List.nil_append, List.append_nil, List.cons_append]
    exact next (m - 1) _ H' (by omega) ⟨i + 1, rfl, by omega, by omega, rfl⟩
  · have h' : ¬ (i : Int) < l.length := by omega
    simp only [N30_3b, N30_1, lx, h', purK_some, resK_some, boolK_some, condK_true, condK_false, wantV_tt, wantV_tf, wantV_ft, wantV_ff, wantV_t, wantV_f, wantV_skip, Bool.not_true, Bool.not_false, gPur_true, gPur_false, gEff_true, gEff_false, gRes_true, gRes_false, pickA_true, pickA_false, extA_0, extA_1, extA_2, retK_one, retK_none, retK_two, valK_fn, valR_fn, cond_true, cond_false, bin_add, bin_sub, bin_mul, bin_eql, bin_neq, bin_lss, bin_leq, bin_gtr, bin_geq, bin_seql, bin_sneq, un_not_t, un_not_f, un_not, cvI_int, cvT_str, nilChk_ptr, nilChk_xp, addA_ptr, lenT_str, Bool.true_or, Bool.or_true, Bool.false_or, Bool.or_false, Bool.true_and, Bool.and_true, Bool.false_and, Bool.and_false, decide_true, decide_false, Int.reduceEq, Int.reduceLT, Int.reduceLE, Int.reduceNe, Int.reduceAdd, Int.reduceSub, Int.reduceMul, Int.reduceNeg, List.nil_append, List.append_nil, List.cons_append]
    exact .intro ⟨rfl, rfl⟩
theorem neqOp2 (H : Heap) (a n : Int) (s t : ByteArray) : binA Try.prog H .neq 39 (.agg [.int .i64 a, .str s, .str t, .int .u64 n]) (.agg [.int .i64 a, .str s, .str t, .int .u64 n]) = some (.bool false) := by
  have : binA Try.prog H .neq 39 (.agg [.int .i64 a, .str s, .str t, .int .u64 n]) (.agg [.int .i64 a, .str s, .str t, .int .u64 n]) = (bif a == a then bif s == s then bif t == t then bif n == n then some true else some false else some false else some false else some false).map fun b => .bool !b := by kernel_rfl
  rw [this]
  simp [ba_beq]
theorem same_spec (x y : AV) (ps qs : List (StepV × AV)) (hx : RowsS ρ H x ps) (hy : RowsS ρ H y qs) (hpq : ps.map Prod.fst = qs.map Prod.fst) (hl : ps.length < 4611686018427387904) (hk : ps.length + 3 ≤ k) (hpk : ∀ q ∈ ps, q.1.picks.length < 1000) (hk3 : 2000 ≤ k) :
    Ret (fun v H' => v = .bool true ∧ H' = H) (evCall (cx ρ) k 0 29 [x, y] H) := by
  obtain ⟨k, rfl⟩ : ∃ q, k = q + 1 := ⟨k - 1, by omega⟩
  have hlen : qs.length = ps.length := by have := congrArg List.length hpq; simpa using this.symm
  have lx := hx.1.lenS
  have ly := hy.1.lenS
  rw [List.length_map] at lx ly
  rw [hlen] at ly
  rw [E29]
  simp only [L29, lx, ly, ne_eq, not_true, N29_2, N29_3, purK_some, resK_some, boolK_some, condK_true, condK_false, wantV_tt, wantV_tf, wantV_ft, wantV_ff, wantV_t, wantV_f, wantV_skip, Bool.not_true, Bool.not_false, gPur_true, gPur_false, gEff_true, gEff_false, gRes_true, gRes_false, pickA_true, pickA_false, extA_0, extA_1, extA_2, retK_one, retK_none, retK_two, valK_fn, valR_fn, cond_true, cond_false, bin_add, bin_sub, bin_mul, bin_eql, bin_neq, bin_lss, bin_leq, bin_gtr, bin_geq, bin_seql, bin_sneq, un_not_t, un_not_f, un_not, cvI_int, cvT_str, nilChk_ptr, nilChk_xp, addA_ptr, lenT_str, Bool.true_or, Bool.or_true, Bool.false_or, Bool.or_false, Bool.true_and, Bool.and_true, Bool.false_and, Bool.and_false, decide_true, decide_false, Int.reduceEq, Int.reduceLT, Int.reduceLE, Int.reduceNe, Int.reduceAdd, Int.reduceSub, Int.reduceMul, Int.reduceNeg, List.nil_append, List.append_nil, List.cons_append]
  refine Ret.loop (fun m y' H' => ∃ i : Nat, y' = .int .i64 i ∧ m = ps.length - i ∧ i ≤ ps.length ∧ H' = H) ?_ ps.length k _ H ⟨0, rfl, rfl, by omega, rfl⟩ (by omega)
  rintro m y' H' kn ⟨i, rfl, hm, hi, rfl⟩ next
  by_cases h : i < ps.length
  · have h' : (i : Int) < ps.length := by omega
    have hq : i < qs.length := by omega
    have hi' : i < (ps.map orow).length := by rw [List.length_map]; exact h
    have hj' : i < (qs.map orow).length := by rw [List.length_map]; exact hq
    have ed : qs[i].1 = ps[i].1 := by
      have := congrArg (fun l => l[i]?) hpq
      simp only [List.getElem?_map, List.getElem?_eq_getElem h, List.getElem?_eq_getElem hq, Option.map_some, Option.some.injEq] at this
      exact this.symm
    have e1 := hx.1.ix .i64 i (by omega) (by rw [List.length_map]; exact h')
    have e2 := hy.1.ix .i64 i (by omega) (by rw [List.length_map, hlen]; exact h')
    rw [Int.toNat_natCast] at e1 e2
    have a0 : ∀ n, addA n (elp 8 x i 0) = some (elp 8 x i (0 + n)) := fun n => elp_add hx.1 i 0 n hi'
    have b0 : ∀ n, addA n (elp 8 y i 0) = some (elp 8 y i (0 + n)) := fun n => elp_add hy.1 i 0 n hj'
    have rx : (ps.map orow)[i] = ps[i].1.row ps[i].2 := by rw [List.getElem_map]; rfl
    have ry : (qs.map orow)[i] = ps[i].1.row qs[i].2 := by rw [List.getElem_map, ← ed]; rfl
    have l1 : ∀ o, o < 8 → ld1 ρ H' (elp 8 x i o) = (ps[i].1.row ps[i].2)[o]? := fun o ho => by rw [hx.1.ld1 i o hi' ho, rx]
    have l2 : ∀ o, o < 8 → ld1 ρ H' (elp 8 y i o) = (ps[i].1.row qs[i].2)[o]? := fun o ho => by rw [hy.1.ld1 i o hj' ho, ry]
    have n1 := hx.1.ldSub i 3 4 hi' (by decide)
    have n2 := hy.1.ldSub i 3 4 hj' (by decide)
    rw [rx] at n1
    rw [ry] at n2
    have hp1 := hx.2 _ (List.getElem_mem h)
    have hp2 := hy.2 _ (List.getElem_mem hq)
    rw [ed] at hp2
    have hk2 := hpk _ (List.getElem_mem h)
    generalize ps[i].2 = u at *
    generalize qs[i].2 = w at *
    generalize ps[i].1 = d at *
    obtain ⟨dk, ds, dn, ⟨ok, okey, oval, on⟩, dp⟩ := d
    have x0 := l1 0 (by decide); have x1 := l1 1 (by decide); have x2 := l1 2 (by decide); have x7 := l1 7 (by decide)
    have y0 := l2 0 (by decide); have y1 := l2 1 (by decide); have y2 := l2 2 (by decide); have y7 := l2 7 (by decide)
    simp only [StepV.row, List.getElem?_cons_zero, List.getElem?_cons_succ] at x0 x1 x2 x7 y0 y1 y2 y7
    simp only [StepV.row, List.drop_succ_cons, List.drop_zero, List.take_succ_cons, List.take_zero] at n1 n2
    clear l1 l2
    have ei := ints_spec (ρ := ρ) (k := k) dp u w hp1 hp2 (by simp only at hk2; omega) (by simp only at hk2; omega)
    simp only [N29_3b, lx, h', e1, e2, a0, b0, x0, x1, x2, x7, y0, y1, y2, y7, n1, n2, neqOp2, ne_eq, not_true, Nat.zero_add, Nat.reduceAdd, purK_some, resK_some, boolK_some, condK_true, condK_false, wantV_tt, wantV_tf, wantV_ft, wantV_ff, wantV_t, wantV_f, wantV_skip, Bool.not_true, Bool.not_false, gPur_true, gPur_false, gEff_true, gEff_false, gRes_true, gRes_false, pickA_true, pickA_false, extA_0, extA_1, extA_2, retK_one, retK_none, retK_two, valK_fn, valR_fn, cond_true, cond_false, bin_add, bin_sub, bin_mul, bin_eql, bin_neq, bin_lss, bin_leq, bin_gtr, bin_geq, bin_seql, bin_sneq, un_not_t, un_not_f, un_not, cvI_int, cvT_str, nilChk_ptr, nilChk_xp, addA_ptr, lenT_str, Bool.true_or, Bool.or_true, Bool.false_or, Bool.or_false, Bool.true_and, Bool.and_true, Bool.false_and, Bool.and_false, decide_true, decide_false, Int.reduceEq, Int.reduceLT, Int.reduceLE, Int.reduceNe, Int.reduceAdd, Int.reduceSub, Int.reduceMul, Int.reduceNeg, List.nil_append, List.append_nil, List.cons_append]
    refine Ret.bind ei ?_
    rintro v H1 ⟨rfl, rfl⟩
    simp only [N29_4, N29_5, wrap_succN i (by omega : i + 1 < 9223372036854775808), purK_some, resK_some, boolK_some, condK_true, condK_false, wantV_tt, wantV_tf, wantV_ft, wantV_ff, wantV_t, wantV_f, wantV_skip, Bool.not_true, Bool.not_false, gPur_true, gPur_false, gEff_true, gEff_false, gRes_true, gRes_false, pickA_true, pickA_false, extA_0, extA_1, extA_2, retK_one, retK_none, retK_two, valK_fn, valR_fn, cond_true, cond_false, bin_add, bin_sub, bin_mul, bin_eql, bin_neq, bin_lss, bin_leq, bin_gtr, bin_geq, bin_seql, bin_sneq, un_not_t, un_not_f, un_not, cvI_int, cvT_str, nilChk_ptr, nilChk_xp, addA_ptr, lenT_str, Bool.true_or, Bool.or_true, Bool.false_or, Bool.or_false, Bool.true_and, Bool.and_true, Bool.false_and, Bool.and_false, decide_true, decide_false, Int.reduceEq, Int.reduceLT, Int.reduceLE, Int.reduceNe, Int.reduceAdd, Int.reduceSub, Int.reduceMul, Int.reduceNeg, List.nil_append, List.append_nil, List.cons_append]
    exact next (m - 1) _ H1 (by omega) ⟨i + 1, rfl, by omega, by omega, rfl⟩
  · have h' : ¬ (i : Int) < ps.length := by omega
    simp only [N29_3b, N29_1, lx, h', purK_some, resK_some, boolK_some, condK_true, condK_false, wantV_tt, wantV_tf, wantV_ft, wantV_ff, wantV_t, wantV_f, wantV_skip, Bool.not_true, Bool.not_false, gPur_true, gPur_false, gEff_true, gEff_false, gRes_true, gRes_false, pickA_true, pickA_false, extA_0, extA_1, extA_2, retK_one, retK_none, retK_two, valK_fn, valR_fn, cond_true, cond_false, bin_add, bin_sub, bin_mul, bin_eql, bin_neq, bin_lss, bin_leq, bin_gtr, bin_geq, bin_seql, bin_sneq, un_not_t, un_not_f, un_not, cvI_int, cvT_str, nilChk_ptr, nilChk_xp, addA_ptr, lenT_str, Bool.true_or, Bool.or_true, Bool.false_or, Bool.or_false, Bool.true_and, Bool.and_true, Bool.false_and, Bool.and_false, decide_true, decide_false, Int.reduceEq, Int.reduceLT, Int.reduceLE, Int.reduceNe, Int.reduceAdd, Int.reduceSub, Int.reduceMul, Int.reduceNeg, List.nil_append, List.append_nil, List.cons_append]
    exact .intro ⟨rfl, rfl⟩
theorem beq_bool (H : Heap) (a b : Bool) : binA Try.prog H .neq 4 (.bool a) (.bool b) = some (.bool (a != b)) := by cases a <;> cases b <;> kernel_rfl
theorem pickGo_len : ∀ (n : Nat) (x : Int), (pickGo n x).1.length = n
  | 0, x => rfl
  | n + 1, x => by rw [pickGo, List.length_cons, pickGo_len]
theorem stepP_picks (p : PlanD) (x : Int) : (stepP p x).1.picks.length < 1000 := by
  have r := bl_range (nx (nx x)) 4 (by decide)
  unfold stepP; simp only
  split
  · exact (by decide : ([] : List Int).length < 1000)
  split
  · exact (by decide : ([] : List Int).length < 1000)
  split
  · exact (by decide : ([] : List Int).length < 1000)
  split
  · exact (by decide : ([] : List Int).length < 1000)
  split
  · simp only [pickGo_len]; omega
  · exact (by decide : ([] : List Int).length < 1000)
theorem stepsP_picks (p : PlanD) : ∀ (n : Nat) (x : Int), ∀ d ∈ stepsP p n x, d.picks.length < 1000
  | 0, x, d, h => by cases h
  | n + 1, x, d, h => by
    rcases List.mem_cons.1 h with rfl | h
    · exact stepP_picks p x
    · exact stepsP_picks p n _ d h
theorem picks_of (p : PlanD) {n : Nat} {x : Int} {ps : List (StepV × AV)} (h : ps.map Prod.fst = stepsP p n x) : ∀ q ∈ ps, q.1.picks.length < 1000 := fun q hq => stepsP_picks p n x q.1 (by rw [← h]; exact List.mem_map.2 ⟨q, hq, rfl⟩)
/-- The law's own loop: the reference's steps. -/
theorem law_loop {yc : YieldF} {n3 n9 : Nat} (p : PlanD) (hW : p.W.length = 10) (hp : p.Ok) (hx : u64r p.seed) (N : Nat) (hN : N ≤ 200) (hk : 300 ≤ k) (x2 x7 x8 : AV) (k0 : AV → AV → AV → AV → AV → AV → Heap → Res) {Q : AV → Heap → Prop}
    (l3 : n3 < H.sz) (l9 : n9 < H.sz) (n39 : n3 ≠ n9) (g3 : H.get n3 = planO p) (g9 : H.get n9 = .cells 0 51 (0, 0) false [.int .u64 p.seed]) (y0 : AV) (z : Nat) (z3 : n3 < z) (z9 : n9 < z) (zz : z ≤ H.sz) (hPL0 : PL H z y0 [])
    (hk0 : ∀ H' y ps, PL H' z y ps → ps.map Prod.fst = stepsP p N p.seed → H'.get n3 = planO p → Fr (fun t => t = n9 ∨ z ≤ t) H H' → Ret Q (k0 (.int .i64 N) x2 (.ptr n3 0 0) x7 x8 y H')) :
    Ret Q (loopL (fun (x : AV × AV) H kn => N7_5b ρ (evCall (cx ρ) k) yc 0 k (.int .i64 N) x2 (.ptr n3 0 0) x7 x8 (.ptr n9 0 0) x.1 x.2 H (fun x10 x11 H => kn (x10, x11) H) k0) k (y0, .int .i64 0) H) := by
  refine Ret.loop (fun m y H' => ∃ i : Nat, ∃ ys ps, y = (ys, .int .i64 i) ∧ m = N - i ∧ i ≤ N ∧ PL H' z ys ps ∧ ps.map Prod.fst = stepsP p i p.seed ∧ H'.get n3 = planO p ∧ H'.get n9 = .cells 0 51 (0, 0) false [.int .u64 (stateP p i p.seed)] ∧ Fr (fun t => t = n9 ∨ z ≤ t) H H')
    ?_ N k _ H ⟨0, y0, [], rfl, rfl, by omega, hPL0, rfl, g3, g9, Fr.refl ..⟩ (by omega)
  rintro m y H' kn ⟨i, ys, ps, rfl, hm, hi, hPL, hps, gp, gd, fr⟩ next
  have hlen : ps.length = i := by rw [← stepsP_len p i p.seed, ← hps, List.length_map]
  by_cases hl : i < N
  · have h : (i : Int) < N := by omega
    simp only [N7_5b, h, ldN_ptr, gp, planO, ldPl p hW, purK_some, resK_some, boolK_some, condK_true, condK_false, wantV_tt, wantV_tf, wantV_ft, wantV_ff, wantV_t, wantV_f, wantV_skip, Bool.not_true, Bool.not_false, gPur_true, gPur_false, gEff_true, gEff_false, gRes_true, gRes_false, pickA_true, pickA_false, extA_0, extA_1, extA_2, retK_one, retK_none, retK_two, valK_fn, valR_fn, cond_true, cond_false, bin_add, bin_sub, bin_mul, bin_eql, bin_neq, bin_lss, bin_leq, bin_gtr, bin_geq, bin_seql, bin_sneq, un_not_t, un_not_f, un_not, cvI_int, cvT_str, nilChk_ptr, nilChk_xp, addA_ptr, lenT_str, Bool.true_or, Bool.or_true, Bool.false_or, Bool.or_false, Bool.true_and, Bool.and_true, Bool.false_and, Bool.and_false, decide_true, decide_false, Int.reduceEq, Int.reduceLT, Int.reduceLE, Int.reduceNe, Int.reduceAdd, Int.reduceSub, Int.reduceMul, Int.reduceNeg, List.nil_append, List.append_nil, List.cons_append]
    have zf := fr.sz
    refine Ret.bind (rstep_spec (ρ := ρ) p hp (stateP p i p.seed) (Nat.lt_of_lt_of_le l9 zf) gd (stateP_range p i _ hx) (by omega)) ?_
    rintro v H5 ⟨y1, rfl, r1, r2, r3, r4⟩
    have hPL5 := hPL.frame r4 fun t ht => by omega
    refine hPL5.push r2 (fun t ht => ⟨by have := r3 t ht; omega, fun q => ?_⟩) (by have := r4.sz; omega) (by omega) ?_
    · have := (hPL.out.toEls (ρ := ρ)).lies_lt t q
      have := r3 t ht
      omega
    · intro y' H6 hP6 f6
      simp only [wrap_succN i (by omega : i + 1 < 9223372036854775808), purK_some, resK_some, boolK_some, condK_true, condK_false, wantV_tt, wantV_tf, wantV_ft, wantV_ff, wantV_t, wantV_f, wantV_skip, Bool.not_true, Bool.not_false, gPur_true, gPur_false, gEff_true, gEff_false, gRes_true, gRes_false, pickA_true, pickA_false, extA_0, extA_1, extA_2, retK_one, retK_none, retK_two, valK_fn, valR_fn, cond_true, cond_false, bin_add, bin_sub, bin_mul, bin_eql, bin_neq, bin_lss, bin_leq, bin_gtr, bin_geq, bin_seql, bin_sneq, un_not_t, un_not_f, un_not, cvI_int, cvT_str, nilChk_ptr, nilChk_xp, addA_ptr, lenT_str, Bool.true_or, Bool.or_true, Bool.false_or, Bool.or_false, Bool.true_and, Bool.and_true, Bool.false_and, Bool.and_false, decide_true, decide_false, Int.reduceEq, Int.reduceLT, Int.reduceLE, Int.reduceNe, Int.reduceAdd, Int.reduceSub, Int.reduceMul, Int.reduceNeg, List.nil_append, List.append_nil, List.cons_append]
      refine next (m - 1) _ H6 (by omega) ⟨i + 1, y', _, rfl, by omega, by omega, hP6, ?_, ?_, ?_, ?_⟩
      · rw [List.map_append, hps, stepsP_succ]; rfl
      · have l5 : n3 < H5.sz := by have := r4.sz; omega
        rw [f6.get n3 l5 (by omega), r4.get n3 (by omega) n39, gp]
      · have l5 : n9 < H5.sz := by have := r4.sz; omega
        rw [f6.get n9 l5 (by omega), r1, stateP_succ]
      · exact (fr.trans (r4.mono fun t _ q => Or.inl q)).trans (f6.mono fun t _ q => Or.inr q)
  · obtain rfl : i = N := by omega
    have h : ¬ (i : Int) < i := by omega
    simp only [N7_5b, h, purK_some, resK_some, boolK_some, condK_true, condK_false, wantV_tt, wantV_tf, wantV_ft, wantV_ff, wantV_t, wantV_f, wantV_skip, Bool.not_true, Bool.not_false, gPur_true, gPur_false, gEff_true, gEff_false, gRes_true, gRes_false, pickA_true, pickA_false, extA_0, extA_1, extA_2, retK_one, retK_none, retK_two, valK_fn, valR_fn, cond_true, cond_false, bin_add, bin_sub, bin_mul, bin_eql, bin_neq, bin_lss, bin_leq, bin_gtr, bin_geq, bin_seql, bin_sneq, un_not_t, un_not_f, un_not, cvI_int, cvT_str, nilChk_ptr, nilChk_xp, addA_ptr, lenT_str, Bool.true_or, Bool.or_true, Bool.false_or, Bool.or_false, Bool.true_and, Bool.and_true, Bool.false_and, Bool.and_false, decide_true, decide_false, Int.reduceEq, Int.reduceLT, Int.reduceLE, Int.reduceNe, Int.reduceAdd, Int.reduceSub, Int.reduceMul, Int.reduceNeg, List.nil_append, List.append_nil, List.cons_append]
    exact hk0 H' ys ps hPL hps gp fr
theorem mod_nat (a : Int) (N : Nat) (hN : N ≤ 200) : ∃ m : Nat, m ≤ N ∧ wrapK .i64 ((wrapK .u64 a).tmod (wrapK .u64 (wrapK .i64 ((N : Int) + 1)))) = m := by
  have e1 : wrapK .i64 ((N : Int) + 1) = ((N + 1 : Nat) : Int) := wrap_succN N (by omega)
  have e2 : wrapK .u64 ((N + 1 : Nat) : Int) = ((N + 1 : Nat) : Int) := wrap_u64 _ (by omega)
  have r := wrap_u64_range a
  rw [e1, e2]
  clear e1 e2
  generalize wrapK .u64 a = b at r
  obtain ⟨c, rfl⟩ : ∃ c : Nat, b = c := ⟨b.toNat, by omega⟩
  refine ⟨c % (N + 1), Nat.le_of_lt_succ (Nat.mod_lt _ (by omega)), ?_⟩
  have e3 : ((c : Int).tmod ((N + 1 : Nat) : Int)) = ((c % (N + 1) : Nat) : Int) := rfl
  have lt := Nat.mod_lt c (show 0 < N + 1 by omega)
  rw [e3, wrap_nat _ (by omega)]
end
theorem eqvs_self : ∀ l : List AV, (∀ c ∈ l, AV.eqv c c = true) → AV.eqvs l l = true
  | [], _ => eqvs_nil
  | c :: l, h => by rw [eqvs_cons, h c (by simp), eqvs_self l fun c hc => h c (by simp [hc])]; rfl
theorem agnPl (p : PlanD) : agn (some (.agg p.cells)) (.agg p.cells) = true := by
  rw [agn_some, eqv_agg]
  refine eqvs_self _ fun c hc => ?_
  unfold PlanD.cells wts at hc
  simp only [List.mem_cons, List.mem_map] at hc
  rcases hc with rfl | rfl | rfl | ⟨n, _, rfl⟩ <;> exact eqv_int _ _
section
variable {ρ : Addr → Option Value} {k : Nat}
theorem law_two {n3 : Nat} (p : PlanD) (hW : p.W.length = 10) (hx : u64r p.seed) (hk : 2500 ≤ k) (hb : okB p = true) (N : Nat) (hN : N ≤ 200) (m : Int) {H : Heap} {y : AV} {ps : List (StepV × AV)} (l3 : n3 < H.sz) (g3 : H.get n3 = planO p) (hy : ∃ z, PL H z y ps) (hps : ps.map Prod.fst = stepsP p N p.seed) :
    Ret (fun v H' => v = .bool true) (N7_2 ρ (evCall (cx ρ) k) (evCY (cx ρ) k).2 0 k (.int .i64 N) (.int .i64 m) (.ptr n3 0 0) y (.int .i64 0) H retK) := by
  have hp := (okB_iff p hW).1 hb
  have l0 : ldC 0 0 (planO p) = some (.int .u64 p.seed) := by rw [ldC_cells]; rfl
  have bx : ∀ H : Heap, boxA H 51 (.agg [.int .u64 p.seed]) = some (.ptr H.sz 0 0, .new (.cells 0 51 (0, 0) false [.int .u64 p.seed])) := fun H => boxA_agg H _ _ rfl
  have bA : bldA [.int .u64 0] [(0, 1, .int .u64 p.seed)] = some (.agg [.int .u64 p.seed]) := rfl
  simp only [N7_2, ld1_ptr, g3, l0, bA, bx, Nat.zero_add, Nat.add_zero, purK_some, resK_some, boolK_some, condK_true, condK_false, wantV_tt, wantV_tf, wantV_ft, wantV_ff, wantV_t, wantV_f, wantV_skip, Bool.not_true, Bool.not_false, gPur_true, gPur_false, gEff_true, gEff_false, gRes_true, gRes_false, pickA_true, pickA_false, extA_0, extA_1, extA_2, retK_one, retK_none, retK_two, valK_fn, valR_fn, cond_true, cond_false, bin_add, bin_sub, bin_mul, bin_eql, bin_neq, bin_lss, bin_leq, bin_gtr, bin_geq, bin_seql, bin_sneq, un_not_t, un_not_f, un_not, cvI_int, cvT_str, nilChk_ptr, nilChk_xp, addA_ptr, lenT_str, Bool.true_or, Bool.or_true, Bool.false_or, Bool.or_false, Bool.true_and, Bool.and_true, Bool.false_and, Bool.and_false, decide_true, decide_false, Int.reduceEq, Int.reduceLT, Int.reduceLE, Int.reduceNe, Int.reduceAdd, Int.reduceSub, Int.reduceMul, Int.reduceNeg, List.nil_append, List.append_nil, List.cons_append]
  have s0 : St Nop H [(n3, planO p)] H → True := fun _ => trivial
  rw [effK_new]
  obtain ⟨H1, hH1⟩ : ∃ H1, H1 = H.new (.cells 0 51 (0, 0) false [.int .u64 p.seed]) := ⟨_, rfl⟩
  have f1 : Fr Nop H H1 := hH1 ▸ Fr.new Nop H _
  have z1 : H1.sz = H.sz + 1 := by rw [hH1, szn]
  have g91 : H1.get H.sz = .cells 0 51 (0, 0) false [.int .u64 p.seed] := by rw [hH1, Heap.get_new_same]
  have g31 : H1.get n3 = planO p := by rw [f1.get n3 l3 (fun q => q), g3]
  rw [← hH1]
  have b0 : bldS H1 42 8 Z8 0 [] = some (.sl H1.sz 0 0 0 0 false, .new (.cells 0 42 (0, 0) false [])) := rfl
  rw [b0, effK_new]
  obtain ⟨H2, hH2⟩ : ∃ H2, H2 = H1.new (.cells 0 42 (0, 0) false []) := ⟨_, rfl⟩
  have f2 : Fr Nop H1 H2 := hH2 ▸ Fr.new Nop H1 _
  have z2 : H2.sz = H1.sz + 1 := by rw [hH2, szn]
  have g2 : H2.get H1.sz = .cells 0 42 (0, 0) false [] := by rw [hH2, Heap.get_new_same]
  rw [← hH2]
  simp only [N7_4, N7_5]
  have hnil : PL H2 H1.sz (.sl H1.sz 0 0 0 0 false) [] := ⟨Or.inl ⟨rfl, rfl, rfl, rfl, by omega, _, _, _, _, g2, by simp⟩, fun t ht => Nat.le_of_eq ht, by simp⟩
  refine law_loop (ρ := ρ) (k := k) (n3 := n3) (n9 := H.sz) p hW hp hx N hN (by omega) _ _ _ _ (by omega) (by omega) (by omega) (by rw [f2.get n3 (by omega) (fun q => q), g31]) (by rw [f2.get _ (by omega) (fun q => q), g91]) _ H1.sz (by omega) (by omega) (by omega) hnil ?_
  intro H3 y' ps' hP3 hps' g33 f3
  obtain ⟨M, hM, hMe⟩ := mod_nat m N hN
  have nz : wrapK .u64 (wrapK .i64 ((N : Int) + 1)) ≠ 0 := by
    rw [wrap_succN N (by omega), wrap_u64 _ (by omega)]; omega
  have hrem : binA Try.prog H3 .rem 53 (.int .u64 (wrapK .u64 m)) (.int .u64 (wrapK .u64 (wrapK .i64 ((N : Int) + 1)))) = some (.int .u64 ((wrapK .u64 m).tmod (wrapK .u64 (wrapK .i64 ((N : Int) + 1))))) := bin_rem _ _ _ _ _ _ nz
  clear nz
  simp only [N7_3, hrem, hMe, ldN_ptr, g33, planO, ldPl p hW, purK_some, resK_some, boolK_some, condK_true, condK_false, wantV_tt, wantV_tf, wantV_ft, wantV_ff, wantV_t, wantV_f, wantV_skip, Bool.not_true, Bool.not_false, gPur_true, gPur_false, gEff_true, gEff_false, gRes_true, gRes_false, pickA_true, pickA_false, extA_0, extA_1, extA_2, retK_one, retK_none, retK_two, valK_fn, valR_fn, cond_true, cond_false, bin_add, bin_sub, bin_mul, bin_eql, bin_neq, bin_lss, bin_leq, bin_gtr, bin_geq, bin_seql, bin_sneq, un_not_t, un_not_f, un_not, cvI_int, cvT_str, nilChk_ptr, nilChk_xp, addA_ptr, lenT_str, Bool.true_or, Bool.or_true, Bool.false_or, Bool.or_false, Bool.true_and, Bool.and_true, Bool.false_and, Bool.and_false, decide_true, decide_false, Int.reduceEq, Int.reduceLT, Int.reduceLE, Int.reduceNe, Int.reduceAdd, Int.reduceSub, Int.reduceMul, Int.reduceNeg, List.nil_append, List.append_nil, List.cons_append]
  clear hMe hrem
  obtain ⟨zy, hyP⟩ := hy
  have hR3 : RowsS ρ H3 y ps := by
    have r0 : RowsS ρ H2 y ps := (hyP.rows.frame0 f1).frame0 f2
    have lo : ∀ t, y.lies t → t < H.sz := fun t ht => (hyP.rows (ρ := ρ)).1.lies_lt t ht
    have li : ∀ q ∈ ps, ∀ t, q.2.lies t → t < H.sz := fun q hq t ht => ((hyP.rows (ρ := ρ)).2 q hq).lies_lt t ht
    have f3' : ∀ t, t < H.sz → ¬ (t = H.sz ∨ H1.sz ≤ t) := by intro t ht hc; rcases hc with h | h <;> omega
    exact ⟨r0.1.frame _ f3 fun t ht => f3' t (lo t ht), fun q hq => (r0.2 q hq).frame _ f3 fun t ht => f3' t (li q hq t ht)⟩
  refine Ret.bind (steps_spec (ρ := ρ) (k := k) (H := H3) p hW hx (M : Int) (by omega) (by intro _; rw [Int.toNat_natCast]; omega)) ?_
  rintro v H4 (⟨h1, _⟩ | ⟨_, h1, _⟩ | ⟨_, _, _, y4, ps4, rfl, hP4, hps4, f4⟩)
  · rw [hb] at h1; cases h1
  · omega
  rw [Int.toNat_natCast] at hps4
  have hlen : ps.length = N := by rw [← stepsP_len p N p.seed, ← hps, List.length_map]
  have hlen' : ps'.length = N := by rw [← stepsP_len p N p.seed, ← hps', List.length_map]
  have hlen4 : ps4.length = M := by rw [← stepsP_len p M p.seed, ← hps4, List.length_map]
  simp only [purK_some, resK_some, boolK_some, condK_true, condK_false, wantV_tt, wantV_tf, wantV_ft, wantV_ff, wantV_t, wantV_f, wantV_skip, Bool.not_true, Bool.not_false, gPur_true, gPur_false, gEff_true, gEff_false, gRes_true, gRes_false, pickA_true, pickA_false, extA_0, extA_1, extA_2, retK_one, retK_none, retK_two, valK_fn, valR_fn, cond_true, cond_false, bin_add, bin_sub, bin_mul, bin_eql, bin_neq, bin_lss, bin_leq, bin_gtr, bin_geq, bin_seql, bin_sneq, un_not_t, un_not_f, un_not, cvI_int, cvT_str, nilChk_ptr, nilChk_xp, addA_ptr, lenT_str, Bool.true_or, Bool.or_true, Bool.false_or, Bool.or_false, Bool.true_and, Bool.and_true, Bool.false_and, Bool.and_false, decide_true, decide_false, Int.reduceEq, Int.reduceLT, Int.reduceLE, Int.reduceNe, Int.reduceAdd, Int.reduceSub, Int.reduceMul, Int.reduceNeg, List.nil_append, List.append_nil, List.cons_append]
  have hP34 := hP3.frame0 f4
  refine Ret.bind (same_spec (ρ := ρ) (k := k) y y' ps ps' (hR3.frame0 f4) hP34.rows (by rw [hps, hps']) (by omega) (by omega) (picks_of p hps) (by omega)) ?_
  rintro v H5 ⟨rfl, rfl⟩
  obtain ⟨w, hw1, hw2, hw3⟩ := (hP34.rows (ρ := ρ)).1.cut (lo := 0) (hi := M) (by omega) (by simp; omega) none (some (.int .i64 M)) (Or.inl ⟨rfl, rfl⟩) (Or.inr ⟨.i64, rfl⟩) hP34.out.notSx
  simp only [hw1, purK_some, resK_some, boolK_some, condK_true, condK_false, wantV_tt, wantV_tf, wantV_ft, wantV_ff, wantV_t, wantV_f, wantV_skip, Bool.not_true, Bool.not_false, gPur_true, gPur_false, gEff_true, gEff_false, gRes_true, gRes_false, pickA_true, pickA_false, extA_0, extA_1, extA_2, retK_one, retK_none, retK_two, valK_fn, valR_fn, cond_true, cond_false, bin_add, bin_sub, bin_mul, bin_eql, bin_neq, bin_lss, bin_leq, bin_gtr, bin_geq, bin_seql, bin_sneq, un_not_t, un_not_f, un_not, cvI_int, cvT_str, nilChk_ptr, nilChk_xp, addA_ptr, lenT_str, Bool.true_or, Bool.or_true, Bool.false_or, Bool.or_false, Bool.true_and, Bool.and_true, Bool.false_and, Bool.and_false, decide_true, decide_false, Int.reduceEq, Int.reduceLT, Int.reduceLE, Int.reduceNe, Int.reduceAdd, Int.reduceSub, Int.reduceMul, Int.reduceNeg, List.nil_append, List.append_nil, List.cons_append]
  have hw : RowsS ρ H5 w (ps'.take M) := by
    refine ⟨?_, fun q hq => (hP34.rows (ρ := ρ)).2 q (List.mem_of_mem_take hq)⟩
    rw [List.drop_zero, Nat.sub_zero, ← List.map_take] at hw2
    exact hw2
  refine Ret.bind (same_spec (ρ := ρ) (k := k) y4 w ps4 (ps'.take M) hP4.rows hw (by rw [hps4, List.map_take, hps', stepsP_take p M N _ hM]) (by omega) (by omega) (picks_of p hps4) (by omega)) ?_
  rintro v H6 ⟨rfl, rfl⟩
  try simp only [purK_some, resK_some, boolK_some, condK_true, condK_false, wantV_tt, wantV_tf, wantV_ft, wantV_ff, wantV_t, wantV_f, wantV_skip, Bool.not_true, Bool.not_false, gPur_true, gPur_false, gEff_true, gEff_false, gRes_true, gRes_false, pickA_true, pickA_false, extA_0, extA_1, extA_2, retK_one, retK_none, retK_two, valK_fn, valR_fn, cond_true, cond_false, bin_add, bin_sub, bin_mul, bin_eql, bin_neq, bin_lss, bin_leq, bin_gtr, bin_geq, bin_seql, bin_sneq, un_not_t, un_not_f, un_not, cvI_int, cvT_str, nilChk_ptr, nilChk_xp, addA_ptr, lenT_str, Bool.true_or, Bool.or_true, Bool.false_or, Bool.or_false, Bool.true_and, Bool.and_true, Bool.false_and, Bool.and_false, decide_true, decide_false, Int.reduceEq, Int.reduceLT, Int.reduceLE, Int.reduceNe, Int.reduceAdd, Int.reduceSub, Int.reduceMul, Int.reduceNeg, List.nil_append, List.append_nil, List.cons_append]
  exact .intro rfl
theorem cnd (n : Int) (c : ¬ (200 < n ∧ n ≤ 10000)) {H : Heap} (K : AV → Res) : (purK (binA Try.prog H .gtr 3 (.int .i64 n) (.int .i64 200)) fun x17 =>
    purK (gPur (wantV x17 true) (some (.int .i64 n))) fun x19 =>
    purK (gPur (wantV x17 true) (binA Try.prog H .leq 3 x19 (.int .i64 10000))) fun x20 =>
    purK (pickA x17 x20 (.bool false)) K) = K (.bool false) := by
  by_cases a : 200 < n
  · have b : ¬ n ≤ 10000 := fun b => c ⟨a, b⟩
    simp only [a, b, purK_some, resK_some, boolK_some, condK_true, condK_false, wantV_tt, wantV_tf, wantV_ft, wantV_ff, wantV_t, wantV_f, wantV_skip, Bool.not_true, Bool.not_false, gPur_true, gPur_false, gEff_true, gEff_false, gRes_true, gRes_false, pickA_true, pickA_false, extA_0, extA_1, extA_2, retK_one, retK_none, retK_two, valK_fn, valR_fn, cond_true, cond_false, bin_add, bin_sub, bin_mul, bin_eql, bin_neq, bin_lss, bin_leq, bin_gtr, bin_geq, bin_seql, bin_sneq, un_not_t, un_not_f, un_not, cvI_int, cvT_str, nilChk_ptr, nilChk_xp, addA_ptr, lenT_str, Bool.true_or, Bool.or_true, Bool.false_or, Bool.or_false, Bool.true_and, Bool.and_true, Bool.false_and, Bool.and_false, decide_true, decide_false, Int.reduceEq, Int.reduceLT, Int.reduceLE, Int.reduceNe, Int.reduceAdd, Int.reduceSub, Int.reduceMul, Int.reduceNeg, List.nil_append, List.append_nil, List.cons_append]
  · simp only [a, purK_some, resK_some, boolK_some, condK_true, condK_false, wantV_tt, wantV_tf, wantV_ft, wantV_ff, wantV_t, wantV_f, wantV_skip, Bool.not_true, Bool.not_false, gPur_true, gPur_false, gEff_true, gEff_false, gRes_true, gRes_false, pickA_true, pickA_false, extA_0, extA_1, extA_2, retK_one, retK_none, retK_two, valK_fn, valR_fn, cond_true, cond_false, bin_add, bin_sub, bin_mul, bin_eql, bin_neq, bin_lss, bin_leq, bin_gtr, bin_geq, bin_seql, bin_sneq, un_not_t, un_not_f, un_not, cvI_int, cvT_str, nilChk_ptr, nilChk_xp, addA_ptr, lenT_str, Bool.true_or, Bool.or_true, Bool.false_or, Bool.or_false, Bool.true_and, Bool.and_true, Bool.false_and, Bool.and_false, decide_true, decide_false, Int.reduceEq, Int.reduceLT, Int.reduceLE, Int.reduceNe, Int.reduceAdd, Int.reduceSub, Int.reduceMul, Int.reduceNeg, List.nil_append, List.append_nil, List.cons_append]
theorem law_ret (p : PlanD) (hW : p.W.length = 10) (hx : u64r p.seed) (hk : 2500 ≤ k) (n m : Int) : Ret (fun v H' => v = .bool true) (evCall (cx ρ) (k + 1) 0 7 [.agg p.cells, .int .i64 n, .int .i64 m] Heap.nil) := by
  rw [E7]
  simp only [L7, boxA_agg _ _ _ p.solid]
  refine (St.start Nop Heap.nil).newP fun n3 H1 s1 hz1 f1 => ?_
  rw [show k = (k - 2) + 2 by omega, awake_spec, ← show k = (k - 2) + 2 by omega]
  simp only [resK_some, un_not_t, purK_some, condK_false]
  by_cases c : 200 < n ∧ n ≤ 10000
  · simp only [c.1, c.2, purK_some, resK_some, boolK_some, condK_true, condK_false, wantV_tt, wantV_tf, wantV_ft, wantV_ff, wantV_t, wantV_f, wantV_skip, Bool.not_true, Bool.not_false, gPur_true, gPur_false, gEff_true, gEff_false, gRes_true, gRes_false, pickA_true, pickA_false, extA_0, extA_1, extA_2, retK_one, retK_none, retK_two, valK_fn, valR_fn, cond_true, cond_false, bin_add, bin_sub, bin_mul, bin_eql, bin_neq, bin_lss, bin_leq, bin_gtr, bin_geq, bin_seql, bin_sneq, un_not_t, un_not_f, un_not, cvI_int, cvT_str, nilChk_ptr, nilChk_xp, addA_ptr, lenT_str, Bool.true_or, Bool.or_true, Bool.false_or, Bool.or_false, Bool.true_and, Bool.and_true, Bool.false_and, Bool.and_false, decide_true, decide_false, Int.reduceEq, Int.reduceLT, Int.reduceLE, Int.reduceNe, Int.reduceAdd, Int.reduceSub, Int.reduceMul, Int.reduceNeg, List.nil_append, List.append_nil, List.cons_append]
    exact .intro rfl
  rw [cnd n c, condK_false]
  have g3 := s1.at 0 rfl
  simp only [ldN_ptr, g3, ldPl p hW, purK_some]
  refine Ret.bind (steps_spec (ρ := ρ) (k := k) (H := H1) p hW hx n (by omega) (by omega)) ?_
  intro v H2 hv
  obtain ⟨x7, x8, rfl, f2, hv⟩ : ∃ x7 x8, v = .tup [x7, x8] ∧ Fr Nop H1 H2 ∧ ((okB p = false ∧ x7 = .nils ∧ x8 = .int .i64 1) ∨ (okB p = true ∧ (n < 0 ∨ 10000 < n) ∧ x7 = .nils ∧ x8 = .int .i64 5) ∨
      (okB p = true ∧ 0 ≤ n ∧ n ≤ 10000 ∧ x8 = .int .i64 0 ∧ ∃ ps, PL H2 H1.sz x7 ps ∧ ps.map Prod.fst = stepsP p n.toNat p.seed)) := by
    rcases hv with ⟨hb, rfl, f2⟩ | ⟨hb, hn, rfl, f2⟩ | ⟨hb, hn, hn2, y, ps, rfl, hPL, hps, f2⟩
    · exact ⟨_, _, rfl, f2, Or.inl ⟨hb, rfl, rfl⟩⟩
    · exact ⟨_, _, rfl, f2, Or.inr (Or.inl ⟨hb, hn, rfl, rfl⟩)⟩
    · exact ⟨_, _, rfl, f2, Or.inr (Or.inr ⟨hb, hn, hn2, rfl, ps, hPL, hps⟩)⟩
  have s2 := s1.frame0 f2
  simp only [ldN_ptr, s2.at 0 rfl, ldPl p hW, purK_some, resK_some, boolK_some, condK_true, condK_false, wantV_tt, wantV_tf, wantV_ft, wantV_ff, wantV_t, wantV_f, wantV_skip, Bool.not_true, Bool.not_false, gPur_true, gPur_false, gEff_true, gEff_false, gRes_true, gRes_false, pickA_true, pickA_false, extA_0, extA_1, extA_2, retK_one, retK_none, retK_two, valK_fn, valR_fn, cond_true, cond_false, bin_add, bin_sub, bin_mul, bin_eql, bin_neq, bin_lss, bin_leq, bin_gtr, bin_geq, bin_seql, bin_sneq, un_not_t, un_not_f, un_not, cvI_int, cvT_str, nilChk_ptr, nilChk_xp, addA_ptr, lenT_str, Bool.true_or, Bool.or_true, Bool.false_or, Bool.or_false, Bool.true_and, Bool.and_true, Bool.false_and, Bool.and_false, decide_true, decide_false, Int.reduceEq, Int.reduceLT, Int.reduceLE, Int.reduceNe, Int.reduceAdd, Int.reduceSub, Int.reduceMul, Int.reduceNeg, List.nil_append, List.append_nil, List.cons_append]
  refine Ret.bind (right_spec p hW (by omega)) ?_
  rintro v H3 ⟨rfl, f3⟩
  have s3 := s2.frame0 f3
  simp only [ldN_ptr, s3.at 0 rfl, ldPl p hW, agnPl, purK_some, resK_some, boolK_some, condK_true, condK_false, wantV_tt, wantV_tf, wantV_ft, wantV_ff, wantV_t, wantV_f, wantV_skip, Bool.not_true, Bool.not_false, gPur_true, gPur_false, gEff_true, gEff_false, gRes_true, gRes_false, pickA_true, pickA_false, extA_0, extA_1, extA_2, retK_one, retK_none, retK_two, valK_fn, valR_fn, cond_true, cond_false, bin_add, bin_sub, bin_mul, bin_eql, bin_neq, bin_lss, bin_leq, bin_gtr, bin_geq, bin_seql, bin_sneq, un_not_t, un_not_f, un_not, cvI_int, cvT_str, nilChk_ptr, nilChk_xp, addA_ptr, lenT_str, Bool.true_or, Bool.or_true, Bool.false_or, Bool.or_false, Bool.true_and, Bool.and_true, Bool.false_and, Bool.and_false, decide_true, decide_false, Int.reduceEq, Int.reduceLT, Int.reduceLE, Int.reduceNe, Int.reduceAdd, Int.reduceSub, Int.reduceMul, Int.reduceNeg, List.nil_append, List.append_nil, List.cons_append]
  refine Ret.bind (rright_spec p hW (by omega)) ?_
  rintro v H4 ⟨rfl, f4⟩
  have s4 := s3.frame0 f4
  have e : (okB p != okB p) = false := by simp
  simp only [beq_bool, e, N7_6, N7_1, ldN_ptr, s4.at 0 rfl, ldPl p hW, purK_some, resK_some, boolK_some, condK_true, condK_false, wantV_tt, wantV_tf, wantV_ft, wantV_ff, wantV_t, wantV_f, wantV_skip, Bool.not_true, Bool.not_false, gPur_true, gPur_false, gEff_true, gEff_false, gRes_true, gRes_false, pickA_true, pickA_false, extA_0, extA_1, extA_2, retK_one, retK_none, retK_two, valK_fn, valR_fn, cond_true, cond_false, bin_add, bin_sub, bin_mul, bin_eql, bin_neq, bin_lss, bin_leq, bin_gtr, bin_geq, bin_seql, bin_sneq, un_not_t, un_not_f, un_not, cvI_int, cvT_str, nilChk_ptr, nilChk_xp, addA_ptr, lenT_str, Bool.true_or, Bool.or_true, Bool.false_or, Bool.or_false, Bool.true_and, Bool.and_true, Bool.false_and, Bool.and_false, decide_true, decide_false, Int.reduceEq, Int.reduceLT, Int.reduceLE, Int.reduceNe, Int.reduceAdd, Int.reduceSub, Int.reduceMul, Int.reduceNeg, List.nil_append, List.append_nil, List.cons_append]
  refine Ret.bind (rright_spec p hW (by omega)) ?_
  rintro v H5 ⟨rfl, f5⟩
  have s5 := s4.frame0 f5
  rcases hv with ⟨hb, rfl, rfl⟩ | ⟨hb, hn, rfl, rfl⟩ | ⟨hb, hn, hn2, rfl, ps, hPL, hps⟩
  · simp only [hb, lenS, purK_some, resK_some, boolK_some, condK_true, condK_false, wantV_tt, wantV_tf, wantV_ft, wantV_ff, wantV_t, wantV_f, wantV_skip, Bool.not_true, Bool.not_false, gPur_true, gPur_false, gEff_true, gEff_false, gRes_true, gRes_false, pickA_true, pickA_false, extA_0, extA_1, extA_2, retK_one, retK_none, retK_two, valK_fn, valR_fn, cond_true, cond_false, bin_add, bin_sub, bin_mul, bin_eql, bin_neq, bin_lss, bin_leq, bin_gtr, bin_geq, bin_seql, bin_sneq, un_not_t, un_not_f, un_not, cvI_int, cvT_str, nilChk_ptr, nilChk_xp, addA_ptr, lenT_str, Bool.true_or, Bool.or_true, Bool.false_or, Bool.or_false, Bool.true_and, Bool.and_true, Bool.false_and, Bool.and_false, decide_true, decide_false, Int.reduceEq, Int.reduceLT, Int.reduceLE, Int.reduceNe, Int.reduceAdd, Int.reduceSub, Int.reduceMul, Int.reduceNeg, List.nil_append, List.append_nil, List.cons_append]
    exact .intro rfl
  · simp only [hb, purK_some, resK_some, boolK_some, condK_true, condK_false, wantV_tt, wantV_tf, wantV_ft, wantV_ff, wantV_t, wantV_f, wantV_skip, Bool.not_true, Bool.not_false, gPur_true, gPur_false, gEff_true, gEff_false, gRes_true, gRes_false, pickA_true, pickA_false, extA_0, extA_1, extA_2, retK_one, retK_none, retK_two, valK_fn, valR_fn, cond_true, cond_false, bin_add, bin_sub, bin_mul, bin_eql, bin_neq, bin_lss, bin_leq, bin_gtr, bin_geq, bin_seql, bin_sneq, un_not_t, un_not_f, un_not, cvI_int, cvT_str, nilChk_ptr, nilChk_xp, addA_ptr, lenT_str, Bool.true_or, Bool.or_true, Bool.false_or, Bool.or_false, Bool.true_and, Bool.and_true, Bool.false_and, Bool.and_false, decide_true, decide_false, Int.reduceEq, Int.reduceLT, Int.reduceLE, Int.reduceNe, Int.reduceAdd, Int.reduceSub, Int.reduceMul, Int.reduceNeg, List.nil_append, List.append_nil, List.cons_append]
    by_cases h1 : n < 0
    · simp only [h1, lenS, purK_some, resK_some, boolK_some, condK_true, condK_false, wantV_tt, wantV_tf, wantV_ft, wantV_ff, wantV_t, wantV_f, wantV_skip, Bool.not_true, Bool.not_false, gPur_true, gPur_false, gEff_true, gEff_false, gRes_true, gRes_false, pickA_true, pickA_false, extA_0, extA_1, extA_2, retK_one, retK_none, retK_two, valK_fn, valR_fn, cond_true, cond_false, bin_add, bin_sub, bin_mul, bin_eql, bin_neq, bin_lss, bin_leq, bin_gtr, bin_geq, bin_seql, bin_sneq, un_not_t, un_not_f, un_not, cvI_int, cvT_str, nilChk_ptr, nilChk_xp, addA_ptr, lenT_str, Bool.true_or, Bool.or_true, Bool.false_or, Bool.or_false, Bool.true_and, Bool.and_true, Bool.false_and, Bool.and_false, decide_true, decide_false, Int.reduceEq, Int.reduceLT, Int.reduceLE, Int.reduceNe, Int.reduceAdd, Int.reduceSub, Int.reduceMul, Int.reduceNeg, List.nil_append, List.append_nil, List.cons_append]
      exact .intro rfl
    · have h2 : 10000 < n := by omega
      simp only [h1, h2, lenS, purK_some, resK_some, boolK_some, condK_true, condK_false, wantV_tt, wantV_tf, wantV_ft, wantV_ff, wantV_t, wantV_f, wantV_skip, Bool.not_true, Bool.not_false, gPur_true, gPur_false, gEff_true, gEff_false, gRes_true, gRes_false, pickA_true, pickA_false, extA_0, extA_1, extA_2, retK_one, retK_none, retK_two, valK_fn, valR_fn, cond_true, cond_false, bin_add, bin_sub, bin_mul, bin_eql, bin_neq, bin_lss, bin_leq, bin_gtr, bin_geq, bin_seql, bin_sneq, un_not_t, un_not_f, un_not, cvI_int, cvT_str, nilChk_ptr, nilChk_xp, addA_ptr, lenT_str, Bool.true_or, Bool.or_true, Bool.false_or, Bool.or_false, Bool.true_and, Bool.and_true, Bool.false_and, Bool.and_false, decide_true, decide_false, Int.reduceEq, Int.reduceLT, Int.reduceLE, Int.reduceNe, Int.reduceAdd, Int.reduceSub, Int.reduceMul, Int.reduceNeg, List.nil_append, List.append_nil, List.cons_append]
      exact .intro rfl
  · obtain ⟨N, rfl⟩ : ∃ N : Nat, n = N := ⟨n.toNat, by omega⟩
    rw [Int.toNat_natCast] at hps
    have h2 : ¬ 10000 < (N : Int) := by omega
    have h1 : ¬ (N : Int) < 0 := by omega
    simp only [hb, h1, h2, purK_some, resK_some, boolK_some, condK_true, condK_false, wantV_tt, wantV_tf, wantV_ft, wantV_ff, wantV_t, wantV_f, wantV_skip, Bool.not_true, Bool.not_false, gPur_true, gPur_false, gEff_true, gEff_false, gRes_true, gRes_false, pickA_true, pickA_false, extA_0, extA_1, extA_2, retK_one, retK_none, retK_two, valK_fn, valR_fn, cond_true, cond_false, bin_add, bin_sub, bin_mul, bin_eql, bin_neq, bin_lss, bin_leq, bin_gtr, bin_geq, bin_seql, bin_sneq, un_not_t, un_not_f, un_not, cvI_int, cvT_str, nilChk_ptr, nilChk_xp, addA_ptr, lenT_str, Bool.true_or, Bool.or_true, Bool.false_or, Bool.or_false, Bool.true_and, Bool.and_true, Bool.false_and, Bool.and_false, decide_true, decide_false, Int.reduceEq, Int.reduceLT, Int.reduceLE, Int.reduceNe, Int.reduceAdd, Int.reduceSub, Int.reduceMul, Int.reduceNeg, List.nil_append, List.append_nil, List.cons_append]
    exact law_two p hW hx hk hb N (by omega) m (s5.lt' 0 rfl) (s5.at 0 rfl) ⟨_, ((hPL.frame0 f3).frame0 f4).frame0 f5⟩ hps
end
end Go.Proofs.Ytcjicmabhejllaa

-- part PsP
/- PlanSteps: the call, whatever the plan holds. -/
set_option linter.unusedVariables false
set_option linter.unusedSimpArgs false
namespace Go.Proofs.Ytcjicmabhejllaa
open Go.Ev Go.RowKit
theorem u64_of {n : Int} (h : (Lit.int .u64 n).wf = true) : u64r n := by
  unfold u64r
  simp [Lit.wf, IntKind.min, IntKind.max, IntKind.bits, IntKind.signed] at h
  omega
theorem walk (seed S K w0 w1 w2 w3 w4 w5 w6 w7 w8 w9 : Int) (hs : (Lit.int .u64 seed).wf = true) (n m : Int) (W : World) :
    Calls Try.prog 7 #[.agg #[.int .u64 seed, .int .i64 S, .int .i64 K, .int .i64 w0, .int .i64 w1, .int .i64 w2, .int .i64 w3, .int .i64 w4, .int .i64 w5, .int .i64 w6, .int .i64 w7, .int .i64 w8, .int .i64 w9], .int .i64 n, .int .i64 m] W fun e w' => e = .returned (.bool true) ∧ Below W.heap.size W w' := by
  obtain ⟨v, H1, hrun, rfl⟩ := law_ret (ρ := fun _ => none) (k := 3000) ⟨seed, S, K, [w0, w1, w2, w3, w4, w5, w6, w7, w8, w9]⟩ rfl (u64_of hs) (by omega) n m
  exact calls_of_run_reads (C := cx fun _ => none) (vs := [.agg #[.int .u64 seed, .int .i64 S, .int .i64 K, .int .i64 w0, .int .i64 w1, .int .i64 w2, .int .i64 w3, .int .i64 w4, .int .i64 w5, .int .i64 w6, .int .i64 w7, .int .i64 w8, .int .i64 w9], .int .i64 n, .int .i64 m]) (fun a v e => by cases e) (by kernel_rfl) (cx_ext _) Try.func7 rfl hrun ⟨_, _, rfl, ⟨_, rfl, ⟨_, _, rfl, rfl, ⟨_, _, rfl, rfl, ⟨_, _, rfl, rfl, ⟨_, _, rfl, rfl, ⟨_, _, rfl, rfl, ⟨_, _, rfl, rfl, ⟨_, _, rfl, rfl, ⟨_, _, rfl, rfl, ⟨_, _, rfl, rfl, ⟨_, _, rfl, rfl, ⟨_, _, rfl, rfl, ⟨_, _, rfl, rfl, ⟨_, _, rfl, rfl, rfl⟩⟩⟩⟩⟩⟩⟩⟩⟩⟩⟩⟩⟩⟩, ⟨_, _, rfl, rfl, ⟨_, _, rfl, rfl, rfl⟩⟩⟩
end Go.Proofs.Ytcjicmabhejllaa
