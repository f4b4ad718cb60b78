/- Part 7: HyZ HyJ HyK HyL HyM HyN HyO HyQ HyR HyAw HyP HyY HyYa HyYb HyLo HyWn. -/
import Derived.Test.YtkmohjddojpdjabBnF
import Derived.Sort.AssemblyPlain
import Derived.Test.YtkmohjddojpdjabBnC
import Derived.WalkKit
-- part HyZ
/- The sort of strings. -/
set_option linter.unusedVariables false
set_option linter.unusedSimpArgs false
namespace Go.Proofs.Ytkmohjddojpdjab
attribute [local congr] Go.Ev.cond_congr1
open Go.Ev Go.RowKit
open Go.Sort (swp ltStr PermIn SortedIn Below)
section
variable {ρ : Addr → Option Value} {k : Nat} {H H0 : Heap} {x : AV} {d0 e : DA} {a0 b0 a b : Nat}
/-- What a sort leaves. -/
def Gl (H0 : Heap) (x : AV) (d0 : DA) (a0 b0 : Nat) (v : AV) (H' : Heap) : Prop := ∃ R,TS H' x R ∧ PermIn a0 b0 d0 R ∧ SortedIn ltStr a0 b0 R ∧ Fr x.lies H0 H'
/-- What a round begins with. -/
structure Cx (H0 : Heap) (x : AV) (d0 : DA) (a0 b0 a b : Nat) (e : DA) (H : Heap) : Prop where
  ab : a ≤ b
  be : b ≤ e.size
  sz : e.size = d0.size
  ts : TS H x e
  bel : Below ltStr a b e
  fr : Fr x.lies H0 H
  fin : ∀ R,PermIn a b e R → SortedIn ltStr a b R → PermIn a0 b0 d0 R ∧ SortedIn ltStr a0 b0 R
theorem Cx.step (h : Cx H0 x d0 a0 b0 a b e H) {e1 : DA} {H1 : Heap} (hp : PermIn a b e e1) (t : TS H1 x e1) (f : Fr x.lies H H1) : Cx H0 x d0 a0 b0 a b e1 H1 where
  ab := h.ab
  be := by rw [hp.1]; exact h.be
  sz := by rw [hp.1]; exact h.sz
  ts := t
  bel := h.bel.perm h.be hp
  fr := h.fr.trans f
  fin R p s := h.fin R (Go.Sort.permIn_trans _ _ _ a b hp p) s
theorem Cx.res (h : Cx H0 x d0 a0 b0 a b e H) {R : DA} {H1 : Heap} (hp : PermIn a b e R) (hs : SortedIn ltStr a b R) (t : TS H1 x R) (f : Fr x.lies H H1) (v : AV) : Gl H0 x d0 a0 b0 v H1 :=
  ⟨R,t,(h.fin R hp hs).1,(h.fin R hp hs).2,h.fr.trans f⟩
/-- The sort of smaller parts. -/
def Ih (ρ : Addr → Option Value) (k : Nat) (x : AV) (N m : Nat) : Prop := ∀ (a b L : Nat) (e : DA) (H : Heap),b - a < m → a ≤ b → b ≤ e.size → e.size = N → L < 100 → TS H x e → Below ltStr a b e →
  Ret (Gl H x e a b) (evCall (cx ρ) k 0 28 [x,.int .i64 a,.int .i64 b,.int .i64 L] H)
/-- The next round. -/
def Nxt (H0 : Heap) (x : AV) (d0 : DA) (a0 b0 m : Nat) (kn : AV → AV → AV → AV → AV → Heap → Res) : Prop := ∀ (a b L : Nat) (wb wp : Bool) (e : DA) (H : Heap),b - a < m → L < 100 → Cx H0 x d0 a0 b0 a b e H →
  Ret (Gl H0 x d0 a0 b0) (kn (.int .i64 a) (.int .i64 b) (.int .i64 L) (.bool wb) (.bool wp) H)
variable {yc : YieldF} {kn k1 : AV → AV → AV → AV → AV → Heap → Res} {L p : Nat} {q : Int}
theorem pdq6 (hC : Cx H0 x d0 a0 b0 a b e H) (hp1 : a ≤ p) (hp2 : p < b) (hL : L < 100) (hsz : d0.size < 2305843009213693952) (hk : d0.size + 20 ≤ k) (ih : Ih ρ k x d0.size (b - a)) (nx : Nxt H0 x d0 a0 b0 (b - a) kn) :
    Ret (Gl H0 x d0 a0 b0) (N28_6 ρ (evCall (cx ρ) k) yc 0 k x (.int .i64 a) (.int .i64 b) (.int .i64 L) (.int .i64 q) (.int .i64 p) H kn) := by
  have es := hC.sz
  have be := hC.be
  simp only [N28_6]
  refine Ret.bind (part_spec a b p hp1 hp2 be (by omega) hC.ts (by omega)) ?_
  rintro v H1 ⟨rfl,t1,f1⟩
  obtain ⟨mid,ap,e1,hx⟩ : ∃ mid ap e1,Go.Sort.partition ltStr e a b p = (mid,ap,e1) := ⟨_,_,_,rfl⟩
  rw [hx] at t1
  obtain ⟨g1,g2,hs4,hBa,hBr,hleft,hright⟩ := Go.Sort.round_part Go.Sort.swo_ltStr (Go.Sort.partition_holds ltStr) hp1 hp2 be hC.bel hx
  have y1 : mid < 9223372036854775808 := by omega
  have y2 : b < 9223372036854775808 := by omega
  have y3 : mid + 1 < 9223372036854775808 := by omega
  have gm : mid ≤ b := by omega
  have w1 : wrapK .i64 ((mid : Int) - (a : Int)) = ((mid - a : Nat) : Int) := wrap_subN mid a g1 y1
  have w2 : wrapK .i64 ((b : Int) - (mid : Int)) = ((b - mid : Nat) : Int) := wrap_subN b mid gm y2
  have w3 : wrapK .i64 ((mid : Int) + 1) = ((mid + 1 : Nat) : Int) := wrap_succN mid y3
  have n8 : (8 : Int) ≠ 0 := by decide
  simp only [hx,N28_7,w1,w2,w3,bin_quo _ _ _ _ _ _ n8,purK_some,extA_0,extA_1,bin_add,bin_sub,bin_lss,bin_geq]
  clear w1 w2 w3
  by_cases c : mid - a < b - mid
  · have c' : ((mid - a : Nat) : Int) < ((b - mid : Nat) : Int) := by omega
    simp only [c',condK_true,decide_true]
    refine Ret.bind (ih a mid L e1 H1 (by omega) g1 (by omega) (by omega) hL t1 hBa) ?_
    rintro v H2 ⟨E,tE,pE,sE,fE⟩
    obtain ⟨hBL,hfin⟩ := hleft E pE sE
    have sE' := pE.1
    simp only [N28_8,wrap_succN mid y3,purK_some,bin_add]
    exact nx (mid + 1) b L _ _ E H2 (by omega) hL ⟨by omega,by omega,by omega,tE,hBL,(hC.fr.trans f1).trans fE,fun R pr sr => hC.fin R (hfin R pr sr).1 (hfin R pr sr).2⟩
  · have c' : ¬ ((mid - a : Nat) : Int) < ((b - mid : Nat) : Int) := by omega
    simp only [c',condK_false,decide_false]
    refine Ret.bind (ih (mid + 1) b L e1 H1 (by omega) (by omega) (by omega) (by omega) hL t1 hBr) ?_
    rintro v H2 ⟨E,tE,pE,sE,fE⟩
    obtain ⟨hBL,hfin⟩ := hright E pE sE
    have sE' := pE.1
    simp only [N28_9]
    exact nx a mid L _ _ E H2 (by omega) hL ⟨g1,by omega,by omega,tE,hBL,(hC.fr.trans f1).trans fE,fun R pr sr => hC.fin R (hfin R pr sr).1 (hfin R pr sr).2⟩
theorem pdq5 (wb wp : Bool) (hC : Cx H0 x d0 a0 b0 a b e H) (hp1 : a ≤ p) (hp2 : p < b) (hL : L < 100) (hsz : d0.size < 2305843009213693952) (hk : d0.size + 20 ≤ k) (ih : Ih ρ k x d0.size (b - a)) (nx : Nxt H0 x d0 a0 b0 (b - a) kn) :
    Ret (Gl H0 x d0 a0 b0) (N28_5 ρ (evCall (cx ρ) k) yc 0 k x (.int .i64 a) (.int .i64 b) (.int .i64 L) (.bool wb) (.bool wp) (.int .i64 q) (.int .i64 p) H kn kn) := by
  have es := hC.sz
  have be := hC.be
  have k2 : 2 ≤ k := by omega
  simp only [N28_5]
  by_cases c : 0 < a
  · have c' : (0 : Int) < (a : Int) := by omega
    have y1 : a < 9223372036854775808 := by omega
    have y2 : 1 ≤ a := c
    have i1 : a - 1 < e.size := by omega
    have i2 : p < e.size := by omega
    have e1 := ts_ix hC.ts (a - 1) i1
    have e2 := ts_ld (ρ := ρ) hC.ts (a - 1) i1
    have e3 := ts_ix hC.ts p i2
    have e4 := ts_ld (ρ := ρ) hC.ts p i2
    cases hl : ltStr e[a - 1]! e[p]! with
    | true =>
      simp only [c',wrap_predN a y2 y1,e1,e2,e3,e4,less_spec _ _ k2,hl,purK_some,resK_some,boolK_some,condK_false,wantV_t,Bool.not_true,gPur_true,gRes_true,pickA_true,cnd_true,bin_sub,bin_gtr,un_not,Bool.or_true,Bool.and_true,decide_true]
      exact pdq6 hC hp1 hp2 hL hsz hk ih nx
    | false =>
      simp only [c',wrap_predN a y2 y1,e1,e2,e3,e4,less_spec _ _ k2,hl,purK_some,resK_some,boolK_some,condK_true,wantV_t,Bool.not_true,Bool.not_false,gPur_true,gRes_true,pickA_true,cnd_true,bin_sub,bin_gtr,un_not,Bool.or_true,Bool.and_true,decide_true]
      refine Ret.bind (peq_spec a b p hp1 hp2 be (by omega) hC.ts (by omega)) ?_
      rintro v H1 ⟨rfl,t1,f1⟩
      obtain ⟨mid,e1',hx⟩ : ∃ mid e1,Go.Sort.partitionEqual ltStr e a b p = (mid,e1) := ⟨_,_,rfl⟩
      rw [hx] at t1
      obtain ⟨g1,hm2,hs4,hB4,hfin⟩ := Go.Sort.round_eq Go.Sort.swo_ltStr (Go.Sort.partitionEqual_holds ltStr) c hp1 hp2 be hC.bel hl hx
      simp only [hx,N28_10]
      exact nx mid b L _ _ e1' H1 (by omega) hL ⟨hm2,by omega,by omega,t1,hB4,hC.fr.trans f1,fun R pr sr => hC.fin R (hfin R pr sr).1 (hfin R pr sr).2⟩
  · have c' : ¬ (0 : Int) < (a : Int) := by omega
    simp only [c',purK_some,resK_some,boolK_some,condK_false,wantV_t,Bool.not_false,gPur_false,gRes_false,pickA_false,cnd_true,cnd_false,bin_gtr,Bool.or_true,Bool.and_true,decide_false]
    exact pdq6 hC hp1 hp2 hL hsz hk ih nx
theorem pdq4 (wb wp : Bool) (t : Int) (hC : Cx H0 x d0 a0 b0 a b e H) (hp1 : a ≤ p) (hp2 : p < b) (hL : L < 100) (hsz : d0.size < 2305843009213693952) (hk : d0.size + 20 ≤ k) (ih : Ih ρ k x d0.size (b - a)) (nx : Nxt H0 x d0 a0 b0 (b - a) kn) :
    Ret (Gl H0 x d0 a0 b0) (N28_4 ρ (evCall (cx ρ) k) yc 0 k x (.int .i64 a) (.int .i64 b) (.int .i64 L) (.bool wb) (.bool wp) (.int .i64 q) (.int .i64 p) (.int .i64 t) H kn kn retK) := by
  have es := hC.sz
  have be := hC.be
  have e1 : N28_4 ρ (evCall (cx ρ) k) yc 0 k x (.int .i64 a) (.int .i64 b) (.int .i64 L) (.bool wb) (.bool wp) (.int .i64 q) (.int .i64 p) (.int .i64 t) H kn kn retK =
      N28_11 ρ (evCall (cx ρ) k) yc 0 k x (.int .i64 a) (.int .i64 b) (.int .i64 L) (.bool wb) (.bool wp) (.int .i64 q) (.int .i64 p) (.bool (wb && wp && decide (t = 1))) H (fun x1_1 x2_1 x3_1 x8_1 x9_1 x10_1 x11_1 H =>
        N28_5 ρ (evCall (cx ρ) k) yc 0 k x x1_1 x2_1 x3_1 x8_1 x9_1 x10_1 x11_1 H kn kn) retK := by
    by_cases c : t = 1
    · cases wb <;> cases wp <;> simp only [N28_4,c,purK_some,wantV_t,gPur_true,gPur_false,pickA_true,pickA_false,bin_eql,Bool.and_true,Bool.and_false,decide_true]
    · cases wb <;> cases wp <;> simp only [N28_4,c,purK_some,wantV_t,gPur_true,gPur_false,pickA_true,pickA_false,bin_eql,Bool.and_true,Bool.and_false,decide_false]
  rw [e1]
  cases wb && wp && decide (t = 1) with
  | false =>
    simp only [N28_11,condK_false,retK_none]
    exact pdq5 wb wp hC hp1 hp2 hL hsz hk ih nx
  | true =>
    simp only [N28_11,condK_true,retK_none]
    refine Ret.bind (pis_spec a b (by omega) be (by omega) hC.ts (by omega)) ?_
    rintro v H1 ⟨rfl,t1,f1⟩
    obtain ⟨P,S⟩ := Go.Sort.partialInsertionSort_holds Go.Sort.swo_ltStr e a b (by omega) be hC.bel
    cases hr : (Go.Sort.partialInsertionSort ltStr e a b).2 with
    | true =>
      simp only [condK_true]
      exact .intro (hC.res P (S hr) t1 f1 _)
    | false =>
      simp only [condK_false]
      exact pdq5 wb wp (hC.step P t1 f1) hp1 hp2 hL hsz hk ih nx
theorem pdq3 (wb wp : Bool) (hab : a + 12 < b) (hC : Cx H0 x d0 a0 b0 a b e H) (hL : L < 100) (hsz : d0.size < 2305843009213693952) (hk : d0.size + 30 ≤ k) (ih : Ih ρ k x d0.size (b - a)) (nx : Nxt H0 x d0 a0 b0 (b - a) kn) :
    Ret (Gl H0 x d0 a0 b0) (N28_3 ρ (evCall (cx ρ) k) yc 0 k x (.int .i64 a) (.int .i64 b) (.int .i64 L) (.bool wb) (.bool wp) (.int .i64 q) H kn kn retK) := by
  have es := hC.sz
  have be := hC.be
  have ab : a < b := by omega
  simp only [N28_3]
  refine Ret.bind (piv_spec a b hab be (by omega) hC.ts (by omega)) ?_
  rintro v H1 ⟨⟨p,t,rfl,hp1,hp2⟩,f1⟩
  have t1 : TS H1 x e := hC.ts.frame Nop f1 fun _ _ q => q
  have f1' : Fr x.lies H H1 := f1.mono fun _ _ q => q.elim
  have hC1 := hC.step (Go.Sort.permIn_refl e a b) t1 f1'
  by_cases c : t = 2
  · have y1 : b < 9223372036854775808 := by omega
    have y2 : 1 ≤ b := by omega
    have y3 : p < 9223372036854775808 := by omega
    have y4 : b - 1 < 9223372036854775808 := by omega
    have y5 : p - a ≤ b - 1 := by omega
    have w1 : wrapK .i64 ((b : Int) - 1) = ((b - 1 : Nat) : Int) := wrap_predN b y2 y1
    have w2 : wrapK .i64 ((p : Int) - (a : Int)) = ((p - a : Nat) : Int) := wrap_subN p a hp1 y3
    have w3 : wrapK .i64 (((b - 1 : Nat) : Int) - ((p - a : Nat) : Int)) = ((b - 1 - (p - a) : Nat) : Int) := wrap_subN (b - 1) (p - a) y5 y4
    simp only [c,purK_some,condK_true,extA_0,extA_1,bin_sub,bin_eql,decide_true]
    refine Ret.bind (revr_spec a b ab be (by clear w1 w2 w3; omega) t1 (by clear w1 w2 w3; omega)) ?_
    rintro v H2 ⟨t2,f2⟩
    simp only [w1,w2,w3]
    clear w1 w2 w3
    exact pdq4 wb wp 1 (hC1.step (Go.Sort.reverseRange_holds e a b hC.ab be) t2 f2) (by omega) (by omega) hL hsz (by omega) ih nx
  · simp only [c,purK_some,condK_false,extA_0,extA_1,bin_sub,bin_eql,decide_false]
    exact pdq4 wb wp t hC1 hp1 hp2 hL hsz (by omega) ih nx
theorem pdq2 (wb wp : Bool) (hC : Cx H0 x d0 a0 b0 a b e H) (hL : L < 100) (hsz : d0.size < 2305843009213693952) (hk : d0.size + 30 ≤ k) (ih : Ih ρ k x d0.size (b - a)) (nx : Nxt H0 x d0 a0 b0 (b - a) kn) :
    Ret (Gl H0 x d0 a0 b0) (N28_2b ρ (evCall (cx ρ) k) yc 0 k x (.int .i64 a) (.int .i64 b) (.int .i64 L) (.bool wb) (.bool wp) H kn retK) := by
  have es := hC.sz
  have be := hC.be
  have ab := hC.ab
  have y1 : b < 9223372036854775808 := by omega
  have w1 : wrapK .i64 ((b : Int) - (a : Int)) = ((b - a : Nat) : Int) := wrap_subN b a ab y1
  by_cases c : b - a ≤ 12
  · have c' : ((b - a : Nat) : Int) ≤ 12 := by clear w1; omega
    simp only [N28_2b,w1,c',purK_some,condK_true,retK_none,bin_sub,bin_eql,bin_leq,un_not,decide_true]
    refine Ret.bind (ins_spec a b ab be (by clear w1; omega) hC.ts (by clear w1; omega)) ?_
    rintro v H1 ⟨t1,f1⟩
    try simp only [purK_some,resK_some,boolK_some,condK_true,condK_false,wantV_tt,wantV_tf,wantV_ft,wantV_ff,wantV_t,wantV_f,wantV_skip,Bool.not_true,Bool.not_false,gPur_true,gPur_false,gEff_true,gEff_false,gRes_true,gRes_false,pickA_true,pickA_false,extA_0,extA_1,extA_2,retK_one,retK_none,retK_two,valK_fn,valR_fn,cnd_true,cnd_false,bin_add,bin_sub,bin_mul,bin_eql,bin_neq,bin_lss,bin_leq,bin_gtr,bin_geq,bin_seql,bin_sneq,un_not_t,un_not_f,un_not,cvI_int,cvT_str,nilChk_ptr,nilChk_xp,addA_ptr,lenT_str,Bool.true_or,Bool.or_true,Bool.false_or,Bool.or_false,Bool.true_and,Bool.and_true,Bool.false_and,Bool.and_false,decide_true,decide_false,Int.reduceEq,Int.reduceLT,Int.reduceLE,Int.reduceNe,Int.reduceAdd,Int.reduceSub,Int.reduceMul,Int.reduceNeg,List.nil_append,List.append_nil,List.cons_append]
    obtain ⟨P,S⟩ := Go.Sort.insertionSort_holds Go.Sort.swo_ltStr e a b ab be
    exact .intro (hC.res P S t1 f1 _)
  have c' : ¬ ((b - a : Nat) : Int) ≤ 12 := by clear w1; omega
  have hab : a + 12 < b := by clear w1; omega
  by_cases c0 : L = 0
  · have c0' : (L : Int) = 0 := by clear w1; omega
    simp only [N28_2b,w1,c',c0',purK_some,condK_true,condK_false,retK_none,bin_sub,bin_eql,bin_leq,un_not,decide_true,decide_false,Int.reduceSub,Int.reduceNeg]
    refine Ret.bind (heap_spec a b ab be (by clear w1; omega) hC.ts (by clear w1; omega)) ?_
    rintro v H1 ⟨t1,f1⟩
    try simp only [purK_some,resK_some,boolK_some,condK_true,condK_false,wantV_tt,wantV_tf,wantV_ft,wantV_ff,wantV_t,wantV_f,wantV_skip,Bool.not_true,Bool.not_false,gPur_true,gPur_false,gEff_true,gEff_false,gRes_true,gRes_false,pickA_true,pickA_false,extA_0,extA_1,extA_2,retK_one,retK_none,retK_two,valK_fn,valR_fn,cnd_true,cnd_false,bin_add,bin_sub,bin_mul,bin_eql,bin_neq,bin_lss,bin_leq,bin_gtr,bin_geq,bin_seql,bin_sneq,un_not_t,un_not_f,un_not,cvI_int,cvT_str,nilChk_ptr,nilChk_xp,addA_ptr,lenT_str,Bool.true_or,Bool.or_true,Bool.false_or,Bool.or_false,Bool.true_and,Bool.and_true,Bool.false_and,Bool.and_false,decide_true,decide_false,Int.reduceEq,Int.reduceLT,Int.reduceLE,Int.reduceNe,Int.reduceAdd,Int.reduceSub,Int.reduceMul,Int.reduceNeg,List.nil_append,List.append_nil,List.cons_append]
    obtain ⟨P,S⟩ := Go.Sort.heapSort_holds Go.Sort.swo_ltStr e a b ab be
    exact .intro (hC.res P S t1 f1 _)
  have c0' : ¬ (L : Int) = 0 := by clear w1; omega
  have y2 : 1 ≤ L := by clear w1; omega
  have y3 : L < 9223372036854775808 := by clear w1; omega
  have w2 : wrapK .i64 ((L : Int) - 1) = ((L - 1 : Nat) : Int) := wrap_predN L y2 y3
  cases wb with
  | true =>
    simp only [N28_2b,w1,c',c0',purK_some,condK_false,Bool.not_true,retK_none,bin_sub,bin_eql,bin_leq,un_not,decide_false]
    clear w1 w2
    exact pdq3 true wp hab hC hL hsz hk ih nx
  | false =>
    simp only [N28_2b,w1,c',c0',purK_some,condK_true,condK_false,Bool.not_false,retK_none,bin_sub,bin_eql,bin_leq,un_not,decide_false]
    refine Ret.bind (brk_spec a b ab be (by clear w1 w2; omega) hC.ts (by clear w1 w2; omega)) ?_
    rintro v H1 ⟨e1,t1,P,f1⟩
    simp only [w2]
    clear w1 w2
    exact pdq3 false wp hab (hC.step P t1 f1) (by omega) hsz hk ih nx
theorem pdq_spec (N : Nat) (hN : N < 2305843009213693952) (x : AV) (ρ : Addr → Option Value) : ∀ (n k : Nat),n + N + 50 ≤ k → Ih ρ k x N n := by
  intro n
  induction n with
  | zero => intro k hk a b L e H h; omega
  | succ n ih =>
    intro k hk a b L e H hn hab hb he hL hT hB
    obtain ⟨k,rfl⟩ : ∃ q,k = q + 1 := ⟨k - 1,by omega⟩
    rw [E28]
    simp only [L28,N28_1,N28_2]
    refine Ret.loop (fun m (s : AV × AV × AV × AV × AV) H' => ∃ (a' b' L' : Nat) (wb wp : Bool) (e' : DA),s = (.int .i64 a',.int .i64 b',.int .i64 L',.bool wb,.bool wp) ∧ m = b' - a' ∧ L' < 100 ∧ m ≤ b - a ∧ Cx H x e a b a' b' e' H') ?_ (b - a) k _ H
      ⟨a,b,L,true,true,e,rfl,rfl,hL,Nat.le_refl _,⟨hab,hb,rfl,hT,hB,Fr.refl ..,fun R p s => ⟨p,s⟩⟩⟩ (by omega)
    rintro m s H1 kn ⟨a',b',L',wb,wp,e',rfl,hm,hL',hmb,hC⟩ nx
    refine pdq2 wb wp hC hL' (by omega) (by omega) (fun a2 b2 L2 e2 H2 h1 h2 h3 h4 h5 h6 h7 => ih k (by omega) a2 b2 L2 e2 H2 (by omega) h2 h3 (by omega) h5 h6 h7) ?_
    intro a2 b2 L2 wb2 wp2 e2 H2 h1 h2 h3
    exact nx (b2 - a2) _ H2 (by omega) ⟨a2,b2,L2,wb2,wp2,e2,rfl,rfl,h2,by omega,h3⟩
/-- A slice of strings is sorted. -/
theorem sort_spec {d : DA} (hsz : d.size < 1152921504606846976) (h : TS H x d) (hk : 2 * d.size + 100 ≤ k) :
    Ret (Gl H x d 0 d.size) (evCall (cx ρ) k 0 20 [x] H) := by
  obtain ⟨k,rfl⟩ : ∃ q,k = q + 1 := ⟨k - 1,by omega⟩
  have hl2 : d.size < 18446744073709551616 := by omega
  have w1 : wrapK .u64 (d.size : Int) = (d.size : Int) := wrap_u64 _ (by omega)
  have k2 : 2 ≤ k := by clear w1; omega
  have h64 : (2 : Nat) ^ 64 = 18446744073709551616 := by decide
  have hb : Go.Sort.bitsLen d.size ≤ 64 := (Go.Sort.bitsLen_le_iff d.size 64).2 (by rw [h64]; exact hl2)
  have el := ts_len h
  rw [E20]
  simp only [L20,el,w1,len_spec d.size hl2 k2,purK_some,resK_some,retK_none,cvI_int]
  clear w1
  refine Ret.bind (pdq_spec d.size (by omega) x ρ (d.size + 1) k (by omega) 0 d.size _ d H (by omega) (by omega) (by omega) rfl (show Go.Sort.bitsLen d.size < 100 by omega) h (Or.inl rfl)) ?_
  intro v H1 g
  try simp only [purK_some,resK_some,boolK_some,condK_true,condK_false,wantV_tt,wantV_tf,wantV_ft,wantV_ff,wantV_t,wantV_f,wantV_skip,Bool.not_true,Bool.not_false,gPur_true,gPur_false,gEff_true,gEff_false,gRes_true,gRes_false,pickA_true,pickA_false,extA_0,extA_1,extA_2,retK_one,retK_none,retK_two,valK_fn,valR_fn,cnd_true,cnd_false,bin_add,bin_sub,bin_mul,bin_eql,bin_neq,bin_lss,bin_leq,bin_gtr,bin_geq,bin_seql,bin_sneq,un_not_t,un_not_f,un_not,cvI_int,cvT_str,nilChk_ptr,nilChk_xp,addA_ptr,lenT_str,Bool.true_or,Bool.or_true,Bool.false_or,Bool.or_false,Bool.true_and,Bool.and_true,Bool.false_and,Bool.and_false,decide_true,decide_false,Int.reduceEq,Int.reduceLT,Int.reduceLE,Int.reduceNe,Int.reduceAdd,Int.reduceSub,Int.reduceMul,Int.reduceNeg,List.nil_append,List.append_nil,List.cons_append]
  exact .intro g
end
end Go.Proofs.Ytkmohjddojpdjab

-- part HyJ
/- The keys of a history: sorted, each once. -/
set_option linter.unusedVariables false
set_option linter.unusedSimpArgs false
namespace Go.Proofs.Ytkmohjddojpdjab
attribute [local congr] Go.Ev.cond_congr1
open Go.Ev Go.RowKit
open Go.Sort (ltStr PermIn SortedIn)
/-- Each once, where equals lie side by side. -/
def dn (d : DA) : Nat → List (List UInt8)
  | 0 => []
  | i + 1 => if 0 < i ∧ d[i]! = d[i - 1]! then dn d i else dn d i ++ [d[i]!]
theorem dn_all (d : DA) : ∀ n,n ≤ d.size → (∀ j,0 < j → j < n → d[j]! ≠ d[j - 1]!) → dn d n = d.toList.take n
  | 0,_,_ => by simp [dn]
  | n + 1,hn,h => by
    have ih := dn_all d n (by omega) fun j h0 h1 => h j h0 (by omega)
    rw [dn,if_neg (by rintro ⟨h0,h1⟩; exact h n h0 (by omega) h1),ih,List.take_succ_eq_append_getElem (by rw [Array.length_toList]; omega),Array.getElem_toList,getElem!_pos d n (by omega)]
theorem dn_mem (d : DA) (s : List UInt8) : ∀ n,s ∈ dn d n ↔ ∃ j,j < n ∧ d[j]! = s
  | 0 => by simp [dn]
  | n + 1 => by
    rw [dn]
    split
    · rename_i h
      rw [dn_mem d s n]
      constructor
      · rintro ⟨j,hj,e⟩; exact ⟨j,by omega,e⟩
      · rintro ⟨j,hj,e⟩
        by_cases q : j = n
        · subst q; exact ⟨j - 1,by omega,by rw [← h.2,e]⟩
        · exact ⟨j,by omega,e⟩
    · rw [List.mem_append,dn_mem d s n,List.mem_singleton]
      constructor
      · rintro (⟨j,hj,e⟩ | e)
        · exact ⟨j,by omega,e⟩
        · exact ⟨n,by omega,e.symm⟩
      · rintro ⟨j,hj,e⟩
        by_cases q : j = n
        · subst q; exact Or.inr e.symm
        · exact Or.inl ⟨j,by omega,e⟩
theorem dn_len (d : DA) : ∀ n,(dn d n).length ≤ n
  | 0 => by simp [dn]
  | n + 1 => by
    have := dn_len d n
    rw [dn]
    split
    · omega
    · rw [List.length_append,List.length_singleton]; omega
theorem str_eq {x y : List UInt8} (h1 : ltStr x y = false) (h2 : ltStr y x = false) : x = y := by
  simp only [ltStr,decide_eq_false_iff_not,List.not_lt] at h1 h2; exact List.le_antisymm h2 h1
/-- Ascending. -/
def Asc (l : List (List UInt8)) : Prop := l.Pairwise fun a b => ltStr a b = true
theorem dn_asc (d : DA) : ∀ n,SortedIn ltStr 0 n d → Asc (dn d n)
  | 0,_ => by simp [dn,Asc]
  | n + 1,h => by
    have ih := dn_asc d n fun i j h1 h2 h3 => h i j h1 h2 (by omega)
    rw [dn]
    split
    · exact ih
    · rename_i hne
      unfold Asc
      rw [List.pairwise_append]
      refine ⟨ih,by simp,?_⟩
      intro a ha b hb
      rw [List.mem_singleton] at hb
      subst hb
      obtain ⟨j,hj,rfl⟩ := (dn_mem d a n).1 ha
      cases hc : ltStr d[j]! d[n]! with
      | true => rfl
      | false =>
        exfalso
        have e : d[j]! = d[n]! := str_eq hc (h j n (by omega) hj (by omega))
        refine hne ⟨by omega,?_⟩
        by_cases q : j = n - 1
        · subst q; exact e.symm
        · refine str_eq (h (n - 1) n (by omega) (by omega) (by omega)) ?_
          rw [← e]
          exact h j (n - 1) (by omega) (by omega) (by omega)
section
variable {ρ : Addr → Option Value} {k : Nat} {H : Heap} {x : AV} {d : DA}
theorem slStr (ρ : Addr → Option Value) : (cx ρ).P.underlying 35 = some (.slice 9) := by kernel_rfl
theorem zStr (ρ : Addr → Option Value) : zeroA (cx ρ).P 9 = some (.str (ba [])) := by kernel_rfl
def lrow (l : List (List UInt8)) : List (List AV) := l.map fun s => [.str (ba s)]
theorem srow_l (d : DA) : srow d = lrow d.toList := rfl
theorem cut_at {E : DA} (hT : TS H x E) (k0 : Nat) (hk0 : k0 ≤ E.size) {y : AV} (hy : slS 1 x (some (.int .i64 k0)) none none = some y) :
    lenS y = some (.int .i64 (E.size - k0 : Nat)) ∧ ∀ t,t < E.size - k0 → ixS 1 y (.int .i64 t) = some (elp 1 y t 0) ∧ ld1 ρ H (elp 1 y t 0) = some (.str (ba E[k0 + t]!)) := by
  have hl := srow_len E
  obtain ⟨y',h1,h2,h3⟩ := (GG.toEls (ρ := ρ) hT).cut (lo := k0) (hi := (srow E).length) (by omega) (Nat.le_refl _) (some (.int .i64 k0)) none (Or.inr ⟨.i64,rfl⟩) (Or.inl ⟨rfl,rfl⟩) (fun n => hT.notSx n)
  rw [hy] at h1
  obtain rfl := Option.some.inj h1
  have hlen : (((srow E).drop k0).take ((srow E).length - k0)).length = E.size - k0 := by rw [List.length_take,List.length_drop,hl]; omega
  refine ⟨by have := h2.lenS; rwa [hlen] at this,fun t ht => ?_⟩
  have e1 := h2.ix .i64 t (by omega) (by rw [hlen]; omega)
  rw [Int.toNat_natCast] at e1
  refine ⟨e1,?_⟩
  have := h2.ld1 t 0 (by rw [hlen]; exact ht) (by decide)
  rw [this]
  have hb : k0 + t < E.size := by omega
  simp [srow,hb]
/-- Each once. -/
theorem compact_spec (hsz : d.size < 2305843009213693952) (h : TS H x d) (hk : d.size + 10 ≤ k) :
    Ret (fun v H' => (∀ ρ,Els ρ H' 1 v (lrow (dn d d.size))) ∧ (∀ l,v.lies l → x.lies l) ∧ Fr x.lies H H') (evCall (cx ρ) k 0 24 [x] H) := by
  obtain ⟨k,rfl⟩ : ∃ q,k = q + 1 := ⟨k - 1,by omega⟩
  have el := ts_len h
  rw [E24]
  have whole : (∀ j,0 < j → j < d.size → d[j]! ≠ d[j - 1]!) → ∀ H1,TS H1 x d → Fr x.lies H H1 → (∀ ρ,Els ρ H1 1 x (lrow (dn d d.size))) ∧ (∀ l,x.lies l → x.lies l) ∧ Fr x.lies H H1 := by
    intro hne H1 h1 f1
    refine ⟨fun ρ => ?_,fun l q => q,f1⟩
    rw [dn_all d d.size (Nat.le_refl _) hne,← Array.length_toList,List.take_length,← srow_l]
    exact GG.toEls h1
  by_cases c2 : d.size < 2
  · have c2' : (d.size : Int) < 2 := by omega
    simp only [L24,el,c2',purK_some,condK_true,retK_one,bin_lss,decide_true]
    exact .intro (whole (fun j h0 h1 => by omega) H h (Fr.refl ..))
  have c2' : ¬ (d.size : Int) < 2 := by omega
  simp only [L24,el,c2',N24_2,N24_3,purK_some,condK_false,retK_one,bin_lss,decide_false]
  refine Ret.loop (fun m y H' => ∃ i : Nat,y = .int .i64 i ∧ m = d.size - i ∧ 1 ≤ i ∧ i ≤ d.size ∧ H' = H ∧ ∀ j,0 < j → j < i → d[j]! ≠ d[j - 1]!) ?_ (d.size - 1) k _ H ⟨1,rfl,rfl,Nat.le_refl _,by omega,rfl,fun j h0 h1 => by omega⟩ (by omega)
  rintro m y H' kn ⟨i,rfl,hm,hi1,hi,rfl,hne⟩ next
  by_cases c : i < d.size
  · have c' : (i : Int) < (d.size : Nat) := by omega
    have i1 : i - 1 < d.size := by omega
    have y1 : i < 9223372036854775808 := by omega
    have y2 : i + 1 < 9223372036854775808 := by omega
    have e1 := ts_ix h i c
    have e2 := ts_ld (ρ := ρ) h i c
    have e3 := ts_ix h (i - 1) i1
    have e4 := ts_ld (ρ := ρ) h (i - 1) i1
    by_cases q : d[i]! = d[i - 1]!
    · -- the first that is twice
      have hl := srow_len d
      obtain ⟨y4,hy4,_,_⟩ := (GG.toEls (ρ := ρ) h).cut (lo := i) (hi := (srow d).length) (by omega) (Nat.le_refl _) (some (.int .i64 i)) none (Or.inr ⟨.i64,rfl⟩) (Or.inl ⟨rfl,rfl⟩) (fun n => h.notSx n)
      have hlen4 := (cut_at (ρ := ρ) h i hi hy4).1
      simp only [N24_3b,el,c',e1,e2,wrap_predN i hi1 y1,e3,e4,q,hy4,N24_6,N24_7,purK_some,condK_true,bin_sub,bin_lss,bin_seql,decide_true]
      refine Ret.loop (fun m (y : AV × AV) G => ∃ (t : Nat) (E : DA),y = (.int .i64 (dn d (i + t)).length,.int .i64 t) ∧ m = d.size - i - t ∧ 1 ≤ t ∧ t ≤ d.size - i ∧ (dn d (i + t)).length + 1 ≤ i + t ∧ E.size = d.size ∧ E.toList.take (dn d (i + t)).length = dn d (i + t) ∧ (∀ j,i + t ≤ j + 1 → E[j]! = d[j]!) ∧ TS G x E ∧ Fr x.lies H' G)
        ?_ (d.size - i - 1) k _ H' ⟨1,d,?_,rfl,Nat.le_refl _,by omega,?_,rfl,?_,fun _ _ => rfl,h,Fr.refl ..⟩ (by omega)
      · rintro m2 y2 G kn2 ⟨t,E,rfl,hm2,ht1,ht,hlt,hE,htk,hsame,hT,fr⟩ next2
        obtain ⟨hln,hat⟩ := cut_at (ρ := ρ) hT i (by omega) hy4
        rw [hE] at hln hat
        have y3 : t < 9223372036854775808 := by omega
        have y5 : t + 1 < 9223372036854775808 := by omega
        have y6 : (dn d (i + t)).length + 1 < 9223372036854775808 := by omega
        by_cases c3 : t < d.size - i
        · have c3' : (t : Int) < ((d.size - i : Nat) : Int) := by omega
          obtain ⟨a1,a2⟩ := hat t c3
          obtain ⟨a3,a4⟩ := hat (t - 1) (by omega)
          rw [hsame _ (by omega)] at a2 a4
          have eix : i + (t - 1) = i + t - 1 := by omega
          rw [eix] at a4
          have hstep : dn d (i + (t + 1)) = if 0 < i + t ∧ d[i + t]! = d[i + t - 1]! then dn d (i + t) else dn d (i + t) ++ [d[i + t]!] := rfl
          by_cases q2 : d[i + t]! = d[i + t - 1]!
          · rw [if_pos ⟨by omega,q2⟩] at hstep
            have q2' : ¬ d[i + t]! ≠ d[i + t - 1]! := fun f => f q2
            simp only [N24_7b,hln,c3',a1,a2,wrap_predN t ht1 y3,a3,a4,N24_8,wrap_succN t y5,q2,ne_eq,not_true_eq_false,purK_some,condK_true,condK_false,bin_add,bin_sub,bin_lss,bin_sneq,decide_true,decide_false]
            exact next2 (m2 - 1) _ G (by omega) ⟨t + 1,E,by rw [hstep],by omega,by omega,by omega,by rw [hstep]; omega,hE,by rw [hstep]; exact htk,fun j hj => hsame j (by omega),hT,fr⟩
          · rw [if_neg (fun f => q2 f.2)] at hstep
            have hs : (dn d (i + t)).length < E.size := by omega
            have b1 := ts_ix hT (dn d (i + t)).length hs
            simp only [N24_7b,hln,c3',a1,a2,wrap_predN t ht1 y3,a3,a4,q2,ne_eq,not_false_eq_true,b1,purK_some,condK_true,bin_add,bin_sub,bin_lss,bin_sneq,decide_true,ba_inj]
            refine ts_st hT (dn d (i + t)).length hs _ fun G2 hT2 f2 => ?_
            simp only [N24_8,wrap_succN t y5,wrap_succN _ y6,purK_some,bin_add]
            have hl2 : (dn d (i + (t + 1))).length = (dn d (i + t)).length + 1 := by rw [hstep,List.length_append,List.length_singleton]
            refine next2 (m2 - 1) _ G2 (by omega) ⟨t + 1,_,by rw [hl2],by omega,by omega,by omega,by omega,by simp [hE],?_,?_,hT2,fr.trans f2⟩
            · rw [hl2,hstep,Array.toList_setIfInBounds,List.take_succ_eq_append_getElem (by rw [List.length_set,Array.length_toList]; omega),List.take_set_of_le (Nat.le_refl _),htk]
              simp
            · intro j hj
              have hne' : (dn d (i + t)).length ≠ j := by omega
              rw [← hsame j (by omega)]
              simp [Array.getElem!_eq_getD,Array.getD_eq_getD_getElem?,Array.getElem?_setIfInBounds_ne hne']
        · have : t = d.size - i := by omega
          have eit : i + t = d.size := by omega
          rw [eit] at hlt htk ⊢
          have c3' : ¬ (t : Int) < ((d.size - i : Nat) : Int) := by omega
          have hlo : (dn d d.size).length < (srow E).length := by rw [srow_len]; omega
          obtain ⟨y5,hy1,hy2⟩ := hT.clr (C := cx ρ) (t := 35) (dn d d.size).length hlo (slStr ρ) (zStr ρ) rfl rfl (by decide) rfl .i64
          simp only [N24_7b,hln,c3',N24_5,hy1,purK_some,condK_false,retK_one,bin_add,bin_sub,bin_lss,decide_false]
          refine hy2 fun G2 hG2 z2 f2 => ?_
          obtain ⟨y6,hc1,hc2,hc3⟩ := (GG.toEls (ρ := ρ) hG2).cut (lo := 0) (hi := (dn d d.size).length) (by omega) (by simp; omega) none (some (.int .i64 (dn d d.size).length)) (Or.inl ⟨rfl,rfl⟩) (Or.inr ⟨.i64,rfl⟩) (fun n => hG2.notSx n)
          simp only [hc1,purK_some]
          refine .intro ⟨fun ρ' => ?_,hc3,fr.trans f2⟩
          obtain ⟨y7,hd1,hd2,_⟩ := (GG.toEls (ρ := ρ') hG2).cut (lo := 0) (hi := (dn d d.size).length) (by omega) (by simp; omega) none (some (.int .i64 (dn d d.size).length)) (Or.inl ⟨rfl,rfl⟩) (Or.inr ⟨.i64,rfl⟩) (fun n => hG2.notSx n)
          rw [hc1] at hd1
          obtain rfl := Option.some.inj hd1
          have e : (((((srow E).take (dn d d.size).length ++ List.replicate ((srow E).length - (dn d d.size).length) (AV.cells (.str (ba [])))).drop 0)).take ((dn d d.size).length - 0)) = lrow (dn d d.size) := by
            rw [List.drop_zero,Nat.sub_zero,List.take_append_of_le_length (by rw [List.length_take]; omega),List.take_take,Nat.min_self,srow_l,lrow,← List.map_take,htk]; rfl
          rw [e] at hd2
          exact hd2
      · have : dn d (i + 1) = dn d i := by show (if 0 < i ∧ d[i]! = d[i - 1]! then dn d i else _) = _; rw [if_pos ⟨by omega,q⟩]
        rw [this,dn_all d i hi hne,List.length_take,Array.length_toList,Nat.min_eq_left hi]
        rfl
      · have : dn d (i + 1) = dn d i := by show (if 0 < i ∧ d[i]! = d[i - 1]! then dn d i else _) = _; rw [if_pos ⟨by omega,q⟩]
        rw [this]
        have := dn_len d i
        omega
      · have : dn d (i + 1) = dn d i := by show (if 0 < i ∧ d[i]! = d[i - 1]! then dn d i else _) = _; rw [if_pos ⟨by omega,q⟩]
        rw [this,dn_all d i hi hne,List.length_take,Array.length_toList,Nat.min_eq_left hi]
    · simp only [N24_3b,el,c',e1,e2,wrap_predN i hi1 y1,e3,e4,q,N24_4,wrap_succN i y2,purK_some,condK_true,condK_false,bin_add,bin_sub,bin_lss,bin_seql,decide_true,decide_false,ba_inj]
      refine next (m - 1) _ H' (by omega) ⟨i + 1,rfl,by omega,by omega,by omega,rfl,fun j h0 h1 => ?_⟩
      by_cases e : j = i
      · subst e; exact q
      · exact hne j h0 (by omega)
  · have : i = d.size := by omega
    subst this
    have c' : ¬ ((d.size : Nat) : Int) < (d.size : Nat) := by omega
    simp only [N24_3b,el,c',N24_1,purK_some,condK_false,retK_one,bin_sub,bin_lss,decide_false]
    exact .intro (whole hne H' h (Fr.refl ..))
theorem lrow_snoc (l : List (List UInt8)) (s : List UInt8) : lrow (l ++ [s]) = lrow l ++ [[.str (ba s)]] := by unfold lrow; rw [List.map_append]; rfl
theorem lrow_len (l : List (List UInt8)) : (lrow l).length = l.length := by unfold lrow; rw [List.length_map]
/-- The keys of a history. -/
def IsKeys (ds : List EvB) (ks : List (List UInt8)) : Prop := Asc ks ∧ (∀ s,s ∈ ks ↔ ∃ e ∈ ds,e.op.key = s) ∧ ks.length ≤ ds.length
theorem keys_spec {x : AV} (ds : List EvB) (hx : Els ρ H 8 x (ds.map EvB.cells)) (hlen : ds.length ≤ 1000) (hk : 4000 ≤ k) :
    Ret (fun v H' => ∃ ks,(∀ ρ,Els ρ H' 1 v (lrow ks)) ∧ IsKeys ds ks ∧ (∀ l,v.lies l → H.sz ≤ l) ∧ Fr Nop H H') (evCall (cx ρ) k 0 14 [x] H) := by
  obtain ⟨k,rfl⟩ : ∃ q,k = q + 1 := ⟨k - 1,by omega⟩
  have hl := len_ev hx
  rw [E14]
  simp only [L14,hl,N14_2,N14_3,purK_some]
  have s0 : Sg Nop H [] [⟨9,1,.nils,[]⟩] H := (St.start Nop H).sg.nils 9 1
  refine Ret.loop (fun m (y : AV × AV) H' => ∃ (i : Nat) (xl : AV),y = (xl,.int .i64 i) ∧ m = ds.length - i ∧ i ≤ ds.length ∧ Sg Nop H [] [⟨9,1,xl,lrow ((ds.take i).map fun e => e.op.key)⟩] H') ?_ ds.length k _ H ⟨0,.nils,rfl,by omega,by omega,s0⟩ (by omega)
  rintro m y H' kn ⟨i,xl,rfl,hm,hi,s⟩ next
  by_cases h : i < ds.length
  · have h' : (i : Int) < (ds.length : Nat) := by omega
    obtain ⟨e1,e2⟩ := el_ev (hx.frame0 s.fr) i h
    obtain ⟨d,hd⟩ : ∃ d,d = ds[i] := ⟨_,rfl⟩
    rw [← hd] at e2
    have w : wrapK .i64 ((i : Int) + 1) = ((i + 1 : Nat) : Int) := wrap_succN i (by omega)
    simp only [N14_3b,h',e1,e2,purK_some,condK_true,bin_add,bin_lss,decide_true]
    refine s.var rfl rfl d.solid fun n8 H3 s3 z3 f3 => ?_
    have b1 : ∀ H : Heap,bldS H 9 1 [.str (ba [])] 1 [(0,1,.str (ba d.op.key))] = some (.sl H.sz 0 0 1 1 false,.new (.cells 0 9 (0,0) false [.str (ba d.op.key)])) := fun H => rfl
    simp only [ld1_ptr,s3.at 0 rfl,ec1,b1,Nat.zero_add,purK_some,addA_ptr,emp2]
    refine s3.newS fun n9 H4 s4 z4 f4 => ?_
    have hE9 : Els ρ H4 1 (.sl n9 0 0 1 1 false) [[.str (ba d.op.key)]] := Els.of_cells (els := [[.str (ba d.op.key)]]) (s4.lt' 1 rfl) (by rw [s4.at 1 rfl]; rfl) (by intro r hr; simp at hr; subst hr; rfl)
    have hlt : (lrow ((ds.take i).map fun e => e.op.key)).length = i := by rw [lrow_len,List.length_map,List.length_take]; omega
    refine s4.app 0 rfl hE9 (by intro r hr; simp at hr; subst hr; simp [sol_str]) (by rw [hlt]; simp; clear w; omega) (by rw [hlt]; simp; clear w; omega) fun xl' H6 s6 f6 hl6 hs6 => ?_
    simp only [w]
    clear w
    refine next (m - 1) _ H6 (by omega) ⟨i + 1,xl',rfl,by omega,by omega,?_⟩
    have e : lrow ((ds.take (i + 1)).map fun e => e.op.key) = lrow ((ds.take i).map fun e => e.op.key) ++ [[.str (ba d.op.key)]] := by
      rw [List.take_succ_eq_append_getElem h,List.map_append,← lrow_snoc,← hd]; rfl
    rw [e]
    exact s6.drop (L := []) (R := [_,_])
  · have : i = ds.length := by omega
    subst this
    have h' : ¬ ((ds.length : Nat) : Int) < (ds.length : Nat) := by omega
    rw [List.take_length] at s
    have hT : TS H' xl (ds.map fun e => e.op.key).toArray := s.gg 0 rfl
    have hsz : (ds.map fun e => e.op.key).toArray.size = ds.length := by simp
    have own : ∀ l,xl.lies l → H.sz ≤ l := fun l hl => ((s.own ⟨9,1,xl,lrow (ds.map fun e => e.op.key)⟩ (by simp)) l hl).resolve_left fun q => q
    simp only [N14_3b,N14_1,h',purK_some,condK_false,retK_one,bin_add,bin_lss,decide_false]
    refine Ret.bind (sort_spec (by omega) hT (by omega)) ?_
    rintro v H2 ⟨R,tR,pR,sR,f2⟩
    have hR : R.size = ds.length := by rw [pR.1,hsz]
    refine Ret.bind (compact_spec (by omega) tR (by omega)) ?_
    rintro v H3 ⟨hE,hli,f3⟩
    try simp only [purK_some,resK_some,boolK_some,condK_true,condK_false,wantV_tt,wantV_tf,wantV_ft,wantV_ff,wantV_t,wantV_f,wantV_skip,Bool.not_true,Bool.not_false,gPur_true,gPur_false,gEff_true,gEff_false,gRes_true,gRes_false,pickA_true,pickA_false,extA_0,extA_1,extA_2,retK_one,retK_none,retK_two,valK_fn,valR_fn,cnd_true,cnd_false,bin_add,bin_sub,bin_mul,bin_eql,bin_neq,bin_lss,bin_leq,bin_gtr,bin_geq,bin_seql,bin_sneq,un_not_t,un_not_f,un_not,cvI_int,cvT_str,nilChk_ptr,nilChk_xp,addA_ptr,lenT_str,Bool.true_or,Bool.or_true,Bool.false_or,Bool.or_false,Bool.true_and,Bool.and_true,Bool.false_and,Bool.and_false,decide_true,decide_false,Int.reduceEq,Int.reduceLT,Int.reduceLE,Int.reduceNe,Int.reduceAdd,Int.reduceSub,Int.reduceMul,Int.reduceNeg,List.nil_append,List.append_nil,List.cons_append]
    refine .intro ⟨dn R R.size,hE,⟨dn_asc R R.size (by rw [hR,← hsz]; exact sR),fun q => ?_,by have := dn_len R R.size; omega⟩,fun l hl => own l (hli l hl),(s.fr.trans' f2 fun l hl q => by have := own l q; omega).trans' f3 fun l hl q => by have := own l q; omega⟩
    have hmem : q ∈ R.toList ↔ q ∈ ds.map fun e => e.op.key := by
      have p := pR.2.2
      have e1 : R.extract 0 (ds.map fun e => e.op.key).toArray.size = R := by rw [← pR.1,Array.extract_size]
      have e2 : (ds.map fun e => e.op.key).toArray.extract 0 (ds.map fun e => e.op.key).toArray.size = (ds.map fun e => e.op.key).toArray := Array.extract_size
      rw [e1,e2] at p
      exact p.mem_iff
    have e3 : (∃ e ∈ ds,e.op.key = q) ↔ q ∈ ds.map fun e => e.op.key := by rw [List.mem_map]
    rw [e3,← hmem,dn_mem,Array.mem_toList_iff,Array.mem_iff_getElem]
    constructor
    · rintro ⟨j,hj,e⟩; exact ⟨j,hj,by rw [← e,getElem!_pos R j hj]⟩
    · rintro ⟨j,hj,e⟩; exact ⟨j,hj,by rw [← e,getElem!_pos R j hj]⟩
end
end Go.Proofs.Ytkmohjddojpdjab

-- part HyK
/- A history is checked; which are far. -/
set_option linter.unusedVariables false
set_option linter.unusedSimpArgs false
namespace Go.Proofs.Ytkmohjddojpdjab
attribute [local congr] Go.Ev.cond_congr1
open Go.Ev Go.RowKit
/-- A key's events can be put in an order. -/
def Hld (ds : List EvB) (key : List UInt8) : Prop := ∃ n,Whole (evsOf ds key) n
section
variable {ρ : Addr → Option Value} {k : Nat} {H : Heap} {x : AV}
theorem el_key {ks : List (List UInt8)} (hX : Els ρ H 1 x (lrow ks)) (i : Nat) (h : i < ks.length) : ixS 1 x (.int .i64 i) = some (elp 1 x i 0) ∧ ld1 ρ H (elp 1 x i 0) = some (.str (ba ks[i])) := by
  have e1 := hX.ix .i64 i (by omega) (by rw [lrow_len]; omega)
  rw [Int.toNat_natCast] at e1
  refine ⟨e1,?_⟩
  have := hX.ld1 i 0 (by rw [lrow_len]; exact h) (by decide)
  rw [this]; simp [lrow]
theorem len_key {ks : List (List UInt8)} (hX : Els ρ H 1 x (lrow ks)) : lenS x = some (.int .i64 ks.length) := by have := hX.lenS; rwa [lrow_len] at this
/-- What Order tells, where the events are few. -/
theorem order_spec2 (ds : List EvB) (key : List UInt8) (hx : Els ρ H 8 x (ds.map EvB.cells)) (hlen : ds.length ≤ 1000) (h16 : (evsOf ds key).length ≤ 16) (hk : 300000000000 ≤ k) :
    Ret (fun v H' => Fr Nop H H' ∧ ((rightL ds = false ∧ v = .tup [.nils,.bool false,.int .i64 1]) ∨ (rightL ds = true ∧ ¬ Hld ds key ∧ v = .tup [.nils,.bool false,.int .i64 0]) ∨
      (rightL ds = true ∧ ∃ n π y,Whole (evsOf ds key) n ∧ Pth (evsOf ds key) nd0 π n ∧ v = .tup [y,.bool true,.int .i64 0] ∧ (∀ ρ,Els ρ H' 1 y (irow (posOf (atsOf ds key) π)))))) (evCall (cx ρ) k 0 5 [x,.str (ba key)] H) := by
  refine (order_spec ds key hx hlen hk).mono ?_
  rintro v H' ⟨(⟨h1,rfl⟩ | ⟨h1,h2,h3⟩ | ⟨h1,h2,h3,rfl⟩ | ⟨h1,h2,n,π,y,h3,h4,rfl,h5,h6⟩),f⟩
  · exact ⟨f,Or.inl ⟨h1,rfl⟩⟩
  · omega
  · exact ⟨f,Or.inr (Or.inl ⟨h1,fun ⟨n,hn⟩ => h3 n hn,rfl⟩)⟩
  · exact ⟨f,Or.inr (Or.inr ⟨h1,n,π,y,h3,h4,rfl,h5⟩)⟩
/-- What Check tells. -/
def CheckAns (ds : List EvB) (H : Heap) (v : AV) (H' : Heap) : Prop := Fr Nop H H' ∧ ((rightL ds = false ∧ v = .tup [.bool false,.int .i64 1]) ∨ (rightL ds = true ∧ ∃ b : Bool,v = .tup [.bool b,.int .i64 0] ∧ (b = true ↔ ∀ e ∈ ds,Hld ds e.op.key)))
theorem check_spec (ds : List EvB) (hx : Els ρ H 8 x (ds.map EvB.cells)) (hlen : ds.length ≤ 1000) (h16 : ∀ key,(evsOf ds key).length ≤ 16) (hk : 400000000000 ≤ k) :
    Ret (CheckAns ds H) (evCall (cx ρ) k 0 7 [x] H) := by
  obtain ⟨k,rfl⟩ : ∃ q,k = q + 1 := ⟨k - 1,by omega⟩
  rw [E7]
  simp only [L7]
  refine Ret.bind (right_spec ds hx (by omega) (by omega)) ?_
  rintro v H1 ⟨rfl,f1⟩
  cases hr : rightL ds with
  | false =>
    simp only [purK_some,condK_true,Bool.not_false,retK_two,un_not]
    exact .intro ⟨f1,Or.inl ⟨hr,rfl⟩⟩
  | true =>
    simp only [purK_some,condK_false,Bool.not_true,retK_two,un_not]
    refine Ret.bind (keys_spec ds (hx.frame0 f1) hlen (by omega)) ?_
    rintro v H2 ⟨ks,hE,hK,own,f2⟩
    have hlk := len_key (hE ρ)
    have hkl : ks.length ≤ 1000 := by have := hK.2.2; omega
    simp only [hlk,N7_2,N7_3,purK_some]
    refine Ret.loop (fun m (y : AV × AV) H' => ∃ (i : Nat) (b : Bool),y = (.bool b,.int .i64 i) ∧ m = ks.length - i ∧ i ≤ ks.length ∧ Fr Nop H2 H' ∧ (b = true ↔ ∀ q ∈ ks.take i,Hld ds q)) ?_ ks.length k _ H2 ⟨0,true,rfl,by omega,by omega,Fr.refl ..,by simp⟩ (by omega)
    rintro m y H3 kn ⟨i,b,rfl,hm,hi,fr,hb⟩ next
    by_cases h : i < ks.length
    · have h' : (i : Int) < (ks.length : Nat) := by omega
      obtain ⟨e1,e2⟩ := el_key ((hE ρ).frame0 fr) i h
      have w : wrapK .i64 ((i : Int) + 1) = ((i + 1 : Nat) : Int) := wrap_succN i (by omega)
      have ht : (∀ q ∈ ks.take (i + 1),Hld ds q) ↔ (∀ q ∈ ks.take i,Hld ds q) ∧ Hld ds ks[i] := by
        rw [List.take_succ_eq_append_getElem h]
        constructor
        · intro q; exact ⟨fun a ha => q a (List.mem_append_left _ ha),q _ (List.mem_append_right _ (List.mem_singleton.2 rfl))⟩
        · rintro ⟨q1,q2⟩ a ha
          rcases List.mem_append.1 ha with ha | ha
          · exact q1 a ha
          · rw [List.mem_singleton] at ha; rw [ha]; exact q2
      simp only [N7_3b,h',e1,e2,purK_some,condK_true,wantV_t,retK_two,bin_add,bin_lss,decide_true]
      refine Ret.bind (order_spec2 ds ks[i] (((hx.frame0 f1).frame0 f2).frame0 fr) hlen (h16 _) (by clear w; omega)) ?_
      have c0 : ¬ (0 : Int) ≠ 0 := by decide
      rintro v H4 ⟨f4,(⟨h1,_⟩ | ⟨_,h2,rfl⟩ | ⟨_,n,π,y,h2,h3,rfl,h4⟩)⟩
      · rw [hr] at h1; cases h1
      · have step : Ret (CheckAns ds H) (kn (.bool false,.int .i64 ((i + 1 : Nat) : Int)) H4) :=
          next (m - 1) _ H4 (by clear w; omega) ⟨i + 1,false,rfl,by clear w; omega,by clear w; omega,fr.trans f4,⟨fun q => (Bool.false_ne_true q).elim,fun q => absurd (ht.1 q).2 h2⟩⟩
        cases b <;> (simp only [c0,w,purK_some,condK_false,gPur_true,gPur_false,pickA_true,pickA_false,extA_0,extA_1,extA_2,bin_neq,decide_false]; exact step)
      · have step : Ret (CheckAns ds H) (kn (.bool b,.int .i64 ((i + 1 : Nat) : Int)) H4) :=
          next (m - 1) _ H4 (by clear w; omega) ⟨i + 1,b,rfl,by clear w; omega,by clear w; omega,fr.trans f4,⟨fun q => ht.2 ⟨hb.1 q,n,h2⟩,fun q => hb.2 (ht.1 q).1⟩⟩
        cases b <;> (simp only [c0,w,purK_some,condK_false,gPur_true,gPur_false,pickA_true,pickA_false,extA_0,extA_1,extA_2,bin_neq,decide_false]; exact step)
    · have : i = ks.length := by omega
      subst this
      have h' : ¬ ((ks.length : Nat) : Int) < (ks.length : Nat) := by omega
      rw [List.take_length] at hb
      simp only [N7_3b,N7_1,h',purK_some,condK_false,wantV_t,retK_two,bin_add,bin_lss,decide_false]
      refine .intro ⟨(f1.trans f2).trans fr,Or.inr ⟨hr,b,rfl,?_⟩⟩
      rw [hb]
      exact ⟨fun q e he => q _ ((hK.2.1 _).2 ⟨e,he,rfl⟩),fun q s hs => by obtain ⟨e,he,rfl⟩ := (hK.2.1 s).1 hs; exact q e he⟩
end
end Go.Proofs.Ytkmohjddojpdjab

-- part HyL
/- The reference's: a key's events; which ends there are. -/
set_option linter.unusedVariables false
set_option linter.unusedSimpArgs false
namespace Go.Proofs.Ytkmohjddojpdjab
attribute [local congr] Go.Ev.cond_congr1
open Go.Ev Go.RowKit
/-- An event in its place. -/
structure EvAt (ρ : Addr → Option Value) (H : Heap) (x : AV) (i : Nat) (d : EvB) : Prop where
  ix : ixS 8 x (.int .i64 i) = some (elp 8 x i 0)
  a0 : addA 0 (elp 8 x i 0) = some (elp 8 x i 0)
  a1 : addA 1 (elp 8 x i 0) = some (elp 8 x i 1)
  a4 : addA 4 (elp 8 x i 0) = some (elp 8 x i 4)
  a40 : addA 0 (elp 8 x i 4) = some (elp 8 x i 4)
  a6 : addA 6 (elp 8 x i 0) = some (elp 8 x i 6)
  a7 : addA 7 (elp 8 x i 0) = some (elp 8 x i 7)
  l1 : ld1 ρ H (elp 8 x i 1) = some (.str (ba d.op.key))
  l4 : ld1 ρ H (elp 8 x i 4) = some (.int .i64 d.out.code)
  l6 : ld1 ρ H (elp 8 x i 6) = some (.int .i64 d.frm)
  l7 : ld1 ρ H (elp 8 x i 7) = some (.int .i64 d.to)
  n8 : ldN ρ H 8 (elp 8 x i 0) = some (.agg d.cells)
  n4 : ldN ρ H 4 (elp 8 x i 0) = some (.agg d.op.cells)
  n2 : ldN ρ H 2 (elp 8 x i 4) = some (.agg d.out.cells)
theorem EvAt.of {ρ : Addr → Option Value} {H : Heap} {x : AV} {ds : List EvB} (hX : Els ρ H 8 x (ds.map EvB.cells)) (i : Nat) (h : i < ds.length) : EvAt ρ H x i ds[i] := by
  have hm : i < (ds.map EvB.cells).length := by rw [List.length_map]; exact h
  have add : ∀ a n,addA n (elp 8 x i a) = some (elp 8 x i (a + n)) := fun a n => elp_add hX i a n hm
  have ld : ∀ o v,o < 8 → ds[i].cells[o]? = some v → ld1 ρ H (elp 8 x i o) = some v := fun o v ho e => by
    rw [hX.ld1 i o hm ho]; simpa using e
  have ldn : ∀ o n v,o + n ≤ 8 → (ds[i].cells.drop o).take n = v → ldN ρ H n (elp 8 x i o) = some (.agg v) := fun o n v ho e => by
    rw [hX.ldSub i o n hm ho]; simpa using e
  refine ⟨(el_ev hX i h).1,add 0 0,add 0 1,add 0 4,add 4 0,add 0 6,add 0 7,ld 1 _ (by decide) rfl,ld 4 _ (by decide) rfl,ld 6 _ (by decide) rfl,ld 7 _ (by decide) rfl,(el_ev hX i h).2,ldn 0 4 _ (by decide) rfl,ldn 4 2 _ (by decide) rfl⟩
/-- Those of a key's events that the reference looks at. -/
def osOf (ds : List EvB) (key : List UInt8) : List EvB := (evsOf ds key).filter fun e => !e.full
theorem evsOf_take (ds : List EvB) (key : List UInt8) (i : Nat) (h : i < ds.length) : evsOf (ds.take (i + 1)) key = if ds[i].op.key = key then evsOf (ds.take i) key ++ [ds[i]] else evsOf (ds.take i) key := by
  unfold evsOf; rw [subE_take ds key i h]; split
  · rw [List.map_append]; rfl
  · rfl
theorem osOf_take (ds : List EvB) (key : List UInt8) (i : Nat) (h : i < ds.length) : osOf (ds.take (i + 1)) key = if ds[i].op.key = key ∧ ds[i].full = false then osOf (ds.take i) key ++ [ds[i]] else osOf (ds.take i) key := by
  unfold osOf; rw [evsOf_take ds key i h]
  by_cases q : ds[i].op.key = key
  · rw [if_pos q,List.filter_append]
    cases hf : ds[i].full with
    | true => rw [if_neg (by simp)]; simp [hf]
    | false => rw [if_pos ⟨q,rfl⟩]; simp [hf]
  · rw [if_neg q,if_neg (fun f => q f.1)]
theorem osOf_len (ds : List EvB) (key : List UInt8) : (osOf ds key).length ≤ ds.length := Nat.le_trans (List.length_filter_le _ _) (evsOf_len ds key)
section
variable {ρ : Addr → Option Value} {k : Nat} {H : Heap} {x : AV}
end
end Go.Proofs.Ytkmohjddojpdjab

-- part HyM
/- The reference's: which ends there are. -/
set_option linter.unusedVariables false
set_option linter.unusedSimpArgs false
namespace Go.Proofs.Ytkmohjddojpdjab
attribute [local congr] Go.Ev.cond_congr1
open Go.Ev Go.RowKit
/-- No other that is left ended before it began. -/
def Free (os : List EvB) (used : List Bool) (i : Nat) (x : EvB) (n : Nat) : Prop := ∀ j y,j < n → os[j]? = some y → used[j]? = some false → j ≠ i → 0 < y.to → ¬ y.to < x.frm
/-- None is left that must be. -/
def MayStop (os : List EvB) (used : List Bool) (n : Nat) : Prop := ∀ j y,j < n → os[j]? = some y → used[j]? = some false → ¬ 0 < y.to
inductive Fin (os : List EvB) : List Bool → HasB → Prop
  | stop {used : List Bool} {h : HasB} : MayStop os used os.length → Fin os used h
  | step {used : List Bool} {h : HasB} {i : Nat} {x : EvB} : os[i]? = some x → used[i]? = some false → Free os used i x os.length → (0 < x.to → (applyH h x.op).2 = x.out) → Fin os (used.set i true) (applyH h x.op).1 → Fin os used h
def GoI (os : List EvB) (used : List Bool) (h : HasB) (i : Nat) : Prop := ∃ x,os[i]? = some x ∧ used[i]? = some false ∧ Free os used i x os.length ∧ (0 < x.to → (applyH h x.op).2 = x.out) ∧ Fin os (used.set i true) (applyH h x.op).1
theorem fin_iff (os : List EvB) (used : List Bool) (h : HasB) : Fin os used h ↔ MayStop os used os.length ∨ ∃ i,i < os.length ∧ GoI os used h i := by
  constructor
  · rintro (h1 | ⟨h1,h2,h3,h4,h5⟩)
    · exact Or.inl h1
    · exact Or.inr ⟨_,(List.getElem?_eq_some_iff.1 h1).1,_,h1,h2,h3,h4,h5⟩
  · rintro (h1 | ⟨i,_,x,h1,h2,h3,h4,h5⟩)
    · exact .stop h1
    · exact .step h1 h2 h3 h4 h5
/-- .. with what is had at the end. -/
inductive FinV (os : List EvB) : List Bool → HasB → HasB → Prop
  | stop {used : List Bool} {h : HasB} : MayStop os used os.length → FinV os used h h
  | step {used : List Bool} {h g : HasB} {i : Nat} {x : EvB} : os[i]? = some x → used[i]? = some false → Free os used i x os.length → (0 < x.to → (applyH h x.op).2 = x.out) → FinV os (used.set i true) (applyH h x.op).1 g → FinV os used h g
def GoV (os : List EvB) (used : List Bool) (h g : HasB) (i : Nat) : Prop := ∃ x,os[i]? = some x ∧ used[i]? = some false ∧ Free os used i x os.length ∧ (0 < x.to → (applyH h x.op).2 = x.out) ∧ FinV os (used.set i true) (applyH h x.op).1 g
theorem finv_iff (os : List EvB) (used : List Bool) (h g : HasB) : FinV os used h g ↔ (MayStop os used os.length ∧ g = h) ∨ ∃ i,i < os.length ∧ GoV os used h g i := by
  constructor
  · rintro (h1 | ⟨h1,h2,h3,h4,h5⟩)
    · exact Or.inl ⟨h1,rfl⟩
    · exact Or.inr ⟨_,(List.getElem?_eq_some_iff.1 h1).1,_,h1,h2,h3,h4,h5⟩
  · rintro (⟨h1,rfl⟩ | ⟨i,_,x,h1,h2,h3,h4,h5⟩)
    · exact .stop h1
    · exact .step h1 h2 h3 h4 h5
theorem fin_ex (os : List EvB) (used : List Bool) (h : HasB) : Fin os used h ↔ ∃ g,FinV os used h g := by
  constructor
  · intro F
    induction F with
    | stop h1 => exact ⟨_,.stop h1⟩
    | step h1 h2 h3 h4 _ ih => obtain ⟨g,hg⟩ := ih; exact ⟨g,.step h1 h2 h3 h4 hg⟩
  · rintro ⟨g,F⟩
    induction F with
    | stop h1 => exact .stop h1
    | step h1 h2 h3 h4 _ ih => exact .step h1 h2 h3 h4 ih
theorem cnt_set : ∀ (l : List Bool) (i : Nat),l[i]? = some false → (l.set i true).count false + 1 = l.count false
  | [],i,h => by simp at h
  | a :: r,0,h => by simp at h; subst h; simp
  | a :: r,i + 1,h => by
    have := cnt_set r i (by simpa using h)
    rw [List.set_cons_succ,List.count_cons,List.count_cons]; omega
theorem cnt_take (l : List Bool) (i : Nat) (h : i < l.length) : (l.take (i + 1)).count false = (l.take i).count false + if l[i] = false then 1 else 0 := by
  rw [List.take_succ_eq_append_getElem h,List.count_append]
  cases l[i] <;> simp
def brw (l : List Bool) : List (List AV) := l.map fun b => [AV.bool b]
theorem brw_len (l : List Bool) : (brw l).length = l.length := by unfold brw; rw [List.length_map]
theorem brw_set (l : List Bool) (i : Nat) (b : Bool) : (brw l).set i [.bool b] = brw (l.set i b) := by unfold brw; rw [List.map_set]
section
variable {ρ : Addr → Option Value} {k : Nat} {H : Heap} {x0 x1 : AV} {Q : AV → Heap → Prop}
theorem el_b {l : List Bool} (hX : Els ρ H 1 x1 (brw l)) (i : Nat) (h : i < l.length) : ixS 1 x1 (.int .i64 i) = some (elp 1 x1 i 0) ∧ ld1 ρ H (elp 1 x1 i 0) = some (.bool l[i]) := by
  have e1 := hX.ix .i64 i (by omega) (by rw [brw_len]; omega)
  rw [Int.toNat_natCast] at e1
  refine ⟨e1,?_⟩
  have := hX.ld1 i 0 (by rw [brw_len]; exact h) (by decide)
  rw [this]; simp [brw]
end
end Go.Proofs.Ytkmohjddojpdjab

-- part HyN
/- The reference's: which ends there are: the walk. -/
set_option linter.unusedVariables false
set_option linter.unusedSimpArgs false
namespace Go.Proofs.Ytkmohjddojpdjab
attribute [local congr] Go.Ev.cond_congr1
open Go.Ev Go.RowKit
/-- What Ends tells. -/
def EndsAns (os : List EvB) (used : List Bool) (h : HasB) (H : Heap) (v : AV) (H' : Heap) : Prop :=
  ∃ rows : List HasB,(∀ ρ,Els ρ H' 2 v (rows.map HasB.cells)) ∧ (rows ≠ [] ↔ Fin os used h) ∧ rows.length ≤ 8 ^ (used.count false) ∧ Fr Nop H H' ∧ ∀ g,g ∈ rows ↔ FinV os used h g
section
variable {Q : AV → Heap → Prop} {K : AV → Heap → Res} {H H0 : Heap} {S : Nat → Prop} {L : List (Nat × AObj)} {G : List GS}
/-- A cell of the last slice is written. -/
theorem Sg.stLast {g : GS} (s : Sg S H0 L (G ++ [g]) H) (hz : g.sz = 1) (j : Nat) (hj : j < g.els.length) {a : AV} (ha : Ev.scal a = true)
    (hk : ∀ H1,Sg S H0 L G H1 → GG H1 g.e 1 g.x (g.els.set j [a]) → Fr g.x.lies H H1 → Ret Q (K (.tup []) H1)) : Ret Q (effK H (stA 0 H 1 (elp 1 g.x j 0) a) K) := by
  have hm : g ∈ G ++ [g] := by simp
  have hg := s.gr g hm
  rw [hz] at hg
  refine hg.st1 j hj ha fun H1 g1 z1 f1 => hk H1 (s.dropG.frame f1 (fun q hq => s.off g hm q hq) (fun l hl hli => (s.own g hm l hli).resolve_right (by omega)) (fun g' hg' l hl hl2 => ?_)) g1 f1
  exact (List.pairwise_append.1 s.dis).2.2 g' hg' g (by simp) l hl hl2
end
section
variable {ρ : Addr → Option Value}
end
end Go.Proofs.Ytkmohjddojpdjab

-- part HyO
/- The plain law: a whole node is to be reached where the reference finds an end. -/
set_option linter.unusedVariables false
set_option linter.unusedSimpArgs false
namespace Go.Proofs.Ytkmohjddojpdjab
open Go.Ev Go.RowKit
-- where a key's events are
theorem zip_get {α : Type} (l : List α) (e : α × Nat) : e ∈ l.zipIdx ↔ l[e.2]? = some e.1 := by
  rw [List.mem_zipIdx_iff_getElem?]
theorem sub_mem (ds : List EvB) (key : List UInt8) (e : EvB × Nat) : e ∈ subE ds key ↔ ds[e.2]? = some e.1 ∧ e.1.op.key = key := by
  unfold subE; rw [List.mem_filter,zip_get]; simp
theorem zip_pw {α : Type} : ∀ (l : List α) (k : Nat),(l.zipIdx k).Pairwise fun a b => a.2 < b.2
  | [],k => by simp
  | a :: r,k => by
    rw [List.zipIdx_cons,List.pairwise_cons]
    refine ⟨fun b hb => ?_,zip_pw r (k + 1)⟩
    have := List.le_snd_of_mem_zipIdx hb
    omega
theorem pw_inj {α : Type} {l : List (α × Nat)} (h : l.Pairwise fun a b => a.2 < b.2) {i j : Nat} {a b : α × Nat} (hi : l[i]? = some a) (hj : l[j]? = some b) (e : a.2 = b.2) : i = j := by
  obtain ⟨hi1,hi2⟩ := List.getElem?_eq_some_iff.1 hi
  obtain ⟨hj1,hj2⟩ := List.getElem?_eq_some_iff.1 hj
  rw [List.pairwise_iff_getElem] at h
  rcases Nat.lt_trichotomy i j with q | q | q
  · have := h i j hi1 hj1 q; rw [hi2,hj2] at this; omega
  · exact q
  · have := h j i hj1 hi1 q; rw [hi2,hj2] at this; omega
theorem ats_at {ds : List EvB} {key : List UInt8} {i : Nat} {d : EvB} (h : (evsOf ds key)[i]? = some d) : ∃ q,(atsOf ds key)[i]? = some q ∧ ds[q]? = some d ∧ d.op.key = key := by
  unfold evsOf at h
  rw [List.getElem?_map,Option.map_eq_some_iff] at h
  obtain ⟨e,he,rfl⟩ := h
  obtain ⟨h1,h2⟩ := (sub_mem ds key e).1 (List.mem_of_getElem? he)
  exact ⟨e.2,by unfold atsOf; rw [List.getElem?_map,he]; rfl,h1,h2⟩
theorem ats_inj {ds : List EvB} {key : List UInt8} {i j q : Nat} (hi : (atsOf ds key)[i]? = some q) (hj : (atsOf ds key)[j]? = some q) : i = j := by
  unfold atsOf at hi hj
  rw [List.getElem?_map,Option.map_eq_some_iff] at hi hj
  obtain ⟨a,ha,ha2⟩ := hi
  obtain ⟨b,hb,hb2⟩ := hj
  exact pw_inj ((zip_pw ds 0).filter _) ha hb (by rw [ha2,hb2])
theorem ats_sur {ds : List EvB} {key : List UInt8} {q : Nat} {e : EvB} (h : ds[q]? = some e) (hk : e.op.key = key) : ∃ i : Nat,(atsOf ds key)[i]? = some q ∧ (evsOf ds key)[i]? = some e := by
  have hm : (e,q) ∈ subE ds key := (sub_mem ds key (e,q)).2 ⟨h,hk⟩
  obtain ⟨i,hi⟩ := List.getElem?_of_mem hm
  exact ⟨i,by unfold atsOf; rw [List.getElem?_map,hi]; rfl,by unfold evsOf; rw [List.getElem?_map,hi]; rfl⟩
theorem evs_mem {ds : List EvB} {key : List UInt8} {d : EvB} (h : d ∈ evsOf ds key) : d ∈ ds := by
  unfold evsOf at h
  obtain ⟨e,he,rfl⟩ := List.mem_map.1 h
  exact List.mem_of_getElem? ((sub_mem ds key e).1 he).1
theorem ok_of {ds : List EvB} (h : rightL ds = true) {d : EvB} (hd : d ∈ ds) : 1 ≤ d.op.kind ∧ d.op.kind ≤ 4 ∧ (0 < d.to → d.frm < d.to) := by
  have := List.all_eq_true.1 h d hd
  unfold EvB.ok at this
  simp only [Bool.and_eq_true,Bool.or_eq_true,decide_eq_true_eq] at this
  obtain ⟨⟨⟨h1,h2⟩,h3⟩,h4⟩ := this
  exact ⟨h1,h2,fun q => by omega⟩
theorem must_of {d : EvB} (h1 : 0 < d.to) (h2 : d.full = false) : d.must = true := by
  unfold EvB.full at h2
  unfold EvB.must
  rw [decide_eq_true h1] at h2 ⊢
  simpa using h2
theorem of_must {d : EvB} (h : d.must = true) : 0 < d.to ∧ d.full = false := by
  unfold EvB.must at h
  unfold EvB.full
  simp only [Bool.and_eq_true,decide_eq_true_eq,Bool.not_eq_true',decide_eq_false_iff_not] at h
  exact ⟨h.1,by rw [decide_eq_false h.2,Bool.and_false]⟩
theorem mask_get (l : List Bool) (j : Nat) : (maskL l).testBit j = true ↔ l[j]? = some true := by
  rw [maskL_bit,List.getD_eq_getElem?_getD]
  cases l[j]? with
  | none => simp
  | some b => simp
theorem ahead_bit (s : List EvB) (x : EvB) (j : Nat) : (maskL (aheadL s x)).testBit j = true ↔ ∃ y,s[j]? = some y ∧ y.must = true ∧ y.to < x.frm := by
  rw [mask_get]; unfold aheadL; rw [List.getElem?_map]
  cases s[j]? with
  | none => simp
  | some y => simp
theorem must_bit (s : List EvB) (j : Nat) : (maskL (mustL s)).testBit j = true ↔ ∃ y,s[j]? = some y ∧ y.must = true := by
  rw [mask_get]; unfold mustL; rw [List.getElem?_map]
  cases s[j]? with
  | none => simp
  | some y => simp
-- a node is closed: none that is out ended before one that is in began
theorem rch_closed {s : List EvB} {a : Nd} (h : Rch s a) : ∀ i j x y,a.1.testBit i = true → s[i]? = some x → s[j]? = some y → a.1.testBit j = false → y.must = true → ¬ y.to < x.frm := by
  induction h with
  | start => intro i j x y h; simp [nd0] at h
  | step hr he ih =>
    rename_i n n' i0
    obtain ⟨x0,hx0,hfull,hbit,hsub,hout,rfl⟩ := mayN_some he
    intro i j x y hi hx hy hj hm hlt
    simp only [or_pow_bit,Bool.or_eq_true,decide_eq_true_eq,Bool.or_eq_false_iff,decide_eq_false_iff_not] at hi hj
    rcases hi with hi | rfl
    · exact ih i j x y hi hx hy hj.1 hm hlt
    · rw [hx0] at hx
      obtain rfl := Option.some.inj hx
      have := subM_iff.1 hsub j ((ahead_bit s x0 j).2 ⟨y,hy,hm,hlt⟩)
      rw [hj.1] at this; cases this
theorem Pth.snocRch {s : List EvB} {a c : Nd} {π : List Nat} (h : Pth s a π c) (ha : Rch s a) : Rch s c := by
  induction h with
  | nil => exact ha
  | cons hm _ ih => exact ih (.step ha hm)
theorem Pth.out {s : List EvB} {a c : Nd} {π : List Nat} (h : Pth s a π c) : π.Nodup ∧ ∀ i ∈ π,a.1.testBit i = false := by
  induction h with
  | nil => simp
  | cons hm hp ih =>
    rename_i a b c i π
    obtain ⟨x,hx,hfull,hbit,hsub,hout,rfl⟩ := mayN_some hm
    obtain ⟨h1,h2⟩ := ih
    have q : ∀ j ∈ π,a.1.testBit j = false ∧ i ≠ j := fun j hj => by
      have := h2 j hj
      simpa only [or_pow_bit,Bool.or_eq_false_iff,decide_eq_false_iff_not] using this
    refine ⟨List.nodup_cons.2 ⟨fun hi => (q i hi).2 rfl,h1⟩,?_⟩
    intro j hj
    rcases List.mem_cons.1 hj with rfl | hj
    · exact hbit
    · exact (q j hj).1
theorem Pth.len {s : List EvB} {a c : Nd} {π : List Nat} (h : Pth s a π c) : π.length ≤ s.length := by
  have := nodup_le π (List.range s.length) h.out.1 fun i hi => List.mem_range.2 (h.lt i hi)
  rwa [List.length_range] at this
-- those that are not full
def zOf (s : List EvB) : List (EvB × Nat) := s.zipIdx.filter fun e => !e.1.full
theorem z_mem (s : List EvB) (e : EvB × Nat) : e ∈ zOf s ↔ s[e.2]? = some e.1 ∧ e.1.full = false := by
  unfold zOf; rw [List.mem_filter,zip_get]; simp
theorem filter_zip {α : Type} (p : α → Bool) : ∀ (l : List α) (k : Nat),((l.zipIdx k).filter fun e => p e.1).map Prod.fst = l.filter p
  | [],k => by simp
  | a :: r,k => by
    rw [List.zipIdx_cons,List.filter_cons,List.filter_cons]
    cases hp : p a with
    | true => simp [filter_zip p r (k + 1)]
    | false => simp [filter_zip p r (k + 1)]
def osF (s : List EvB) : List EvB := s.filter fun e => !e.full
theorem os_z (s : List EvB) : (zOf s).map Prod.fst = osF s := filter_zip (fun e : EvB => !e.full) s 0
def usF (s : List EvB) (m : Nat) : List Bool := (zOf s).map fun e => m.testBit e.2
theorem us_len (s : List EvB) (m : Nat) : (usF s m).length = (osF s).length := by rw [← os_z]; unfold usF; rw [List.length_map,List.length_map]
theorem us0 (s : List EvB) : usF s 0 = List.replicate (osF s).length false := by
  rw [← us_len s 0]
  refine List.eq_replicate_iff.2 ⟨rfl,?_⟩
  intro b hb
  unfold usF at hb
  obtain ⟨e,_,rfl⟩ := List.mem_map.1 hb
  simp
theorem us_set {s : List EvB} {z m : Nat} {e : EvB × Nat} (h : (zOf s)[z]? = some e) : usF s (m ||| 2 ^ e.2) = (usF s m).set z true := by
  apply List.ext_getElem?
  intro j
  rw [List.getElem?_set]
  unfold usF
  rw [List.getElem?_map,List.getElem?_map,List.length_map]
  obtain ⟨hz,he⟩ := List.getElem?_eq_some_iff.1 h
  by_cases q : z = j
  · subst q
    rw [if_pos rfl,if_pos hz,h]
    simp []
  · rw [if_neg q]
    cases hj : (zOf s)[j]? with
    | none => rfl
    | some e' =>
      have : e.2 ≠ e'.2 := fun c => q (pw_inj ((zip_pw s 0).filter _) h hj c)
      simp [this]
theorem os_at {s : List EvB} {z : Nat} {y : EvB} {m : Nat} {b : Bool} (h1 : (osF s)[z]? = some y) (h2 : (usF s m)[z]? = some b) : ∃ i,(zOf s)[z]? = some (y,i) ∧ s[i]? = some y ∧ y.full = false ∧ m.testBit i = b := by
  rw [← os_z,List.getElem?_map,Option.map_eq_some_iff] at h1
  obtain ⟨e,he,rfl⟩ := h1
  unfold usF at h2
  rw [List.getElem?_map,he] at h2
  have := (z_mem s e).1 (List.mem_of_getElem? he)
  exact ⟨e.2,he,this.1,this.2,Option.some.inj h2⟩
theorem at_os {s : List EvB} {i : Nat} {y : EvB} (m : Nat) (h : s[i]? = some y) (hf : y.full = false) : ∃ z : Nat,(zOf s)[z]? = some (y,i) ∧ (osF s)[z]? = some y ∧ (usF s m)[z]? = some (m.testBit i) := by
  obtain ⟨z,hz⟩ := List.getElem?_of_mem ((z_mem s (y,i)).2 ⟨h,hf⟩)
  exact ⟨z,hz,by rw [← os_z,List.getElem?_map,hz]; rfl,by unfold usF; rw [List.getElem?_map,hz]; rfl⟩
theorem fin_of_pth {s : List EvB} {a n : Nd} {π : List Nat} (h : Pth s a π n) (hw : subM (maskL (mustL s)) n.1 = true) : Fin (osF s) (usF s a.1) a.2 := by
  induction h with
  | nil n =>
    refine .stop fun z y hz h1 h2 h3 => ?_
    obtain ⟨i,hz',hi,hf,hb⟩ := os_at h1 h2
    have := subM_iff.1 hw i ((must_bit s i).2 ⟨y,hi,must_of h3 hf⟩)
    rw [hb] at this; cases this
  | cons hm hp ih =>
    rename_i a b c i π
    obtain ⟨x,hx,hfull,hbit,hsub,hout,rfl⟩ := mayN_some hm
    obtain ⟨z,hz,ho,hu⟩ := at_os a.1 hx hfull
    have := ih hw
    simp only at this
    rw [us_set (m := a.1) hz] at this
    rw [hbit] at hu
    refine .step ho hu ?_ hout this
    intro z' y hz' h1 h2 h3 h4 h5
    obtain ⟨i',_,hi,hf,hb⟩ := os_at h1 h2
    have := subM_iff.1 hsub i' ((ahead_bit s x i').2 ⟨y,hi,must_of h4 hf,h5⟩)
    rw [hb] at this; cases this
theorem whole_of_fin {s : List EvB} (hs : ∀ x ∈ s,0 < x.to → x.frm < x.to) {us : List Bool} {h : HasB} (F : Fin (osF s) us h) : ∀ m,us = usF s m → Rch s (m,h) → ∃ n,Whole s n := by
  induction F with
  | stop hst =>
    rintro m rfl hr
    refine ⟨_,hr,subM_iff.2 fun i hi => ?_⟩
    obtain ⟨y,hy,hmu⟩ := (must_bit s i).1 hi
    obtain ⟨h1,h2⟩ := of_must hmu
    obtain ⟨z,hz,ho,hu⟩ := at_os m hy h2
    cases hb : m.testBit i with
    | true => rfl
    | false =>
      rw [hb] at hu
      exact absurd h1 (hst z y (List.getElem?_eq_some_iff.1 ho).1 ho hu)
  | step h1 h2 h3 h4 h5 ih =>
    rename_i used h z x
    rintro m rfl hr
    obtain ⟨i,hz,hi,hf,hb⟩ := os_at h1 h2
    refine ih (m ||| 2 ^ i) (us_set hz).symm (.step hr (i := i) ?_)
    unfold mayN
    rw [hi]
    have hsub : subM (maskL (aheadL s x)) m = true := by
      refine subM_iff.2 fun i' hi' => ?_
      obtain ⟨y,hy,hmu,hlt⟩ := (ahead_bit s x i').1 hi'
      obtain ⟨q1,q2⟩ := of_must hmu
      obtain ⟨z',hz',ho',hu'⟩ := at_os m hy q2
      cases hb' : m.testBit i' with
      | true => rfl
      | false =>
        rw [hb'] at hu'
        by_cases e : z' = z
        · subst e
          rw [hz'] at hz
          have e1 : y = x := congrArg Prod.fst (Option.some.inj hz)
          subst e1
          have := hs y (List.mem_of_getElem? hy) q1
          omega
        · exact absurd hlt (h3 z' y (List.getElem?_eq_some_iff.1 ho').1 ho' hu' e q1)
    simp only [hf,hb,hsub,Bool.not_true,Bool.or_self,Bool.false_eq_true,if_false]
    rw [if_neg (by rintro ⟨q1,q2⟩; exact q2 (h4 q1))]
theorem rch_pth {s : List EvB} {n : Nd} (h : Rch s n) : ∃ π,Pth s nd0 π n := by
  have app : ∀ {a b c : Nd} {π : List Nat} {i : Nat},Pth s a π b → mayN s b.1 b.2 i = some c → Pth s a (π ++ [i]) c := by
    intro a b c π i hp hm
    induction hp with
    | nil => exact .cons hm (.nil _)
    | cons h1 _ ih => exact .cons h1 (ih hm)
  induction h with
  | start => exact ⟨[],.nil _⟩
  | step _ hm ih => obtain ⟨π,hp⟩ := ih; exact ⟨_,app hp hm⟩
/-- The two agree. -/
theorem hld_iff {ds : List EvB} {key : List UInt8} (hr : rightL ds = true) : Hld ds key ↔ Fin (osOf ds key) (List.replicate (osOf ds key).length false) ⟨[],false⟩ := by
  have e : osOf ds key = osF (evsOf ds key) := rfl
  rw [e,← us0]
  constructor
  · rintro ⟨n,hn1,hn2⟩
    obtain ⟨π,hp⟩ := rch_pth hn1
    exact fin_of_pth hp hn2
  · intro F
    exact whole_of_fin (fun x hx => (ok_of hr (evs_mem hx)).2.2) F 0 rfl .start
theorem finv_of_pth {s : List EvB} {a n : Nd} {π : List Nat} (h : Pth s a π n) (hw : subM (maskL (mustL s)) n.1 = true) : FinV (osF s) (usF s a.1) a.2 n.2 := by
  induction h with
  | nil n =>
    refine .stop fun z y hz h1 h2 h3 => ?_
    obtain ⟨i,hz',hi,hf,hb⟩ := os_at h1 h2
    have := subM_iff.1 hw i ((must_bit s i).2 ⟨y,hi,must_of h3 hf⟩)
    rw [hb] at this; cases this
  | cons hm hp ih =>
    rename_i a b c i π
    obtain ⟨x,hx,hfull,hbit,hsub,hout,rfl⟩ := mayN_some hm
    obtain ⟨z,hz,ho,hu⟩ := at_os a.1 hx hfull
    have := ih hw
    simp only at this
    rw [us_set (m := a.1) hz] at this
    rw [hbit] at hu
    refine .step ho hu ?_ hout this
    intro z' y hz' h1 h2 h3 h4 h5
    obtain ⟨i',_,hi,hf,hb⟩ := os_at h1 h2
    have := subM_iff.1 hsub i' ((ahead_bit s x i').2 ⟨y,hi,must_of h4 hf,h5⟩)
    rw [hb] at this; cases this
theorem whole_of_finv {s : List EvB} (hs : ∀ x ∈ s,0 < x.to → x.frm < x.to) {us : List Bool} {h g : HasB} (F : FinV (osF s) us h g) : ∀ m,us = usF s m → Rch s (m,h) → ∃ n,Whole s n ∧ n.2 = g := by
  induction F with
  | stop hst =>
    rintro m rfl hr
    refine ⟨_,⟨hr,subM_iff.2 fun i hi => ?_⟩,rfl⟩
    obtain ⟨y,hy,hmu⟩ := (must_bit s i).1 hi
    obtain ⟨h1,h2⟩ := of_must hmu
    obtain ⟨z,hz,ho,hu⟩ := at_os m hy h2
    cases hb : m.testBit i with
    | true => rfl
    | false =>
      rw [hb] at hu
      exact absurd h1 (hst z y (List.getElem?_eq_some_iff.1 ho).1 ho hu)
  | step h1 h2 h3 h4 h5 ih =>
    rename_i used h g z x
    rintro m rfl hr
    obtain ⟨i,hz,hi,hf,hb⟩ := os_at h1 h2
    refine ih (m ||| 2 ^ i) (us_set hz).symm (.step hr (i := i) ?_)
    unfold mayN
    rw [hi]
    have hsub : subM (maskL (aheadL s x)) m = true := by
      refine subM_iff.2 fun i' hi' => ?_
      obtain ⟨y,hy,hmu,hlt⟩ := (ahead_bit s x i').1 hi'
      obtain ⟨q1,q2⟩ := of_must hmu
      obtain ⟨z',hz',ho',hu'⟩ := at_os m hy q2
      cases hb' : m.testBit i' with
      | true => rfl
      | false =>
        rw [hb'] at hu'
        by_cases e : z' = z
        · subst e
          rw [hz'] at hz
          have e1 : y = x := congrArg Prod.fst (Option.some.inj hz)
          subst e1
          have := hs y (List.mem_of_getElem? hy) q1
          omega
        · exact absurd hlt (h3 z' y (List.getElem?_eq_some_iff.1 ho').1 ho' hu' e q1)
    simp only [hf,hb,hsub,Bool.not_true,Bool.or_self,Bool.false_eq_true,if_false]
    rw [if_neg (by rintro ⟨q1,q2⟩; exact q2 (h4 q1))]
/-- What may be had at last, in both. -/
theorem ends_iff {ds : List EvB} {key : List UInt8} (hr : rightL ds = true) (g : HasB) : (∃ n,Whole (evsOf ds key) n ∧ n.2 = g) ↔ FinV (osOf ds key) (List.replicate (osOf ds key).length false) ⟨[],false⟩ g := by
  have e : osOf ds key = osF (evsOf ds key) := rfl
  rw [e,← us0]
  constructor
  · rintro ⟨n,⟨hn1,hn2⟩,rfl⟩
    obtain ⟨π,hp⟩ := rch_pth hn1
    exact finv_of_pth hp hn2
  · intro F
    exact whole_of_finv (fun x hx => (ok_of hr (evs_mem hx)).2.2) F 0 rfl .start
end Go.Proofs.Ytkmohjddojpdjab

-- part HyQ
/- Does an order hold? The plain side. -/
set_option linter.unusedVariables false
set_option linter.unusedSimpArgs false
namespace Go.Proofs.Ytkmohjddojpdjab
open Go.Ev Go.RowKit
/-- From place j on all is as the reference wants it. -/
inductive HP (ds : List EvB) (key : List UInt8) (order : List Nat) : Nat → List Bool → HasB → Prop
  | done {used : List Bool} {h : HasB} : (∀ (q : Nat) (d : EvB),ds[q]? = some d → used[q]? = some false → d.op.key = key → 0 < d.to → d.out.code = 9) → HP ds key order order.length used h
  | step {j : Nat} {used : List Bool} {h : HasB} {p : Nat} {d : EvB} : order[j]? = some p → ds[p]? = some d → used[p]? = some false → d.op.key = key → d.full = false → (∀ (q p' : Nat) (d' : EvB),q < j → order[q]? = some p' → ds[p']? = some d' → 0 < d.to → ¬ d.to < d'.frm) →
      (0 < d.to → (applyH h d.op).2 = d.out) → HP ds key order (j + 1) (used.set p true) (applyH h d.op).1 → HP ds key order j used h
theorem rch_lt {s : List EvB} {a : Nd} (h : Rch s a) : ∀ i,a.1.testBit i = true → i < s.length := by
  induction h with
  | start => intro i h; simp [nd0] at h
  | step hr he ih =>
    rename_i n n' i0
    have hlt := mayN_lt he
    obtain ⟨x0,hx0,hfull,hbit,hsub,hout,rfl⟩ := mayN_some he
    intro i hi
    simp only [or_pow_bit,Bool.or_eq_true,decide_eq_true_eq] at hi
    rcases hi with hi | rfl
    · exact ih i hi
    · exact hlt
theorem hp_of {ds : List EvB} {key : List UInt8} {n : Nd} (hw : subM (maskL (mustL (evsOf ds key))) n.1 = true) {order : List Nat} {a : Nd} {π : List Nat} (h : Pth (evsOf ds key) a π n) : Rch (evsOf ds key) a → ∀ (π0 : List Nat) (used : List Bool),posOf (atsOf ds key) (π0 ++ π) = order →
    (∀ i,a.1.testBit i = true ↔ i ∈ π0) → used.length = ds.length → (∀ q i : Nat,(atsOf ds key)[i]? = some q → used[q]? = some (a.1.testBit i)) → HP ds key order π0.length used a.2 := by
  induction h with
  | nil n =>
    intro hr π0 used ho hb hl hu
    have e : order.length = π0.length := by rw [← ho]; simp [posOf]
    rw [← e]
    refine .done fun q d hd hq hk ht => ?_
    obtain ⟨i,hi1,hi2⟩ := ats_sur hd hk
    rw [hu q i hi1] at hq
    have hbit := Option.some.inj hq
    by_cases c : d.out.code = 9
    · exact c
    · have hf : d.full = false := by unfold EvB.full; rw [decide_eq_false c,Bool.and_false]
      have := subM_iff.1 hw i ((must_bit _ i).2 ⟨d,hi2,must_of ht hf⟩)
      rw [hbit] at this; cases this
  | cons hm hp ih =>
    rename_i a b c i π
    intro hr π0 used ho hb hl hu
    obtain ⟨d,hx,hfull,hbit,hsub,hout,rfl⟩ := mayN_some hm
    obtain ⟨p,hp1,hp2,hp3⟩ := ats_at hx
    have hord : order[π0.length]? = some p := by
      rw [← ho]; unfold posOf
      rw [List.getElem?_map,List.getElem?_append_right (Nat.le_refl _),Nat.sub_self,List.getElem?_cons_zero,Option.map_some,List.getD_eq_getElem?_getD,hp1]; rfl
    have ih' := ih hw (.step hr hm) (π0 ++ [i]) (used.set p true) (by rw [List.append_assoc]; exact ho) ?_ (by rw [List.length_set]; exact hl) ?_
    · rw [List.length_append,List.length_singleton] at ih'
      refine .step hord hp2 (by rw [hu p i hp1,hbit]) hp3 hfull ?_ hout ih'
      intro q p' d' hq hq2 hd' ht hlt
      have hq3 : π0[q]? = some (π0[q]) := List.getElem?_eq_getElem hq
      have hbq : a.1.testBit π0[q] = true := (hb _).2 (List.getElem_mem hq)
      have hql : π0[q] < (evsOf ds key).length := by
        -- a bit of a reached node is one of the events
        exact rch_lt hr _ hbq
      obtain ⟨p2,h1,h2,h3⟩ := ats_at (List.getElem?_eq_getElem hql)
      have e : order[q]? = some p2 := by
        rw [← ho]; unfold posOf
        rw [List.getElem?_map,List.getElem?_append_left hq,hq3,Option.map_some,List.getD_eq_getElem?_getD,h1]; rfl
      rw [e] at hq2
      obtain rfl := Option.some.inj hq2
      rw [h2] at hd'
      obtain rfl := Option.some.inj hd'
      exact rch_closed hr _ i _ d hbq (List.getElem?_eq_getElem hql) hx hbit (must_of ht hfull) hlt
    · intro j
      simp only [or_pow_bit,Bool.or_eq_true,decide_eq_true_eq,List.mem_append,List.mem_singleton,hb]
      constructor
      · rintro (q | q)
        · exact Or.inl q
        · exact Or.inr q.symm
      · rintro (q | q)
        · exact Or.inl q
        · exact Or.inr q.symm
    · intro q j hj
      rw [List.getElem?_set]
      have hpl : p < used.length := by rw [hl]; exact (List.getElem?_eq_some_iff.1 hp2).1
      by_cases e : p = q
      · subst e
        have : i = j := ats_inj hp1 hj
        subst this
        rw [if_pos rfl,if_pos hpl]
        simp []
      · rw [if_neg e,hu q j hj]
        have : i ≠ j := fun c => by subst c; rw [hp1] at hj; exact e (Option.some.inj hj)
        simp [this]
/-- An order that is found is one that holds. -/
theorem hp_whole {ds : List EvB} {key : List UInt8} {n : Nd} {π : List Nat} (hw : Whole (evsOf ds key) n) (h : Pth (evsOf ds key) nd0 π n) : HP ds key (posOf (atsOf ds key) π) 0 (List.replicate ds.length false) ⟨[],false⟩ := by
  refine hp_of (a := nd0) hw.2 h .start [] (List.replicate ds.length false) rfl (by intro i; simp [nd0]) (by simp) ?_
  intro q i hi
  have hil : i < (evsOf ds key).length := by rw [← ats_len]; exact (List.getElem?_eq_some_iff.1 hi).1
  obtain ⟨q',h1,h2,_⟩ := ats_at (List.getElem?_eq_getElem hil)
  rw [hi] at h1
  obtain rfl := Option.some.inj h1
  have : q < ds.length := (List.getElem?_eq_some_iff.1 h2).1
  rw [List.getElem?_replicate,if_pos this]
  simp [nd0]
theorem pos_lt {ds : List EvB} {key : List UInt8} {n : Nd} {π : List Nat} (h : Pth (evsOf ds key) nd0 π n) : ∀ p ∈ posOf (atsOf ds key) π,p < ds.length := by
  intro p hp
  unfold posOf at hp
  obtain ⟨i,hi,rfl⟩ := List.mem_map.1 hp
  obtain ⟨q',h1,h2,_⟩ := ats_at (List.getElem?_eq_getElem (h.lt i hi))
  rw [List.getD_eq_getElem?_getD,h1]
  exact (List.getElem?_eq_some_iff.1 h2).1
end Go.Proofs.Ytkmohjddojpdjab

-- part HyR
/- Does an order hold? The reference's walk. -/
set_option linter.unusedVariables false
set_option linter.unusedSimpArgs false
namespace Go.Proofs.Ytkmohjddojpdjab
attribute [local congr] Go.Ev.cond_congr1
open Go.Ev Go.RowKit
section
variable {Q : AV → Heap → Prop} {K : AV → Heap → Res} {H H0 : Heap} {S : Nat → Prop} {L : List (Nat × AObj)} {G : List GS}
theorem Sg.stLast2 {g : GS} (s : Sg S H0 L (G ++ [g]) H) (hz : g.sz = 1) (j : Nat) (hj : j < g.els.length) {a : AV} (ha : Ev.scal a = true)
    (hk : ∀ H1,Sg S H0 L (G ++ [⟨g.e,1,g.x,g.els.set j [a]⟩]) H1 → Ret Q (K (.tup []) H1)) : Ret Q (effK H (stA 0 H 1 (elp 1 g.x j 0) a) K) := by
  refine Sg.stLast s hz j hj ha fun H1 s1 g1 f1 => hk H1 ⟨s1.st,?_,?_,?_,?_⟩
  · intro q hq
    rcases List.mem_append.1 hq with hq | hq
    · exact s1.gr q hq
    · rw [List.mem_singleton] at hq; subst hq; exact g1
  · intro q hq
    rcases List.mem_append.1 hq with hq | hq
    · exact s1.own q hq
    · rw [List.mem_singleton] at hq; subst hq; exact s.own g (by simp)
  · intro q hq
    rcases List.mem_append.1 hq with hq | hq
    · exact s1.off q hq
    · rw [List.mem_singleton] at hq; subst hq; exact s.off g (by simp)
  · have := List.pairwise_append.1 s.dis
    rw [List.pairwise_append]
    refine ⟨this.1,by simp,fun q hq r hr => ?_⟩
    rw [List.mem_singleton] at hr; subst hr
    exact this.2.2 q hq g (by simp)
theorem mkS_b (H : Heap) (n : Nat) (hn : n ≤ 1000) : mkS H 4 1 1 [.bool false] (.int .i64 n) (.int .i64 n) = some (.sl H.sz 0 0 n n false,.new (.cells 0 4 (0,0) false (brw (List.replicate n false)).flatten)) := by
  have e : (brw (List.replicate n false)).flatten = repeatL [.bool false] n := by rw [repeat_flat]; unfold brw; rw [List.map_replicate]
  rw [e]
  have c1 : decide ((0 : Int) ≤ (n : Int)) = true := decide_eq_true (by omega)
  have c2 : decide ((n : Int) ≤ (n : Int)) = true := decide_eq_true (by omega)
  have c3 : decide ((n : Int) * ((1 : Nat) : Int) ≤ 281474976710656) = true := decide_eq_true (by omega)
  have c4 : decide ((n : Int) ≤ 9223372036854775807) = true := decide_eq_true (by omega)
  simp only [mkS,c1,c2,c3,c4,Bool.and_self,Int.toNat_natCast,newCells_eq]
  rfl
end
section
variable {ρ : Addr → Option Value} {k : Nat} {H : Heap} {x x2 : AV} {Q : AV → Heap → Prop}
end
end Go.Proofs.Ytkmohjddojpdjab

-- part HyAw
/- The law is awake. -/
set_option linter.unusedVariables false
set_option linter.unusedSimpArgs false
namespace Go.Proofs.Ytkmohjddojpdjab
attribute [local congr] Go.Ev.cond_congr1
open Go.Ev Go.RowKit
/-- A read that found 1; a write of 1 that began at t. -/
def evR : EvB := ⟨⟨1,[107],[],0⟩,⟨0,[49]⟩,1,4⟩
def evW (t : Int) : EvB := ⟨⟨2,[107],[49],0⟩,⟨0,[]⟩,t,0⟩
theorem hld2 : Hld [evR,evW 2] [107] := by
  refine (hld_iff (by decide)).2 ?_
  have e : osOf [evR,evW 2] [107] = [evR,evW 2] := by decide
  rw [e]
  refine .step (i := 1) (x := evW 2) rfl rfl ?_ (fun h => absurd h (by decide)) ?_
  · intro j y hj hy hu hn ht
    have : j = 0 := by simp at hj; omega
    subst this
    simp at hy; subst hy; decide
  · refine .step (i := 0) (x := evR) rfl rfl ?_ (fun _ => rfl) ?_
    · intro j y hj hy hu hn ht
      have : j = 1 := by simp at hj; omega
      subst this
      cases hu
    · refine .stop fun j y hj hy hu => ?_
      have : j = 0 ∨ j = 1 := by simp at hj; omega
      rcases this with rfl | rfl <;> cases hu
theorem hld5 : ¬ Hld [evR,evW 5] [107] := by
  intro h
  have e : osOf [evR,evW 5] [107] = [evR,evW 5] := by decide
  have F := (hld_iff (ds := [evR,evW 5]) (key := [107]) (by decide)).1 h
  rw [e] at F
  rcases (fin_iff _ _ _).1 F with q | ⟨i,hi,x,h1,h2,h3,h4,_⟩
  · exact q 0 evR (by decide) rfl rfl (by decide)
  · have : i = 0 ∨ i = 1 := by simp at hi; omega
    rcases this with rfl | rfl
    · obtain rfl : evR = x := Option.some.inj h1
      exact absurd (h4 (by decide)) (by decide)
    · obtain rfl : evW 5 = x := Option.some.inj h1
      exact absurd (by decide) (h3 0 evR (by decide) rfl rfl (by decide) (by decide))
section
variable {ρ : Addr → Option Value} {k : Nat} {H : Heap}
theorem b_two (H : Heap) (d e : EvB) : bldS H 31 8 [.int .i64 0,.str ByteArray.empty,.str ByteArray.empty,.int .u64 0,.int .i64 0,.str ByteArray.empty,.int .i64 0,.int .i64 0] 2 [(0,8,.agg d.cells),(8,8,.agg e.cells)] = some (.sl H.sz 0 0 2 2 false,.new (.cells 0 31 (0,0) false (([d,e].map EvB.cells).flatten))) := rfl
theorem awake_spec (hk : 450000000000 ≤ k) : Ret (fun v H' => v = .bool true ∧ Fr Nop H H') (evCall (cx ρ) k 0 4 [] H) := by
  obtain ⟨k,rfl⟩ : ∃ q,k = q + 1 := ⟨k - 1,by omega⟩
  have a1 : bldA [.int .i64 0,.str ByteArray.empty,.str ByteArray.empty,.int .u64 0] [(0,1,(.int .i64 1)),(1,1,(.str (ByteArray.mk #[107])))] = some (.agg evR.op.cells) := rfl
  have a2 : bldA [.int .i64 0,.str ByteArray.empty] [(1,1,(.str (ByteArray.mk #[49])))] = some (.agg evR.out.cells) := rfl
  have a3 : bldA [.int .i64 0,.str ByteArray.empty,.str ByteArray.empty,.int .u64 0,.int .i64 0,.str ByteArray.empty,.int .i64 0,.int .i64 0] [(0,4,.agg evR.op.cells),(4,2,.agg evR.out.cells),(6,1,(.int .i64 1)),(7,1,(.int .i64 4))] = some (.agg evR.cells) := rfl
  have a4 : bldA [.int .i64 0,.str ByteArray.empty,.str ByteArray.empty,.int .u64 0] [(0,1,(.int .i64 2)),(1,1,(.str (ByteArray.mk #[107]))),(2,1,(.str (ByteArray.mk #[49])))] = some (.agg (evW 2).op.cells) := rfl
  have a5 : bldA [.int .i64 0,.str ByteArray.empty,.str ByteArray.empty,.int .u64 0,.int .i64 0,.str ByteArray.empty,.int .i64 0,.int .i64 0] [(0,4,.agg (evW 2).op.cells),(6,1,(.int .i64 2))] = some (.agg (evW 2).cells) := rfl
  have a6 : bldA [.int .i64 0,.str ByteArray.empty,.str ByteArray.empty,.int .u64 0,.int .i64 0,.str ByteArray.empty,.int .i64 0,.int .i64 0] [(0,4,.agg (evW 2).op.cells),(6,1,(.int .i64 5))] = some (.agg (evW 5).cells) := rfl
  have lN : ∀ d : EvB,ldCN 8 0 0 (.cells 0 31 (0,0) false d.cells) = some (.agg d.cells) := fun d => ecN8 _ _ _ d
  have one : ∀ (e : EvB),e.op.key = [107] → ∀ (b : Bool),(b = true ↔ ∀ q ∈ [evR,e],Hld [evR,e] q.op.key) → (b = true ↔ Hld [evR,e] [107]) := by
    intro e he b hb
    rw [hb]
    constructor
    · intro q; exact q evR (by simp)
    · intro q d hd
      have : d = evR ∨ d = e := by simpa using hd
      rcases this with rfl | rfl
      · exact q
      · rw [he]; exact q
  have few : ∀ (e : EvB) (key : List UInt8),(evsOf [evR,e] key).length ≤ 16 := fun e key => Nat.le_trans (evsOf_len _ _) (by simp)
  have c0 : ¬ (0 : Int) ≠ 0 := by decide
  rw [E4]
  simp only [L4,a1,a2,a3,purK_some]
  refine (St.start Nop H).sg.var rfl rfl evR.solid fun n1 H1 s1 z1 f1 => ?_
  simp only [ldN_ptr,s1.at 0 rfl,lN,a4,a5,b_two,purK_some]
  refine s1.newF (sz := 8) ([evR,evW 2].map EvB.cells) rfl rfl (by intro r hr; obtain ⟨d,_,rfl⟩ := List.mem_map.1 hr; rfl) fun l1 H2 s2 z2 f2 => ?_
  have h2 : Els ρ H2 8 (.sl l1 0 0 2 2 false) ([evR,evW 2].map EvB.cells) := s2.els (g := ⟨31,8,.sl l1 0 0 2 2 false,[evR,evW 2].map EvB.cells⟩) 0 rfl
  refine Ret.bind (check_spec _ h2 (by simp) (few _) (by omega)) ?_
  rintro v H3 ⟨f3,(⟨q,_⟩ | ⟨_,b,rfl,hb⟩)⟩
  · exact absurd q (by decide)
  have hb1 : b = true := (one _ rfl b hb).2 hld2
  subst hb1
  have s3 := s2.frame0 f3
  simp only [s3.at 0 rfl,lN,a6,b_two,purK_some,extA_0,extA_1]
  refine s3.newF (sz := 8) ([evR,evW 5].map EvB.cells) rfl rfl (by intro r hr; obtain ⟨d,_,rfl⟩ := List.mem_map.1 hr; rfl) fun l2 H4 s4 z4 f4 => ?_
  have h4 : Els ρ H4 8 (.sl l2 0 0 2 2 false) ([evR,evW 5].map EvB.cells) := s4.els (g := ⟨31,8,.sl l2 0 0 2 2 false,[evR,evW 5].map EvB.cells⟩) 1 rfl
  refine Ret.bind (check_spec _ h4 (by simp) (few _) (by omega)) ?_
  rintro v H5 ⟨f5,(⟨q,_⟩ | ⟨_,b,rfl,hb⟩)⟩
  · exact absurd q (by decide)
  have hb0 : b = false := by
    cases b with
    | false => rfl
    | true => exact absurd ((one _ rfl true hb).1 rfl) hld5
  subst hb0
  simp only [N4_1,purK_some,wantV_t,Bool.not_false,gPur_true,pickA_true,extA_0,extA_1,retK_one,bin_eql,un_not,decide_true]
  exact .intro ⟨rfl,s4.fr.trans f5⟩
end
end Go.Proofs.Ytkmohjddojpdjab

-- part HyP
/- HistoryOrders: the law's walk. -/
set_option linter.unusedVariables false
set_option linter.unusedSimpArgs false
namespace Go.Proofs.Ytkmohjddojpdjab
attribute [local congr] Go.Ev.cond_congr1
open Go.Ev Go.RowKit
open Go.Sort (ltStr)
section
variable {ρ : Addr → Option Value} {k : Nat} {H : Heap} {x xk : AV} {yc : YieldF}
theorem neb (H : Heap) (a b : Bool) : binA Try.prog H .neq 4 (.bool a) (.bool b) = some (.bool (a != b)) := by cases a <;> cases b <;> kernel_rfl
end
end Go.Proofs.Ytkmohjddojpdjab

-- part HyY
/- Texts out of a map's keys, sorted. -/
set_option linter.unusedVariables false
set_option linter.unusedSimpArgs false
set_option maxRecDepth 100000
namespace Go.Proofs.Ytkmohjddojpdjab
attribute [local congr] Go.Ev.cond_congr1
open Go.Ev Go.RowKit
def rfAs : Code → Code
  | .rangeFunc _ _ a _ => a
  | _ => .skip
def rfBd : Code → Code
  | .rangeFunc _ _ _ b => b
  | _ => .skip
noncomputable def cA : Code := Code.of Try.prog 27
noncomputable def asA : Code := rfAs (Code.at [1,0,1,0] cA)
noncomputable def bdA : Code := rfBd (Code.at [1,0,1,0] cA)
/-- The slots while the loop over a function runs. -/
def slA (x0 x1 x2 : AV) : Slots := [x0,x1,x2,.tup [],.nils,.tup [],x1,.tup [],.tup [],.tup [],.tup [],.tup [],.tup []]
noncomputable def κ0A : Ex → Slots → Heap → Res := kk none (fun s H => retK (([4] : List Nat).map fun t => s.getD t (.tup [])) H) [] retK [4]
noncomputable def κ1A (ρ : Addr → Option Value) (call : CallF) (yc : YieldF) (lim k : Nat) : Ex → Slots → Heap → Res := fun e s H => match e with
  | .normal => normK (headL (cx ρ) 27 (Code.at [1,1] cA)) s fun s => evL (cx ρ) call yc false 27 lim k (Code.at [1,1] cA) s H κ0A
  | .exit id => κ0A (.exit id) s H
  | .ret => κ0A .ret s H
noncomputable def κA (ρ : Addr → Option Value) (call : CallF) (yc : YieldF) (lim k : Nat) : Ex → Slots → Heap → Res := fun e s H => match e with
  | .normal => κ1A ρ call yc lim k .normal s H
  | .exit j => bif Nat.beq j 0 then κ1A ρ call yc lim k .normal s H else κ1A ρ call yc lim k (.exit j) s H
  | .ret => κ1A ρ call yc lim k .ret s H
section
variable (ρ : Addr → Option Value) (call : CallF) (yc : YieldF) (lim k : Nat) (x0 x1 x2 : AV) (H : Heap)
theorem gA : evL (cx ρ) call yc false 27 lim k cA [x0,x1,.tup [],.tup [],.tup [],.tup [],.tup [],.tup [],.tup [],.tup [],.tup [],.tup [],.tup []] H κ0A =
    effK H (boxA H 35 x0) fun x2 H => bif false || !Nat.ble lim H.sz then .stop else bindR (calleeA x1 [.yld H.sz]) fun c => bif hasBody (cx ρ).P c.1 then
      (call lim c.1 c.2 (H.new (.loop #[7] asA bdA (slA x0 x1 x2) 0))).bind fun r => loopEndL H.sz (slA x0 x1 x2) r.2 (κA ρ call yc lim k) else .stop := by kernel_rfl
theorem gEnd : κA ρ call yc lim k .normal (slA x0 x1 x2) H = purK (ld1 ρ H x2) fun x12 => retK [x12] H := by kernel_rfl
end
theorem eA (ρ : Addr → Option Value) (k lim : Nat) (x0 x1 : AV) (H : Heap) : evCall (cx ρ) (k + 1) lim 27 [x0,x1] H =
    effK H (boxA H 35 x0) fun x2 H => bif false || !Nat.ble lim H.sz then .stop else bindR (calleeA x1 [.yld H.sz]) fun c => bif hasBody (cx ρ).P c.1 then
      (evCall (cx ρ) k lim c.1 c.2 (H.new (.loop #[7] asA bdA (slA x0 x1 x2) 0))).bind fun r => loopEndL H.sz (slA x0 x1 x2) r.2 (κA ρ (evCall (cx ρ) k) (evCY (cx ρ) k).2 lim k) else .stop := by
  rw [evCall_body (cx ρ) k lim 27 _ H Try.f27 cA [4] (by kernel_rfl) (by kernel_rfl) (by kernel_rfl) (by kernel_rfl) (by kernel_rfl)]
  exact gA ρ (evCall (cx ρ) k) (evCY (cx ρ) k).2 lim k x0 x1 H
def slB (x0 x1 x2 x : AV) : Slots := [x0,x1,x2,.tup [],.nils,x,x1,x,.tup [],.tup [],.tup [],.tup [],.tup []]
section
variable (ρ : Addr → Option Value) (call : CallF) (yc : YieldF) (k : Nat) (x0 x1 x2 x : AV) (H : Heap) (κ : Ex → Slots → Heap → Res)
theorem asRun : ev (cx ρ) call yc true 0 0 k asA (setArgs [7] [x] (slA x0 x1 x2)) H κ = κ .normal (slB x0 x1 x2 x) H := by kernel_rfl
theorem bdRunL : evL (cx ρ) call yc true 0 0 k bdA (slB x0 x1 x2 x) H κ = purK (ld1 ρ H x2) fun x8 => effK H (bldS H 9 1 [.str ByteArray.empty] 1 [(0,1,x)]) fun x10 H => effK H (apA ρ 0 H 9 1 16 x8 x10) fun x11 H => effK H (stA 0 H 1 x2 x11) fun _ H =>
    κ .normal [x0,x1,x2,.tup [],.nils,x,x1,x,x8,x,x10,x11,.tup []] H := by kernel_rfl
theorem bdRun : ev (cx ρ) call yc true 0 0 k bdA (slB x0 x1 x2 x) H κ = purK (ld1 ρ H x2) fun x8 => effK H (bldS H 9 1 [.str ByteArray.empty] 1 [(0,1,x)]) fun x10 H => effK H (apA ρ 0 H 9 1 16 x8 x10) fun x11 H => effK H (stA 0 H 1 x2 x11) fun _ H =>
    κ .normal [x0,x1,x2,.tup [],.nils,x,x1,x,x8,x,x10,x11,.tup []] H := (evL_eq ..).symm.trans (bdRunL ..)
end
section
variable {ρ : Addr → Option Value} {k : Nat} {H H0 : Heap} {S : Nat → Prop} {call : CallF} {yc : YieldF} {x0 x1 xl : AV} {n2 l : Nat} {rows : List (List AV)}
/-- A text is taken up. -/
theorem yld_spec {R : List (Nat × AObj)} (s : Sg S H0 ((n2,.cells 0 35 (0,0) false [xl]) :: (l,.loop #[7] asA bdA (slA x0 x1 (.ptr n2 0 0)) 0) :: R) [⟨9,1,xl,rows⟩] H) (hr : rows.length ≤ 100000000000) (t : List UInt8) :
    Ret (fun v H' => v = .bool true ∧ ∃ xl',Sg S H0 ((n2,.cells 0 35 (0,0) false [xl']) :: (l,.loop #[7] asA bdA (slA x0 x1 (.ptr n2 0 0)) 0) :: R) [⟨9,1,xl',rows ++ [[.str (ba t)]]⟩] H') (evYield (cx ρ) call yc k 0 l [.str (ba t)] H) := by
  have g0 := s.at 1 rfl
  have hb : (Nat.ble 0 l && Nat.beq ([AV.str (ba t)] : List AV).length (#[7] : Array Tmp).size) = true := by
    have : Nat.ble 0 l = true := Nat.ble_eq_true_of_le (Nat.zero_le _)
    rw [this]; rfl
  have e1 : evYield (cx ρ) call yc k 0 l [.str (ba t)] H = ev (cx ρ) call yc true 0 0 k bdA (slB x0 x1 (.ptr n2 0 0) (.str (ba t))) (H.put l (.loop #[7] asA bdA (slA x0 x1 (.ptr n2 0 0)) 1)) fun e _ H => roundEnd (cx ρ).strict l e H := by
    unfold evYield
    rw [g0]
    simp only [hb,cond_true]
    rw [asRun]
    simp only [g0,applyK_eq,Eff.on]
  rw [e1,bdRun]
  have s1 := s.put1 1 (.loop #[7] asA bdA (slA x0 x1 (.ptr n2 0 0)) 1) rfl
  have s1' : Sg S H0 ((n2,.cells 0 35 (0,0) false [xl]) :: (l,.loop #[7] asA bdA (slA x0 x1 (.ptr n2 0 0)) 1) :: R) [⟨9,1,xl,rows⟩] (H.put l (.loop #[7] asA bdA (slA x0 x1 (.ptr n2 0 0)) 1)) := s1
  have l0 : ∀ x : AV,ldC 0 0 (.cells 0 35 (0,0) false [x]) = some x := fun x => by rw [ldC_cells]; rfl
  have b1 : ∀ H : Heap,bldS H 9 1 [.str ByteArray.empty] 1 [(0,1,.str (ba t))] = some (.sl H.sz 0 0 1 1 false,.new (.cells 0 9 (0,0) false [.str (ba t)])) := fun H => rfl
  simp only [ld1_ptr,s1'.at 0 rfl,l0,b1,purK_some]
  refine s1'.newS fun n9 H4 s4 z4 f4 => ?_
  have s4' : Sg S H0 ((n2,.cells 0 35 (0,0) false [xl]) :: (l,.loop #[7] asA bdA (slA x0 x1 (.ptr n2 0 0)) 1) :: (R ++ [(n9,.cells 0 9 (0,0) false [.str (ba t)])])) [⟨9,1,xl,rows⟩] H4 := s4
  have h9 : (((n2,AObj.cells 0 35 (0,0) false [xl]) :: (l,AObj.loop #[7] asA bdA (slA x0 x1 (.ptr n2 0 0)) 1) :: (R ++ [(n9,AObj.cells 0 9 (0,0) false [.str (ba t)])])) : List (Nat × AObj))[R.length + 2]? = some (n9,.cells 0 9 (0,0) false [.str (ba t)]) := by simp
  have hE9 : Els ρ H4 1 (.sl n9 0 0 1 1 false) [[.str (ba t)]] := Els.of_cells (els := [[.str (ba t)]]) (s4'.lt' _ h9) (by rw [s4'.at _ h9]; rfl) (by intro r hr; simp at hr; subst hr; rfl)
  refine s4'.app 0 rfl hE9 (by intro r hr; simp at hr; subst hr; simp [sol_str]) (by simp; omega) (by simp; omega) fun xl' H6 s6 f6 hl6 hs6 => ?_
  refine s6.st1 0 rfl hs6 (show 0 < 1 by decide) fun H7 s7 z7 f7 => ?_
  have s7' : Sg S H0 ((n2,.cells 0 35 (0,0) false [xl']) :: (l,.loop #[7] asA bdA (slA x0 x1 (.ptr n2 0 0)) 1) :: (R ++ [(n9,.cells 0 9 (0,0) false [.str (ba t)])])) [⟨9,1,xl',rows ++ [[.str (ba t)]]⟩] H7 := s7
  have g7 := s7'.at 1 rfl
  simp only [roundEnd,g7,applyK_eq,Eff.on]
  have s8 := s7'.put1 1 (.loop #[7] asA bdA (slA x0 x1 (.ptr n2 0 0)) 0) rfl
  exact .intro ⟨rfl,xl',Sg.drop (L := (n2,.cells 0 35 (0,0) false [xl']) :: (l,.loop #[7] asA bdA (slA x0 x1 (.ptr n2 0 0)) 0) :: R) (R := [_]) s8⟩
end
def kS (s : List UInt8) : AV := .str (ba s)
abbrev Ent := List UInt8 × AV × Nat
/-- All keys, in some order. -/
def Drawn (ents : List Ent) (xs : List (List UInt8)) : Prop := ∃ done : List Ent,(done.map fun e => e.2.2).Nodup ∧ (∀ e,e ∈ done ↔ e ∈ ents) ∧ xs = done.map fun e => e.1
theorem born_inj {ents : List Ent} {c : Nat} (hB : Born ents c) {e e' : Ent} (h : e ∈ ents) (h' : e' ∈ ents) (q : e.2.2 = e'.2.2) : e = e' := by
  obtain ⟨i,hi,rfl⟩ := List.mem_iff_getElem.1 h
  obtain ⟨j,hj,rfl⟩ := List.mem_iff_getElem.1 h'
  have hp := List.pairwise_iff_getElem.1 hB.1
  rcases Nat.lt_trichotomy i j with r | r | r
  · have := hp i j (by simpa using hi) (by simpa using hj) r
    simp at this; omega
  · subst r; rfl
  · have := hp j i (by simpa using hj) (by simpa using hi) r
    simp at this; omega
theorem entry_last {H : Heap} {it m c : Nat} {seen : List Nat} {ents : List Ent} {e : Ent} (h1 : H.get it = .iter (some m) c (seen ++ [e.2.2]) c) (h2 : H.get m = mapO kS ents c) (hB : Born ents c) (he : e ∈ ents) : entryA H (.ptr it 0 0) = some (.tup [kS e.1,e.2.1]) := by
  have hf : (entO kS ents).find? (fun q => q.2.2 == e.2.2) = some (kS e.1,e.2.1,e.2.2) := by
    unfold entO
    rw [List.find?_map]
    cases hq : ents.find? ((fun q : AV × AV × Nat => q.2.2 == e.2.2) ∘ fun e => (kS e.1,e.2.1,e.2.2)) with
    | none =>
      rw [List.find?_eq_none] at hq
      have := hq e he
      simp at this
    | some e' =>
      have h3 := List.mem_of_find?_eq_some hq
      have h4 := List.find?_some hq
      simp at h4
      rw [born_inj hB h3 he h4]; rfl
  simp only [entryA,h1,h2,mapO,List.getLast?_append,List.getLast?_singleton,Option.some_or,beq_self_eq_true,cond_true,hf,Option.map_some]
theorem valK_yld (call : CallF) (yc : YieldF) (lim l : Nat) (args : List AV) (H : Heap) (K : AV → Heap → Res) : valK call yc lim (.yld l) args H K = resK (yc lim l args H) K := rfl
theorem evCY_snd (C : Ctx) (k : Nat) : (evCY C (k + 1)).2 = evYield C (evCall C k) (evCY C k).2 k := rfl
section
variable {ρ : Addr → Option Value} {k : Nat} {H H0 : Heap} {x0 x1 : AV} {n2 l m nb c : Nat} {ents : List Ent}
theorem mkc_spec {xl0 : AV} (s : Sg Nop H0 [(n2,.cells 0 35 (0,0) false [xl0]),(l,.loop #[7] asA bdA (slA x0 x1 (.ptr n2 0 0)) 0)] [⟨9,1,xl0,[]⟩] H) (hm : H0.get m = mapO kS ents c) (hml : m < H0.sz) (hnb : H0.get nb = .cells 0 53 (0,0) false [.mp m]) (hnbl : nb < H0.sz)
    (hB : Born ents c) (hlen : ents.length ≤ 100000000000) (hk : ents.length + 5 ≤ k) :
    Ret (fun v H' => ∃ xl xs,Sg Nop H0 [(n2,.cells 0 35 (0,0) false [xl]),(l,.loop #[7] asA bdA (slA x0 x1 (.ptr n2 0 0)) 0)] [⟨9,1,xl,lrow xs⟩] H' ∧ Drawn ents xs) (evCall (cx ρ) k 0 21 [.yld l,.ptr nb 0 0] H) := by
  obtain ⟨k,rfl⟩ : ∃ q,k = q + 2 := ⟨k - 2,by omega⟩
  have gnb : H.get nb = .cells 0 53 (0,0) false [.mp m] := by rw [s.fr.get nb hnbl (fun q => q)]; exact hnb
  have gm : H.get m = mapO kS ents c := by rw [s.fr.get m hml (fun q => q)]; exact hm
  have l0 : ldC 0 0 (.cells 0 53 (0,0) false [.mp m]) = some (.mp m) := by rw [ldC_cells]; rfl
  have hr : rangeA H Try.prog 53 (.mp m) = some (.ptr H.sz 0 0,.new (.iter (some m) c [] c)) := by
    simp only [rangeA,Try.underlying53,gm,mapO]
  rw [E21]
  simp only [L21,ld1_ptr,gnb,l0,hr,purK_some]
  refine s.newP fun it H1 s1 z1 f1 => ?_
  simp only [N21_1,N21_2]
  refine Ret.loop (fun r (y : Unit) H' => ∃ (xl : AV) (done : List Ent),r = ents.length - done.length ∧ (done.map fun e => e.2.2).Nodup ∧ (∀ e ∈ done,e ∈ ents) ∧
    Sg Nop H0 [(n2,.cells 0 35 (0,0) false [xl]),(l,.loop #[7] asA bdA (slA x0 x1 (.ptr n2 0 0)) 0),(it,.iter (some m) c (done.map fun e => e.2.2) c)] [⟨9,1,xl,lrow (done.map fun e => e.1)⟩] H') ?_ ents.length (k + 1) _ H1
    ⟨xl0,[],by simp,by simp,by simp,s1⟩ (by omega)
  rintro r y H2 kn ⟨xl,done,hrr,hnd,hsub,s2⟩ next
  have gm2 : H2.get m = .map (entO kS ents) c := by rw [s2.fr.get m hml (fun q => q)]; exact hm
  have git := s2.at 2 rfl
  have hlt : ∀ e ∈ entO kS ents,e.2.2 < c := by
    intro e he
    obtain ⟨q,hq,rfl⟩ := List.mem_map.1 he
    exact hB.2 q hq
  by_cases hall : ∀ e ∈ entO kS ents,e.2.2 ∈ done.map fun e => e.2.2
  · simp only [N21_2b,nextK_over git gm2 hlt hall,purK_some,condK_false,extA_0,retK_none]
    refine .intro ⟨xl,_,s2.drop (L := [(n2,.cells 0 35 (0,0) false [xl]),(l,.loop #[7] asA bdA (slA x0 x1 (.ptr n2 0 0)) 0)]) (R := [_]),done,hnd,fun e => ⟨hsub e,fun he => ?_⟩,rfl⟩
    have := hall (kS e.1,e.2.1,e.2.2) (List.mem_map.2 ⟨e,he,rfl⟩)
    obtain ⟨e',h1,h2⟩ := List.mem_map.1 this
    rw [← born_inj hB (hsub e' h1) he h2]; exact h1
  · have hex : ∃ e ∈ entO kS ents,e.2.2 ∉ done.map fun e => e.2.2 := by
      refine Classical.byContradiction fun q => hall fun e he => Classical.byContradiction fun q2 => q ⟨e,he,q2⟩
    simp only [N21_2b]
    refine Ret.next git gm2 hlt hex fun e he hne => ?_
    obtain ⟨a,ha,rfl⟩ := List.mem_map.1 he
    have s3 := s2.put1 2 (.iter (some m) c (done.map (fun e => e.2.2) ++ [a.2.2]) c) rfl
    have s3' : Sg Nop H0 [(n2,.cells 0 35 (0,0) false [xl]),(l,.loop #[7] asA bdA (slA x0 x1 (.ptr n2 0 0)) 0),(it,.iter (some m) c (done.map (fun e => e.2.2) ++ [a.2.2]) c)] [⟨9,1,xl,lrow (done.map fun e => e.1)⟩] (H2.put it (.iter (some m) c (done.map (fun e => e.2.2) ++ [a.2.2]) c)) := s3
    have gm3 : (H2.put it (.iter (some m) c (done.map (fun e => e.2.2) ++ [a.2.2]) c)).get m = mapO kS ents c := by rw [s3'.fr.get m hml (fun q => q)]; exact hm
    have hen := entry_last (s3'.at 2 rfl) gm3 hB ha
    have hnd2 : ((done ++ [a]).map fun e => e.2.2).Nodup := by
      rw [List.map_append,List.nodup_append]
      refine ⟨hnd,by simp,?_⟩
      intro x hx y hy
      simp at hy; subst hy
      rintro rfl; exact hne hx
    have hsub2 : ∀ e ∈ done ++ [a],e ∈ ents := by
      intro e he
      rcases List.mem_append.1 he with q | q
      · exact hsub e q
      · rw [List.mem_singleton] at q; subst q; exact ha
    have hln := nodup_le ((done ++ [a]).map fun e => e.2.2) (ents.map fun e => e.2.2) hnd2 (fun x hx => by
      obtain ⟨e,he,rfl⟩ := List.mem_map.1 hx
      exact List.mem_map.2 ⟨e,hsub2 e he,rfl⟩)
    rw [List.length_map,List.length_map,List.length_append,List.length_singleton] at hln
    simp only [extA_0,purK_some,condK_true,hen,valK_yld,evCY_snd,kS]
    refine Ret.bind (yld_spec s3' (by rw [lrow_len,List.length_map]; omega) a.1) ?_
    rintro v H4 ⟨rfl,xl',s4⟩
    simp only [purK_some,condK_false,Bool.not_true,retK_none,un_not]
    refine next (r - 1) _ H4 (by omega) ⟨xl',done ++ [a],by rw [List.length_append,List.length_singleton]; omega,hnd2,hsub2,?_⟩
    rw [List.map_append,List.map_append]
    have : lrow (List.map (fun e : Ent => e.1) done ++ List.map (fun e : Ent => e.1) [a]) = lrow (done.map fun e => e.1) ++ [[.str (ba a.1)]] := lrow_snoc _ _
    rw [this]
    exact s4
end
end Go.Proofs.Ytkmohjddojpdjab

-- part HyYa
/- The keys of a map, sorted. -/
set_option linter.unusedVariables false
set_option linter.unusedSimpArgs false
set_option maxRecDepth 100000
namespace Go.Proofs.Ytkmohjddojpdjab
attribute [local congr] Go.Ev.cond_congr1
open Go.Ev Go.RowKit
open Go.Sort (ltStr)
section
variable {ρ : Addr → Option Value} {k : Nat} {H : Heap} {m nb c : Nat} {ents : List Ent}
theorem hasMkc (ρ : Addr → Option Value) : hasBody (cx ρ).P 21 = true := by kernel_rfl
theorem loopEnd0 {l : Nat} {s : Slots} {H : Heap} {κ : Ex → Slots → Heap → Res} {p : Array Tmp} {a b : Code} {s' : Slots} (h : H.get l = .loop p a b s' 0) : loopEndL l s H κ = κ .normal s (H.put l .hole) := by
  simp only [loopEndL,loopEnd,h,applyK_eq,Eff.on]
/-- They are gathered. -/
theorem aps_spec (hm : H.get m = mapO kS ents c) (hml : m < H.sz) (hnb : H.get nb = .cells 0 53 (0,0) false [.mp m]) (hnbl : nb < H.sz) (hB : Born ents c) (hlen : ents.length ≤ 100000000000) (hk : ents.length + 10 ≤ k) :
    Ret (fun v H' => ∃ xs,GG H' 9 1 v (lrow xs) ∧ (∀ l,v.lies l → H.sz ≤ l) ∧ Drawn ents xs ∧ Fr Nop H H') (evCall (cx ρ) k 0 27 [.nils,.fn (.func 21) [] [.ptr nb 0 0]] H) := by
  obtain ⟨k,rfl⟩ : ∃ q,k = q + 1 := ⟨k - 1,by omega⟩
  have hbx : boxA H 35 .nils = some (.ptr H.sz 0 0,.new (.cells 0 35 (0,0) false [.nils])) := rfl
  rw [eA,hbx]
  refine ((St.start Nop H).sg.nils 9 1).newP fun n2 H1 s1 z1 f1 => ?_
  have hb : Nat.ble 0 H1.sz = true := Nat.ble_eq_true_of_le (Nat.zero_le _)
  have hc : calleeA (.fn (.func 21) [] [.ptr nb 0 0]) [.yld H1.sz] = some (21,[.yld H1.sz,.ptr nb 0 0]) := rfl
  simp only [hb,hc,bindR_some,hasMkc,Bool.not_true,Bool.or_self,cond_false,cond_true]
  have s2 := s1.new1 (.loop #[7] asA bdA (slA .nils (.fn (.func 21) [] [.ptr nb 0 0]) (.ptr n2 0 0)) 0)
  have s2' : Sg Nop H [(n2,.cells 0 35 (0,0) false [.nils]),(H1.sz,.loop #[7] asA bdA (slA .nils (.fn (.func 21) [] [.ptr nb 0 0]) (.ptr n2 0 0)) 0)] [⟨9,1,.nils,[]⟩] (H1.new (.loop #[7] asA bdA (slA .nils (.fn (.func 21) [] [.ptr nb 0 0]) (.ptr n2 0 0)) 0)) := s2
  show Ret _ (resK (evCall (cx ρ) k 0 21 [.yld H1.sz,.ptr nb 0 0] (H1.new (.loop #[7] asA bdA (slA .nils (.fn (.func 21) [] [.ptr nb 0 0]) (.ptr n2 0 0)) 0))) fun v H => loopEndL H1.sz (slA .nils (.fn (.func 21) [] [.ptr nb 0 0]) (.ptr n2 0 0)) H (κA ρ (evCall (cx ρ) k) (evCY (cx ρ) k).2 0 k))
  refine Ret.bind (mkc_spec s2' hm hml hnb hnbl hB hlen (by omega)) ?_
  rintro v H3 ⟨xl,xs,s3,hd⟩
  rw [loopEnd0 (s3.at 1 rfl),gEnd]
  have s4 := s3.put1 1 .hole rfl
  have l0 : ldC 0 0 (.cells 0 35 (0,0) false [xl]) = some xl := by rw [ldC_cells]; rfl
  simp only [ld1_ptr,s4.at 0 rfl,l0,purK_some,retK_one]
  have hg : GG (H3.put H1.sz .hole) 9 1 xl (lrow xs) := s4.gg (g := ⟨9,1,xl,lrow xs⟩) 0 rfl
  have own : ∀ l,xl.lies l → H.sz ≤ l := fun l hl => ((s4.own ⟨9,1,xl,lrow xs⟩ (by simp)) l hl).resolve_left fun q => q
  exact .intro ⟨xs,hg,own,hd,s4.fr⟩
theorem col_spec (hm : H.get m = mapO kS ents c) (hml : m < H.sz) (hnb : H.get nb = .cells 0 53 (0,0) false [.mp m]) (hnbl : nb < H.sz) (hB : Born ents c) (hlen : ents.length ≤ 100000000000) (hk : ents.length + 12 ≤ k) :
    Ret (fun v H' => ∃ xs,GG H' 9 1 v (lrow xs) ∧ (∀ l,v.lies l → H.sz ≤ l) ∧ Drawn ents xs ∧ Fr Nop H H') (evCall (cx ρ) k 0 19 [.fn (.func 21) [] [.ptr nb 0 0]] H) := by
  obtain ⟨k,rfl⟩ : ∃ q,k = q + 1 := ⟨k - 1,by omega⟩
  rw [E19]
  simp only [L19]
  refine Ret.bind (aps_spec hm hml hnb hnbl hB hlen (by omega)) ?_
  intro v H1 h
  try simp only [retK_one]
  exact .intro h
/-- .. and sorted. -/
theorem sorted_spec (hm : H.get m = mapO kS ents c) (hml : m < H.sz) (hnb : H.get nb = .cells 0 53 (0,0) false [.mp m]) (hnbl : nb < H.sz) (hB : Born ents c) (hnd : (ents.map fun e => e.1).Nodup) (hlen : ents.length ≤ 100000000000) (hk : 2 * ents.length + 200 ≤ k) :
    Ret (fun v H' => ∃ ks,(∀ ρ,Els ρ H' 1 v (lrow ks)) ∧ Asc ks ∧ (∀ s,s ∈ ks ↔ ∃ e ∈ ents,e.1 = s) ∧ (∀ l,v.lies l → H.sz ≤ l) ∧ Fr Nop H H') (evCall (cx ρ) k 0 11 [.fn (.func 21) [] [.ptr nb 0 0]] H) := by
  obtain ⟨k,rfl⟩ : ∃ q,k = q + 1 := ⟨k - 1,by omega⟩
  rw [E11]
  simp only [L11]
  refine Ret.bind (col_spec hm hml hnb hnbl hB hlen (by omega)) ?_
  rintro v H1 ⟨xs,hg,own,⟨done,hd1,hd2,rfl⟩,f1⟩
  have hT : TS H1 v (done.map fun e => e.1).toArray := hg
  have hl := nodup_le (done.map fun e => e.2.2) (ents.map fun e => e.2.2) hd1 (fun x hx => by
    obtain ⟨e,he,rfl⟩ := List.mem_map.1 hx
    exact List.mem_map.2 ⟨e,(hd2 e).1 he,rfl⟩)
  rw [List.length_map,List.length_map] at hl
  have hsz : (done.map fun e => e.1).toArray.size = done.length := by simp
  refine Ret.bind (sort_spec (by omega) hT (by omega)) ?_
  rintro v2 H2 ⟨R,tR,pR,sR,f2⟩
  have hR : R.size = done.length := by rw [pR.1,hsz]
  have hperm : R.toList.Perm (done.map fun e => e.1) := by
    have p := pR.2.2
    have e1 : R.extract 0 (done.map fun e => e.1).toArray.size = R := by rw [← pR.1,Array.extract_size]
    have e2 : (done.map fun e => e.1).toArray.extract 0 (done.map fun e => e.1).toArray.size = (done.map fun e => e.1).toArray := Array.extract_size
    rw [e1,e2] at p
    exact p
  have hndx : (done.map fun e => e.1).Nodup := by
    -- two of the same key are one
    have hdn : done.Nodup := by
      have := hd1
      unfold List.Nodup at this ⊢
      rw [List.pairwise_map] at this
      exact this.imp fun h e => h (by rw [e])
    unfold List.Nodup
    rw [List.pairwise_map]
    have hk1 : ∀ a b : Ent,a ∈ ents → b ∈ ents → a.1 = b.1 → a = b := by
      intro a b ha hb e
      obtain ⟨i,hi,rfl⟩ := List.mem_iff_getElem.1 ha
      obtain ⟨j,hj,rfl⟩ := List.mem_iff_getElem.1 hb
      have := (List.getElem_inj (i := i) (j := j) (h₀ := by simpa using hi) (h₁ := by simpa using hj) hnd).1 (by simpa using e)
      subst this; rfl
    unfold List.Nodup at hdn
    exact hdn.imp_of_mem fun ha hb h e => h (hk1 _ _ ((hd2 _).1 ha) ((hd2 _).1 hb) e)
  have hRn : R.toList.Nodup := hperm.nodup_iff.2 hndx
  try simp only [retK_one]
  refine .intro ⟨R.toList,fun ρ => GG.toEls tR,?_,fun q => ?_,own,f1.trans' f2 fun l hl q => by have := own l q; omega⟩
  · unfold Asc
    rw [List.pairwise_iff_getElem]
    intro i j hi hj hij
    cases hc : ltStr R.toList[i] R.toList[j] with
    | true => rfl
    | false =>
      exfalso
      have hi' : i < R.size := by simpa using hi
      have hj' : j < R.size := by simpa using hj
      have h2 := sR i j (Nat.zero_le _) hij (by rw [hsz,← hR]; exact hj')
      rw [getElem!_pos R j hj',getElem!_pos R i hi'] at h2
      have e : R.toList[i] = R.toList[j] := str_eq hc (by simpa using h2)
      have := (List.getElem_inj (h₀ := hi) (h₁ := hj) hRn).1 e
      omega
  · rw [hperm.mem_iff,List.mem_map]
    exact ⟨fun ⟨e,h1,h2⟩ => ⟨e,(hd2 e).1 h1,h2⟩,fun ⟨e,h1,h2⟩ => ⟨e,(hd2 e).2 h1,h2⟩⟩
end
end Go.Proofs.Ytkmohjddojpdjab

-- part HyYb
/- What a key may have at last. -/
set_option linter.unusedVariables false
set_option linter.unusedSimpArgs false
set_option maxRecDepth 100000
namespace Go.Proofs.Ytkmohjddojpdjab
attribute [local congr] Go.Ev.cond_congr1
open Go.Ev Go.RowKit
theorem kStr (ρ : Addr → Option Value) : KeyT (cx ρ).P 9 kS where
  eq := by
    intro H d d'
    have : ∀ a b,eqIn Try.prog H 20 9 (.str a) (.str b) = some (a == b) := fun a b => by kernel_rfl
    show eqIn Try.prog H 20 9 (.str (ba d)) (.str (ba d')) = _
    rw [this]
    by_cases h : d = d'
    · subst h; simp [ba_beq]
    · have q : (ba d == ba d') = false := by rw [ba_beq]; simp [ba_inj,h]
      simp [q,h]
  chk := fun d => by
    have : ∀ a,keyChk Try.prog 20 9 (.str a) = true := fun a => by kernel_rfl
    exact this _
  same := fun d => by
    show sameA (.str (ba d)) (.str (ba d)) = true
    simp [sameA,sameCell,ba_beq]
theorem tVM (ρ : Addr → Option Value) : (cx ρ).P.underlying 53 = some (.map 9 4) := by kernel_rfl
section
variable {ρ : Addr → Option Value} {k : Nat} {H : Heap}
theorem mk_spec (m : Nat) (hk : 1 ≤ k) : Ret (fun v H' => ∃ nb,v = .fn (.func 21) [] [.ptr nb 0 0] ∧ H'.get nb = .cells 0 53 (0,0) false [.mp m] ∧ nb < H'.sz ∧ Fr Nop H H') (evCall (cx ρ) k 0 12 [.mp m] H) := by
  obtain ⟨k,rfl⟩ : ∃ q,k = q + 1 := ⟨k - 1,by omega⟩
  have hbx : boxA H 53 (.mp m) = some (.ptr H.sz 0 0,.new (.cells 0 53 (0,0) false [.mp m])) := rfl
  rw [E12]
  simp only [L12,hbx]
  refine (St.start Nop H).sg.newP fun nb H1 s1 z1 f1 => ?_
  simp only [retK_one]
  exact .intro ⟨nb,rfl,s1.at 0 rfl,s1.lt' 0 rfl,s1.fr⟩
/-- What Last tells. -/
def LastAns (ρ : Addr → Option Value) (ds : List EvB) (key : List UInt8) (H : Heap) (v : AV) (H' : Heap) : Prop := Fr Nop H H' ∧
  ((rightL ds = false ∧ v = .tup [.nils,.bool false,.int .i64 1]) ∨ (rightL ds = true ∧ 16 < (evsOf ds key).length ∧ v = .tup [.nils,.bool false,.int .i64 5]) ∨
   (rightL ds = true ∧ (evsOf ds key).length ≤ 16 ∧ ∃ (ks : List (List UInt8)) (none : Bool) (y : AV),v = .tup [y,.bool none,.int .i64 0] ∧ (∀ ρ,Els ρ H' 1 y (lrow ks)) ∧ Asc ks ∧
     (∀ s,s ∈ ks ↔ ∃ n,Whole (evsOf ds key) n ∧ n.2 = ⟨s,true⟩) ∧ (none = true ↔ ∃ n,Whole (evsOf ds key) n ∧ n.2.is = false)))
theorem last_spec {x : AV} (ds : List EvB) (key : List UInt8) (hx : Els ρ H 8 x (ds.map EvB.cells)) (hlen : ds.length ≤ 1000) (hk : 400000000000 ≤ k) :
    Ret (LastAns ρ ds key H) (evCall (cx ρ) k 0 6 [x,.str (ba key)] H) := by
  obtain ⟨k,rfl⟩ : ∃ q,k = q + 1 := ⟨k - 1,by omega⟩
  rw [E6]
  simp only [L6]
  refine Ret.bind (open_spec ds key hx hlen (by omega)) ?_
  rintro v H1 (⟨hr,rfl,f1⟩ | ⟨hr,h16,rfl,f1⟩ | ⟨hr,h16,p,f,b,xl,xa,xh,rfl,S1⟩)
  · have c : (1 : Int) ≠ 0 := by decide
    simp only [eq_true c,purK_some,condK_true,extA_0,extA_1,retK_two,bin_neq,decide_true]
    exact .intro ⟨f1,Or.inl ⟨hr,rfl⟩⟩
  · have c : (5 : Int) ≠ 0 := by decide
    simp only [eq_true c,purK_some,condK_true,extA_0,extA_1,retK_two,bin_neq,decide_true]
    exact .intro ⟨f1,Or.inr (Or.inl ⟨hr,h16,rfl⟩)⟩
  have c : ¬ (0 : Int) ≠ 0 := by decide
  have fb : ∀ l,l < H.sz → ¬ FB f b l := by
    rintro l hl (q | q)
    · have := (S1.st.own (f,.map [] 0) (by simp [srL])).resolve_left (fun q => q); simp only at this; omega
    · have := (S1.st.own (b,.map [] 0) (by simp [srL])).resolve_left (fun q => q); simp only at this; omega
  have hfl : f < H1.sz := S1.lt' 0 rfl
  have hbl : b < H1.sz := S1.lt' 1 rfl
  simp only [c,purK_some,condK_false,extA_0,extA_1,retK_two,bin_neq,decide_false]
  refine (St.start Nop H1).sg.newM fun m H2 s2 z2 f2 => ?_
  have A2 := (SrAt.of S1).frame (f2.mono fun _ _ q => q.elim)
  have gm2 := s2.at 0 rfl
  have ml2 : m < H2.sz := s2.lt' 0 rfl
  refine Ret.bind (whole_spec2 A2 (by rw [f2.get f hfl (fun q => q)]; exact S1.at 0 rfl) (by rw [f2.get b hbl (fun q => q)]; exact S1.at 1 rfl) h16 (by omega)) ?_
  rintro y H3 ⟨all,tr,R,hE,hf,hb,f3,hown⟩
  have hcard : all.length ≤ 73014444032 := rch_count h16 all R.nd fun n hn => (R.iff n).1 hn
  have nfb : ¬ FB f b m := by
    rintro (q | q)
    · omega
    · omega
  have gm3 : H3.get m = .map [] 0 := by rw [f3.get m ml2 nfb]; exact gm2
  have ml3 : m < H3.sz := Nat.lt_of_lt_of_le ml2 f3.sz
  have mem : ∀ n,n ∈ all.filter (fun n => subM (maskL (mustL (evsOf ds key))) n.1) ↔ Whole (evsOf ds key) n := fun n => by
    rw [List.mem_filter,R.iff]; exact Iff.rfl
  have hwl := List.length_filter_le (fun n => subM (maskL (mustL (evsOf ds key))) n.1) all
  obtain ⟨ws,hws⟩ : ∃ ws,ws = all.filter (fun n => subM (maskL (mustL (evsOf ds key))) n.1) := ⟨_,rfl⟩
  rw [← hws] at hE mem hwl
  have offm : ∀ l,y.lies l → ¬ l = m := fun l hl q => by have := hown l hl; omega
  have hln := len_nd (hE ρ)
  have H13 : Fr Nop H H3 := (S1.fr.trans f2).trans' f3 fun l hl q => (fb l hl q).elim
  have mH : H.sz ≤ m := Nat.le_trans S1.fr.sz z2
  simp only [hln,N6_2,N6_3,purK_some]
  refine Ret.loop (fun r (st : AV × AV) H' => ∃ (i : Nat) (none : Bool) (ents : List Ent) (c : Nat),st = (.bool none,.int .i64 i) ∧ r = ws.length - i ∧ i ≤ ws.length ∧ Sg (fun t => t = m) H3 [(m,mapO kS ents c)] [] H' ∧ Born ents c ∧ (∀ e ∈ ents,e.2.1 = .bool true) ∧ (ents.map fun e => e.1).Nodup ∧ ents.length ≤ i ∧
    (∀ s,(∃ e ∈ ents,e.1 = s) ↔ ∃ n ∈ ws.take i,n.2 = ⟨s,true⟩) ∧ (none = true ↔ ∃ n ∈ ws.take i,n.2.is = false)) ?_ ws.length k _ H3
    ⟨0,false,[],0,rfl,by omega,by omega,(St.start1 (S := fun t => t = m) ml3 gm3 rfl).sg,Born.nil,by simp,by simp,by simp,by simp,by simp⟩ (by omega)
  rintro r st H4 kn ⟨i,none,ents,c,rfl,hrr,hi,s4,hB,htr,hnd,hle,hks,hno⟩ next
  by_cases h : i < ws.length
  · have h' : (i : Int) < (ws.length : Nat) := by omega
    obtain ⟨e1,e2⟩ := el_nd ((hE ρ).frame _ s4.fr offm) i h
    obtain ⟨d,hd⟩ : ∃ d,d = ws[i] := ⟨_,rfl⟩
    rw [← hd] at e2
    have w : wrapK .i64 ((i : Int) + 1) = ((i + 1 : Nat) : Int) := wrap_succN i (by omega)
    have htk : ∀ P : Nd → Prop,(∃ n ∈ ws.take (i + 1),P n) ↔ (∃ n ∈ ws.take i,P n) ∨ P d := by
      intro P
      rw [List.take_succ_eq_append_getElem h,← hd]
      constructor
      · rintro ⟨n,hn,q⟩
        rcases List.mem_append.1 hn with hn | hn
        · exact Or.inl ⟨n,hn,q⟩
        · rw [List.mem_singleton] at hn; subst hn; exact Or.inr q
      · rintro (⟨n,hn,q⟩ | q)
        · exact ⟨n,List.mem_append_left _ hn,q⟩
        · exact ⟨d,List.mem_append_right _ (List.mem_singleton.2 rfl),q⟩
    simp only [N6_3b,h',e1,e2,purK_some,condK_true,bin_lss,decide_true]
    refine s4.var rfl rfl (ndC_solid d) fun n7 H5 s5 z5 f5 => ?_
    have s5' : Sg (fun t => t = m) H3 [(m,mapO kS ents c),(n7,.cells 0 52 (0,0) false (ndC d))] [] H5 := s5
    have g7 := s5'.at 1 rfl
    cases his : d.2.is with
    | true =>
      have hd2 : d.2 = ⟨d.2.val,true⟩ := by rw [← his]
      have i2 : ldC 0 2 (.cells 0 52 (0,0) false (ndC d)) = some (.bool true) := by rw [nc2,his]
      have hno2 : none = true ↔ ∃ n ∈ ws.take (i + 1),n.2.is = false := by
        rw [htk fun n => n.2.is = false,hno]
        exact ⟨Or.inl,fun q => q.resolve_right (by rw [his]; decide)⟩
      by_cases hin : ∃ e ∈ ents,e.1 = d.2.val
      · have key1 : mapPutA (cx ρ) 0 H5 53 (.mp m) (.str (ba d.2.val)) (.bool true) = some (.put m (mapO kS ents c)) := put_same (kStr ρ) (tVM ρ) (s5'.at 0 rfl) d.2.val (.bool true) htr hin
        simp only [ld1_ptr,g7,i2,nc1,key1,Option.map_some,skips,Nat.zero_add,Nat.reduceAdd,purK_some,condK_true,addA_ptr]
        rw [effK_put]
        have s6 := s5'.put1 0 (mapO kS ents c) rfl
        simp only [N6_4,w,purK_some,bin_add]
        clear w
        refine next (r - 1) _ _ (by omega) ⟨i + 1,none,ents,c,rfl,by omega,by omega,s6.drop (L := [(m,mapO kS ents c)]) (R := [_]),hB,htr,hnd,by omega,fun s => ?_,hno2⟩
        rw [htk fun n => n.2 = ⟨s,true⟩,hks s]
        refine ⟨Or.inl,fun q => q.elim id fun q => ?_⟩
        rw [hd2] at q
        have : d.2.val = s := congrArg HasB.val q
        subst this
        exact (hks _).1 hin
      · have hgn : getM ents d.2.val = Option.none := getM_none.2 fun e he q => hin ⟨e,he,q⟩
        have key1 : mapPutA (cx ρ) 0 H5 53 (.mp m) (.str (ba d.2.val)) (.bool true) = some (.put m (mapO kS (ents ++ [(d.2.val,.bool true,c)]) (c + 1))) := put_new (kStr ρ) (tVM ρ) (s5'.at 0 rfl) d.2.val (.bool true) hgn
        simp only [ld1_ptr,g7,i2,nc1,key1,Option.map_some,skips,Nat.zero_add,Nat.reduceAdd,purK_some,condK_true,addA_ptr]
        rw [effK_put]
        have s6 := s5'.put1 0 (mapO kS (ents ++ [(d.2.val,.bool true,c)]) (c + 1)) rfl
        simp only [N6_4,w,purK_some,bin_add]
        clear w
        refine next (r - 1) _ _ (by omega) ⟨i + 1,none,ents ++ [(d.2.val,.bool true,c)],c + 1,rfl,by omega,by omega,s6.drop (L := [(m,mapO kS (ents ++ [(d.2.val,.bool true,c)]) (c + 1))]) (R := [_]),hB.snoc _ _,?_,?_,by rw [List.length_append,List.length_singleton]; omega,fun s => ?_,hno2⟩
        · intro e he
          rcases List.mem_append.1 he with q | q
          · exact htr e q
          · rw [List.mem_singleton] at q; subst q; rfl
        · rw [List.map_append,List.nodup_append]
          refine ⟨hnd,by simp,?_⟩
          intro a ha b hb
          simp at hb; subst hb
          rintro rfl
          obtain ⟨e,he,q⟩ := List.mem_map.1 ha
          exact hin ⟨e,he,q⟩
        · rw [htk fun n => n.2 = ⟨s,true⟩,← hks s]
          constructor
          · rintro ⟨e,he,q⟩
            rcases List.mem_append.1 he with h1 | h1
            · exact Or.inl ⟨e,h1,q⟩
            · rw [List.mem_singleton] at h1; subst h1
              exact Or.inr (by rw [hd2,← q])
          · rintro (⟨e,he,q⟩ | q)
            · exact ⟨e,List.mem_append_left _ he,q⟩
            · rw [hd2] at q
              exact ⟨_,List.mem_append_right _ (List.mem_singleton.2 rfl),congrArg HasB.val q⟩
    | false =>
      have i2 : ldC 0 2 (.cells 0 52 (0,0) false (ndC d)) = some (.bool false) := by rw [nc2,his]
      simp only [ld1_ptr,g7,i2,N6_4,w,Nat.zero_add,Nat.reduceAdd,purK_some,condK_false,bin_add,addA_ptr]
      clear w
      refine next (r - 1) _ _ (by omega) ⟨i + 1,true,ents,c,rfl,by omega,by omega,s5'.drop (L := [(m,mapO kS ents c)]) (R := [_]),hB,htr,hnd,by omega,fun s => ?_,⟨fun _ => (htk fun n => n.2.is = false).2 (Or.inr his),fun _ => rfl⟩⟩
      rw [htk fun n => n.2 = ⟨s,true⟩,hks s]
      exact ⟨Or.inl,fun q => q.resolve_right fun q => by rw [q] at his; cases his⟩
  · have : i = ws.length := by omega
    subst this
    have h' : ¬ ((ws.length : Nat) : Int) < (ws.length : Nat) := by omega
    rw [List.take_length] at hks hno
    simp only [N6_3b,N6_1,h',purK_some,condK_false,retK_two,bin_lss,decide_false]
    refine Ret.bind (mk_spec m (by omega)) ?_
    rintro v H5 ⟨nb,rfl,gnb,nbl,f5⟩
    have gm5 : H5.get m = mapO kS ents c := by rw [f5.get m (s4.lt' 0 rfl) (fun q => q)]; exact s4.at 0 rfl
    have ml5 : m < H5.sz := Nat.lt_of_lt_of_le (s4.lt' 0 rfl) f5.sz
    refine Ret.bind (sorted_spec gm5 ml5 gnb nbl hB hnd (by omega) (by omega)) ?_
    rintro y2 H6 ⟨ks,hE6,hasc,hmem,own6,f6⟩
    try simp only [purK_some,resK_some,boolK_some,condK_true,condK_false,wantV_tt,wantV_tf,wantV_ft,wantV_ff,wantV_t,wantV_f,wantV_skip,Bool.not_true,Bool.not_false,gPur_true,gPur_false,gEff_true,gEff_false,gRes_true,gRes_false,pickA_true,pickA_false,extA_0,extA_1,extA_2,retK_one,retK_none,retK_two,valK_fn,valR_fn,cnd_true,cnd_false,bin_add,bin_sub,bin_mul,bin_eql,bin_neq,bin_lss,bin_leq,bin_gtr,bin_geq,bin_seql,bin_sneq,un_not_t,un_not_f,un_not,cvI_int,cvT_str,nilChk_ptr,nilChk_xp,addA_ptr,lenT_str,Bool.true_or,Bool.or_true,Bool.false_or,Bool.or_false,Bool.true_and,Bool.and_true,Bool.false_and,Bool.and_false,decide_true,decide_false,Int.reduceEq,Int.reduceLT,Int.reduceLE,Int.reduceNe,Int.reduceAdd,Int.reduceSub,Int.reduceMul,Int.reduceNeg,List.nil_append,List.append_nil,List.cons_append]
    refine .intro ⟨((H13.trans' s4.fr fun l hl q => by omega).trans f5).trans f6,Or.inr (Or.inr ⟨hr,h16,ks,none,y2,rfl,hE6,hasc,fun s => ?_,?_⟩)⟩
    · rw [hmem s,hks s]
      exact ⟨fun ⟨n,h1,h2⟩ => ⟨n,(mem n).1 h1,h2⟩,fun ⟨n,h1,h2⟩ => ⟨n,(mem n).2 h1,h2⟩⟩
    · rw [hno]
      exact ⟨fun ⟨n,h1,h2⟩ => ⟨n,(mem n).1 h1,h2⟩,fun ⟨n,h1,h2⟩ => ⟨n,(mem n).2 h1,h2⟩⟩
end
end Go.Proofs.Ytkmohjddojpdjab

-- part HyLo
/- HistoryLong: the law's walk. -/
set_option linter.unusedVariables false
set_option linter.unusedSimpArgs false
namespace Go.Proofs.Ytkmohjddojpdjab
attribute [local congr] Go.Ev.cond_congr1
open Go.Ev Go.RowKit
/-- The i-th deletion. -/
def delE (op : OpB) (i : Nat) : EvB := ⟨{ op with kind := 4 },⟨0,[]⟩,1 + 2 * i,2 + 2 * i⟩
def dels (op : OpB) (n : Nat) : List EvB := (List.range n).map (delE op)
theorem dels_len (op : OpB) (n : Nat) : (dels op n).length = n := by unfold dels; simp
theorem dels_get {op : OpB} {n i : Nat} {x : EvB} (h : (dels op n)[i]? = some x) : i < n ∧ x = delE op i := by
  have hi : i < n := by have := (List.getElem?_eq_some_iff.1 h).1; rwa [dels_len] at this
  refine ⟨hi,?_⟩
  unfold dels at h
  rw [List.getElem?_map,List.getElem?_range hi] at h
  exact (Option.some.inj h).symm
theorem dels_snoc (op : OpB) (n : Nat) : dels op (n + 1) = dels op n ++ [delE op n] := by unfold dels; rw [List.range_succ,List.map_append]; rfl
theorem dels_mem {op : OpB} {n : Nat} {x : EvB} (h : x ∈ dels op n) : ∃ i,i < n ∧ x = delE op i := by
  obtain ⟨i,hi⟩ := List.getElem?_of_mem h
  exact ⟨i,dels_get hi⟩
theorem dels_right (op : OpB) (n : Nat) : rightL (dels op n) = true := by
  unfold rightL
  rw [List.all_eq_true]
  intro x hx
  obtain ⟨i,_,rfl⟩ := dels_mem hx
  unfold EvB.ok delE
  simp only [Bool.and_eq_true,Bool.or_eq_true,decide_eq_true_eq]
  refine ⟨⟨⟨by decide,by decide⟩,by omega⟩,Or.inr (by omega)⟩
theorem dels_full (op : OpB) (i : Nat) : (delE op i).full = false := by unfold EvB.full delE; simp
theorem dels_evs (op : OpB) (n : Nat) : evsOf (dels op n) op.key = dels op n := by
  unfold evsOf subE
  rw [List.filter_eq_self.2 ?_]
  · simp
  · intro e he
    have := (zip_get _ _).1 he
    obtain ⟨_,h⟩ := dels_get this
    simp only [decide_eq_true_eq]; rw [h]; rfl
/-- One behind the other. -/
theorem dels_rch (op : OpB) (n : Nat) : ∀ i,i ≤ n → ∃ m,Rch (dels op n) (m,⟨[],false⟩) ∧ ∀ j,m.testBit j = true ↔ j < i
  | 0,_ => ⟨0,.start,by simp⟩
  | i + 1,hi => by
    obtain ⟨m,hr,hb⟩ := dels_rch op n i (by omega)
    have hx : (dels op n)[i]? = some (delE op i) := by
      unfold dels; rw [List.getElem?_map,List.getElem?_range (by omega)]; rfl
    have hbi : m.testBit i = false := by
      cases q : m.testBit i with
      | false => rfl
      | true => have := (hb i).1 q; omega
    have hsub : subM (maskL (aheadL (dels op n) (delE op i))) m = true := by
      refine subM_iff.2 fun j hj => ?_
      obtain ⟨y,hy,_,hlt⟩ := (ahead_bit _ _ _).1 hj
      obtain ⟨_,rfl⟩ := dels_get hy
      have : (2 : Int) + 2 * j < 1 + 2 * i := hlt
      exact (hb j).2 (by omega)
    have hap : applyH ⟨[],false⟩ (delE op i).op = (⟨[],false⟩,⟨0,[]⟩) := by unfold applyH delE; simp
    have hm : mayN (dels op n) m ⟨[],false⟩ i = some (m ||| 2 ^ i,⟨[],false⟩) := by
      unfold mayN
      rw [hx]
      simp only [dels_full,hbi,hsub,hap,Bool.not_true,Bool.or_self,Bool.false_eq_true,if_false]
      rw [if_neg (by rintro ⟨_,q⟩; exact q rfl)]
    refine ⟨m ||| 2 ^ i,.step hr hm,fun j => ?_⟩
    rw [or_pow_bit,Bool.or_eq_true,hb,decide_eq_true_eq]
    omega
theorem dels_hld (op : OpB) (n : Nat) : Whole (dels op n) ((dels_rch op n n (Nat.le_refl _)).choose,⟨[],false⟩) := by
  obtain ⟨hr,hb⟩ := (dels_rch op n n (Nat.le_refl _)).choose_spec
  refine ⟨hr,subM_iff.2 fun j hj => ?_⟩
  obtain ⟨y,hy,_⟩ := (must_bit _ _).1 hj
  exact (hb j).2 (dels_get hy).1
theorem dels_is {op : OpB} {n : Nat} {a : Nd} (h : Rch (dels op n) a) : a.2 = ⟨[],false⟩ := by
  induction h with
  | start => rfl
  | step hr he ih =>
    obtain ⟨x,hx,_,_,_,_,rfl⟩ := mayN_some he
    obtain ⟨_,rfl⟩ := dels_get hx
    simp only [ih]; unfold applyH delE; simp
theorem pth_bits {s : List EvB} {b a : Nd} {σ : List Nat} (h : Pth s b σ a) : ∀ j,a.1.testBit j = true → b.1.testBit j = true ∨ j ∈ σ := by
  induction h with
  | nil => intro j hj; exact Or.inl hj
  | cons hm _ ih =>
    obtain ⟨x,hx,_,_,_,_,rfl⟩ := mayN_some hm
    intro j hj
    rcases ih j hj with q | q
    · simp only [or_pow_bit,Bool.or_eq_true,decide_eq_true_eq] at q
      rcases q with q | q
      · exact Or.inl q
      · exact Or.inr (by simp [q])
    · exact Or.inr (List.mem_cons_of_mem _ q)
/-- A way to where all is has them all. -/
theorem dels_way {op : OpB} {n : Nat} {a : Nd} {π : List Nat} (hw : Whole (dels op n) a) (hp : Pth (dels op n) nd0 π a) : π.length = n := by
  have h1 := hp.len
  rw [dels_len] at h1
  have h2 := nodup_le (List.range n) π List.nodup_range fun j hj => by
    have hj' := List.mem_range.1 hj
    have hx : (dels op n)[j]? = some (delE op j) := by unfold dels; rw [List.getElem?_map,List.getElem?_range hj']; rfl
    have hb := subM_iff.1 hw.2 j ((must_bit _ _).2 ⟨_,hx,must_of (show (0 : Int) < 2 + 2 * j by omega) (dels_full op j)⟩)
    rcases pth_bits hp j hb with q | q
    · simp [nd0] at q
    · exact q
  rw [List.length_range] at h2
  omega
section
variable {ρ : Addr → Option Value} {k : Nat} {H : Heap} {x : AV}
/-- Too many. -/
theorem check_long (op : OpB) (n : Nat) (h16 : 16 < n) (hn : n ≤ 1000) (hx : Els ρ H 8 x ((dels op n).map EvB.cells)) (hk : 400000000000 ≤ k) :
    Ret (fun v H' => v = .tup [.bool false,.int .i64 5]) (evCall (cx ρ) k 0 7 [x] H) := by
  obtain ⟨k,rfl⟩ : ∃ q,k = q + 1 := ⟨k - 1,by omega⟩
  have hl := dels_len op n
  rw [E7]
  simp only [L7]
  refine Ret.bind (right_spec (dels op n) hx (by omega) (by omega)) ?_
  rintro v H1 ⟨rfl,f1⟩
  simp only [dels_right,purK_some,condK_false,Bool.not_true,retK_two,un_not]
  refine Ret.bind (keys_spec (dels op n) (hx.frame0 f1) (by omega) (by omega)) ?_
  rintro v H2 ⟨ks,hE,hK,own,f2⟩
  have hlk := len_key (hE ρ)
  have hall : ∀ s ∈ ks,s = op.key := fun s hs => by
    obtain ⟨e,he,rfl⟩ := (hK.2.1 s).1 hs
    obtain ⟨i,_,rfl⟩ := dels_mem he
    rfl
  have hne : 0 < ks.length := by
    have : op.key ∈ ks := (hK.2.1 _).2 ⟨delE op 0,by unfold dels; exact List.mem_map.2 ⟨0,List.mem_range.2 (by omega),rfl⟩,rfl⟩
    exact List.length_pos_of_mem this
  simp only [hlk,N7_2,N7_3,purK_some]
  refine Ret.loop (fun m (y : AV × AV) H' => y = (.bool true,.int .i64 0) ∧ H' = H2) ?_ 0 k _ H2 ⟨rfl,rfl⟩ (by omega)
  rintro m y H3 kn ⟨rfl,rfl⟩ next
  have h' : (0 : Int) < (ks.length : Nat) := by omega
  obtain ⟨e1,e2⟩ := el_key (hE ρ) 0 hne
  have hk0 := hall ks[0] (List.getElem_mem hne)
  rw [hk0] at e2
  have z0 : ((0 : Nat) : Int) = 0 := rfl
  rw [z0] at e1
  simp only [N7_3b,h',e1,e2,purK_some,condK_true,wantV_t,gPur_true,pickA_true,retK_two,bin_add,bin_lss,decide_true,Int.reduceAdd]
  refine Ret.bind (order_spec (dels op n) op.key ((hx.frame0 f1).frame0 f2) (by omega) (by omega)) ?_
  rintro v H4 ⟨(⟨q,_⟩ | ⟨_,_,rfl⟩ | ⟨_,q,_⟩ | ⟨_,q,_⟩),f4⟩
  · rw [dels_right] at q; cases q
  · have c : (5 : Int) ≠ 0 := by decide
    simp only [eq_true c,purK_some,condK_true,extA_0,extA_1,extA_2,bin_neq,decide_true]
    exact .intro rfl
  · rw [dels_evs,hl] at q; omega
  · rw [dels_evs,hl] at q; omega
theorem len_ir {l : List Nat} (hX : Els ρ H 1 x (irow l)) : lenS x = some (.int .i64 l.length) := len_int hX
theorem long_tail (op : OpB) (n : Nat) (hn : n < 20) {n2 : Nat} {H1 : Heap} {yc : YieldF} (s : Sg Nop H [(n2,.cells 0 24 (0,0) false ({ op with kind := 4 } : OpB).cells)] [⟨31,8,x,(dels op n).map EvB.cells⟩] H1) (hk : 450000000000 ≤ k) :
    Ret (fun v H' => v = .bool true) (N3_1 ρ (evCall (cx ρ) k) yc 0 k (.ptr n2 0 0) x H1 retK) := by
  have hl := dels_len op n
  have hX : Els ρ H1 8 x ((dels op n).map EvB.cells) := s.els (g := ⟨31,8,x,(dels op n).map EvB.cells⟩) 0 rfl
  have hlx := len_ev hX
  rw [hl] at hlx
  have d1 : ldC 0 1 (.cells 0 24 (0,0) false ({ op with kind := 4 } : OpB).cells) = some (.str (ba op.key)) := by rw [ldC_cells]; rfl
  have ln : lenS .nils = some (.int .i64 0) := rfl
  have c0 : (0 : Int) = 0 := rfl
  have c5 : (5 : Int) = 5 := rfl
  by_cases h16 : 16 < n
  · have h16' : (16 : Int) < (n : Int) := by omega
    simp only [N3_1,hlx,h16',ld1_ptr,s.at 0 rfl,d1,Nat.zero_add,purK_some,bin_gtr,addA_ptr,decide_true]
    refine Ret.bind (order_spec (dels op n) op.key hX (by omega) (by omega)) ?_
    rintro v H2 ⟨(⟨q,_⟩ | ⟨_,_,rfl⟩ | ⟨_,q,_⟩ | ⟨_,q,_⟩),f2⟩
    · rw [dels_right] at q; cases q
    · have s2 := s.frame0 f2
      simp only [s2.at 0 rfl,d1,purK_some,extA_0,extA_1,extA_2]
      refine Ret.bind (last_spec (dels op n) op.key (hX.frame0 f2) (by omega) (by omega)) ?_
      rintro v H3 ⟨f3,(⟨q,_⟩ | ⟨_,_,rfl⟩ | ⟨_,q,_⟩)⟩
      · rw [dels_right] at q; cases q
      · simp only [N3_2,purK_some,condK_true,extA_0,extA_1,extA_2,retK_one]
        refine Ret.bind (check_long op n h16 (by omega) ((hX.frame0 f2).frame0 f3) (by omega)) ?_
        rintro v H4 rfl
        simp only [ln,purK_some,wantV_t,Bool.not_false,gPur_true,pickA_true,extA_0,extA_1,bin_eql,un_not,decide_true]
        exact .intro rfl
      · rw [dels_evs,hl] at q; omega
    · rw [dels_evs,hl] at q; omega
    · rw [dels_evs,hl] at q; omega
  · have h16' : ¬ (16 : Int) < (n : Int) := by omega
    have h16l : ∀ key,(evsOf (dels op n) key).length ≤ 16 := fun key => Nat.le_trans (evsOf_len _ _) (by omega)
    have hH : Hld (dels op n) op.key := ⟨_,by rw [dels_evs]; exact dels_hld op n⟩
    simp only [N3_1,hlx,h16',ld1_ptr,s.at 0 rfl,d1,Nat.zero_add,purK_some,bin_gtr,addA_ptr,decide_false]
    refine Ret.bind (order_spec2 (dels op n) op.key hX (by omega) (h16l _) (by omega)) ?_
    rintro v H2 ⟨f2,(⟨q,_⟩ | ⟨_,q,_⟩ | ⟨_,a,π,y,hW,hP,rfl,hY⟩)⟩
    · rw [dels_right] at q; cases q
    · exact absurd hH q
    rw [dels_evs] at hW hP
    have hπ := dels_way hW hP
    have hly : lenS y = some (.int .i64 n) := by
      have := len_int (hY ρ)
      rwa [show (posOf (atsOf (dels op n) op.key) π).length = n by unfold posOf; rw [List.length_map]; exact hπ] at this
    have s2 := s.frame0 f2
    simp only [s2.at 0 rfl,d1,purK_some,extA_0,extA_1,extA_2]
    refine Ret.bind (last_spec (dels op n) op.key (hX.frame0 f2) (by omega) (by omega)) ?_
    rintro v H3 ⟨f3,(⟨q,_⟩ | ⟨_,q,_⟩ | ⟨_,_,ks,no,y3,rfl,_,_,_,hno⟩)⟩
    · rw [dels_right] at q; cases q
    · rw [dels_evs,hl] at q; omega
    have hnt : no = true := hno.2 ⟨a,by rw [dels_evs]; exact hW,by rw [dels_is hW.1]⟩
    subst hnt
    simp only [N3_2,purK_some,condK_false,extA_0,extA_1,extA_2,retK_one]
    refine Ret.bind (check_spec (dels op n) ((hX.frame0 f2).frame0 f3) (by omega) h16l (by omega)) ?_
    rintro v H4 ⟨f4,(⟨q,_⟩ | ⟨_,b,rfl,hb⟩)⟩
    · rw [dels_right] at q; cases q
    have hbt : b = true := hb.2 fun e he => by
      obtain ⟨i,_,rfl⟩ := dels_mem he
      exact hH
    subst hbt
    simp only [N3_3,hly,hlx,purK_some,wantV_t,gPur_true,pickA_true,extA_0,extA_1,retK_one,bin_eql,decide_true]
    exact .intro rfl
theorem long_ret (op : OpB) (nn : Int) (hk : 450000000000 ≤ k) : Ret (fun v H' => v = .bool true) (evCall (cx ρ) (k + 1) 0 3 [.agg op.cells,.int .u8 nn] Heap.nil) := by
  rw [E3]
  simp only [L3,boxA_agg _ _ _ op.solid]
  refine (St.start Nop Heap.nil).sg.newP fun n2 H1 s1 z1 f1 => ?_
  refine Ret.bind (awake_spec hk) ?_
  rintro v H2 ⟨rfl,f2⟩
  have s2 := s1.frame0 f2
  simp only [purK_some,condK_false,Bool.not_true,retK_one,un_not,addA_ptr]
  refine s2.st1 0 rfl rfl (show 0 < 4 by decide) fun H3 s3 z3 f3 => ?_
  have b0 : ∀ H : Heap,bldS H 31 8 [.int .i64 0,.str ByteArray.empty,.str ByteArray.empty,.int .u64 0,.int .i64 0,.str ByteArray.empty,.int .i64 0,.int .i64 0] 0 [] = some (.sl H.sz 0 0 0 0 false,.new (.cells 0 31 (0,0) false [])) := fun H => rfl
  simp only [b0]
  refine s3.newG (e := 31) (sz := 8) fun n7 H4 s4 z4 f4 => ?_
  have s4' : Sg Nop Heap.nil [(n2,.cells 0 24 (0,0) false ({ op with kind := 4 } : OpB).cells)] [⟨31,8,.sl n7 0 0 0 0 false,(dels op 0).map EvB.cells⟩] H4 := s4
  obtain ⟨r,hr⟩ : ∃ r,r = (wrapK .i64 nn).tmod 20 := ⟨_,rfl⟩
  have hr20 : r < 20 := by rw [hr]; exact Int.tmod_lt_of_pos _ (by decide)
  have n20 : (20 : Int) ≠ 0 := by decide
  have er : binA Try.prog H4 .rem 3 (.int .i64 (wrapK .i64 nn)) (.int .i64 20) = some (.int .i64 r) := by rw [hr]; exact bin_rem _ _ _ _ _ _ n20
  have er' : ∀ H,binA Try.prog H .rem 3 (.int .i64 (wrapK .i64 nn)) (.int .i64 20) = some (.int .i64 r) := fun H => by rw [hr]; exact bin_rem _ _ _ _ _ _ n20
  clear er hr
  simp only [N3_4,N3_5]
  refine Ret.loop (fun m (y : AV × AV) H' => ∃ (i : Nat) (xl : AV),y = (xl,.int .i64 i) ∧ m = r.toNat - i ∧ i ≤ r.toNat ∧ Sg Nop Heap.nil [(n2,.cells 0 24 (0,0) false ({ op with kind := 4 } : OpB).cells)] [⟨31,8,xl,(dels op i).map EvB.cells⟩] H') ?_ r.toNat k _ H4 ⟨0,_,rfl,by omega,by omega,s4'⟩ (by omega)
  rintro m y H5 kn ⟨i,xl,rfl,hm,hi,s5⟩ next
  have lO : ldCN 4 0 0 (.cells 0 24 (0,0) false ({ op with kind := 4 } : OpB).cells) = some (.agg ({ op with kind := 4 } : OpB).cells) := by rw [ldCN_cells _ _ _ _ _ _ _ (Nat.le_refl _)]; rfl
  by_cases h : i < r.toNat
  · have h' : (i : Int) < r := by omega
    have w1 : wrapK .i64 (2 * (i : Int)) = 2 * (i : Int) := wrap_i64 _ (by omega)
    have w2 : wrapK .i64 (1 + 2 * (i : Int)) = 1 + 2 * (i : Int) := by clear w1; exact wrap_i64 _ (by omega)
    have w3 : wrapK .i64 (2 + 2 * (i : Int)) = 2 + 2 * (i : Int) := by clear w1 w2; exact wrap_i64 _ (by omega)
    have w : wrapK .i64 ((i : Int) + 1) = ((i + 1 : Nat) : Int) := by clear w1 w2 w3; exact wrap_succN i (by omega)
    have bl : bldA [.int .i64 0,.str (ba []),.str (ba []),.int .u64 0,.int .i64 0,.str (ba []),.int .i64 0,.int .i64 0] [(0,4,.agg ({ op with kind := 4 } : OpB).cells),(6,1,.int .i64 (1 + 2 * (i : Int))),(7,1,.int .i64 (2 + 2 * (i : Int)))] = some (.agg (delE op i).cells) := rfl
    have b1 : ∀ H,bldS H 31 8 [.int .i64 0,.str (ba []),.str (ba []),.int .u64 0,.int .i64 0,.str (ba []),.int .i64 0,.int .i64 0] 1 [(0,8,.agg (delE op i).cells)] = some (.sl H.sz 0 0 1 1 false,.new (.cells 0 31 (0,0) false (delE op i).cells)) := fun H => bldS_1 H _ 8 _ (delE op i).cells rfl rfl (delE op i).solid
    simp only [N3_5b,er',h',ldN_ptr,s5.at 0 rfl,lO,w1,w2,w3,bl,b1,purK_some,condK_true,bin_add,bin_mul,bin_lss,cvI_int,decide_true,emp2]
    refine s5.newS fun n9 H6 s6 z6 f6 => ?_
    have hE9 : Els ρ H6 8 (.sl n9 0 0 1 1 false) [(delE op i).cells] := Els.of_cells (els := [(delE op i).cells]) (s6.lt' 1 rfl) (by rw [s6.at 1 rfl]; rfl) (by intro r hr; simp at hr; subst hr; rfl)
    have hll : ((dels op i).map EvB.cells).length = i := by rw [List.length_map,dels_len]
    refine s6.app 0 rfl hE9 (by intro r hr; simp at hr; subst hr; exact (delE op i).solid) (by rw [hll]; simp; clear w1 w2 w3 w; omega) (by rw [hll]; simp; clear w1 w2 w3 w; omega) fun xl' H7 s7 f7 hl7 hs7 => ?_
    simp only [w]
    clear w1 w2 w3 w
    refine next (m - 1) _ H7 (by omega) ⟨i + 1,xl',rfl,by omega,by omega,?_⟩
    rw [dels_snoc,List.map_append]
    exact s7.drop (L := [(n2,.cells 0 24 (0,0) false ({ op with kind := 4 } : OpB).cells)]) (R := [_])
  · have h' : ¬ (i : Int) < r := by omega
    simp only [N3_5b,er',h',purK_some,condK_false,bin_add,bin_mul,bin_lss,cvI_int,decide_false]
    exact long_tail op i (by omega) s5 hk
end
end Go.Proofs.Ytkmohjddojpdjab

-- part HyWn
/- HistoryLong: the call, whatever the values. -/
set_option linter.unusedVariables false
set_option linter.unusedSimpArgs false
namespace Go.Proofs.Ytkmohjddojpdjab
open Go.Ev Go.RowKit
set_option maxRecDepth 100000 in
theorem walk (kd : Int) (key val : ByteArray) (n nn : Int) (W : World) : Calls Try.prog 3 #[.agg #[.int .i64 kd,.string key,.string val,.int .u64 n],.int .u8 nn] W fun e w' => e = .returned (.bool true) ∧ Below W.heap.size W w' := by
  obtain ⟨K,hK⟩ : ∃ K,450000000000 ≤ K := ⟨_,Nat.le_refl _⟩
  have hrun := (long_ret (ρ := fun _ => none) (k := K) ⟨kd,bs key,bs val,n⟩ nn hK).ok
  simp only [OpB.cells,ba_bs] at hrun
  exact calls_of_run_reads (C := cx fun _ => none) (vs := [.agg #[.int .i64 kd,.string key,.string val,.int .u64 n],.int .u8 nn]) (fun a v e => by cases e) (by kernel_rfl) (cx_ext _) Try.func3 rfl hrun ⟨_,_,rfl,⟨_,rfl,⟨_,_,rfl,rfl,⟨_,_,rfl,rfl,⟨_,_,rfl,rfl,⟨_,_,rfl,rfl,rfl⟩⟩⟩⟩⟩,⟨_,_,rfl,rfl,rfl⟩⟩
end Go.Proofs.Ytkmohjddojpdjab
