/- EvJ: a region that draws its order: the end of the proof. -/
import Derived.Test.YtonakeopionkkaaGreatEvI
set_option linter.unusedVariables false
set_option linter.unusedSimpArgs false
namespace Go.Ev
open Go.RowKit
section
variable {C : Ctx} {w0 : World} {lim : Nat} {ops : Array Oper}
variable {call : CallF} {K : Slots → Heap → Res} {r : AV × Heap} {Γ0 : Gh} {H0 : Heap} {w1 : World} {ds : List Deferred}
theorem set_true {listed : Array Bool} {i : Nat} (h : i < listed.size) : (listed.setIfInBounds i true).getD i true = true := by
  simp [Array.getD, h]
/-- What is listed, once i is. -/
theorem Inv.lists {pend rem p1 p2 : List DOp} {x : DOp} {rs : List (Nat × Op × AV)} {loc : Nat → Nat} {listed : Array Bool} {s : Slots} {H : Heap} {Γ : Gh} {a : Act} {w : World}
    (I : Inv C lim ops w0 Γ0 H0 w1 ds pend rem rs loc listed s H Γ a w) (hr : x.1 ∈ Region.ready .any ops listed) (hl : pend ++ rem = p1 ++ x :: p2) :
    (∀ i, i < ops.size → ((listed.setIfInBounds x.1 true).getD i true = false ↔ ∃ y ∈ p1 ++ p2, y.1 = i)) ∧ (listed.setIfInBounds x.1 true).size = ops.size ∧
    (∀ i o, ops[i]? = some o → (listed.setIfInBounds x.1 true).getD i false = true → ∀ e ∈ o.after, Region.binds .any e = true → (listed.setIfInBounds x.1 true).getD e.on false = true) ∧
    (∀ y ∈ p1 ++ p2, y.1 ≠ x.1) := by
  obtain ⟨h1, o, h2, h3⟩ := mem_ready.1 hr
  have hx : ops[x.1]? = some x.2.2 := I.here x (by rw [hl]; simp)
  have hlt : x.1 < ops.size := (Array.getElem?_eq_some_iff.1 hx).1
  have hpw := I.pw
  rw [hl, List.pairwise_append] at hpw
  obtain ⟨_, hp2, hp3⟩ := hpw
  have hne : ∀ y ∈ p1 ++ p2, y.1 ≠ x.1 := fun y hy => by
    rcases List.mem_append.1 hy with hy | hy
    · exact (pairD_spec (hp3 y hy x (by simp))).1
    · exact fun e => (pairD_spec ((List.pairwise_cons.1 hp2).1 y hy)).1 e.symm
  refine ⟨fun i hi => ?_, by simp [I.sz], fun i o' ho' hli e he hb => ?_, hne⟩
  · by_cases hxi : x.1 = i
    · subst hxi
      rw [set_true (by rw [I.sz]; exact hi)]
      exact ⟨fun h => (by cases h), fun ⟨y, hy, e⟩ => absurd e (hne y hy)⟩
    · rw [getD_set_ne true hxi, I.un i hi, hl]
      constructor
      · rintro ⟨y, hy, rfl⟩
        refine ⟨y, ?_, rfl⟩
        rcases List.mem_append.1 hy with hy | hy
        · exact List.mem_append_left _ hy
        · rcases List.mem_cons.1 hy with rfl | hy
          · exact absurd rfl hxi
          · exact List.mem_append_right _ hy
      · rintro ⟨y, hy, rfl⟩
        refine ⟨y, ?_, rfl⟩
        rcases List.mem_append.1 hy with hy | hy
        · exact List.mem_append_left _ hy
        · exact List.mem_append_right _ (List.mem_cons_of_mem _ hy)
  · refine getD_set_true ?_
    by_cases hxi : x.1 = i
    · subst hxi
      rw [h2] at ho'
      cases ho'
      exact h3 e he hb
    · rw [getD_set_ne false hxi] at hli
      exact I.closed i o' ho' hli e he hb
/-- Of one that may run now and one that still waits: they stand apart. -/
theorem Inv.apart {pend rem p1 p2 : List DOp} {x : DOp} {rs : List (Nat × Op × AV)} {loc : Nat → Nat} {listed : Array Bool} {s : Slots} {H : Heap} {Γ : Gh} {a : Act} {w : World} (hlow : Low ops)
    (I : Inv C lim ops w0 Γ0 H0 w1 ds pend rem rs loc listed s H Γ a w) (hr : x.1 ∈ Region.ready .any ops listed) (hl : pend ++ rem = p1 ++ x :: p2) :
    (∀ y ∈ p1, y.2.1 = true ∧ y.2.2.apart ops x.2.2 = true ∧ ¬ ((masks ops).getD x.1 0).testBit y.1 = true) ∧ (∀ y ∈ p2, y.2.1 = true → freshD ops x.2.2 y.2.2 = true) := by
  obtain ⟨h1, o, h2, h3⟩ := mem_ready.1 hr
  have hpw := I.pw
  rw [hl, List.pairwise_append] at hpw
  obtain ⟨_, hp2, hp3⟩ := hpw
  refine ⟨fun y hy => ?_, fun y hy => (pairD_spec ((List.pairwise_cons.1 hp2).1 y hy)).2.2⟩
  have hnb : ¬ ((masks ops).getD x.1 0).testBit y.1 = true := fun hb => by
    have := bit_listed hlow I.closed (x.1 + 1) x.1 (by omega) (fun o' ho' => by rw [h2] at ho'; cases ho'; exact h3) y.1 hb
    have hy' : ops[y.1]? = some y.2.2 := I.here y (by rw [hl]; simp [hy])
    exact unlisted ((I.un y.1 (Array.getElem?_eq_some_iff.1 hy').1).2 ⟨y, by rw [hl]; simp [hy], rfl⟩) this
  obtain ⟨e1, e2, e3⟩ := pairD_spec (hp3 y hy x (by simp))
  obtain ⟨f1, f2⟩ := e2.resolve_left hnb
  exact ⟨f1, f2, hnb⟩
theorem Inv.looks {pend rem p1 p2 : List DOp} {x : DOp} {rs : List (Nat × Op × AV)} {loc : Nat → Nat} {listed : Array Bool} {s : Slots} {H : Heap} {Γ : Gh} {a : Act} {w : World} (hlow : Low ops)
    (I : Inv C lim ops w0 Γ0 H0 w1 ds pend rem rs loc listed s H Γ a w) (hr : x.1 ∈ Region.ready .any ops listed) (hl : pend ++ rem = p1 ++ x :: p2) (hx : x ∈ pend → selfD ops x.2.2 = true) :
    ∀ d ∈ x.2.2.looksAt ops, ¬ bad pend d := by
  obtain ⟨g1, g2⟩ := I.apart hlow hr hl
  rintro d hd ⟨y, hy, hyd⟩
  have hmem : y ∈ p1 ++ x :: p2 := by rw [← hl]; exact List.mem_append_left _ hy
  rcases List.mem_append.1 hmem with hm | hm
  · exact (Oper.apart_spec (g1 y hm).2.1).1 d hyd hd
  · rcases List.mem_cons.1 hm with rfl | hm
    · exact selfD_spec (hx hy) d hyd hd
    · exact (freshD_spec (g2 y hm (I.wait y hy).1) d hyd).1 hd
/-- One that waits is run. -/
theorem Inv.runs {p1 p2 rem : List DOp} {x : DOp} {rs : List (Nat × Op × AV)} {loc : Nat → Nat} {listed : Array Bool} {s : Slots} {H : Heap} {Γ : Gh} {a : Act} {w : World} {Q : Exit → Act → World → Prop} (hρ : Reads C w0) (hlow : Low ops)
    (I : Inv C lim ops w0 Γ0 H0 w1 ds (p1 ++ x :: p2) rem rs loc listed s H Γ a w) (hr : x.1 ∈ Region.ready .any ops listed) :
    wpOp C.P ops Q x.1 (fun a' w' => ∃ Γ', Inv C lim ops w0 Γ0 H0 w1 ds (p1 ++ p2) rem rs loc (listed.setIfInBounds x.1 true) s H Γ' a' w') a w := by
  have hl : (p1 ++ x :: p2) ++ rem = p1 ++ x :: (p2 ++ rem) := by simp
  have hl' : (p1 ++ p2) ++ rem = p1 ++ (p2 ++ rem) := by simp
  have hself := I.self x (by simp) (I.wait x (by simp)).1
  have hlook := I.looks hlow hr hl fun _ => hself
  obtain ⟨u1, u2, u3, u4⟩ := I.lists hr hl
  have hx : ops[x.1]? = some x.2.2 := I.here x (by simp)
  have sub : ∀ y, y ∈ p1 ++ p2 → y ∈ p1 ++ x :: p2 := fun y hy => by
    rcases List.mem_append.1 hy with hy | hy
    · exact List.mem_append_left _ hy
    · exact List.mem_append_right _ (List.mem_cons_of_mem _ hy)
  have sub' : ∀ y, y ∈ (p1 ++ p2) ++ rem → y ∈ (p1 ++ x :: p2) ++ rem := fun y hy => by
    rcases List.mem_append.1 hy with hy | hy
    · exact List.mem_append_left _ (sub y hy)
    · exact List.mem_append_right _ hy
  have hS := I.rx.keep (ops := ops) (o := x.2.2) hlook
  have hA := Agree.keep (ops := ops) (o := x.2.2) (s := s)
  have done : ∀ (v : AV) (u : Value) (Γ' : Gh) (w' : World), s.put x.2.2.dst v = s → RV Γ' H v u → Rel C.P w0 Γ' H w' → Le Γ H Γ' H → Ext lim Γ0 H0 w1 Γ' H w' →
      (∀ y ∈ p1 ++ p2, MkOn ops s y → Γ.blk (loc y.1) = none → Γ'.blk (loc y.1) = none) →
      Inv C lim ops w0 Γ0 H0 w1 ds (p1 ++ p2) rem rs loc (listed.setIfInBounds x.1 true) s H Γ' (a.put x.2.2.dst u) w' := by
    intro v u Γ' w' hv hu hR hL hE hb
    refine ⟨fun y hy => I.here y (sub' y hy), fun y hy => I.self y (sub' y hy), ?_, by rw [hl']; exact u1, u2, u3, fun y hy => ?_, fun y hy z hz => I.loc y (sub y hy) z (sub z hz), hR, hE, ?_, ?_⟩
    · rw [hl']
      have := I.pw
      rw [hl, List.pairwise_append] at this
      rw [List.pairwise_append]
      exact ⟨this.1, (List.pairwise_cons.1 this.2.1).2, fun y hy z hz => this.2.2 y hy z (List.mem_cons_of_mem _ hz)⟩
    · have := (I.wait y (sub y hy)).step (d := none) (u := .any) (rs' := rs) (loc' := loc) (Γ' := Γ') (H' := H) nofun nofun (fun _ _ _ h => h) (fun _ h => h) rfl
      by_cases hm : MkOn ops s y
      · exact this (fun l _ _ hbl he => ⟨rfl, by rw [he hm] at hbl ⊢; exact hb y hy hm hbl⟩) (Nat.le_refl _)
      · obtain ⟨g1, g2⟩ := I.wait y (sub y hy)
        refine ⟨g1, ?_⟩
        rcases g2 with g2 | g2 | ⟨e1, e2, _⟩
        · exact .inl g2
        · exact .inr (.inl g2)
        · exact absurd ⟨e2, e1⟩ hm
    · have := (I.rx.mono hL).put (d := x.2.2.dst) (bad' := bad (p1 ++ p2)) hu fun e he hd => ?_
      · rw [hv] at this; exact this
      · rintro ⟨y, hy, hyd⟩
        rcases List.mem_append.1 hy with hy | hy
        · exact he ⟨y, by simp [hy], hyd⟩
        · rcases List.mem_cons.1 hy with rfl | hy
          · exact hd hyd
          · exact he ⟨y, by simp [hy], hyd⟩
    · rw [← I.defers]; cases x.2.2.dst <;> rfl
  unfold wpOp
  rw [hx]
  have hwant : ∀ b, wantA ops s x.2.2 = some b → Region.wanted x.2.2 (yielded ops a.tmps) = b := fun b hb => wantA_sound hS (hA.want.trans hb)
  simp only
  rcases (I.wait x (by simp)).2 with ⟨e1, e2⟩ | ⟨e1, e2, v, e3, e4, e5⟩ | ⟨e1, e2, v, ob, e3, e4, e5, e6, e7, e8, e9⟩
  · rw [hwant _ e1, if_neg (by simp)]
    exact ⟨Γ, done _ undef Γ w e2 RV.undef I.rel (Le.refl _ _) I.ext fun _ _ _ h => h⟩
  · rw [hwant _ e1, if_pos rfl]
    refine .inl ?_
    obtain ⟨nx, w', Γ', hrun, hv, hR, hE⟩ := opA_sound (o := x.2.2) hρ I.rel hS ((hA.op H).trans e4)
    have hR : Rel C.P w0 Γ' H w' := hR
    have hE : Ext lim Γ H w Γ' H w' := hE
    have hb : ∀ y ∈ p1 ++ p2, MkOn ops s y → Γ.blk (loc y.1) = none → Γ'.blk (loc y.1) = none := fun y hy hm hb => by
      rcases (I.wait y (sub y hy)).2 with ⟨q1, _⟩ | ⟨_, q2, _⟩ | ⟨_, _, _, _, _, _, _, q6, _⟩
      · exact absurd (q1.symm.trans hm.2) (by simp)
      · exact absurd (q2.symm.trans hm.1) (by simp)
      · exact (hE.keep _ q6 (.inr (.inr hb))).2.1.trans hb
    unfold Oper.wp
    rw [hrun]
    rcases hv with ⟨u, rfl, hu⟩ | ⟨rfl, hv⟩
    · exact ⟨Γ', done v u Γ' w' e3 hu hR hE.le (I.ext.trans hE) hb⟩
    · exact ⟨Γ', done v undef Γ' w' e3 (by rw [show v = .tup [] from hv]; exact RV.undef) hR hE.le (I.ext.trans hE) hb⟩
  · rw [hwant _ e1, if_pos rfl]
    refine .inl ?_
    obtain ⟨u, w', Γ', hrun, hu, hR, hL, hk, hE⟩ := I.rel.fill hρ hS e2 ((hA.op H).trans e4) e6 e7 e8 e9
    unfold Oper.wp
    rw [hrun]
    refine ⟨Γ', done _ u Γ' w' e3 hu hR hL (hE _ _ _ _ I.ext e5) fun y hy hm hb => ?_⟩
    rw [hk _ (I.loc y (sub y hy) x (by simp) (u4 y (by rw [← List.append_assoc]; exact List.mem_append_left _ hy)) hm ⟨e2, e1⟩)]
    exact hb
/-- The next one, that may not wait, is run. -/
theorem Inv.next {pend rem : List DOp} {x : DOp} {rs : List (Nat × Op × AV)} {loc : Nat → Nat} {listed : Array Bool} {s : Slots} {H : Heap} {Γ : Gh} {a : Act} {w : World} {Q : Exit → Act → World → Prop} (hρ : Reads C w0) (hcall : CallsOK C w0 call) (hlow : Low ops)
    (I : Inv C lim ops w0 Γ0 H0 w1 ds pend (x :: rem) rs loc listed s H Γ a w) (h : evDraw C call lim ops (masks ops) (x :: rem) rs s H K = some r) (hf : x.2.1 = false) (hr : x.1 ∈ Region.ready .any ops listed) :
    wpOp C.P ops Q x.1 (fun a' w' => ∃ s' H' Γ', Inv C lim ops w0 Γ0 H0 w1 ds pend rem rs loc (listed.setIfInBounds x.1 true) s' H' Γ' a' w' ∧ evDraw C call lim ops (masks ops) rem rs s' H' K = some r) a w := by
  obtain ⟨j, fl, o⟩ := x
  simp only at hf
  subst hf
  have hpend : (j, false, o) ∉ pend := fun h => by have := (I.wait _ h).1; cases this
  have hlook := I.looks hlow hr rfl fun h => absurd h hpend
  obtain ⟨g1, _⟩ := I.apart hlow hr rfl
  obtain ⟨u1, u2, u3, u4⟩ := I.lists hr rfl
  have hx : ops[j]? = some o := I.here (j, false, o) (by simp)
  have sub : ∀ y, y ∈ pend ++ rem → y ∈ pend ++ (j, false, o) :: rem := fun y hy => by
    rcases List.mem_append.1 hy with hy | hy
    · exact List.mem_append_left _ hy
    · exact List.mem_append_right _ (List.mem_cons_of_mem _ hy)
  have hS := I.rx.keep (ops := ops) (o := o) hlook
  have hA := Agree.keep (ops := ops) (o := o) (s := s)
  have hap : ∀ y ∈ pend, (∀ t, o.dst = some t → t ∉ y.2.2.looksAt ops) ∧ (∀ t, o.dst = some t → y.2.2.dst ≠ some t) := fun y hy => by
    obtain ⟨e1, e2, e3⟩ := Oper.apart_spec (g1 y hy).2.1
    exact ⟨e3, fun t ht e => e2 t e ht⟩
  have done : ∀ (v : AV) (u : Value) (H' : Heap) (Γ' : Gh) (w' : World), RV Γ' H' v u → Rel C.P w0 Γ' H' w' → Ext lim Γ H w Γ' H' w' → (rs.all (fun x => ((masks ops).getD j 0).testBit x.1 || again C lim (s.put o.dst v) H' x) = true ∨ H' = H) →
      Inv C lim ops w0 Γ0 H0 w1 ds pend rem rs loc (listed.setIfInBounds j true) (s.put o.dst v) H' Γ' (a.put o.dst u) w' := by
    intro v u H' Γ' w' hu hR hE hag
    have mk : ∀ y, y ∈ pend → (MkOn ops (s.put o.dst v) y ↔ MkOn ops s y) := fun y hy => by
      simp only [MkOn, (Agree.put (ops := ops) (s := s) (v := v) (hap y hy).1).want]
    refine ⟨fun y hy => I.here y (sub y hy), fun y hy => I.self y (sub y hy), ?_, u1, u2, u3, fun y hy => ?_, fun y hy z hz hne h1 h2 => I.loc y hy z hz hne ((mk y hy).1 h1) ((mk z hz).1 h2), hR, I.ext.trans hE, ?_, ?_⟩
    · have := I.pw
      rw [List.pairwise_append] at this
      rw [List.pairwise_append]
      exact ⟨this.1, (List.pairwise_cons.1 this.2.1).2, fun y hy z hz => this.2.2 y hy z (List.mem_cons_of_mem _ hz)⟩
    · refine (I.wait y hy).step (hap y hy).1 (hap y hy).2 (fun _ q hq hv => ?_) (fun _ h => h) rfl (fun l hl _ hb _ => ?_) hE.le.sz
      · rcases hag with hag | hag
        · have := List.all_eq_true.1 hag _ hq
          simp only [Bool.or_eq_true] at this
          have := this.resolve_left (g1 y hy).2.2
          unfold again at this
          split at this
          · rename_i u' he
            rw [AV.eqv_eq _ _ this] at he
            exact he
          · cases this
        · subst hag
          rw [(Agree.put (ops := ops) (hap y hy).1).op]; exact hv
      · obtain ⟨q1, q2, _⟩ := hE.keep l hl (.inr (.inr hb))
        exact ⟨q1, q2.trans hb⟩
    · exact (I.rx.mono hE.le).put hu fun e he _ => he
    · rw [← I.defers]; cases o.dst <;> rfl
  unfold wpOp
  simp only [hx]
  unfold evDraw at h
  obtain ⟨b, hb, h⟩ := bind_some h
  have hw : Region.wanted o (yielded ops a.tmps) = b := wantA_sound hS (hA.want.trans hb)
  rw [hw]
  cases b with
  | false =>
    simp only [Bool.not_false, cond_true, putA_eq] at h
    rw [if_neg (by simp)]
    exact ⟨_, H, Γ, done _ undef H Γ w RV.undef I.rel (Ext.refl _ _ _ _) (.inr rfl), h⟩
  | true =>
    simp only [Bool.not_true, cond_false] at h
    rw [if_pos rfl]
    rw [← hA.evOp] at h
    refine .inl (evOp_sound hρ hcall h I.rel hS fun v H' u w' Γ' hK hu hR hE => ?_)
    rw [putA_eq] at hK
    obtain ⟨hag, hK⟩ := cond_some hK
    exact ⟨_, H', Γ', done v u H' Γ' w' hu hR hE (.inl hag), hK⟩
/-- All that stands ahead of what is run now is let wait. -/
theorem Inv.advances {x : DOp} {post : List DOp} {listed : Array Bool} {a : Act} {w : World} : ∀ (pre pend : List DOp) (rs : List (Nat × Op × AV)) (loc : Nat → Nat) (s : Slots) (H : Heap) (Γ : Gh),
    Inv C lim ops w0 Γ0 H0 w1 ds pend (pre ++ x :: post) rs loc listed s H Γ a w → evDraw C call lim ops (masks ops) (pre ++ x :: post) rs s H K = some r → (∀ y ∈ pre, y.2.1 = true) →
    ∃ rs' loc' s' H' Γ', Inv C lim ops w0 Γ0 H0 w1 ds (pend ++ pre) (x :: post) rs' loc' listed s' H' Γ' a w ∧ evDraw C call lim ops (masks ops) (x :: post) rs' s' H' K = some r
  | [], pend, rs, loc, s, H, Γ, I, h, _ => ⟨rs, loc, s, H, Γ, by simpa using I, h⟩
  | y :: pre, pend, rs, loc, s, H, Γ, I, h, hf => by
    obtain ⟨rs', loc', s', H', Γ', I', h'⟩ := I.advance h (hf y (by simp))
    obtain ⟨rs2, loc2, s2, H2, Γ2, I2, h2⟩ := Inv.advances pre _ rs' loc' s' H' Γ' I' h' fun z hz => hf z (by simp [hz])
    exact ⟨rs2, loc2, s2, H2, Γ2, by simpa using I2, h2⟩
theorem Inv.ends {pend rem : List DOp} {rs : List (Nat × Op × AV)} {loc : Nat → Nat} {listed : Array Bool} {s : Slots} {H : Heap} {Γ : Gh} {a : Act} {w : World} (hlow : Low ops)
    (I : Inv C lim ops w0 Γ0 H0 w1 ds pend rem rs loc listed s H Γ a w) (hr : Region.ready .any ops listed = []) : pend = [] ∧ rem = [] := by
  have key : ∀ n i, i < n → i < ops.size → listed.getD i true = true := by
    intro n
    induction n with
    | zero => intro i hi; omega
    | succ n ih =>
      intro i hi hlt
      cases hli : listed.getD i true with
      | true => rfl
      | false =>
        exfalso
        have : i ∈ Region.ready .any ops listed := mem_ready.2 ⟨hli, ops[i], by simp [hlt], fun e he hb => by
          have hlo := hlow i ops[i] (by simp [hlt]) e he hb
          have := ih e.on (by omega) (by omega)
          have hs : e.on < listed.size := by rw [I.sz]; omega
          simpa [Array.getD, hs] using this⟩
        rw [hr] at this
        cases this
  have none : ∀ x, x ∉ pend ++ rem := fun x hx => by
    have hx' := I.here x hx
    have hlt := (Array.getElem?_eq_some_iff.1 hx').1
    have := (I.un x.1 hlt).2 ⟨x, hx, rfl⟩
    rw [key (x.1 + 1) x.1 (by omega) hlt] at this
    cases this
  have : pend ++ rem = [] := List.eq_nil_iff_forall_not_mem.2 none
  simpa using this
theorem draw_any {Q : Exit → Act → World → Prop} (hρ : Reads C w0) (hcall : CallsOK C w0 call) (hlow : Low ops)
    (hQ : ∀ s' H' Γ' a' w', K s' H' = some r → Ext lim Γ0 H0 w1 Γ' H' w' → Rel C.P w0 Γ' H' w' → RS Γ' H' s' a' → a'.defers = ds → Q .normal a' w') :
    ∀ (fuel : Nat) (pend rem : List DOp) (rs : List (Nat × Op × AV)) (loc : Nat → Nat) (listed : Array Bool) (s : Slots) (H : Heap) (Γ : Gh) (a : Act) (w : World), Inv C lim ops w0 Γ0 H0 w1 ds pend rem rs loc listed s H Γ a w → pend.length + rem.length ≤ fuel →
      evDraw C call lim ops (masks ops) rem rs s H K = some r → wpAny C.P .any ops Q fuel listed a w := by
  intro fuel
  have fin : ∀ (pend rem : List DOp) (rs : List (Nat × Op × AV)) (loc : Nat → Nat) (listed : Array Bool) (s : Slots) (H : Heap) (Γ : Gh) (a : Act) (w : World), Inv C lim ops w0 Γ0 H0 w1 ds pend rem rs loc listed s H Γ a w →
      evDraw C call lim ops (masks ops) rem rs s H K = some r → pend = [] ∧ rem = [] → Q .normal a w := by
    rintro pend rem rs loc listed s H Γ a w I h ⟨rfl, rfl⟩
    exact hQ s H Γ a w h I.ext I.rel (I.rx.all fun d ⟨x, hx, _⟩ => by cases hx) I.defers
  induction fuel with
  | zero =>
    intro pend rem rs loc listed s H Γ a w I hlen h
    have hnil : pend = [] ∧ rem = [] := ⟨List.eq_nil_of_length_eq_zero (by omega), List.eq_nil_of_length_eq_zero (by omega)⟩
    refine ⟨?_, fin _ _ _ _ _ _ _ _ _ _ I h hnil⟩
    obtain ⟨rfl, rfl⟩ := hnil
    refine List.eq_nil_iff_forall_not_mem.2 fun i hi => ?_
    obtain ⟨h1, o, h2, _⟩ := mem_ready.1 hi
    obtain ⟨x, hx, _⟩ := (I.un i (Array.getElem?_eq_some_iff.1 h2).1).1 h1
    cases hx
  | succ fuel ih =>
    intro pend rem rs loc listed s H Γ a w I hlen h
    refine ⟨fun hr => fin _ _ _ _ _ _ _ _ _ _ I h (I.ends hlow hr), fun i hi => ?_⟩
    have run : ∀ (p1 p2 rem : List DOp) (x : DOp) (rs : List (Nat × Op × AV)) (loc : Nat → Nat) (s : Slots) (H : Heap) (Γ : Gh), Inv C lim ops w0 Γ0 H0 w1 ds (p1 ++ x :: p2) rem rs loc listed s H Γ a w → evDraw C call lim ops (masks ops) rem rs s H K = some r → x.1 = i →
        (p1 ++ x :: p2).length + rem.length ≤ fuel + 1 → wpOp C.P ops Q i (wpAny C.P .any ops Q fuel (listed.setIfInBounds i true)) a w := by
      intro p1 p2 rem x rs loc s H Γ I h hx hl
      subst hx
      refine wpOp_mono (fun a' w' ⟨Γ', I'⟩ => ?_) (I.runs hρ hlow hi)
      exact ih _ _ _ _ _ _ _ _ _ _ I' (by simp at hl ⊢; omega) h
    obtain ⟨h1, o, h2, _⟩ := mem_ready.1 hi
    obtain ⟨x, hx, hxi⟩ := (I.un i (Array.getElem?_eq_some_iff.1 h2).1).1 h1
    subst hxi
    rcases List.mem_append.1 hx with hx | hx
    · obtain ⟨p1, p2, rfl⟩ := List.append_of_mem hx
      exact run p1 p2 rem x rs loc s H Γ I h rfl hlen
    · obtain ⟨pre, post, rfl⟩ := List.append_of_mem hx
      have hfl := (I.apart (x := x) (p1 := pend ++ pre) (p2 := post) hlow hi (by simp)).1
      obtain ⟨rs', loc', s', H', Γ', I', h'⟩ := I.advances (x := x) pre pend rs loc s H Γ h fun y hy => (hfl y (by simp [hy])).1
      cases hf : x.2.1 with
      | true =>
        obtain ⟨rs2, loc2, s2, H2, Γ2, I2, h2⟩ := I'.advance h' hf
        exact run (pend ++ pre) [] post x rs2 loc2 s2 H2 Γ2 I2 h2 rfl (by simp at hlen ⊢; omega)
      | false =>
        refine wpOp_mono (fun a' w' ⟨s2, H2, Γ2, I2, h2⟩ => ?_) (I'.next hρ hcall hlow h' hf hi)
        exact ih _ _ _ _ _ _ _ _ _ _ I2 (by simp at hlen ⊢; omega) h2
theorem pairsD_spec {ms : List Nat} : ∀ {l : List DOp}, pairsD ops ms l = true → l.Pairwise fun x y => pairD ops ms x y = true
  | [], _ => .nil
  | x :: r, h => by
    simp only [pairsD, Bool.and_eq_true] at h
    exact .cons (fun y hy => List.all_eq_true.1 h.1 y hy) (pairsD_spec h.2)
theorem orderD_here {ord : Option (List (Nat × Bool))} : ∀ x ∈ orderD ops ord, ops[x.1]? = some x.2.2 := by
  intro x hx
  cases ord with
  | none =>
    obtain ⟨⟨o, i⟩, h, rfl⟩ := List.mem_map.1 hx
    have := List.mem_zipIdx_iff_getElem?.1 h
    simpa using this
  | some l =>
    obtain ⟨⟨i, b⟩, _, h⟩ := List.mem_filterMap.1 hx
    obtain ⟨o, ho, rfl⟩ := map_some h
    exact ho
theorem region_draw {id : Nat} {ord : Option (List (Nat × Bool))} {s : Slots} {H : Heap} {Γ : Gh} {a : Act} {w : World} {Q : Exit → Act → World → Prop} (hρ : Reads C w0) (hm : C.P.follows .mixedOrders = true) (hcall : CallsOK C w0 call)
    (h : drawK C call lim ops ord s H K = some r) (R : Rel C.P w0 Γ H w) (hS : RS Γ H s a)
    (hQ : ∀ s' H' Γ' a' w', K s' H' = some r → Ext lim Γ H w Γ' H' w' → Rel C.P w0 Γ' H' w' → RS Γ' H' s' a' → a'.defers = a.defers → Q .normal a' w') : (Code.region id ops true).wp C.P Q a w := by
  unfold drawK at h
  rw [forceNats_eq] at h
  obtain ⟨hok, h⟩ := cond_some h
  simp only [okD, Bool.and_eq_true] at hok
  obtain ⟨⟨⟨k1, k2⟩, k3⟩, k4⟩ := hok
  have k1 := Nat.eq_of_beq_eq_true k1
  have hhere := orderD_here (ops := ops) (ord := ord)
  have hcov : ∀ i, i < ops.size → ∃ x ∈ orderD ops ord, x.1 = i := fun i hi => by
    have := List.all_eq_true.1 k2 i (List.mem_range.2 hi)
    obtain ⟨x, hx, he⟩ := List.any_eq_true.1 this
    exact ⟨x, hx, Nat.eq_of_beq_eq_true he⟩
  have hone : ∀ x ∈ orderD ops ord, (∀ e ∈ x.2.2.after, Region.binds .any e = true → e.on < x.1) ∧ (x.2.1 = true → selfD ops x.2.2 = true) := fun x hx => by
    have := List.all_eq_true.1 k3 x hx
    simp only [Bool.and_eq_true, Bool.or_eq_true, Bool.not_eq_true', List.all_eq_true] at this
    refine ⟨fun e he hb => ?_, fun hf => this.2.resolve_left (by simp [hf])⟩
    have := (this.1 e (by simpa using he)).resolve_left (by simp [hb])
    simpa [Nat.blt_eq] using this
  have hlow : Low ops := fun i o ho e he hb => by
    obtain ⟨x, hx, rfl⟩ := hcov i (Array.getElem?_eq_some_iff.1 ho).1
    have := hhere x hx
    rw [ho] at this
    obtain rfl := Option.some.inj this
    exact (hone x hx).1 e he hb
  have hRw : Rel C.P w0 Γ H { w with drawn := w.drawn + 1 } := R.same rfl rfl rfl rfl
  have hE0 : Ext lim Γ H w Γ H { w with drawn := w.drawn + 1 } := Ext.same rfl
  refine wp_region_any hm ?_
  refine draw_any (Γ0 := Γ) (H0 := H) (w1 := { w with drawn := w.drawn + 1 }) (ds := a.defers) hρ hcall hlow (fun s' H' Γ' a' w' hk hE => hQ s' H' Γ' a' w' hk (hE0.trans hE)) ops.size [] (orderD ops ord) [] (fun _ => 0) _ s H Γ a _ ?_ (by simp [k1]) h
  have hrep : ∀ i (d : Bool), i < ops.size → (Array.replicate ops.size false).getD i d = false := fun i d hi => by simp [Array.getD, hi]
  refine ⟨fun x hx => hhere x (by simpa using hx), fun x hx => (hone x (by simpa using hx)).2, by simpa using pairsD_spec k4, fun i hi => ⟨fun _ => by simpa using hcov i hi, fun _ => hrep i true hi⟩, by simp, fun i o ho hli => ?_, by simp, by simp, hRw, Ext.refl _ _ _ _, RX.of hS, rfl⟩
  rw [hrep i false (Array.getElem?_eq_some_iff.1 ho).1] at hli
  cases hli
end
end Go.Ev
