/- EvI: a region that draws its order: the proof. -/
import Derived.Test.YtonakeopionkkaaGreatEvG
set_option linter.unusedVariables false
set_option linter.unusedSimpArgs false
namespace Go.Ev
open Go.RowKit
section
variable {C : Ctx} {w0 : World} {lim : Nat} {ops : Array Oper}
-- slots
theorem Slots.length_put (s : Slots) (d : Option Tmp) (v : AV) : (s.put d v).length = s.length := by cases d <;> simp [Slots.put]
theorem Slots.put_put (s : Slots) (d : Option Tmp) (v u : AV) : (s.put d v).put d u = s.put d u := by cases d <;> simp [Slots.put]
theorem Slots.put_comm (s : Slots) {d e : Option Tmp} (v u : AV) (h : ∀ t, d = some t → e ≠ some t) : (s.put d v).put e u = (s.put e u).put d v := by
  cases d with
  | none => rfl
  | some d =>
    cases e with
    | none => rfl
    | some e =>
      have hne : d ≠ e := fun he => h d rfl (he ▸ rfl)
      simp only [Slots.put]
      exact List.set_comm _ _ hne
theorem Slots.get_put_ne (s : Slots) {d : Option Tmp} {t : Nat} (v : AV) (h : d ≠ some t) : (s.put d v)[t]? = s[t]? := by
  cases d with
  | none => rfl
  | some d =>
    have hne : d ≠ t := fun he => h (he ▸ rfl)
    simp [Slots.put, hne]
/-- The slots stand to the temps, but those that wait. -/
def RX (Γ : Gh) (H : Heap) (bad : Nat → Prop) (s : Slots) (a : Act) : Prop := s.length = a.tmps.size ∧ ∀ d u, s[d]? = some u → ¬ bad d → ∃ v, a.tmps[d]? = some v ∧ RV Γ H u v
theorem RX.mono {Γ Γ' : Gh} {H H' : Heap} {bad : Nat → Prop} {s : Slots} {a : Act} (h : Le Γ H Γ' H') (r : RX Γ H bad s a) : RX Γ' H' bad s a :=
  ⟨r.1, fun d u hd hb => let ⟨v, h1, h2⟩ := r.2 d u hd hb; ⟨v, h1, RV.mono h _ _ h2⟩⟩
theorem RX.of {Γ : Gh} {H : Heap} {bad : Nat → Prop} {s : Slots} {a : Act} (h : RS Γ H s a) : RX Γ H bad s a :=
  ⟨by simpa using RVs.length h, fun d u hd _ => let ⟨v, h1, h2⟩ := RVs.get h d u hd; ⟨v, by simpa using h1, h2⟩⟩
theorem RX.all {Γ : Gh} {H : Heap} {bad : Nat → Prop} {s : Slots} {a : Act} (h : RX Γ H bad s a) (hb : ∀ d, ¬ bad d) : RS Γ H s a :=
  RVs.of_get (by simpa using h.1) fun d u hd => let ⟨v, h1, h2⟩ := h.2 d u hd (hb d); ⟨v, by simpa using h1, h2⟩
theorem RX.keep {Γ : Gh} {H : Heap} {bad : Nat → Prop} {s : Slots} {a : Act} {o : Oper} (h : RX Γ H bad s a) (hb : ∀ d ∈ o.looksAt ops, ¬ bad d) : RS Γ H (Ev.keep (o.looksAt ops) 0 s) a := by
  have mem : ∀ (i : Nat) (L : List Nat), memN i L = true → i ∈ L := by
    intro i L
    induction L with
    | nil => intro h; cases h
    | cons x r ih =>
      intro h
      simp only [memN] at h
      cases hx : Nat.beq x i with
      | true => rw [Nat.eq_of_beq_eq_true hx]; simp
      | false => rw [hx] at h; exact List.mem_cons_of_mem _ (ih h)
  have len : ∀ (L : List Nat) (s : Slots) (i : Nat), (Ev.keep L i s).length = s.length := by
    intro L s
    induction s with
    | nil => intro i; rfl
    | cons x r ih => intro i; simp [Ev.keep, ih]
  have get : ∀ (L : List Nat) (s : Slots) (i d : Nat), (Ev.keep L i s)[d]? = (s[d]?).map fun x => bif memN (i + d) L then x else .any := by
    intro L s
    induction s with
    | nil => intro i d; rfl
    | cons x r ih =>
      intro i d
      cases d with
      | zero => simp [Ev.keep]
      | succ d => simp only [Ev.keep, List.getElem?_cons_succ, ih]; rw [show i + 1 + d = i + (d + 1) from by omega]
  refine RVs.of_get (by rw [len]; simpa using h.1) fun d u hd => ?_
  rw [get] at hd
  obtain ⟨x, hx, hu⟩ := map_some hd
  rw [Nat.zero_add] at hu
  cases hm : memN d (o.looksAt ops) with
  | true =>
    rw [hm] at hu
    obtain rfl : x = u := hu
    obtain ⟨v, h1, h2⟩ := h.2 d x hx (hb d (mem _ _ hm))
    exact ⟨v, by simpa using h1, h2⟩
  | false =>
    rw [hm] at hu
    obtain rfl : AV.any = u := hu
    have hlt : d < a.tmps.size := by
      rw [← h.1]
      exact (List.getElem?_eq_some_iff.1 hx).1
    exact ⟨a.tmps[d], by simp [hlt], trivial⟩
theorem RX.put {Γ : Gh} {H : Heap} {bad bad' : Nat → Prop} {s : Slots} {a : Act} {d : Option Tmp} {u : AV} {v : Value} (h : RX Γ H bad s a) (hu : RV Γ H u v) (hb : ∀ e, ¬ bad' e → d ≠ some e → ¬ bad e) : RX Γ H bad' (s.put d u) (a.put d v) := by
  cases d with
  | none => exact ⟨h.1, fun e x he hn => h.2 e x he (hb e hn nofun)⟩
  | some d =>
    refine ⟨by simpa [Slots.put, Act.put] using h.1, fun e x he hn => ?_⟩
    by_cases hd : d = e
    · subst hd
      have hlt : d < s.length := by
        have := (List.getElem?_eq_some_iff.1 he).1
        simpa [Slots.put] using this
      have hx : u = x := by simpa [Slots.put, hlt] using he
      subst hx
      exact ⟨v, by simp [Act.put, ← h.1, hlt], hu⟩
    · obtain ⟨y, h1, h2⟩ := h.2 e x (by simpa [Slots.put, hd] using he) (hb e hn (by simpa using hd))
      exact ⟨y, by simpa [Act.put, Array.getElem?_setIfInBounds_ne hd] using h1, h2⟩
theorem RX.wait {Γ : Gh} {H : Heap} {bad bad' : Nat → Prop} {s : Slots} {a : Act} {d : Option Tmp} {u : AV} (h : RX Γ H bad s a) (hb : ∀ e, ¬ bad' e → ¬ bad e ∧ d ≠ some e) : RX Γ H bad' (s.put d u) a :=
  ⟨by rw [Slots.length_put]; exact h.1, fun e x he hn => h.2 e x (by rw [Slots.get_put_ne _ _ (hb e hn).2] at he; exact he) (hb e hn).1⟩

-- what waits
def MkOn (ops : Array Oper) (s : Slots) (x : DOp) : Prop := isMk x.2.2.op = true ∧ wantA ops s x.2.2 = some true
def Pend (C : Ctx) (lim : Nat) (ops : Array Oper) (N : Nat) (loc : Nat → Nat) (rs : List (Nat × Op × AV)) (Γ : Gh) (H : Heap) (s : Slots) (x : DOp) : Prop :=
  x.2.1 = true ∧
  ((wantA ops s x.2.2 = some false ∧ s.put x.2.2.dst (.tup []) = s) ∨
   (wantA ops s x.2.2 = some true ∧ isMk x.2.2.op = false ∧ ∃ v, s.put x.2.2.dst v = s ∧ opA C lim s H x.2.2.op = some (v, .nothing) ∧ (isPure x.2.2.op = true ∨ (x.1, x.2.2.op, v) ∈ rs)) ∨
   (wantA ops s x.2.2 = some true ∧ isMk x.2.2.op = true ∧ ∃ v ob, s.put x.2.2.dst (v.at (loc x.1)) = s ∧ opA C lim s H x.2.2.op = some (v, .new ob) ∧ N ≤ loc x.1 ∧ loc x.1 < H.sz ∧ Γ.blk (loc x.1) = none ∧ H.get (loc x.1) = ob ∧ ob.under (loc x.1) = true))
theorem AV.at_at (v : AV) (k l : Nat) : (v.at k).at l = v.at l := by cases v <;> rfl
theorem Pend.step {N : Nat} {loc loc' : Nat → Nat} {rs rs' : List (Nat × Op × AV)} {Γ Γ' : Gh} {H H' : Heap} {s : Slots} {d : Option Tmp} {u : AV} {x : DOp} (h : Pend C lim ops N loc rs Γ H s x)
    (h1 : ∀ t, d = some t → t ∉ x.2.2.looksAt ops) (h2 : ∀ t, d = some t → x.2.2.dst ≠ some t)
    (hre : isPure x.2.2.op = false → ∀ v, (x.1, x.2.2.op, v) ∈ rs → opA C lim s H x.2.2.op = some (v, .nothing) → opA C lim (s.put d u) H' x.2.2.op = some (v, .nothing))
    (hrs : ∀ q ∈ rs, q ∈ rs') (hloc : loc' x.1 = loc x.1)
    (hmk : ∀ l, l < H.sz → N ≤ l → Γ.blk l = none → (MkOn ops s x → l = loc x.1) → H'.get l = H.get l ∧ Γ'.blk l = none) (hsz : H.sz ≤ H'.sz) : Pend C lim ops N loc' rs' Γ' H' (s.put d u) x := by
  have ag : Agree ops x.2.2 (s.put d u) s := Agree.put h1
  have st : ∀ v, s.put x.2.2.dst v = s → (s.put d u).put x.2.2.dst v = s.put d u := fun v e => by rw [Slots.put_comm s u v h2, e]
  refine ⟨h.1, ?_⟩
  rcases h.2 with ⟨e1, e2⟩ | ⟨e1, e2, v, e3, e4, e5⟩ | ⟨e1, e2, v, ob, e3, e4, e5, e6, e7, e8, e9⟩
  · exact .inl ⟨ag.want.trans e1, st _ e2⟩
  · refine .inr (.inl ⟨ag.want.trans e1, e2, v, st _ e3, ?_, e5.imp id (hrs _)⟩)
    cases hp : isPure x.2.2.op with
    | true => rw [ag.op, opA_pure hp H' H lim]; exact e4
    | false =>
      rcases e5 with e5 | e5
      · rw [hp] at e5; cases e5
      · exact hre hp v e5 e4
  · obtain ⟨ob', hob, _, _, hany⟩ := opA_mk e2 e4
    cases hob
    obtain ⟨g1, g2⟩ := hmk _ e6 e5 e7 fun _ => rfl
    exact .inr (.inr ⟨ag.want.trans e1, e2, v.at H'.sz, ob, by rw [AV.at_at, hloc]; exact st _ e3, by rw [ag.op]; exact hany lim H', by rw [hloc]; exact e5, by rw [hloc]; omega, by rw [hloc]; exact g2, by rw [hloc, g1]; exact e8, by rw [hloc]; exact e9⟩)

theorem freshD_spec {x y : Oper} (h : freshD ops x y = true) : ∀ t, y.dst = some t → t ∉ x.looksAt ops ∧ x.dst ≠ some t := by
  intro t ht
  simp only [freshD, ht, Bool.and_eq_true, Bool.not_eq_true', bne_iff_ne, List.contains_eq_mem, decide_eq_false_iff_not] at h
  exact h
theorem selfD_spec {x : Oper} (h : selfD ops x = true) : ∀ t, x.dst = some t → t ∉ x.looksAt ops := by
  intro t ht
  simp only [selfD, ht, Bool.not_eq_true', List.contains_eq_mem, decide_eq_false_iff_not] at h
  exact h
theorem pairD_spec {ms : List Nat} {x y : DOp} (h : pairD ops ms x y = true) : x.1 ≠ y.1 ∧ ((ms.getD y.1 0).testBit x.1 = true ∨ (x.2.1 = true ∧ x.2.2.apart ops y.2.2 = true)) ∧ (y.2.1 = true → freshD ops x.2.2 y.2.2 = true) := by
  simp only [pairD, Bool.and_eq_true, Bool.or_eq_true, Bool.not_eq_true'] at h
  obtain ⟨⟨h1, h2⟩, h3⟩ := h
  exact ⟨Nat.ne_of_beq_eq_false h1, h2, fun hy => h3.resolve_left (by simp [hy])⟩

def bad (pend : List DOp) (d : Nat) : Prop := ∃ x ∈ pend, x.2.2.dst = some d
structure Inv (C : Ctx) (lim : Nat) (ops : Array Oper) (w0 : World) (Γ0 : Gh) (H0 : Heap) (w1 : World) (ds : List Deferred) (pend rem : List DOp) (rs : List (Nat × Op × AV)) (loc : Nat → Nat) (listed : Array Bool) (s : Slots) (H : Heap) (Γ : Gh) (a : Act) (w : World) : Prop where
  here : ∀ x ∈ pend ++ rem, ops[x.1]? = some x.2.2
  self : ∀ x ∈ pend ++ rem, x.2.1 = true → selfD ops x.2.2 = true
  pw : (pend ++ rem).Pairwise fun x y => pairD ops (masks ops) x y = true
  un : ∀ i, i < ops.size → (listed.getD i true = false ↔ ∃ x ∈ pend ++ rem, x.1 = i)
  sz : listed.size = ops.size
  closed : ∀ i o, ops[i]? = some o → listed.getD i false = true → ∀ e ∈ o.after, Region.binds .any e = true → listed.getD e.on false = true
  wait : ∀ x ∈ pend, Pend C lim ops H0.sz loc rs Γ H s x
  loc : ∀ x ∈ pend, ∀ y ∈ pend, x.1 ≠ y.1 → MkOn ops s x → MkOn ops s y → loc x.1 ≠ loc y.1
  rel : Rel C.P w0 Γ H w
  ext : Ext lim Γ0 H0 w1 Γ H w
  rx : RX Γ H (bad pend) s a
  defers : a.defers = ds
def Low (ops : Array Oper) : Prop := ∀ i o, ops[i]? = some o → ∀ e ∈ o.after, Region.binds .any e = true → e.on < i
theorem unlisted {listed : Array Bool} {j : Nat} (h1 : listed.getD j true = false) (h2 : listed.getD j false = true) : False := by
  by_cases h : j < listed.size
  · simp [Array.getD, h] at h1 h2; rw [h1] at h2; cases h2
  · simp [Array.getD, h] at h1
theorem bit_listed {listed : Array Bool} (hlow : Low ops) (hcl : ∀ i o, ops[i]? = some o → listed.getD i false = true → ∀ e ∈ o.after, Region.binds .any e = true → listed.getD e.on false = true) :
    ∀ n i, i < n → (∀ o, ops[i]? = some o → ∀ e ∈ o.after, Region.binds .any e = true → listed.getD e.on false = true) → ∀ j, ((masks ops).getD i 0).testBit j = true → listed.getD j false = true := by
  intro n
  induction n with
  | zero => intro i hi; omega
  | succ n ih =>
    intro i hi hr j hj
    obtain ⟨o, e, h1, h2, h3, h4⟩ := masks_spec i j hj
    have h1 : ops[i]? = some o := by simpa using h1
    have h2 : e ∈ o.after := by simpa using h2
    have he := hr o h1 e h2 h3
    rcases h4 with rfl | h4
    · exact he
    · exact ih e.on (by have := hlow i o h1 e h2 h3; omega) (fun o' ho' => hcl e.on o' ho' he) j h4

variable {call : CallF} {K : Slots → Heap → Res} {r : AV × Heap} {Γ0 : Gh} {H0 : Heap} {w1 : World} {ds : List Deferred}
theorem Inv.advance {pend rem : List DOp} {y : DOp} {rs : List (Nat × Op × AV)} {loc : Nat → Nat} {listed : Array Bool} {s : Slots} {H : Heap} {Γ : Gh} {a : Act} {w : World}
    (I : Inv C lim ops w0 Γ0 H0 w1 ds pend (y :: rem) rs loc listed s H Γ a w) (h : evDraw C call lim ops (masks ops) (y :: rem) rs s H K = some r) (hf : y.2.1 = true) :
    ∃ rs' loc' s' H' Γ', Inv C lim ops w0 Γ0 H0 w1 ds (pend ++ [y]) rem rs' loc' listed s' H' Γ' a w ∧ evDraw C call lim ops (masks ops) rem rs' s' H' K = some r := by
  obtain ⟨j, fl, o⟩ := y
  simp only at hf
  subst hf
  have hmem : ∀ x, x ∈ (pend ++ [(j, true, o)]) ++ rem ↔ x ∈ pend ++ (j, true, o) :: rem := fun x => by simp
  have heq : (pend ++ [(j, true, o)]) ++ rem = pend ++ (j, true, o) :: rem := by simp
  have hpy : ∀ x ∈ pend, x.1 ≠ j ∧ (∀ t, o.dst = some t → t ∉ x.2.2.looksAt ops) ∧ (∀ t, o.dst = some t → x.2.2.dst ≠ some t) := fun x hx => by
    have := pairD_spec ((List.pairwise_append.1 I.pw).2.2 x hx (j, true, o) (by simp))
    exact ⟨this.1, fun t ht => (freshD_spec (this.2.2 rfl) t ht).1, fun t ht => (freshD_spec (this.2.2 rfl) t ht).2⟩
  have hself := selfD_spec (I.self (j, true, o) (by simp) rfl)
  have ag : ∀ v, Agree ops o (s.put o.dst v) s := fun v => Agree.put hself
  have hbad : ∀ e, ¬ bad (pend ++ [(j, true, o)]) e → ¬ bad pend e ∧ o.dst ≠ some e := fun e he =>
    ⟨fun ⟨x, hx, hd⟩ => he ⟨x, by simp [hx], hd⟩, fun hd => he ⟨(j, true, o), by simp, hd⟩⟩
  have mk : ∀ v x, x ∈ pend → (MkOn ops (s.put o.dst v) x ↔ MkOn ops s x) := fun v x hx => by
    simp only [MkOn, (Agree.put (ops := ops) (s := s) (v := v) (hpy x hx).2.1).want]
  have build : ∀ (rs' : List (Nat × Op × AV)) (loc' : Nat → Nat) (v : AV) (H' : Heap) (Γ' : Gh), (∀ x ∈ pend, loc' x.1 = loc x.1) → Rel C.P w0 Γ' H' w → Ext lim Γ H w Γ' H' w →
      (∀ x ∈ pend, Pend C lim ops H0.sz loc' rs' Γ' H' (s.put o.dst v) x) → Pend C lim ops H0.sz loc' rs' Γ' H' (s.put o.dst v) (j, true, o) →
      (∀ x ∈ pend, MkOn ops s x → MkOn ops s (j, true, o) → loc x.1 ≠ loc' j) →
      Inv C lim ops w0 Γ0 H0 w1 ds (pend ++ [(j, true, o)]) rem rs' loc' listed (s.put o.dst v) H' Γ' a w := by
    intro rs' loc' v H' Γ' hl hR hE hp hy hd
    refine ⟨fun x hx => I.here x ((hmem x).1 hx), fun x hx => I.self x ((hmem x).1 hx), heq ▸ I.pw, fun i hi => by rw [heq]; exact I.un i hi, I.sz, I.closed, fun x hx => ?_, fun x hx z hz hne hmx hmz => ?_, hR, I.ext.trans hE, (I.rx.mono hE.le).wait hbad, I.defers⟩
    · rcases List.mem_append.1 hx with hx | hx
      · exact hp x hx
      · obtain rfl := List.mem_singleton.1 hx; exact hy
    · have yy : MkOn ops (s.put o.dst v) (j, true, o) → MkOn ops s (j, true, o) := fun h => ⟨h.1, (ag v).want.symm.trans h.2⟩
      rcases List.mem_append.1 hx with hx | hx <;> rcases List.mem_append.1 hz with hz | hz
      · rw [hl x hx, hl z hz]; exact I.loc x hx z hz hne ((mk v x hx).1 hmx) ((mk v z hz).1 hmz)
      · obtain rfl := List.mem_singleton.1 hz
        rw [hl x hx]; exact hd x hx ((mk v x hx).1 hmx) (yy hmz)
      · obtain rfl := List.mem_singleton.1 hx
        rw [hl z hz]; exact (hd z hz ((mk v z hz).1 hmz) (yy hmx)).symm
      · obtain rfl := List.mem_singleton.1 hx
        obtain rfl := List.mem_singleton.1 hz
        exact absurd rfl hne
  have same : ∀ (rs' : List (Nat × Op × AV)) (v : AV) x, (∀ q ∈ rs, q ∈ rs') → x ∈ pend → Pend C lim ops H0.sz loc rs' Γ H (s.put o.dst v) x := fun rs' v x hrs hx =>
    (I.wait x hx).step (hpy x hx).2.1 (hpy x hx).2.2 (fun _ u _ hu => by rw [(Agree.put (ops := ops) (hpy x hx).2.1).op]; exact hu) hrs rfl (fun l _ _ hb _ => ⟨rfl, hb⟩) (Nat.le_refl _)
  unfold evDraw at h
  obtain ⟨b, hb, h⟩ := bind_some h
  cases b with
  | false =>
    simp only [Bool.not_false, cond_true, putA_eq] at h
    refine ⟨rs, loc, _, H, Γ, build rs loc _ H Γ (fun _ _ => rfl) I.rel (Ext.refl _ _ _ _) (fun x hx => same rs _ x (fun _ h => h) hx) ?_ (fun x hx h1 h2 => ?_), h⟩
    · exact ⟨rfl, .inl ⟨(ag _).want.trans hb, Slots.put_put _ _ _ _⟩⟩
    · exact absurd (hb.symm.trans h2.2) (by simp)
  | true =>
    simp only [Bool.not_true, cond_false, cond_true] at h
    obtain ⟨q, hq, h⟩ := bind_some h
    obtain ⟨v, f⟩ := q
    cases f with
    | nothing =>
      simp only [strA?_eq, putA_eq] at h
      have hnm : isMk o.op = false := by
        cases hm : isMk o.op with
        | false => rfl
        | true => obtain ⟨ob, h1, _⟩ := opA_mk hm hq; cases h1
      refine ⟨_, loc, _, H, Γ, build _ loc _ H Γ (fun _ _ => rfl) I.rel (Ext.refl _ _ _ _) (fun x hx => same _ _ x (fun q hq => ?_) hx) ?_ (fun x hx h1 h2 => ?_), h⟩
      · cases isPure o.op <;> simp [hq]
      · refine ⟨rfl, .inr (.inl ⟨(ag _).want.trans hb, hnm, v, Slots.put_put _ _ _ _, by rw [(ag v).op]; exact hq, ?_⟩)⟩
        cases isPure o.op <;> simp
      · exact absurd (hnm.symm.trans h2.1) (by simp)
    | new ob =>
      simp only at h
      obtain ⟨hc, h⟩ := cond_some h
      simp only [strA?_eq, applyK_eq, putA_eq] at h
      obtain ⟨hag, h⟩ := cond_some h
      simp only [Bool.and_eq_true] at hc
      obtain ⟨hm, hu⟩ := hc
      obtain ⟨ob', hob, hver, hv, hany⟩ := opA_mk hm hq
      cases hob
      obtain ⟨hR, hE⟩ := I.rel.gap (lim := lim) ob
      have hloc : ∀ x ∈ pend, (fun k => if k = j then H.sz else loc k) x.1 = loc x.1 := fun x hx => by simp [(hpy x hx).1]
      have hsz : H.sz < (H.new ob).sz := by rw [Heap.sz_new]; omega
      have hvs : v.at H.sz = v := by rcases hv with rfl | ⟨n, rfl⟩ <;> rfl
      refine ⟨rs, _, _, H.new ob, Γ.gap H.sz, build rs (fun k => if k = j then H.sz else loc k) v _ _ hloc hR hE (fun x hx => ?_) ?_ (fun x hx h1 h2 => ?_), h⟩
      · refine (I.wait x hx).step (hpy x hx).2.1 (hpy x hx).2.2 (fun _ u hu' _ => ?_) (fun _ h => h) (hloc x hx) (fun l hl _ hb _ => ⟨by rw [Heap.get_new, if_neg (by omega)], by simp [Gh.gap, show l ≠ H.sz from by omega, hb]⟩) (Nat.le_of_lt hsz)
        have := List.all_eq_true.1 hag _ hu'
        unfold again at this
        split at this
        · rename_i u' he
          rw [AV.eqv_eq _ _ this] at he
          exact he
        · cases this
      · refine ⟨rfl, .inr (.inr ⟨(ag _).want.trans hb, hm, v.at (H.new ob).sz, ob, ?_, by rw [(ag v).op]; exact hany lim _, ?_, ?_, ?_, ?_, ?_⟩)⟩
        · simp only [if_true, AV.at_at, hvs]; exact Slots.put_put _ _ _ _
        · simp only [if_true]; exact I.ext.le.sz
        · simp only [if_true]; exact hsz
        · simp [Gh.gap]
        · simp only [if_true]; rw [Heap.get_new, if_pos rfl]
        · simp only [if_true]; exact hu
      · simp only [if_true]
        rcases (I.wait x hx).2 with ⟨e1, _⟩ | ⟨_, e2, _⟩ | ⟨_, _, v, ob, _, _, _, e6, _⟩
        · exact absurd (e1.symm.trans h1.2) (by simp)
        · exact absurd (e2.symm.trans h1.1) (by simp)
        · omega
    | put l ob => cases h
end
end Go.Ev
