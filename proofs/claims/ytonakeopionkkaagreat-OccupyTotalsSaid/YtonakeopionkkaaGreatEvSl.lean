/- EvSl: slices: what they read as; looking, cutting, growing. -/
import Derived.Test.YtonakeopionkkaaGreatEvP
import Derived.DataElems
set_option linter.unusedVariables false
set_option linter.unusedSimpArgs false
namespace Go.Ev
open Go.RowKit
/-- A slice of elements of sz cells each. -/
def Els (ρ : Addr → Option Value) (H : Heap) (sz : Nat) (x : AV) (els : List (List AV)) : Prop := match x with
  | .nils => els = []
  | .sx n => n = 0 ∧ els = []
  | .sl l v o n c m => n = els.length ∧ n ≤ c ∧ l < H.sz ∧ ∃ e fr g cs, H.get l = .cells v e fr g cs ∧ o + n * sz ≤ cs.length ∧ ∀ (i : Nat) (h : i < els.length), (cs.drop (o + i * sz)).take sz = els[i]
  | .xs a n c => n = els.length ∧ n ≤ c ∧ ∀ (i : Nat) (h : i < els.length), els[i].length = sz ∧ ∀ off, off < sz → (ρ (a.add (i * sz + off))).map ofCell = els[i][off]?
  | _ => False
/-- An element's place, off cells further on. -/
def elp (sz : Nat) (x : AV) (i off : Nat) : AV := match x with
  | .sl l v o _ _ _ => .ptr l v (o + i * sz + off)
  | .xs a _ _ => .xp ((a.add (i * sz)).add off)
  | _ => .nilp
/-- The own place in which it lies. -/
def AV.lies (x : AV) (l : Nat) : Prop := match x with
  | .sl l' _ _ _ _ _ => l' = l
  | _ => False
section
variable {ρ : Addr → Option Value} {H H' : Heap} {sz : Nat} {x : AV} {els : List (List AV)}
theorem Els.nils : Els ρ H sz .nils [] := (rfl)
theorem Els.lenS (h : Els ρ H sz x els) : lenS x = some (.int .i64 els.length) := by
  cases x <;> simp_all [Els, Go.Ev.lenS]
theorem Els.lenA (h : Els ρ H sz x els) : lenA x = some els.length := by
  cases x <;> simp_all [Els, Go.Ev.lenA]
theorem Els.lies_lt (h : Els ρ H sz x els) (l : Nat) (hl : x.lies l) : l < H.sz := by
  cases x <;> simp_all [Els, AV.lies]
theorem Els.frame (h : Els ρ H sz x els) (S : Nat → Prop) (f : Fr S H H') (hs : ∀ l, x.lies l → ¬ S l) : Els ρ H' sz x els := by
  cases x with
  | sl l v o n c m =>
    obtain ⟨h1, h2, h3, e, fr, g, cs, h4, h5⟩ := h
    exact ⟨h1, h2, Nat.lt_of_lt_of_le h3 f.sz, e, fr, g, cs, by rw [f.get l h3 (hs l rfl), h4], h5⟩
  | _ => exact h
theorem Els.frame0 (h : Els ρ H sz x els) (f : Fr Nop H H') : Els ρ H' sz x els := h.frame Nop f fun _ _ q => q
theorem Els.new (h : Els ρ H sz x els) (o : AObj) : Els ρ (H.new o) sz x els := h.frame0 (Fr.new Nop H o)
theorem Els.ix (h : Els ρ H sz x els) (k : IntKind) (i : Int) (h0 : 0 ≤ i) (h1 : i < els.length) : ixS sz x (.int k i) = some (elp sz x i.toNat 0) := by
  have h2 : els ≠ [] := by intro e; subst e; simp at h1; omega
  cases x with
  | sl l v o n c m =>
    obtain ⟨rfl, _⟩ := h
    simp [ixS, asInt, elAt, h0, h1, addA, elp]
  | xs a n c =>
    obtain ⟨rfl, _⟩ := h
    simp [ixS, asInt, elAt, h0, h1, addA, elp, Addr.add]
  | _ => simp_all [Els]
theorem elp_add (h : Els ρ H sz x els) (i off n : Nat) (hi : i < els.length) : addA n (elp sz x i off) = some (elp sz x i (off + n)) := by
  cases x with
  | sl l v o n c m => simp [elp, addA, Nat.add_assoc]
  | xs a n c => simp [elp, addA, Addr.add_add, Nat.add_assoc]
  | nils => simp only [Els] at h; subst h; simp at hi
  | sx n => obtain ⟨_, rfl⟩ := h; simp at hi
  | _ => exact h.elim
theorem take_getElem? {α : Type} (cs : List α) (a n off : Nat) (h : off < n) : cs[a + off]? = ((cs.drop a).take n)[off]? := by
  rw [List.getElem?_take_of_lt h, List.getElem?_drop]
theorem Els.ld1 (h : Els ρ H sz x els) (i off : Nat) (hi : i < els.length) (ho : off < sz) : Go.Ev.ld1 ρ H (elp sz x i off) = els[i][off]? := by
  cases x with
  | sl l v o n c m =>
    obtain ⟨h1, h2, h3, e, fr, g, cs, h4, h5, h6⟩ := h
    rw [elp, ld1_of _ h4, take_getElem? _ _ sz _ ho, h6 i hi]
  | xs a n c =>
    obtain ⟨h1, h2, h3⟩ := h
    rw [elp]
    show (ρ ((a.add (i * sz)).add off)).map ofCell = _
    rw [Addr.add_add, (h3 i hi).2 off ho]
  | nils => simp only [Els] at h; subst h; simp at hi
  | sx n => obtain ⟨_, rfl⟩ := h; simp at hi
  | _ => exact h.elim
theorem mapM_read {ρ : Addr → Option Value} {a : Addr} {es : List AV} : ∀ (n : Nat), (∀ off, off < n → (ρ (a.add off)).map ofCell = es[off]?) → n ≤ es.length → ((List.range n).mapM fun i => ρ (a.add i)).map (fun vs => vs.map ofCell) = some (es.take n) := by
  intro n
  induction n with
  | zero => intro _ _; simp
  | succ n ih =>
    intro h hl
    have hn := h n (by omega)
    rw [List.getElem?_eq_getElem (by omega), Option.map_eq_some_iff] at hn
    obtain ⟨v, hv, e⟩ := hn
    have := ih (fun off ho => h off (by omega)) (by omega)
    rw [Option.map_eq_some_iff] at this
    obtain ⟨vs, hvs, e2⟩ := this
    rw [List.range_succ, List.mapM_append, hvs]
    have hn' : n < es.length := by omega
    have e3 : List.map ofCell vs = es.take n := e2
    simp only [List.mapM_cons, List.mapM_nil, hv, Option.pure_def, Option.bind_eq_bind, Option.bind_some, Option.map_some, List.map_append, List.map_cons, List.map_nil, e3, e, List.take_append_getElem hn']
theorem Els.len_el (h : Els ρ H sz x els) (i : Nat) (hi : i < els.length) : els[i].length = sz := by
  cases x with
  | sl l v o n c m =>
    obtain ⟨h1, h2, h3, e, fr, g, cs, h4, h5, h6⟩ := h
    rw [← h6 i hi, List.length_take, List.length_drop, Nat.min_eq_left]
    have : i * sz + sz ≤ n * sz := by rw [← Nat.succ_mul]; exact Nat.mul_le_mul_right _ (by omega)
    omega
  | xs a n c => exact (h.2.2 i hi).1
  | nils => simp only [Els] at h; subst h; simp at hi
  | sx n => obtain ⟨_, rfl⟩ := h; simp at hi
  | _ => exact h.elim
theorem Els.ldN (h : Els ρ H sz x els) (i : Nat) (hi : i < els.length) : Go.Ev.ldN ρ H sz (elp sz x i 0) = some (.agg els[i]) := by
  have hl := h.len_el i hi
  cases x with
  | sl l v o n c m =>
    obtain ⟨h1, h2, h3, e, fr, g, cs, h4, h5, h6⟩ := h
    have : i * sz + sz ≤ n * sz := by rw [← Nat.succ_mul]; exact Nat.mul_le_mul_right _ (by omega)
    rw [elp, ldN_of sz _ h4 (by omega), Nat.add_zero, h6 i hi]
  | xs a n c =>
    have := mapM_read (ρ := ρ) (a := a.add (i * sz)) (es := els[i]) sz (fun off ho => by rw [Addr.add_add]; exact (h.2.2 i hi).2 off ho) (by omega)
    simp only [elp, Go.Ev.ldN, ldL, Addr.add]
    simp only [Addr.add] at this
    simp only [if_pos, this]
    simp [← hl]
  | nils => simp only [Els] at h; subst h; simp at hi
  | sx n => obtain ⟨_, rfl⟩ := h; simp at hi
  | _ => exact h.elim
/-- Some cells of an element. -/
theorem Els.ldSub (h : Els ρ H sz x els) (i off n : Nat) (hi : i < els.length) (ho : off + n ≤ sz) : Go.Ev.ldN ρ H n (elp sz x i off) = some (.agg ((els[i].drop off).take n)) := by
  have hl := h.len_el i hi
  cases x with
  | sl l v o m c mm =>
    obtain ⟨h1, h2, h3, e, fr, g, cs, h4, h5, h6⟩ := h
    have : i * sz + sz ≤ m * sz := by rw [← Nat.succ_mul]; exact Nat.mul_le_mul_right _ (by omega)
    rw [elp, ldN_of n _ h4 (by omega), ← h6 i hi, List.drop_take, List.take_take, Nat.min_eq_left (by omega), List.drop_drop]
  | xs a m c =>
    have := mapM_read (ρ := ρ) (a := (a.add (i * sz)).add off) (es := els[i].drop off) n (fun j hj => by
      rw [Addr.add_add, Addr.add_add, (h.2.2 i hi).2 (off + j) (by omega), List.getElem?_drop]) (by rw [List.length_drop]; omega)
    simp only [elp, Go.Ev.ldN, ldL, this, Option.map_some]
  | nils => simp only [Els] at h; subst h; simp at hi
  | sx n => obtain ⟨_, rfl⟩ := h; simp at hi
  | _ => exact h.elim
theorem flat_drop_take : ∀ (els : List (List AV)) (cs : List AV) (sz : Nat), (∀ r ∈ els, r.length = sz) → ∀ (i : Nat) (h : i < els.length), ((els.flatten ++ cs).drop (i * sz)).take sz = els[i]
  | [], _, _, _, i, h => by simp at h
  | r :: els, cs, sz, hr, 0, h => by
    have := hr r (by simp)
    simp [← this]
  | r :: els, cs, sz, hr, i + 1, h => by
    have h1 := hr r (by simp)
    have := flat_drop_take els cs sz (fun r hr' => hr r (by simp [hr'])) i (by simpa using h)
    rw [List.flatten_cons, List.append_assoc, Nat.succ_mul, Nat.add_comm, ← List.drop_drop]
    rw [← h1] at this ⊢
    simpa using this
theorem els_length : ∀ (els : List (List AV)) (sz : Nat), (∀ r ∈ els, r.length = sz) → els.flatten.length = els.length * sz
  | [], _, _ => by simp
  | r :: els, sz, h => by
    rw [List.flatten_cons, List.length_append, els_length els sz (fun r hr => h r (by simp [hr])), h r (by simp), List.length_cons, Nat.succ_mul, Nat.add_comm]
theorem flat_of_parts : ∀ (els : List (List AV)) (cs : List AV) (sz o : Nat), o + els.length * sz ≤ cs.length → (∀ (i : Nat) (h : i < els.length), (cs.drop (o + i * sz)).take sz = els[i]) → (cs.drop o).take (els.length * sz) = els.flatten
  | [], _, _, _, _, _ => by simp
  | r :: els, cs, sz, o, hl, h => by
    have h0 := h 0 (by simp)
    simp only [Nat.zero_mul, Nat.add_zero, List.getElem_cons_zero] at h0
    have := flat_of_parts els cs sz (o + sz) (by rw [List.length_cons, Nat.succ_mul] at hl; omega) (fun i hi => by
      have := h (i + 1) (by simpa using hi)
      simp only [List.getElem_cons_succ] at this
      rw [← this]; congr 2; rw [Nat.succ_mul]; omega)
    rw [List.length_cons, Nat.succ_mul, Nat.add_comm, List.take_add, h0, List.drop_drop, this, List.flatten_cons]
/-- All its cells. -/
theorem Els.frst (h : Els ρ H sz x els) : Go.Ev.frst ρ H sz els.length x = some els.flatten := by
  cases x with
  | sl l v o n c m =>
    obtain ⟨h1, h2, h3, e, fr, g, cs, h4, h5, h6⟩ := h
    subst h1
    have : Nat.ble (o + els.length * sz) cs.length = true := Nat.ble_eq_true_of_le h5
    simp only [Go.Ev.frst, ldL, cellsAt_of h4, Option.bind_some, this, cond_true]
    rw [flat_of_parts els cs sz o h5 h6]
  | xs a n c =>
    obtain ⟨h1, h2, h3⟩ := h
    subst h1
    have hf := els_length els sz (fun r hr => by obtain ⟨i, hi, rfl⟩ := List.mem_iff_getElem.1 hr; exact (h3 i hi).1)
    simp only [Go.Ev.frst, ldL]
    rw [mapM_read (es := els.flatten) (els.length * sz) _ (by omega), List.take_of_length_le (by omega)]
    intro off ho
    by_cases hz : sz = 0
    · subst hz; simp at ho
    have hi : off / sz < els.length := Nat.div_lt_of_lt_mul (by rw [Nat.mul_comm]; exact ho)
    have := (h3 (off / sz) hi).2 (off % sz) (Nat.mod_lt _ (by omega))
    rw [Nat.mul_comm, Nat.div_add_mod] at this
    rw [this]
    have e := flat_drop_take els [] sz (fun r hr => by obtain ⟨i, hi, rfl⟩ := List.mem_iff_getElem.1 hr; exact (h3 i hi).1) (off / sz) hi
    rw [← e, ← take_getElem? _ _ _ _ (Nat.mod_lt _ (by omega)), List.append_nil]
    congr 1
    rw [Nat.mul_comm, Nat.div_add_mod]
  | nils => simp only [Els] at h; subst h; rfl
  | sx n => obtain ⟨_, rfl⟩ := h; rfl
  | _ => exact h.elim
theorem mul_sub_add {a b : Nat} : a ≤ b → ∀ c, a * c + (b - a) * c = b * c := by
  intro h c
  rw [← Nat.add_mul]; congr 1; omega
/-- Cutting from lo to hi, both within its length. -/
theorem Els.cut (h : Els ρ H sz x els) {lo hi : Nat} (h1 : lo ≤ hi) (h2 : hi ≤ els.length) (l h' : Option AV) (hl : l = none ∧ lo = 0 ∨ ∃ k, l = some (.int k lo)) (hh : h' = none ∧ hi = els.length ∨ ∃ k, h' = some (.int k hi)) (hx : ∀ n, x ≠ .sx n) :
    ∃ y, slS sz x l h' none = some y ∧ Els ρ H sz y ((els.drop lo).take (hi - lo)) ∧ (∀ l, y.lies l → x.lies l) := by
  have hb : ∀ n c, n = els.length → n ≤ c → boundsA n c l h' none = some (lo, hi, c) := by
    intro n c hn hc
    have a1 : decide ((0 : Int) ≤ hi) = true := by simp
    have a2 : decide ((hi : Int) ≤ c) = true := by simp; omega
    have a3 : decide ((0 : Int) ≤ lo) = true := by simp
    have a4 : decide ((lo : Int) ≤ hi) = true := by simp; omega
    rcases hh with ⟨rfl, e⟩ | ⟨k, rfl⟩ <;> rcases hl with ⟨rfl, e'⟩ | ⟨k', rfl⟩
    · subst e'; simp only [boundsA, Option.bind_some, hn, e]
    · have a5 : decide ((lo : Int) ≤ n) = true := by rw [hn, ← e]; exact a4
      simp only [boundsA, Option.bind_some, boundA, asInt, a3, a5, Bool.and_self, cond_true, Int.toNat_natCast]
      simp only [hn, e]
    · subst e'; simp only [boundsA, Option.bind_some, boundA, asInt, a1, a2, Bool.and_self, cond_true, Int.toNat_natCast]
    · simp only [boundsA, Option.bind_some, boundA, asInt, a1, a2, a3, a4, Bool.and_self, cond_true, Int.toNat_natCast]
  have hlen : ((els.drop lo).take (hi - lo)).length = hi - lo := by rw [List.length_take, List.length_drop]; omega
  have hel : ∀ (i : Nat) (h : i < ((els.drop lo).take (hi - lo)).length), ((els.drop lo).take (hi - lo))[i] = els[lo + i]'(by omega) := fun i hi => by simp
  cases x with
  | sl a v o n c m =>
    obtain ⟨e1, e2, e3, e, fr, g, cs, e4, e5, e6⟩ := h
    have hble : Nat.ble n c = true := Nat.ble_eq_true_of_le e2
    have hm : lo * sz + (hi - lo) * sz = hi * sz := mul_sub_add h1 sz
    have hm2 : hi * sz ≤ n * sz := Nat.mul_le_mul_right _ (by omega)
    have parts : ∀ i (h : i < ((els.drop lo).take (hi - lo)).length), (cs.drop (o + lo * sz + i * sz)).take sz = ((els.drop lo).take (hi - lo))[i] := by
      intro i hi
      rw [hel i hi, ← e6 (lo + i) (by omega), Nat.add_assoc, ← Nat.add_mul]
    simp only [slS, sliceSl, hble, Bool.not_true, cond_false, hb n c e1 e2, Option.bind_some]
    cases m with
    | true =>
      cases hq : (lo == c) with
      | true =>
        have : lo = c := by simpa using hq
        refine ⟨_, rfl, ?_, fun l q => by simp [AV.lies] at q⟩
        simp only [cond_true]
        exact ⟨by omega, List.eq_nil_of_length_eq_zero (by omega)⟩
      | false => exact ⟨_, rfl, ⟨by omega, by omega, e3, e, fr, g, cs, e4, by omega, parts⟩, fun l q => q⟩
    | false =>
      cases hq : (c == lo) with
      | true =>
        have : c = lo := by simpa using hq
        refine ⟨_, rfl, ⟨by omega, by omega, e3, e, fr, g, cs, e4, ?_, ?_⟩, fun l q => q⟩
        · simp only [cond_true]; rw [show hi - lo = 0 by omega]; omega
        · intro i hi; omega
      | false => exact ⟨_, rfl, ⟨by omega, by omega, e3, e, fr, g, cs, e4, by simp only [cond_false]; omega, parts⟩, fun l q => q⟩
  | xs a n c =>
    obtain ⟨e1, e2, e3⟩ := h
    have hble : Nat.ble n c = true := Nat.ble_eq_true_of_le e2
    simp only [slS, hble, Bool.not_true, cond_false, hb n c e1 e2, Option.map_some]
    refine ⟨_, rfl, ⟨by omega, by omega, ?_⟩, fun l q => by simp [AV.lies] at q⟩
    intro i hi'
    rw [hel i hi']
    refine ⟨(e3 (lo + i) (by omega)).1, fun off ho => ?_⟩
    rw [← (e3 (lo + i) (by omega)).2 off ho]
    congr 2
    split
    · omega
    · rw [Addr.add_add]; congr 1; rw [Nat.add_mul]; omega
  | nils =>
    simp only [Els] at h; subst h
    simp only [List.length_nil] at h2 hb
    have := hb 0 0 rfl (Nat.le_refl _)
    exact ⟨.nils, by simp [slS, this], by simp [Els], fun l q => q⟩
  | sx n =>
    exact absurd rfl (hx n)
  | _ => exact h.elim
/-- A slice that grows by append alone, in a place of its own. -/
def Grow (H : Heap) (e sz : Nat) (x : AV) (els : List (List AV)) : Prop := match x with
  | .nils => els = []
  | .sl l v o n c m => o = 0 ∧ n = els.length ∧ c = n ∧ m = true ∧ l < H.sz ∧ (∀ r ∈ els, r.length = sz) ∧ ∃ g, H.get l = .cells v e (0, 0) g els.flatten
  | _ => False
theorem Els.of_cells {l v e : Nat} {fr : Nat × Nat} {g m : Bool} (hl : l < H.sz) (h : H.get l = .cells v e fr g els.flatten) (hs : ∀ r ∈ els, r.length = sz) : Els ρ H sz (.sl l v 0 els.length els.length m) els :=
  ⟨rfl, Nat.le_refl _, hl, e, fr, g, _, h, by rw [els_length els sz hs]; omega, fun i hi => by
    have := flat_drop_take els [] sz hs i hi
    rwa [List.append_nil, ← Nat.zero_add (i * sz)] at this⟩
theorem Grow.nils (H : Heap) (e sz : Nat) : Grow H e sz .nils [] := (rfl)
theorem Grow.toEls {e : Nat} (h : Grow H e sz x els) : Els ρ H sz x els := by
  cases x with
  | nils => exact h
  | sl l v o n c m =>
    obtain ⟨rfl, rfl, rfl, rfl, hl, hs, g, hg⟩ := h
    exact Els.of_cells hl hg hs
  | _ => exact h.elim
theorem Grow.frame {e : Nat} (h : Grow H e sz x els) (S : Nat → Prop) (f : Fr S H H') (hs : ∀ l, x.lies l → ¬ S l) : Grow H' e sz x els := by
  cases x with
  | nils => exact h
  | sl l v o n c m =>
    obtain ⟨h1, h2, h3, h4, hl, h5, g, hg⟩ := h
    exact ⟨h1, h2, h3, h4, Nat.lt_of_lt_of_le hl f.sz, h5, g, by rw [f.get l hl (hs l rfl), hg]⟩
  | _ => exact h.elim
theorem Grow.notSx {e : Nat} (h : Grow H e sz x els) (n : Nat) : x ≠ .sx n := by
  rintro rfl; exact h
theorem growN_of {by_ n : Nat} (h : n * by_ ≤ 70368744177664) (h2 : n ≤ 70368744177664) : growN by_ n = true := by simp [growN, h, h2]
theorem Grow.append {e by_ : Nat} {y : AV} {ys : List (List AV)} (h : Grow H e sz x els) (hy : Els ρ H sz y ys) (hs : ∀ r ∈ ys, r.all AV.solid = true) (hb : (els.length + ys.length) * by_ ≤ 70368744177664) (hb2 : els.length + ys.length ≤ 70368744177664) :
    ∃ x' f, apA ρ 0 H e sz by_ x y = some (x', f) ∧ Grow (f.on H) e sz x' (els ++ ys) ∧ Fr x.lies H (f.on H) ∧ ∀ l, x'.lies l → x.lies l ∨ H.sz ≤ l := by
  have hsol : ys.flatten.all AV.solid = true := by
    rw [List.all_eq_true]; intro a ha
    obtain ⟨r, hr, har⟩ := List.mem_flatten.1 ha
    exact List.all_eq_true.1 (hs r hr) a har
  have hlr : ∀ r ∈ ys, r.length = sz := fun r hr => by obtain ⟨i, hi, rfl⟩ := List.mem_iff_getElem.1 hr; exact hy.len_el i hi
  have hlen := els_length ys sz hlr
  simp only [apA, hy.lenA, Option.bind_some, hy.frst, hsol, hlen, beq_self_eq_true, Bool.and_self, Bool.not_true, cond_false]
  cases x with
  | nils =>
    have : els = [] := h
    subst this
    by_cases h0 : ys.length = 0
    · have : ys = [] := List.eq_nil_of_length_eq_zero h0
      subst this
      exact ⟨.nils, .nothing, rfl, Grow.nils .., Fr.refl .., fun l q => Or.inl q⟩
    · have h0' : (ys.length == 0) = false := by simpa using h0
      simp only [h0', cond_false, growN_of (by_ := by_) (n := ys.length) (by simpa using hb) (by simpa using hb2), cond_true]
      refine ⟨_, _, rfl, ⟨rfl, by simp, rfl, rfl, by simp [Eff.on, Heap.sz_new], by simpa using hlr, true, ?_⟩, Fr.new _ H _, fun l q => Or.inr (by have e : H.sz = l := q; omega)⟩
      simp [Eff.on, newCells, Heap.get_new]
  | sl l v o n c m =>
    obtain ⟨rfl, rfl, rfl, rfl, hl, h5, g, hg⟩ := h
    have hel := els_length els sz h5
    simp only [apSl]
    by_cases h0 : ys.length = 0
    · have : ys = [] := List.eq_nil_of_length_eq_zero h0
      subst this
      simp only [List.length_nil, Nat.add_zero, Nat.le_refl, decide_true, cond_true, List.flatten_nil]
      rw [storeN_of (vs := []) _ hg (by simp [hel]) rfl]
      refine ⟨_, _, rfl, ⟨rfl, by simp, rfl, rfl, hl, by simpa using h5, g, ?_⟩, Fr.put H l _ (fun _ => rfl), fun l q => Or.inl q⟩
      simp [Eff.on, Heap.get_put, layA]
    · have h0' : decide (els.length + ys.length ≤ els.length) = false := by simp; omega
      have hb1 : Nat.ble 0 l = true := Nat.ble_eq_true_of_le (by omega)
      simp only [h0', cond_false, growN_of hb hb2, Bool.not_true, cond_true, hg, hb1, Nat.beq_refl, beq_self_eq_true, hel, Bool.and_self, Nat.ble_eq_true_of_le (Nat.le_refl _)]
      refine ⟨_, _, rfl, ⟨rfl, by simp, rfl, rfl, hl, ?_, true, ?_⟩, Fr.put H l _ (fun _ => rfl), fun l q => Or.inl q⟩
      · intro r hr; rcases List.mem_append.1 hr with q | q
        · exact h5 r q
        · exact hlr r q
      · have ht : els.flatten.take (els.length * sz) = els.flatten := List.take_of_length_le (by omega)
        simp [Eff.on, Heap.get_put, ht]
  | _ => exact h.elim
theorem lay_mid (a b cs : List AV) (o : Nat) (ho : a.length = o) (h : cs.length ≤ b.length) : layA (a ++ b) o cs = a ++ (cs ++ b.drop cs.length) := by
  subst ho
  unfold layA
  rw [List.take_left, Nat.add_comm, ← List.drop_drop, List.append_assoc]
  congr 2
  rw [List.drop_drop, Nat.add_comm, List.drop_append]
  simp
theorem bldS_1 (H : Heap) (e sz : Nat) (z cs : List AV) (hz : z.length = sz) (hc : cs.length = sz) (hs : cs.all AV.solid = true) : bldS H e sz z 1 [(0, sz, .agg cs)] = some (.sl H.sz 0 0 1 1 false, .new (.cells 0 e (0, 0) false cs)) := by
  rw [bldS_eq, fillO_agg _ _ _ _ _ hc (by simp [repeatL]; omega) hs, fillO_nil]
  have : layA (repeatL z 1) 0 cs = cs := lay_all _ _ (by simp [repeatL]; omega)
  rw [this]; rfl
theorem bldS_2 (H : Heap) (e sz o : Nat) (z c d : List AV) (ho : o = sz) (hz : z.length = sz) (hc : c.length = sz) (hd : d.length = sz) (hs : c.all AV.solid = true) (hs2 : d.all AV.solid = true) : bldS H e sz z 2 [(0, sz, .agg c), (o, sz, .agg d)] = some (.sl H.sz 0 0 2 2 false, .new (.cells 0 e (0, 0) false (c ++ d))) := by
  subst ho
  have e1 : layA (repeatL z 2) 0 c = c ++ z := by
    have := lay_mid [] (repeatL z 2) c 0 rfl (by simp [repeatL]; omega)
    rw [List.nil_append] at this
    rw [this, List.nil_append]
    simp [repeatL, ← hz, hc]
  have e2 : layA (c ++ z) o d = c ++ d := by
    rw [lay_mid c z d o hc (by omega)]
    simp [hd, ← hz]
  rw [bldS_eq, fillO_agg _ _ _ _ _ hc (by simp [repeatL]; omega) hs, e1, fillO_agg _ _ _ _ _ hd (by simp; omega) hs2, e2, fillO_nil]
  rfl
/-- A slice that grows, all in places that came behind H0. -/
structure GI (H0 H : Heap) (e sz : Nat) (y : AV) (els : List (List AV)) : Prop where
  grow : Grow H e sz y els
  fr : Fr Nop H0 H
  own : ∀ l, y.lies l → H0.sz ≤ l
theorem GI.nils {H0 H : Heap} {e sz : Nat} (h : Fr Nop H0 H) : GI H0 H e sz .nils [] := ⟨rfl, h, fun l q => q.elim⟩
theorem GI.frame {H0 H H' : Heap} {e sz : Nat} {y : AV} {els : List (List AV)} (h : GI H0 H e sz y els) (f : Fr Nop H H') : GI H0 H' e sz y els := ⟨h.grow.frame Nop f (fun _ _ q => q), h.fr.trans f, h.own⟩
theorem GI.append {H0 H : Heap} {e sz by_ : Nat} {y x : AV} {els xs : List (List AV)} (h : GI H0 H e sz y els) (hx : Els ρ H sz x xs) (hs : ∀ r ∈ xs, r.all AV.solid = true) (hb : (els.length + xs.length) * by_ ≤ 70368744177664) (hb2 : els.length + xs.length ≤ 70368744177664) :
    ∃ y' f, apA ρ 0 H e sz by_ y x = some (y', f) ∧ GI H0 (f.on H) e sz y' (els ++ xs) := by
  obtain ⟨y', f, h1, h2, h3, h4⟩ := h.grow.append hx hs hb hb2
  exact ⟨y', f, h1, h2, h.fr.trans' h3 (fun l hl q => absurd (h.own l q) (by omega)), fun l q => (h4 l q).elim (h.own l) (fun q => Nat.le_trans h.fr.sz q)⟩
/-- Some elements are laid into a new slice, and appended. -/
theorem GI.push {H0 H : Heap} {e sz by_ : Nat} {y : AV} {els : List (List AV)} (h : GI H0 H e sz y els) (rows : List (List AV)) (hl : ∀ r ∈ rows, r.length = sz) (hs : ∀ r ∈ rows, r.all AV.solid = true) (hb : (els.length + rows.length) * by_ ≤ 70368744177664) (hb2 : els.length + rows.length ≤ 70368744177664) :
    ∃ y' f, apA ρ 0 (H.new (.cells 0 e (0, 0) false rows.flatten)) e sz by_ y (.sl H.sz 0 0 rows.length rows.length false) = some (y', f) ∧ GI H0 (f.on (H.new (.cells 0 e (0, 0) false rows.flatten))) e sz y' (els ++ rows) :=
  (h.frame (Fr.new Nop H _)).append (Els.of_cells (by rw [Heap.sz_new]; omega) (Heap.get_new_same ..) hl) hs hb hb2
theorem Els.notSx (h : Els ρ H sz x els) (hne : els ≠ []) (n : Nat) : x ≠ .sx n := by
  rintro rfl; exact hne h.2
/-- A slice of nothing, with no room. -/
def Emp (H : Heap) (y : AV) : Prop := match y with
  | .sl l v o n c m => n = 0 ∧ c = 0 ∧ m = false ∧ l < H.sz ∧ ∃ e fr g cs, H.get l = .cells v e fr g cs ∧ o ≤ cs.length
  | _ => False
theorem Emp.toEls (h : Emp H x) : Els ρ H sz x [] := by
  cases x with
  | sl l v o n c m =>
    obtain ⟨rfl, rfl, rfl, hl, e, fr, g, cs, hg, ho⟩ := h
    exact ⟨rfl, Nat.le_refl _, hl, e, fr, g, cs, hg, by omega, fun i hi => by simp at hi⟩
  | _ => exact h.elim
theorem Emp.frame (h : Emp H x) (S : Nat → Prop) (f : Fr S H H') (hs : ∀ l, x.lies l → ¬ S l) : Emp H' x := by
  cases x with
  | sl l v o n c m =>
    obtain ⟨h1, h2, h3, hl, e, fr, g, cs, hg, ho⟩ := h
    exact ⟨h1, h2, h3, Nat.lt_of_lt_of_le hl f.sz, e, fr, g, cs, by rw [f.get l hl (hs l rfl), hg], ho⟩
  | _ => exact h.elim
theorem Emp.append {e by_ : Nat} {y : AV} {ys : List (List AV)} (h : Emp H x) (hy : Els ρ H sz y ys) (hne : ys ≠ []) (hs : ∀ r ∈ ys, r.all AV.solid = true) (hb : ys.length * by_ ≤ 70368744177664) (hb2 : ys.length ≤ 70368744177664) :
    ∃ x' f, apA ρ 0 H e sz by_ x y = some (x', f) ∧ Grow (f.on H) e sz x' ys ∧ Fr Nop H (f.on H) ∧ ∀ l, x'.lies l → H.sz ≤ l := by
  have hsol : ys.flatten.all AV.solid = true := by
    rw [List.all_eq_true]; intro a ha
    obtain ⟨r, hr, har⟩ := List.mem_flatten.1 ha
    exact List.all_eq_true.1 (hs r hr) a har
  have hlr : ∀ r ∈ ys, r.length = sz := fun r hr => by obtain ⟨i, hi, rfl⟩ := List.mem_iff_getElem.1 hr; exact hy.len_el i hi
  have hlen := els_length ys sz hlr
  have h0 : 0 < ys.length := List.length_pos_iff.2 hne
  simp only [apA, hy.lenA, Option.bind_some, hy.frst, hsol, hlen, beq_self_eq_true, Bool.and_self, Bool.not_true, cond_false]
  cases x with
  | sl l v o n c m =>
    obtain ⟨rfl, rfl, rfl, hl, e', fr, g, cs, hg, ho⟩ := h
    have h1 : decide (ys.length ≤ 0) = false := by simp; omega
    have hble : Nat.ble (o + 0) cs.length = true := Nat.ble_eq_true_of_le (by omega)
    simp only [apSl, h1, cond_false, growN_of (by_ := by_) (n := ys.length) hb hb2, Bool.not_true, Go.Ev.frst, ldL, Nat.zero_mul, cellsAt_of hg, Option.bind_some, hble, cond_true, List.take_zero, Option.map_some, List.nil_append, Nat.zero_add]
    refine ⟨_, _, rfl, ⟨rfl, rfl, rfl, rfl, by simp [Eff.on, Heap.sz_new], hlr, true, ?_⟩, Fr.new Nop H _, fun l q => ?_⟩
    · simp [Eff.on, newCells, Heap.get_new]
    · have e : H.sz = l := q; omega
  | _ => exact h.elim
end
end Go.Ev
