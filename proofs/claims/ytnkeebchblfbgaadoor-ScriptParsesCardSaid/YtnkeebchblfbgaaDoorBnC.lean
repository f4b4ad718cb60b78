/- Part 3: EvSl EvBd EvGe EvWp EvSt EvBy EvQu SnA SnP SnM. -/
import Derived.Test.YtnkeebchblfbgaaDoorBnB
import Derived.DataElems
-- part EvSl
/- EvSl: slices: what they read as; looking, cutting, growing. -/
set_option linter.unusedVariables false
set_option linter.unusedSimpArgs false
namespace Go.Ev
open Go.RowKit
/-- A slice of elements of sz cells each. -/
def Els (ρ : Addr → Option Value) (H : Heap) (sz : Nat) (x : AV) (els : List (List AV)) : Prop := match x with
  | .nils => els = []
  | .sx n => n = 0 ∧ els = []
  | .sl l v o n c m => n = els.length ∧ n ≤ c ∧ l < H.sz ∧ ∃ e fr g cs, H.get l = .cells v e fr g cs ∧ o + n * sz ≤ cs.length ∧ ∀ (i : Nat) (h : i < els.length), (cs.drop (o + i * sz)).take sz = els[i]
  | .xs a n c => n = els.length ∧ n ≤ c ∧ ∀ (i : Nat) (h : i < els.length), els[i].length = sz ∧ ∀ off, off < sz → (ρ (a.add (i * sz + off))).map ofCell = els[i][off]?
  | _ => False
/-- An element's place, off cells further on. -/
def elp (sz : Nat) (x : AV) (i off : Nat) : AV := match x with
  | .sl l v o _ _ _ => .ptr l v (o + i * sz + off)
  | .xs a _ _ => .xp ((a.add (i * sz)).add off)
  | _ => .nilp
/-- The own place in which it lies. -/
def AV.lies (x : AV) (l : Nat) : Prop := match x with
  | .sl l' _ _ _ _ _ => l' = l
  | _ => False
section
variable {ρ : Addr → Option Value} {H H' : Heap} {sz : Nat} {x : AV} {els : List (List AV)}
theorem Els.nils : Els ρ H sz .nils [] := (rfl)
theorem Els.lenS (h : Els ρ H sz x els) : lenS x = some (.int .i64 els.length) := by
  cases x <;> simp_all [Els, Go.Ev.lenS]
theorem Els.lenA (h : Els ρ H sz x els) : lenA x = some els.length := by
  cases x <;> simp_all [Els, Go.Ev.lenA]
theorem Els.lies_lt (h : Els ρ H sz x els) (l : Nat) (hl : x.lies l) : l < H.sz := by
  cases x <;> simp_all [Els, AV.lies]
theorem Els.frame (h : Els ρ H sz x els) (S : Nat → Prop) (f : Fr S H H') (hs : ∀ l, x.lies l → ¬ S l) : Els ρ H' sz x els := by
  cases x with
  | sl l v o n c m =>
    obtain ⟨h1, h2, h3, e, fr, g, cs, h4, h5⟩ := h
    exact ⟨h1, h2, Nat.lt_of_lt_of_le h3 f.sz, e, fr, g, cs, by rw [f.get l h3 (hs l rfl), h4], h5⟩
  | _ => exact h
theorem Els.frame0 (h : Els ρ H sz x els) (f : Fr Nop H H') : Els ρ H' sz x els := h.frame Nop f fun _ _ q => q
theorem Els.new (h : Els ρ H sz x els) (o : AObj) : Els ρ (H.new o) sz x els := h.frame0 (Fr.new Nop H o)
theorem Els.ix (h : Els ρ H sz x els) (k : IntKind) (i : Int) (h0 : 0 ≤ i) (h1 : i < els.length) : ixS sz x (.int k i) = some (elp sz x i.toNat 0) := by
  have h2 : els ≠ [] := by intro e; subst e; simp at h1; omega
  cases x with
  | sl l v o n c m =>
    obtain ⟨rfl, _⟩ := h
    simp [ixS, asInt, elAt, h0, h1, addA, elp]
  | xs a n c =>
    obtain ⟨rfl, _⟩ := h
    simp [ixS, asInt, elAt, h0, h1, addA, elp, Addr.add]
  | _ => simp_all [Els]
theorem elp_add (h : Els ρ H sz x els) (i off n : Nat) (hi : i < els.length) : addA n (elp sz x i off) = some (elp sz x i (off + n)) := by
  cases x with
  | sl l v o n c m => simp [elp, addA, Nat.add_assoc]
  | xs a n c => simp [elp, addA, Addr.add_add, Nat.add_assoc]
  | nils => simp only [Els] at h; subst h; simp at hi
  | sx n => obtain ⟨_, rfl⟩ := h; simp at hi
  | _ => exact h.elim
theorem take_getElem? {α : Type} (cs : List α) (a n off : Nat) (h : off < n) : cs[a + off]? = ((cs.drop a).take n)[off]? := by
  rw [List.getElem?_take_of_lt h, List.getElem?_drop]
theorem Els.ld1 (h : Els ρ H sz x els) (i off : Nat) (hi : i < els.length) (ho : off < sz) : Go.Ev.ld1 ρ H (elp sz x i off) = els[i][off]? := by
  cases x with
  | sl l v o n c m =>
    obtain ⟨h1, h2, h3, e, fr, g, cs, h4, h5, h6⟩ := h
    rw [elp, ld1_of _ h4, take_getElem? _ _ sz _ ho, h6 i hi]
  | xs a n c =>
    obtain ⟨h1, h2, h3⟩ := h
    rw [elp]
    show (ρ ((a.add (i * sz)).add off)).map ofCell = _
    rw [Addr.add_add, (h3 i hi).2 off ho]
  | nils => simp only [Els] at h; subst h; simp at hi
  | sx n => obtain ⟨_, rfl⟩ := h; simp at hi
  | _ => exact h.elim
theorem mapM_read {ρ : Addr → Option Value} {a : Addr} {es : List AV} : ∀ (n : Nat), (∀ off, off < n → (ρ (a.add off)).map ofCell = es[off]?) → n ≤ es.length → ((List.range n).mapM fun i => ρ (a.add i)).map (fun vs => vs.map ofCell) = some (es.take n) := by
  intro n
  induction n with
  | zero => intro _ _; simp
  | succ n ih =>
    intro h hl
    have hn := h n (by omega)
    rw [List.getElem?_eq_getElem (by omega), Option.map_eq_some_iff] at hn
    obtain ⟨v, hv, e⟩ := hn
    have := ih (fun off ho => h off (by omega)) (by omega)
    rw [Option.map_eq_some_iff] at this
    obtain ⟨vs, hvs, e2⟩ := this
    rw [List.range_succ, List.mapM_append, hvs]
    have hn' : n < es.length := by omega
    have e3 : List.map ofCell vs = es.take n := e2
    simp only [List.mapM_cons, List.mapM_nil, hv, Option.pure_def, Option.bind_eq_bind, Option.bind_some, Option.map_some, List.map_append, List.map_cons, List.map_nil, e3, e, List.take_append_getElem hn']
theorem Els.len_el (h : Els ρ H sz x els) (i : Nat) (hi : i < els.length) : els[i].length = sz := by
  cases x with
  | sl l v o n c m =>
    obtain ⟨h1, h2, h3, e, fr, g, cs, h4, h5, h6⟩ := h
    rw [← h6 i hi, List.length_take, List.length_drop, Nat.min_eq_left]
    have : i * sz + sz ≤ n * sz := by rw [← Nat.succ_mul]; exact Nat.mul_le_mul_right _ (by omega)
    omega
  | xs a n c => exact (h.2.2 i hi).1
  | nils => simp only [Els] at h; subst h; simp at hi
  | sx n => obtain ⟨_, rfl⟩ := h; simp at hi
  | _ => exact h.elim
theorem Els.ldN (h : Els ρ H sz x els) (i : Nat) (hi : i < els.length) : Go.Ev.ldN ρ H sz (elp sz x i 0) = some (.agg els[i]) := by
  have hl := h.len_el i hi
  cases x with
  | sl l v o n c m =>
    obtain ⟨h1, h2, h3, e, fr, g, cs, h4, h5, h6⟩ := h
    have : i * sz + sz ≤ n * sz := by rw [← Nat.succ_mul]; exact Nat.mul_le_mul_right _ (by omega)
    rw [elp, ldN_of sz _ h4 (by omega), Nat.add_zero, h6 i hi]
  | xs a n c =>
    have := mapM_read (ρ := ρ) (a := a.add (i * sz)) (es := els[i]) sz (fun off ho => by rw [Addr.add_add]; exact (h.2.2 i hi).2 off ho) (by omega)
    simp only [elp, Go.Ev.ldN, ldL, Addr.add]
    simp only [Addr.add] at this
    simp only [if_pos, this]
    simp [← hl]
  | nils => simp only [Els] at h; subst h; simp at hi
  | sx n => obtain ⟨_, rfl⟩ := h; simp at hi
  | _ => exact h.elim
/-- Some cells of an element. -/
theorem Els.ldSub (h : Els ρ H sz x els) (i off n : Nat) (hi : i < els.length) (ho : off + n ≤ sz) : Go.Ev.ldN ρ H n (elp sz x i off) = some (.agg ((els[i].drop off).take n)) := by
  have hl := h.len_el i hi
  cases x with
  | sl l v o m c mm =>
    obtain ⟨h1, h2, h3, e, fr, g, cs, h4, h5, h6⟩ := h
    have : i * sz + sz ≤ m * sz := by rw [← Nat.succ_mul]; exact Nat.mul_le_mul_right _ (by omega)
    rw [elp, ldN_of n _ h4 (by omega), ← h6 i hi, List.drop_take, List.take_take, Nat.min_eq_left (by omega), List.drop_drop]
  | xs a m c =>
    have := mapM_read (ρ := ρ) (a := (a.add (i * sz)).add off) (es := els[i].drop off) n (fun j hj => by
      rw [Addr.add_add, Addr.add_add, (h.2.2 i hi).2 (off + j) (by omega), List.getElem?_drop]) (by rw [List.length_drop]; omega)
    simp only [elp, Go.Ev.ldN, ldL, this, Option.map_some]
  | nils => simp only [Els] at h; subst h; simp at hi
  | sx n => obtain ⟨_, rfl⟩ := h; simp at hi
  | _ => exact h.elim
theorem flat_drop_take : ∀ (els : List (List AV)) (cs : List AV) (sz : Nat), (∀ r ∈ els, r.length = sz) → ∀ (i : Nat) (h : i < els.length), ((els.flatten ++ cs).drop (i * sz)).take sz = els[i]
  | [], _, _, _, i, h => by simp at h
  | r :: els, cs, sz, hr, 0, h => by
    have := hr r (by simp)
    simp [← this]
  | r :: els, cs, sz, hr, i + 1, h => by
    have h1 := hr r (by simp)
    have := flat_drop_take els cs sz (fun r hr' => hr r (by simp [hr'])) i (by simpa using h)
    rw [List.flatten_cons, List.append_assoc, Nat.succ_mul, Nat.add_comm, ← List.drop_drop]
    rw [← h1] at this ⊢
    simpa using this
theorem els_length : ∀ (els : List (List AV)) (sz : Nat), (∀ r ∈ els, r.length = sz) → els.flatten.length = els.length * sz
  | [], _, _ => by simp
  | r :: els, sz, h => by
    rw [List.flatten_cons, List.length_append, els_length els sz (fun r hr => h r (by simp [hr])), h r (by simp), List.length_cons, Nat.succ_mul, Nat.add_comm]
theorem flat_of_parts : ∀ (els : List (List AV)) (cs : List AV) (sz o : Nat), o + els.length * sz ≤ cs.length → (∀ (i : Nat) (h : i < els.length), (cs.drop (o + i * sz)).take sz = els[i]) → (cs.drop o).take (els.length * sz) = els.flatten
  | [], _, _, _, _, _ => by simp
  | r :: els, cs, sz, o, hl, h => by
    have h0 := h 0 (by simp)
    simp only [Nat.zero_mul, Nat.add_zero, List.getElem_cons_zero] at h0
    have := flat_of_parts els cs sz (o + sz) (by rw [List.length_cons, Nat.succ_mul] at hl; omega) (fun i hi => by
      have := h (i + 1) (by simpa using hi)
      simp only [List.getElem_cons_succ] at this
      rw [← this]; congr 2; rw [Nat.succ_mul]; omega)
    rw [List.length_cons, Nat.succ_mul, Nat.add_comm, List.take_add, h0, List.drop_drop, this, List.flatten_cons]
/-- All its cells. -/
theorem Els.frst (h : Els ρ H sz x els) : Go.Ev.frst ρ H sz els.length x = some els.flatten := by
  cases x with
  | sl l v o n c m =>
    obtain ⟨h1, h2, h3, e, fr, g, cs, h4, h5, h6⟩ := h
    subst h1
    have : Nat.ble (o + els.length * sz) cs.length = true := Nat.ble_eq_true_of_le h5
    simp only [Go.Ev.frst, ldL, cellsAt_of h4, Option.bind_some, this, cond_true]
    rw [flat_of_parts els cs sz o h5 h6]
  | xs a n c =>
    obtain ⟨h1, h2, h3⟩ := h
    subst h1
    have hf := els_length els sz (fun r hr => by obtain ⟨i, hi, rfl⟩ := List.mem_iff_getElem.1 hr; exact (h3 i hi).1)
    simp only [Go.Ev.frst, ldL]
    rw [mapM_read (es := els.flatten) (els.length * sz) _ (by omega), List.take_of_length_le (by omega)]
    intro off ho
    by_cases hz : sz = 0
    · subst hz; simp at ho
    have hi : off / sz < els.length := Nat.div_lt_of_lt_mul (by rw [Nat.mul_comm]; exact ho)
    have := (h3 (off / sz) hi).2 (off % sz) (Nat.mod_lt _ (by omega))
    rw [Nat.mul_comm, Nat.div_add_mod] at this
    rw [this]
    have e := flat_drop_take els [] sz (fun r hr => by obtain ⟨i, hi, rfl⟩ := List.mem_iff_getElem.1 hr; exact (h3 i hi).1) (off / sz) hi
    rw [← e, ← take_getElem? _ _ _ _ (Nat.mod_lt _ (by omega)), List.append_nil]
    congr 1
    rw [Nat.mul_comm, Nat.div_add_mod]
  | nils => simp only [Els] at h; subst h; rfl
  | sx n => obtain ⟨_, rfl⟩ := h; rfl
  | _ => exact h.elim
theorem mul_sub_add {a b : Nat} : a ≤ b → ∀ c, a * c + (b - a) * c = b * c := by
  intro h c
  rw [← Nat.add_mul]; congr 1; omega
/-- Cutting from lo to hi, both within its length. -/
theorem Els.cut (h : Els ρ H sz x els) {lo hi : Nat} (h1 : lo ≤ hi) (h2 : hi ≤ els.length) (l h' : Option AV) (hl : l = none ∧ lo = 0 ∨ ∃ k, l = some (.int k lo)) (hh : h' = none ∧ hi = els.length ∨ ∃ k, h' = some (.int k hi)) (hx : ∀ n, x ≠ .sx n) :
    ∃ y, slS sz x l h' none = some y ∧ Els ρ H sz y ((els.drop lo).take (hi - lo)) ∧ (∀ l, y.lies l → x.lies l) := by
  have hb : ∀ n c, n = els.length → n ≤ c → boundsA n c l h' none = some (lo, hi, c) := by
    intro n c hn hc
    have a1 : decide ((0 : Int) ≤ hi) = true := by simp
    have a2 : decide ((hi : Int) ≤ c) = true := by simp; omega
    have a3 : decide ((0 : Int) ≤ lo) = true := by simp
    have a4 : decide ((lo : Int) ≤ hi) = true := by simp; omega
    rcases hh with ⟨rfl, e⟩ | ⟨k, rfl⟩ <;> rcases hl with ⟨rfl, e'⟩ | ⟨k', rfl⟩
    · subst e'; simp only [boundsA, Option.bind_some, hn, e]
    · have a5 : decide ((lo : Int) ≤ n) = true := by rw [hn, ← e]; exact a4
      simp only [boundsA, Option.bind_some, boundA, asInt, a3, a5, Bool.and_self, cond_true, Int.toNat_natCast]
      simp only [hn, e]
    · subst e'; simp only [boundsA, Option.bind_some, boundA, asInt, a1, a2, Bool.and_self, cond_true, Int.toNat_natCast]
    · simp only [boundsA, Option.bind_some, boundA, asInt, a1, a2, a3, a4, Bool.and_self, cond_true, Int.toNat_natCast]
  have hlen : ((els.drop lo).take (hi - lo)).length = hi - lo := by rw [List.length_take, List.length_drop]; omega
  have hel : ∀ (i : Nat) (h : i < ((els.drop lo).take (hi - lo)).length), ((els.drop lo).take (hi - lo))[i] = els[lo + i]'(by omega) := fun i hi => by simp
  cases x with
  | sl a v o n c m =>
    obtain ⟨e1, e2, e3, e, fr, g, cs, e4, e5, e6⟩ := h
    have hble : Nat.ble n c = true := Nat.ble_eq_true_of_le e2
    have hm : lo * sz + (hi - lo) * sz = hi * sz := mul_sub_add h1 sz
    have hm2 : hi * sz ≤ n * sz := Nat.mul_le_mul_right _ (by omega)
    have parts : ∀ i (h : i < ((els.drop lo).take (hi - lo)).length), (cs.drop (o + lo * sz + i * sz)).take sz = ((els.drop lo).take (hi - lo))[i] := by
      intro i hi
      rw [hel i hi, ← e6 (lo + i) (by omega), Nat.add_assoc, ← Nat.add_mul]
    simp only [slS, sliceSl, hble, Bool.not_true, cond_false, hb n c e1 e2, Option.bind_some]
    cases m with
    | true =>
      cases hq : (lo == c) with
      | true =>
        have : lo = c := by simpa using hq
        refine ⟨_, rfl, ?_, fun l q => by simp [AV.lies] at q⟩
        simp only [cond_true]
        exact ⟨by omega, List.eq_nil_of_length_eq_zero (by omega)⟩
      | false => exact ⟨_, rfl, ⟨by omega, by omega, e3, e, fr, g, cs, e4, by omega, parts⟩, fun l q => q⟩
    | false =>
      cases hq : (c == lo) with
      | true =>
        have : c = lo := by simpa using hq
        refine ⟨_, rfl, ⟨by omega, by omega, e3, e, fr, g, cs, e4, ?_, ?_⟩, fun l q => q⟩
        · simp only [cond_true]; rw [show hi - lo = 0 by omega]; omega
        · intro i hi; omega
      | false => exact ⟨_, rfl, ⟨by omega, by omega, e3, e, fr, g, cs, e4, by simp only [cond_false]; omega, parts⟩, fun l q => q⟩
  | xs a n c =>
    obtain ⟨e1, e2, e3⟩ := h
    have hble : Nat.ble n c = true := Nat.ble_eq_true_of_le e2
    simp only [slS, hble, Bool.not_true, cond_false, hb n c e1 e2, Option.map_some]
    refine ⟨_, rfl, ⟨by omega, by omega, ?_⟩, fun l q => by simp [AV.lies] at q⟩
    intro i hi'
    rw [hel i hi']
    refine ⟨(e3 (lo + i) (by omega)).1, fun off ho => ?_⟩
    rw [← (e3 (lo + i) (by omega)).2 off ho]
    congr 2
    split
    · omega
    · rw [Addr.add_add]; congr 1; rw [Nat.add_mul]; omega
  | nils =>
    simp only [Els] at h; subst h
    simp only [List.length_nil] at h2 hb
    have := hb 0 0 rfl (Nat.le_refl _)
    exact ⟨.nils, by simp [slS, this], by simp [Els], fun l q => q⟩
  | sx n =>
    exact absurd rfl (hx n)
  | _ => exact h.elim
/-- A slice that grows by append alone, in a place of its own. -/
def Grow (H : Heap) (e sz : Nat) (x : AV) (els : List (List AV)) : Prop := match x with
  | .nils => els = []
  | .sl l v o n c m => o = 0 ∧ n = els.length ∧ c = n ∧ m = true ∧ l < H.sz ∧ (∀ r ∈ els, r.length = sz) ∧ ∃ g, H.get l = .cells v e (0, 0) g els.flatten
  | _ => False
theorem Els.of_cells {l v e : Nat} {fr : Nat × Nat} {g m : Bool} (hl : l < H.sz) (h : H.get l = .cells v e fr g els.flatten) (hs : ∀ r ∈ els, r.length = sz) : Els ρ H sz (.sl l v 0 els.length els.length m) els :=
  ⟨rfl, Nat.le_refl _, hl, e, fr, g, _, h, by rw [els_length els sz hs]; omega, fun i hi => by
    have := flat_drop_take els [] sz hs i hi
    rwa [List.append_nil, ← Nat.zero_add (i * sz)] at this⟩
theorem Grow.nils (H : Heap) (e sz : Nat) : Grow H e sz .nils [] := (rfl)
theorem Grow.toEls {e : Nat} (h : Grow H e sz x els) : Els ρ H sz x els := by
  cases x with
  | nils => exact h
  | sl l v o n c m =>
    obtain ⟨rfl, rfl, rfl, rfl, hl, hs, g, hg⟩ := h
    exact Els.of_cells hl hg hs
  | _ => exact h.elim
theorem Grow.frame {e : Nat} (h : Grow H e sz x els) (S : Nat → Prop) (f : Fr S H H') (hs : ∀ l, x.lies l → ¬ S l) : Grow H' e sz x els := by
  cases x with
  | nils => exact h
  | sl l v o n c m =>
    obtain ⟨h1, h2, h3, h4, hl, h5, g, hg⟩ := h
    exact ⟨h1, h2, h3, h4, Nat.lt_of_lt_of_le hl f.sz, h5, g, by rw [f.get l hl (hs l rfl), hg]⟩
  | _ => exact h.elim
theorem Grow.notSx {e : Nat} (h : Grow H e sz x els) (n : Nat) : x ≠ .sx n := by
  rintro rfl; exact h
theorem growN_of {by_ n : Nat} (h : n * by_ ≤ 70368744177664) (h2 : n ≤ 70368744177664) : growN by_ n = true := by simp [growN, h, h2]
theorem Grow.append {e by_ : Nat} {y : AV} {ys : List (List AV)} (h : Grow H e sz x els) (hy : Els ρ H sz y ys) (hs : ∀ r ∈ ys, r.all AV.solid = true) (hb : (els.length + ys.length) * by_ ≤ 70368744177664) (hb2 : els.length + ys.length ≤ 70368744177664) :
    ∃ x' f, apA ρ 0 H e sz by_ x y = some (x', f) ∧ Grow (f.on H) e sz x' (els ++ ys) ∧ Fr x.lies H (f.on H) ∧ ∀ l, x'.lies l → x.lies l ∨ H.sz ≤ l := by
  have hsol : ys.flatten.all AV.solid = true := by
    rw [List.all_eq_true]; intro a ha
    obtain ⟨r, hr, har⟩ := List.mem_flatten.1 ha
    exact List.all_eq_true.1 (hs r hr) a har
  have hlr : ∀ r ∈ ys, r.length = sz := fun r hr => by obtain ⟨i, hi, rfl⟩ := List.mem_iff_getElem.1 hr; exact hy.len_el i hi
  have hlen := els_length ys sz hlr
  simp only [apA, hy.lenA, Option.bind_some, hy.frst, hsol, hlen, beq_self_eq_true, Bool.and_self, Bool.not_true, cond_false]
  cases x with
  | nils =>
    have : els = [] := h
    subst this
    by_cases h0 : ys.length = 0
    · have : ys = [] := List.eq_nil_of_length_eq_zero h0
      subst this
      exact ⟨.nils, .nothing, rfl, Grow.nils .., Fr.refl .., fun l q => Or.inl q⟩
    · have h0' : (ys.length == 0) = false := by simpa using h0
      simp only [h0', cond_false, growN_of (by_ := by_) (n := ys.length) (by simpa using hb) (by simpa using hb2), cond_true]
      refine ⟨_, _, rfl, ⟨rfl, by simp, rfl, rfl, by simp [Eff.on, Heap.sz_new], by simpa using hlr, true, ?_⟩, Fr.new _ H _, fun l q => Or.inr (by have e : H.sz = l := q; omega)⟩
      simp [Eff.on, newCells, Heap.get_new]
  | sl l v o n c m =>
    obtain ⟨rfl, rfl, rfl, rfl, hl, h5, g, hg⟩ := h
    have hel := els_length els sz h5
    simp only [apSl]
    by_cases h0 : ys.length = 0
    · have : ys = [] := List.eq_nil_of_length_eq_zero h0
      subst this
      simp only [List.length_nil, Nat.add_zero, Nat.le_refl, decide_true, cond_true, List.flatten_nil]
      rw [storeN_of (vs := []) _ hg (by simp [hel]) rfl]
      refine ⟨_, _, rfl, ⟨rfl, by simp, rfl, rfl, hl, by simpa using h5, g, ?_⟩, Fr.put H l _ (fun _ => rfl), fun l q => Or.inl q⟩
      simp [Eff.on, Heap.get_put, layA]
    · have h0' : decide (els.length + ys.length ≤ els.length) = false := by simp; omega
      have hb1 : Nat.ble 0 l = true := Nat.ble_eq_true_of_le (by omega)
      simp only [h0', cond_false, growN_of hb hb2, Bool.not_true, cond_true, hg, hb1, Nat.beq_refl, beq_self_eq_true, hel, Bool.and_self, Nat.ble_eq_true_of_le (Nat.le_refl _)]
      refine ⟨_, _, rfl, ⟨rfl, by simp, rfl, rfl, hl, ?_, true, ?_⟩, Fr.put H l _ (fun _ => rfl), fun l q => Or.inl q⟩
      · intro r hr; rcases List.mem_append.1 hr with q | q
        · exact h5 r q
        · exact hlr r q
      · have ht : els.flatten.take (els.length * sz) = els.flatten := List.take_of_length_le (by omega)
        simp [Eff.on, Heap.get_put, ht]
  | _ => exact h.elim
theorem lay_mid (a b cs : List AV) (o : Nat) (ho : a.length = o) (h : cs.length ≤ b.length) : layA (a ++ b) o cs = a ++ (cs ++ b.drop cs.length) := by
  subst ho
  unfold layA
  rw [List.take_left, Nat.add_comm, ← List.drop_drop, List.append_assoc]
  congr 2
  rw [List.drop_drop, Nat.add_comm, List.drop_append]
  simp
theorem bldS_1 (H : Heap) (e sz : Nat) (z cs : List AV) (hz : z.length = sz) (hc : cs.length = sz) (hs : cs.all AV.solid = true) : bldS H e sz z 1 [(0, sz, .agg cs)] = some (.sl H.sz 0 0 1 1 false, .new (.cells 0 e (0, 0) false cs)) := by
  rw [bldS_eq, fillO_agg _ _ _ _ _ hc (by simp [repeatL]; omega) hs, fillO_nil]
  have : layA (repeatL z 1) 0 cs = cs := lay_all _ _ (by simp [repeatL]; omega)
  rw [this]; rfl
theorem bldS_2 (H : Heap) (e sz o : Nat) (z c d : List AV) (ho : o = sz) (hz : z.length = sz) (hc : c.length = sz) (hd : d.length = sz) (hs : c.all AV.solid = true) (hs2 : d.all AV.solid = true) : bldS H e sz z 2 [(0, sz, .agg c), (o, sz, .agg d)] = some (.sl H.sz 0 0 2 2 false, .new (.cells 0 e (0, 0) false (c ++ d))) := by
  subst ho
  have e1 : layA (repeatL z 2) 0 c = c ++ z := by
    have := lay_mid [] (repeatL z 2) c 0 rfl (by simp [repeatL]; omega)
    rw [List.nil_append] at this
    rw [this, List.nil_append]
    simp [repeatL, ← hz, hc]
  have e2 : layA (c ++ z) o d = c ++ d := by
    rw [lay_mid c z d o hc (by omega)]
    simp [hd, ← hz]
  rw [bldS_eq, fillO_agg _ _ _ _ _ hc (by simp [repeatL]; omega) hs, e1, fillO_agg _ _ _ _ _ hd (by simp; omega) hs2, e2, fillO_nil]
  rfl
/-- A slice that grows, all in places that came behind H0. -/
structure GI (H0 H : Heap) (e sz : Nat) (y : AV) (els : List (List AV)) : Prop where
  grow : Grow H e sz y els
  fr : Fr Nop H0 H
  own : ∀ l, y.lies l → H0.sz ≤ l
theorem GI.nils {H0 H : Heap} {e sz : Nat} (h : Fr Nop H0 H) : GI H0 H e sz .nils [] := ⟨rfl, h, fun l q => q.elim⟩
theorem GI.frame {H0 H H' : Heap} {e sz : Nat} {y : AV} {els : List (List AV)} (h : GI H0 H e sz y els) (f : Fr Nop H H') : GI H0 H' e sz y els := ⟨h.grow.frame Nop f (fun _ _ q => q), h.fr.trans f, h.own⟩
theorem GI.append {H0 H : Heap} {e sz by_ : Nat} {y x : AV} {els xs : List (List AV)} (h : GI H0 H e sz y els) (hx : Els ρ H sz x xs) (hs : ∀ r ∈ xs, r.all AV.solid = true) (hb : (els.length + xs.length) * by_ ≤ 70368744177664) (hb2 : els.length + xs.length ≤ 70368744177664) :
    ∃ y' f, apA ρ 0 H e sz by_ y x = some (y', f) ∧ GI H0 (f.on H) e sz y' (els ++ xs) := by
  obtain ⟨y', f, h1, h2, h3, h4⟩ := h.grow.append hx hs hb hb2
  exact ⟨y', f, h1, h2, h.fr.trans' h3 (fun l hl q => absurd (h.own l q) (by omega)), fun l q => (h4 l q).elim (h.own l) (fun q => Nat.le_trans h.fr.sz q)⟩
/-- Some elements are laid into a new slice, and appended. -/
theorem GI.push {H0 H : Heap} {e sz by_ : Nat} {y : AV} {els : List (List AV)} (h : GI H0 H e sz y els) (rows : List (List AV)) (hl : ∀ r ∈ rows, r.length = sz) (hs : ∀ r ∈ rows, r.all AV.solid = true) (hb : (els.length + rows.length) * by_ ≤ 70368744177664) (hb2 : els.length + rows.length ≤ 70368744177664) :
    ∃ y' f, apA ρ 0 (H.new (.cells 0 e (0, 0) false rows.flatten)) e sz by_ y (.sl H.sz 0 0 rows.length rows.length false) = some (y', f) ∧ GI H0 (f.on (H.new (.cells 0 e (0, 0) false rows.flatten))) e sz y' (els ++ rows) :=
  (h.frame (Fr.new Nop H _)).append (Els.of_cells (by rw [Heap.sz_new]; omega) (Heap.get_new_same ..) hl) hs hb hb2
theorem Els.notSx (h : Els ρ H sz x els) (hne : els ≠ []) (n : Nat) : x ≠ .sx n := by
  rintro rfl; exact hne h.2
/-- A slice of nothing, with no room. -/
def Emp (H : Heap) (y : AV) : Prop := match y with
  | .sl l v o n c m => n = 0 ∧ c = 0 ∧ m = false ∧ l < H.sz ∧ ∃ e fr g cs, H.get l = .cells v e fr g cs ∧ o ≤ cs.length
  | _ => False
theorem Emp.toEls (h : Emp H x) : Els ρ H sz x [] := by
  cases x with
  | sl l v o n c m =>
    obtain ⟨rfl, rfl, rfl, hl, e, fr, g, cs, hg, ho⟩ := h
    exact ⟨rfl, Nat.le_refl _, hl, e, fr, g, cs, hg, by omega, fun i hi => by simp at hi⟩
  | _ => exact h.elim
theorem Emp.frame (h : Emp H x) (S : Nat → Prop) (f : Fr S H H') (hs : ∀ l, x.lies l → ¬ S l) : Emp H' x := by
  cases x with
  | sl l v o n c m =>
    obtain ⟨h1, h2, h3, hl, e, fr, g, cs, hg, ho⟩ := h
    exact ⟨h1, h2, h3, Nat.lt_of_lt_of_le hl f.sz, e, fr, g, cs, by rw [f.get l hl (hs l rfl), hg], ho⟩
  | _ => exact h.elim
theorem Emp.append {e by_ : Nat} {y : AV} {ys : List (List AV)} (h : Emp H x) (hy : Els ρ H sz y ys) (hne : ys ≠ []) (hs : ∀ r ∈ ys, r.all AV.solid = true) (hb : ys.length * by_ ≤ 70368744177664) (hb2 : ys.length ≤ 70368744177664) :
    ∃ x' f, apA ρ 0 H e sz by_ x y = some (x', f) ∧ Grow (f.on H) e sz x' ys ∧ Fr Nop H (f.on H) ∧ ∀ l, x'.lies l → H.sz ≤ l := by
  have hsol : ys.flatten.all AV.solid = true := by
    rw [List.all_eq_true]; intro a ha
    obtain ⟨r, hr, har⟩ := List.mem_flatten.1 ha
    exact List.all_eq_true.1 (hs r hr) a har
  have hlr : ∀ r ∈ ys, r.length = sz := fun r hr => by obtain ⟨i, hi, rfl⟩ := List.mem_iff_getElem.1 hr; exact hy.len_el i hi
  have hlen := els_length ys sz hlr
  have h0 : 0 < ys.length := List.length_pos_iff.2 hne
  simp only [apA, hy.lenA, Option.bind_some, hy.frst, hsol, hlen, beq_self_eq_true, Bool.and_self, Bool.not_true, cond_false]
  cases x with
  | sl l v o n c m =>
    obtain ⟨rfl, rfl, rfl, hl, e', fr, g, cs, hg, ho⟩ := h
    have h1 : decide (ys.length ≤ 0) = false := by simp; omega
    have hble : Nat.ble (o + 0) cs.length = true := Nat.ble_eq_true_of_le (by omega)
    simp only [apSl, h1, cond_false, growN_of (by_ := by_) (n := ys.length) hb hb2, Bool.not_true, Go.Ev.frst, ldL, Nat.zero_mul, cellsAt_of hg, Option.bind_some, hble, cond_true, List.take_zero, Option.map_some, List.nil_append, Nat.zero_add]
    refine ⟨_, _, rfl, ⟨rfl, rfl, rfl, rfl, by simp [Eff.on, Heap.sz_new], hlr, true, ?_⟩, Fr.new Nop H _, fun l q => ?_⟩
    · simp [Eff.on, newCells, Heap.get_new]
    · have e : H.sz = l := q; omega
  | _ => exact h.elim
end
end Go.Ev

-- part EvBd
/- EvBd: texts that are built byte by byte: rows of one byte, and what unsafe.String makes of them. -/
set_option linter.unusedVariables false
set_option linter.unusedSimpArgs false
namespace Go.Ev
open Go.RowKit
/-- A text of n times one byte. -/
def rep (b : UInt8) (n : Nat) : ByteArray := ⟨(List.replicate n b).toArray⟩
theorem rep_size (b : UInt8) (n : Nat) : (rep b n).size = n := by simp [rep, ByteArray.size]
theorem rep_cut (b : UInt8) (n m : Nat) (h : m ≤ n) : (rep b n).extract 0 m = rep b m := by
  apply ByteArray.ext
  rw [ByteArray.data_extract]
  simp only [rep]
  apply Array.toList_inj.1
  simp [List.take_replicate, Nat.min_eq_left h]
def rowOf (b : UInt8) (j n : Nat) : List AV := List.replicate j (byteCell b) ++ List.replicate n .any
theorem rowOf_len (b : UInt8) (j n : Nat) : (rowOf b j n).length = j + n := by simp [rowOf]
theorem rowOf_lay (b : UInt8) (j n c : Nat) (h : c ≤ n) : layA (rowOf b j n) j (List.replicate c (byteCell b)) = rowOf b (j + c) (n - c) := by
  unfold rowOf
  rw [lay_mid _ _ _ _ (by simp) (by simpa using h)]
  simp [← List.append_assoc, List.replicate_append_replicate]
theorem bytesOf_rep (b : UInt8) : ∀ n, bytesOfA (List.replicate n (byteCell b)) = some (List.replicate n b)
  | 0 => rfl
  | n + 1 => by
    have h1 : (0 : Int) ≤ (b.toNat : Int) := by omega
    have h2 : (b.toNat : Int) < 256 := by have := b.toNat_lt; omega
    rw [List.replicate_succ, List.replicate_succ]
    unfold byteCell
    simp only [bytesOfA, h1, h2, decide_true, Bool.and_self, cond_true]
    have := bytesOf_rep b n
    unfold byteCell at this
    rw [this]
    simp
theorem rep_cells (b : UInt8) (n : Nat) : (((rep b n).extract 0 n).data.toList).map byteCell = List.replicate n (byteCell b) := by
  rw [rep_cut b n n (Nat.le_refl _)]
  simp [rep]
theorem usA_of {C : Ctx} {H : Heap} {pt e : TypeId} {l v : Nat} {m j n : Nat} {g : Bool} {b : UInt8} (hp : C.P.underlying pt = some (.pointer e)) (hc : C.P.cellsOf e = 1) (hg : H.get l = .cells v e (0, m) g (rowOf b j n)) (hm : m ≤ j) (h0 : 0 < j) (h1 : j < 9223372036854775807) :
    unsafeStringA C 0 H pt (.ptr l v 0) (.int .i64 j) = some (.str (rep b j), .put l (.cells v e (0, j) g (rowOf b j n))) := by
  have e1 : ((j : Int) == 0) = false := by simp; omega
  have e2 : Nat.ble m j = true := Nat.ble_eq_true_of_le hm
  have e3 : Nat.ble j (rowOf b j n).length = true := Nat.ble_eq_true_of_le (by rw [rowOf_len]; omega)
  have e4 : (0 : Int) < (j : Int) := by omega
  have e5 : (j : Int) ≤ 9223372036854775807 := by omega
  have e6 : (rowOf b j n).take j = List.replicate j (byteCell b) := by unfold rowOf; rw [List.take_left' (by simp)]
  have e7 : Nat.ble 0 l = true := Nat.ble_eq_true_of_le (by omega)
  simp only [unsafeStringA, e1, cond_false, hp, hg, hc, e2, e3, e4, e5, e7, Int.toNat_natCast, Bool.or_true, beq_self_eq_true, Nat.beq_refl, decide_true, Bool.and_self, cond_true, e6, bytesOf_rep, Option.map_some, rep]
theorem storeN_over {H : Heap} {l v e m : Nat} {g : Bool} {c : List AV} (vs : List AV) (o : Nat) (h : H.get l = .cells v e (0, m) g c) (hm : m ≤ o) (hn : o + vs.length ≤ c.length) (hs : vs.all AV.solid = true) : storeN 0 H vs (.ptr l v o) = some (.put l (.cells v e (0, m) g (layA c o vs))) := by
  have h1 : Nat.ble (o + vs.length) c.length = true := Nat.ble_eq_true_of_le hn
  have h2 : Nat.ble m o = true := Nat.ble_eq_true_of_le hm
  have h3 : Nat.ble 0 l = true := Nat.ble_eq_true_of_le (by omega)
  simp only [storeN, h, h1, h2, h3, hs, beq_self_eq_true, Nat.beq_refl, Bool.or_true, Bool.and_self, cond_true]
theorem rep_solid (b : UInt8) (n : Nat) : (List.replicate n (byteCell b)).all AV.solid = true := by
  rw [List.all_eq_true]; intro y hy
  obtain ⟨_, rfl⟩ := List.mem_replicate.1 hy; rfl
/-- One byte's text is written behind what is there. -/
theorem apA_rep {ρ : Addr → Option Value} {H : Heap} {l v e by_ m j n c : Nat} {g mm : Bool} {b : UInt8} (hg : H.get l = .cells v e (0, m) g (rowOf b j n)) (hm : m ≤ j) (hc : c ≤ n) :
    apA ρ 0 H e 1 by_ (.sl l v 0 j (j + n) mm) (.str (rep b c)) = some (.sl l v 0 (j + c) (j + n) mm, .put l (.cells v e (0, m) g (rowOf b (j + c) (n - c)))) := by
  have e1 : lenA (.str (rep b c)) = some c := by simp [Go.Ev.lenA, rep_size]
  have e2 : j + c ≤ j + n := by omega
  simp only [apA, e1, Option.bind_some, frst, rep_cells, rep_solid, List.length_replicate, Nat.mul_one, beq_self_eq_true, Bool.and_self, Bool.not_true, cond_false, apSl, e2, decide_true, cond_true, Nat.zero_add]
  rw [storeN_over _ _ hg hm (by simp [rowOf_len]; omega) (rep_solid b c), rowOf_lay b j n c hc]
  rfl
end Go.Ev

-- part EvGe
/- EvGe: a slice that is empty at first, and grows. -/
set_option linter.unusedVariables false
set_option linter.unusedSimpArgs false
namespace Go.Ev
open Go.RowKit
def GE (H : Heap) (e sz : Nat) (y : AV) (els : List (List AV)) : Prop := (els = [] ∧ Emp H y) ∨ Grow H e sz y els
section
variable {ρ : Addr → Option Value} {H H' : Heap} {e sz : Nat} {x y : AV} {els ys : List (List AV)}
theorem GE.toEls (h : GE H e sz y els) : Els ρ H sz y els := by
  rcases h with ⟨rfl, h⟩ | h
  · exact h.toEls
  · exact h.toEls
theorem GE.frame (h : GE H e sz y els) (S : Nat → Prop) (f : Fr S H H') (hs : ∀ l, y.lies l → ¬ S l) : GE H' e sz y els := by
  rcases h with ⟨rfl, h⟩ | h
  · exact Or.inl ⟨rfl, h.frame S f hs⟩
  · exact Or.inr (h.frame S f hs)
theorem GE.append {by_ : Nat} (h : GE H e sz x els) (hy : Els ρ H sz y ys) (hne : ys ≠ []) (hs : ∀ r ∈ ys, r.all AV.solid = true) (hb : (els.length + ys.length) * by_ ≤ 70368744177664) (hb2 : els.length + ys.length ≤ 70368744177664) :
    ∃ x' f, apA ρ 0 H e sz by_ x y = some (x', f) ∧ GE (f.on H) e sz x' (els ++ ys) ∧ Fr x.lies H (f.on H) ∧ ∀ l, x'.lies l → x.lies l ∨ H.sz ≤ l := by
  rcases h with ⟨rfl, h⟩ | h
  · rw [List.length_nil, Nat.zero_add] at hb hb2
    obtain ⟨x', f, h1, h2, h3, h4⟩ := h.append (ρ := ρ) hy hne hs hb hb2
    exact ⟨x', f, h1, Or.inr h2, h3.mono fun t _ q => q.elim, fun l q => Or.inr (h4 l q)⟩
  · obtain ⟨x', f, h1, h2, h3, h4⟩ := h.append (ρ := ρ) hy hs hb hb2
    exact ⟨x', f, h1, Or.inr h2, h3, h4⟩
theorem flat_rep (w : UInt8) : ∀ n, (List.replicate n [byteCell w]).flatten = List.replicate n (byteCell w)
  | 0 => rfl
  | n + 1 => by rw [List.replicate_succ, List.replicate_succ, List.flatten_cons, flat_rep w n]; rfl
/-- The text of a slice that reads as n times one byte. -/
theorem b2s_rep {w : UInt8} {n : Nat} (h : Els ρ H 1 y (List.replicate n [byteCell w])) (hy : ∀ m, y ≠ .sx m) : b2s ρ H y = some (.str (rep w n)) := by
  have e1 := h.lenA
  have e2 := h.frst
  rw [List.length_replicate] at e1 e2
  rw [flat_rep] at e2
  cases y with
  | nils =>
    have : n = 0 := by simp [Els] at h; exact h
    subst this; rfl
  | sl l v o n' c m => simp only [b2s, e1, Option.bind_some, e2, bytesOf_rep, Option.map_some]; rfl
  | xs a n' c => simp only [b2s, e1, Option.bind_some, e2, bytesOf_rep, Option.map_some]; rfl
  | sx m => exact absurd rfl (hy m)
  | _ => exact h.elim
theorem GE.notSx (h : GE H e sz y els) (n : Nat) : y ≠ .sx n := by
  rcases h with ⟨_, h⟩ | h
  · rintro rfl; exact h
  · exact h.notSx n
end
end Go.Ev

-- part EvWp
/- EvWp: what a run comes to, step by step. -/
set_option linter.unusedVariables false
set_option linter.unusedSimpArgs false
namespace Go.Ev
open Go.RowKit
/-- It comes to its end, with Q. -/
def Ret (Q : AV → Heap → Prop) (r : Res) : Prop := ∃ v H', r = some (v, H') ∧ Q v H'
section
variable {Q Q' : AV → Heap → Prop} {r r' : Res} {K : AV → Heap → Res} {H : Heap} {ρ : Addr → Option Value}
@[congr] theorem Ret_congr (h : r = r') : Ret Q r = Ret Q r' := by rw [h]
theorem Ret.intro {v : AV} {H : Heap} (h : Q v H) : Ret Q (some (v, H)) := ⟨v, H, rfl, h⟩
theorem Ret.bind (h : Ret Q r) (hk : ∀ v H', Q v H' → Ret Q' (K v H')) : Ret Q' (resK r K) := by
  obtain ⟨v, H', rfl, hq⟩ := h; exact hk v H' hq
theorem Ret.mono (h : Ret Q r) (hk : ∀ v H', Q v H' → Q' v H') : Ret Q' r := by
  obtain ⟨v, H', rfl, hq⟩ := h; exact ⟨v, H', rfl, hk v H' hq⟩
theorem Ret.cond {c : Bool} {x y : Res} (h1 : c = true → Ret Q x) (h0 : c = false → Ret Q y) : Ret Q (condK (.bool c) x y) := by
  cases c
  · exact h0 rfl
  · exact h1 rfl
theorem Ret.condD {p : Prop} [Decidable p] {x y : Res} (h1 : p → Ret Q x) (h0 : ¬ p → Ret Q y) : Ret Q (condK (.bool (decide p)) x y) := by
  by_cases h : p
  · simp only [h, decide_true, condK_true]; exact h1 h
  · simp only [h, decide_false, condK_false]; exact h0 h
theorem Ret.ex1 {α : Type} {g : α → Res} {P : α → Prop} (h : ∃ x, r = g x ∧ P x) (hk : ∀ x, P x → Ret Q (g x)) : Ret Q r := by
  obtain ⟨x, rfl, h⟩ := h; exact hk x h
theorem Ret.ex2 {α β : Type} {g : α → β → Res} {P : α → β → Prop} (h : ∃ x y, r = g x y ∧ P x y) (hk : ∀ x y, P x y → Ret Q (g x y)) : Ret Q r := by
  obtain ⟨x, y, rfl, h⟩ := h; exact hk x y h
/-- Rounds of a loop, each bringing the measure down. -/
theorem Ret.loop {σ : Type} {B : σ → Heap → (σ → Heap → Res) → Res} (Inv : Nat → σ → Heap → Prop)
    (step : ∀ m x H f, Inv m x H → (∀ m' x' H', m' < m → Inv m' x' H' → Ret Q (f x' H')) → Ret Q (B x H f)) (m n : Nat) (x : σ) (H : Heap) (h : Inv m x H) (hn : m < n) : Ret Q (loopL B n x H) :=
  loopL_wp Inv step m n x H h hn
/-- An append to what grows. -/
theorem Ret.app {e sz by_ : Nat} {x y : AV} {els ys : List (List AV)} (h : Grow H e sz x els) (hy : Els ρ H sz y ys) (hs : ∀ r ∈ ys, r.all AV.solid = true) (hb : (els.length + ys.length) * by_ ≤ 70368744177664) (hb2 : els.length + ys.length ≤ 70368744177664)
    (hk : ∀ x' H', Grow H' e sz x' (els ++ ys) → Fr x.lies H H' → (∀ l, x'.lies l → x.lies l ∨ H.sz ≤ l) → scal x' = true → Ret Q (K x' H')) : Ret Q (effK H (apA ρ 0 H e sz by_ x y) K) := by
  obtain ⟨x', f, ea, G, fr, hl⟩ := h.append hy hs hb hb2
  rw [ea, effK_on]
  refine hk x' _ G fr hl ?_
  cases x' <;> first | exact G.elim | rfl
theorem Ret.appE {e sz by_ : Nat} {x y : AV} {els ys : List (List AV)} (h : GE H e sz x els) (hy : Els ρ H sz y ys) (hne : ys ≠ []) (hs : ∀ r ∈ ys, r.all AV.solid = true) (hb : (els.length + ys.length) * by_ ≤ 70368744177664) (hb2 : els.length + ys.length ≤ 70368744177664)
    (hk : ∀ x' H', GE H' e sz x' (els ++ ys) → Fr x.lies H H' → (∀ l, x'.lies l → x.lies l ∨ H.sz ≤ l) → Ret Q (K x' H')) : Ret Q (effK H (apA ρ 0 H e sz by_ x y) K) := by
  obtain ⟨x', f, ea, G, fr, hl⟩ := h.append hy hne hs hb hb2
  rw [ea, effK_on]
  exact hk x' _ G fr hl
end
end Go.Ev

-- part EvSt
/- EvSt: what is known of places while a function runs. -/
set_option linter.unusedVariables false
set_option linter.unusedSimpArgs false
namespace Go.Ev
open Go.RowKit
/-- Places and what lies in them; nothing else that was there at H0 has turned, but at S. -/
structure St (S : Nat → Prop) (H0 : Heap) (L : List (Nat × AObj)) (H : Heap) : Prop where
  nd : (L.map Prod.fst).Nodup
  lt : ∀ q ∈ L, q.1 < H.sz
  get : ∀ q ∈ L, H.get q.1 = q.2
  own : ∀ q ∈ L, S q.1 ∨ H0.sz ≤ q.1
  fr : Fr S H0 H
section
variable {Q : AV → Heap → Prop} {K : AV → Heap → Res} {H H0 H1 : Heap} {S : Nat → Prop} {L : List (Nat × AObj)} {ρ : Addr → Option Value}
theorem St.start (S : Nat → Prop) (H : Heap) : St S H [] H := ⟨by simp, by simp, by simp, by simp, Fr.refl ..⟩
theorem St.start1 {S : Nat → Prop} {H : Heap} {l : Nat} {o : AObj} (hl : l < H.sz) (hg : H.get l = o) (hs : S l) : St S H [(l, o)] H :=
  ⟨by simp, by simpa using hl, by simpa using hg, by simpa using Or.inl hs, Fr.refl ..⟩
theorem St.at (s : St S H0 L H) (i : Nat) {n : Nat} {o : AObj} (h : L[i]? = some (n, o)) : H.get n = o := s.get (n, o) (List.mem_of_getElem? h)
theorem St.lt' (s : St S H0 L H) (i : Nat) {n : Nat} {o : AObj} (h : L[i]? = some (n, o)) : n < H.sz := s.lt (n, o) (List.mem_of_getElem? h)
theorem St.new1 (s : St S H0 L H) (o : AObj) : St S H0 (L ++ [(H.sz, o)]) (H.new o) where
  nd := by
    rw [List.map_append, List.map_cons, List.map_nil, List.nodup_append]
    refine ⟨s.nd, by simp, ?_⟩
    intro a ha b hb
    obtain ⟨q, hq, rfl⟩ := List.mem_map.1 ha
    have := s.lt q hq
    simp at hb; omega
  lt := by
    intro q hq
    rw [Heap.sz_new]
    rcases List.mem_append.1 hq with h | h
    · have := s.lt q h; omega
    · simp at h; subst h; simp
  get := by
    intro q hq
    rcases List.mem_append.1 hq with h | h
    · have := s.lt q h
      rw [Heap.get_new, if_neg (by omega)]; exact s.get q h
    · simp at h; subst h; simp [Heap.get_new_same]
  own := by
    intro q hq
    rcases List.mem_append.1 hq with h | h
    · exact s.own q h
    · simp at h; subst h; exact Or.inr s.fr.sz
  fr := s.fr.trans (Fr.new S H o)
theorem St.put1 (s : St S H0 L H) (i : Nat) {n : Nat} {o : AObj} (o' : AObj) (h : L[i]? = some (n, o)) : St S H0 (L.set i (n, o')) (H.put n o') := by
  have hm := List.mem_of_getElem? h
  obtain ⟨hi, he⟩ := List.getElem?_eq_some_iff.1 h
  have hmap : (L.set i (n, o')).map Prod.fst = L.map Prod.fst := by
    rw [List.map_set]
    apply List.ext_getElem?
    intro j
    rw [List.getElem?_set]
    split
    · rename_i e; subst e; simp [hi, he]
    · rfl
  have key : ∀ q ∈ L.set i (n, o'), q = (n, o') ∨ (q ∈ L ∧ q.1 ≠ n) := by
    intro q hq
    obtain ⟨j, hj, rfl⟩ := List.mem_iff_getElem.1 hq
    rw [List.getElem_set]
    split
    · exact Or.inl rfl
    · rename_i hne
      rw [List.length_set] at hj
      refine Or.inr ⟨List.getElem_mem hj, fun e => hne ?_⟩
      have hnd := s.nd
      have a1 : (L.map Prod.fst)[i]'(by simpa using hi) = n := by simp [he]
      have a2 : (L.map Prod.fst)[j]'(by simpa using hj) = n := by simpa using e
      exact (List.getElem_inj hnd).1 (a1.trans a2.symm)
  refine ⟨by rw [hmap]; exact s.nd, ?_, ?_, ?_, ?_⟩
  · intro q hq
    rcases key q hq with rfl | ⟨h1, _⟩
    · exact s.lt (n, o) hm
    · exact s.lt q h1
  · intro q hq
    rcases key q hq with rfl | ⟨h1, h2⟩
    · exact Heap.get_put_same ..
    · rw [Heap.get_put_ne _ _ _ _ h2]; exact s.get q h1
  · intro q hq
    rcases key q hq with rfl | ⟨h1, _⟩
    · exact s.own (n, o) hm
    · exact s.own q h1
  · refine s.fr.trans' (S1 := fun t => t = n) (Fr.put H n o' fun _ => rfl) fun l hl e => ?_
    subst e
    rcases s.own (l, o) hm with q | q
    · exact q
    · exact absurd hl (Nat.not_lt.2 q)
/-- Something was done that left these as they were. -/
theorem St.frame (s : St S H0 L H) {S1 : Nat → Prop} (f : Fr S1 H H1) (h1 : ∀ q ∈ L, ¬ S1 q.1) (h2 : ∀ l, l < H0.sz → S1 l → S l) : St S H0 L H1 :=
  ⟨s.nd, fun q hq => Nat.lt_of_lt_of_le (s.lt q hq) f.sz, fun q hq => by rw [f.get q.1 (s.lt q hq) (h1 q hq)]; exact s.get q hq, s.own, s.fr.trans' f h2⟩
theorem St.frame0 (s : St S H0 L H) (f : Fr Nop H H1) : St S H0 L H1 := s.frame f (fun _ _ q => q) fun _ _ q => q.elim
/-- .. but of this one. -/
theorem St.turn (s : St S H0 L H) (i : Nat) {n : Nat} {o o' : AObj} (h : L[i]? = some (n, o)) (f : Fr (fun t => t = n) H H1) (hg : H1.get n = o') : St S H0 (L.set i (n, o')) H1 := by
  have s1 := s.put1 i o' h
  refine ⟨s1.nd, fun q hq => Nat.lt_of_lt_of_le (s1.lt q hq) f.sz, fun q hq => ?_, s1.own, ?_⟩
  · by_cases e : q.1 = n
    · have := s1.get q hq
      rw [e, Heap.get_put_same] at this
      rw [e, hg, this]
    · rw [f.get q.1 (s1.lt q hq) e, ← s1.get q hq, Heap.get_put_ne _ _ _ _ e]
  · refine s.fr.trans' f fun l hl e => ?_
    subst e
    rcases s.own (l, o) (List.mem_of_getElem? h) with q | q
    · exact q
    · exact absurd hl (Nat.not_lt.2 q)
theorem St.drop {R : List (Nat × AObj)} (s : St S H0 (L ++ R) H) : St S H0 L H where
  nd := by have := s.nd; rw [List.map_append, List.nodup_append] at this; exact this.1
  lt := fun q hq => s.lt q (List.mem_append_left _ hq)
  get := fun q hq => s.get q (List.mem_append_left _ hq)
  own := fun q hq => s.own q (List.mem_append_left _ hq)
  fr := s.fr
/-- Something was done behind z alone. -/
theorem St.above (s : St S H0 L H) {z : Nat} (f : Fr (fun t => z ≤ t) H H1) (h1 : ∀ q ∈ L, q.1 < z) (h2 : H0.sz ≤ z) : St S H0 L H1 :=
  s.frame f (fun q hq e => absurd (h1 q hq) (Nat.not_lt.2 e)) fun l hl e => absurd (Nat.lt_of_lt_of_le hl h2) (Nat.not_lt.2 e)
-- steps
theorem St.newP (s : St S H0 L H) {o : AObj} (hk : ∀ n H1, St S H0 (L ++ [(n, o)]) H1 → H.sz ≤ n → Fr Nop H H1 → Ret Q (K (.ptr n 0 0) H1)) : Ret Q (effK H (some (.ptr H.sz 0 0, .new o)) K) := by
  rw [effK_new]; exact hk _ _ (s.new1 o) (Nat.le_refl _) (Fr.new Nop H o)
theorem St.newS (s : St S H0 L H) {o : AObj} {a c : Nat} {m : Bool} (hk : ∀ n H1, St S H0 (L ++ [(n, o)]) H1 → H.sz ≤ n → Fr Nop H H1 → Ret Q (K (.sl n 0 0 a c m) H1)) : Ret Q (effK H (some (.sl H.sz 0 0 a c m, .new o)) K) := by
  rw [effK_new]; exact hk _ _ (s.new1 o) (Nat.le_refl _) (Fr.new Nop H o)
theorem St.mkS (s : St S H0 L H) {o : AObj} {a c : Nat} {m : Bool} (hu : o.under H.sz = true) (hk : ∀ n H1, St S H0 (L ++ [(n, o)]) H1 → H.sz ≤ n → Fr Nop H H1 → Ret Q (K (.sl n 0 0 a c m) H1)) : Ret Q (mkK H (some (.sl H.sz 0 0 a c m, .new o)) true K) := by
  rw [mkK_new _ _ _ _ hu]; exact hk _ _ (s.new1 o) (Nat.le_refl _) (Fr.new Nop H o)
theorem St.st (s : St S H0 L H) (i : Nat) {n v e o : Nat} {g : Bool} {c : List AV} {x : AV} (h : L[i]? = some (n, .cells v e (0, 0) g c)) (hx : scal x = true) (ho : o < c.length)
    (hk : ∀ H1, St S H0 (L.set i (n, .cells v e (0, 0) g (c.set o x))) H1 → H1.sz = H.sz → Fr (fun t => t = n) H H1 → Ret Q (K (.tup []) H1)) : Ret Q (effK H (stA 0 H 1 (.ptr n v o) x) K) := by
  rw [st1 o x (s.at i h) hx ho, effK_put]
  exact hk _ (s.put1 i _ h) rfl (Fr.put _ _ _ fun _ => rfl)
theorem St.stN (s : St S H0 L H) (i : Nat) {n v e o m : Nat} {g : Bool} {c cs : List AV} (h : L[i]? = some (n, .cells v e (0, 0) g c)) (hl : cs.length = m) (hs : cs.all AV.solid = true) (ho : o + m ≤ c.length)
    (hk : ∀ H1, St S H0 (L.set i (n, .cells v e (0, 0) g (layA c o cs))) H1 → H1.sz = H.sz → Fr (fun t => t = n) H H1 → Ret Q (K (.tup []) H1)) : Ret Q (effK H (stA 0 H m (.ptr n v o) (.agg cs)) K) := by
  rw [stA_agg_ptr _ _ _ _ _ _ hl, s.at i h, stC_many _ _ _ _ _ _ _ hs (by omega), effK_put]
  exact hk _ (s.put1 i _ h) rfl (Fr.put _ _ _ fun _ => rfl)
end
end Go.Ev

-- part EvBy
/- EvBy: texts as lists of bytes. -/
set_option linter.unusedVariables false
set_option linter.unusedSimpArgs false
namespace Go.Ev
open Go.RowKit
def ba (l : List UInt8) : ByteArray := ⟨l.toArray⟩
def bs (s : ByteArray) : List UInt8 := s.data.toList
theorem bs_ba (l : List UInt8) : bs (ba l) = l := rfl
theorem ba_bs (s : ByteArray) : ba (bs s) = s := by
  apply ByteArray.ext
  show s.data.toList.toArray = s.data
  simp
theorem ba_size (l : List UInt8) : (ba l).size = l.length := by
  show l.toArray.size = _
  simp
theorem bs_len (s : ByteArray) : (bs s).length = s.size := by
  show s.data.toList.length = s.data.size
  simp
theorem ba_inj {a b : List UInt8} : ba a = ba b ↔ a = b := ⟨fun h => congrArg bs h, fun h => by rw [h]⟩
theorem ba_app (a b : List UInt8) : ba a ++ ba b = ba (a ++ b) := by
  apply ByteArray.ext
  simp [ba]
theorem ba_cut (l : List UInt8) (i j : Nat) : (ba l).extract i j = ba ((l.drop i).take (j - i)) := by
  apply ByteArray.ext
  rw [ByteArray.data_extract]
  simp only [ba]
  apply Array.toList_inj.1
  rw [Array.toList_extract]
theorem emp1 : ByteArray.mk #[] = ba [] := rfl
theorem emp2 : ByteArray.empty = ba [] := rfl
theorem lenT_ba (l : List UInt8) : lenT (.str (ba l)) = some (.int .i64 l.length) := by rw [lenT_str, ba_size]
theorem ixT_ba (l : List UInt8) (k : IntKind) (i : Nat) (h : i < l.length) : ixT (.str (ba l)) (.int k i) = some (.int .u8 l[i].toNat) := by
  have hs : (i : Int).toNat < (ba l).size := by rw [ba_size, Int.toNat_natCast]; exact h
  rw [ixT_str _ _ _ (by omega) hs]
  rfl
theorem slT_ba (l : List UInt8) (lo hi : Nat) (h1 : lo ≤ hi) (h2 : hi ≤ l.length) (k k' : IntKind) : slT (.str (ba l)) (some (.int k lo)) (some (.int k' hi)) = some (.str (ba ((l.drop lo).take (hi - lo)))) := by
  have a1 : decide ((0 : Int) ≤ hi) = true := by simp
  have a2 : decide ((hi : Int) ≤ ((ba l).size : Nat)) = true := by rw [ba_size]; simp; omega
  have a3 : decide ((0 : Int) ≤ lo) = true := by simp
  have a4 : decide ((lo : Int) ≤ hi) = true := by simp; omega
  simp only [slT, boundsA, Option.bind_some, boundA, asInt, a1, a2, a3, a4, Bool.and_self, cond_true, Int.toNat_natCast, Option.map_some, ba_cut]
theorem slT_hi (l : List UInt8) (hi : Nat) (h2 : hi ≤ l.length) (k' : IntKind) : slT (.str (ba l)) none (some (.int k' hi)) = some (.str (ba (l.take hi))) := by
  have a1 : decide ((0 : Int) ≤ hi) = true := by simp
  have a2 : decide ((hi : Int) ≤ ((ba l).size : Nat)) = true := by rw [ba_size]; simp; omega
  simp only [slT, boundsA, Option.bind_some, boundA, asInt, a1, a2, Bool.and_self, cond_true, Int.toNat_natCast, Option.map_some, ba_cut, List.drop_zero, Nat.sub_zero]
theorem slT_lo (l : List UInt8) (lo : Nat) (h2 : lo ≤ l.length) (k' : IntKind) : slT (.str (ba l)) (some (.int k' lo)) none = some (.str (ba (l.drop lo))) := by
  have a1 : decide ((0 : Int) ≤ lo) = true := by simp
  have a2 : decide ((lo : Int) ≤ (l.length : Nat)) = true := by simp; omega
  have e : ((l.drop lo).take (l.length - lo)) = l.drop lo := List.take_of_length_le (by simp)
  simp only [slT, boundsA, Option.bind_some, boundA, asInt, a1, a2, Bool.and_self, cond_true, Int.toNat_natCast, Option.map_some, ba_cut, ba_size, e]
theorem bin_scatB (P : Program) (H : Heap) (t : TypeId) (a b : List UInt8) (h : a.length + b.length ≤ 9223372036854775807) : binA P H .add t (.str (ba a)) (.str (ba b)) = some (.str (ba (a ++ b))) := by
  rw [bin_scat _ _ _ _ _ (by rw [ba_size, ba_size]; exact h), ba_app]
theorem ba_toList (l : List UInt8) : (ba l).toList = l := by rw [ByteArray.toList_eq]; rfl
theorem bin_seqB (P : Program) (H : Heap) (t : TypeId) (a b : List UInt8) : binA P H .eql t (.str (ba a)) (.str (ba b)) = some (.bool (decide (a = b))) := by
  rw [bin_seql]; simp only [ba_inj]
theorem bin_sneB (P : Program) (H : Heap) (t : TypeId) (a b : List UInt8) : binA P H .neq t (.str (ba a)) (.str (ba b)) = some (.bool (decide (a ≠ b))) := by
  rw [bin_sneq]; simp only [ne_eq, ba_inj]
theorem bin_sgeB (P : Program) (H : Heap) (t : TypeId) (a b : List UInt8) : binA P H .geq t (.str (ba a)) (.str (ba b)) = some (.bool (!Op.bytesLess a b)) := by
  simp only [binA, strA, ba_toList]
theorem bin_sltB (P : Program) (H : Heap) (t : TypeId) (a b : List UInt8) : binA P H .lss t (.str (ba a)) (.str (ba b)) = some (.bool (Op.bytesLess a b)) := by
  simp only [binA, strA, ba_toList]
/-- Bytes as elements of a slice. -/
def brow (l : List UInt8) : List (List AV) := l.map fun b => [byteCell b]
theorem brow_len (l : List UInt8) : (brow l).length = l.length := List.length_map ..
theorem brow_app (a b : List UInt8) : brow (a ++ b) = brow a ++ brow b := List.map_append ..
theorem brow_flat : ∀ l : List UInt8, (brow l).flatten = l.map byteCell
  | [] => rfl
  | b :: l => by
    have : (brow (b :: l)).flatten = [byteCell b] ++ (brow l).flatten := rfl
    rw [this, brow_flat l]; rfl
theorem brow_solid (l : List UInt8) : ∀ r ∈ brow l, r.all AV.solid = true := by
  intro r hr
  obtain ⟨b, _, rfl⟩ := List.mem_map.1 hr; rfl
theorem brow_one (l : List UInt8) : ∀ r ∈ brow l, r.length = 1 := by
  intro r hr
  obtain ⟨b, _, rfl⟩ := List.mem_map.1 hr; rfl
theorem bytesOf_map : ∀ l : List UInt8, bytesOfA (l.map byteCell) = some l
  | [] => rfl
  | b :: l => by
    have h1 : (0 : Int) ≤ (b.toNat : Int) := by omega
    have h2 : (b.toNat : Int) < 256 := by have := b.toNat_lt; omega
    rw [List.map_cons]
    unfold byteCell
    simp only [bytesOfA, h1, h2, decide_true, Bool.and_self, cond_true]
    have := bytesOf_map l
    unfold byteCell at this
    rw [this]
    simp
section
variable {ρ : Addr → Option Value} {H H' : Heap} {e sz : Nat} {x y : AV} {els ys : List (List AV)} {Q : AV → Heap → Prop} {K : AV → Heap → Res}
theorem b2s_brow {l : List UInt8} (h : Els ρ H 1 y (brow l)) (hy : ∀ m, y ≠ .sx m) : b2s ρ H y = some (.str (ba l)) := by
  have e1 := h.lenA
  have e2 := h.frst
  rw [brow_flat] at e2
  rw [brow_len] at e1 e2
  cases y with
  | nils =>
    have : brow l = [] := h
    have : l = [] := by simpa [brow] using this
    subst this; rfl
  | sl l' v o n' c m => simp only [b2s, e1, Option.bind_some, e2, bytesOf_map, Option.map_some]; rfl
  | xs a n' c => simp only [b2s, e1, Option.bind_some, e2, bytesOf_map, Option.map_some]; rfl
  | sx m => exact absurd rfl (hy m)
  | _ => exact h.elim
theorem slS_notSx {l v o n c : Nat} {a b : Option AV} {y : AV} (h : slS sz (.sl l v o n c false) a b none = some y) (m : Nat) : y ≠ .sx m := by
  rintro rfl
  revert h
  simp only [slS, sliceSl]
  cases Nat.ble n c with
  | false => simp
  | true => cases boundsA n c a b none <;> simp
theorem lenA_str (l : List UInt8) : lenA (.str (ba l)) = some l.length := by simp [lenA, ba_size]
theorem frst_str (l : List UInt8) : frst ρ H 1 l.length (.str (ba l)) = some (brow l).flatten := by
  rw [brow_flat]
  simp only [frst, ba_cut, List.drop_zero, Nat.sub_zero, List.take_length]
  rfl
/-- A text's bytes are appended. -/
theorem Grow.appStr {by_ : Nat} {a l : List UInt8} (h : Grow H e 1 x (brow a)) (hb : (a.length + l.length) * by_ ≤ 70368744177664) (hb2 : a.length + l.length ≤ 70368744177664) :
    ∃ x' f, apA ρ 0 H e 1 by_ x (.str (ba l)) = some (x', f) ∧ Grow (f.on H) e 1 x' (brow (a ++ l)) ∧ Fr x.lies H (f.on H) ∧ ∀ t, x'.lies t → x.lies t ∨ H.sz ≤ t := by
  -- as if they lay in a slice of their own
  have hsol : (brow l).flatten.all AV.solid = true := by
    rw [brow_flat, List.all_eq_true]; intro z hz
    obtain ⟨b, _, rfl⟩ := List.mem_map.1 hz; rfl
  have hlen := els_length (brow l) 1 (brow_one l)
  rw [brow_len] at hlen
  simp only [apA, lenA_str, Option.bind_some, frst_str, hsol, hlen, beq_self_eq_true, Bool.and_self, Bool.not_true, cond_false]
  cases x with
  | nils =>
    have : brow a = [] := h
    have ha : a = [] := by simpa [brow] using this
    subst ha
    by_cases h0 : l.length = 0
    · have : l = [] := List.eq_nil_of_length_eq_zero h0
      subst this
      exact ⟨.nils, .nothing, rfl, Grow.nils .., Fr.refl .., fun l q => Or.inl q⟩
    · have h0' : (l.length == 0) = false := by simpa using h0
      simp only [h0', cond_false, growN_of (by_ := by_) (n := l.length) (by simpa using hb) (by simpa using hb2), cond_true]
      refine ⟨_, _, rfl, ⟨rfl, by simp [brow_len], rfl, rfl, by simp [Eff.on, Heap.sz_new], brow_one _, true, ?_⟩, Fr.new _ H _, fun t q => Or.inr (by have e : H.sz = t := q; omega)⟩
      simp [Eff.on, newCells, Heap.get_new]
  | sl t v o n c m =>
    obtain ⟨rfl, rfl, rfl, rfl, hl, h5, g, hg⟩ := h
    have hel := els_length (brow a) 1 h5
    simp only [apSl]
    by_cases h0 : l.length = 0
    · have : l = [] := List.eq_nil_of_length_eq_zero h0
      subst this
      simp only [List.length_nil, Nat.add_zero, Nat.le_refl, decide_true, cond_true]
      rw [storeN_of (vs := (brow []).flatten) _ hg (by rw [hel]; simp [brow]) rfl]
      refine ⟨_, _, rfl, ⟨rfl, by simp, rfl, rfl, hl, by simpa using h5, g, ?_⟩, Fr.put H t _ (fun _ => rfl), fun t q => Or.inl q⟩
      simp [Eff.on, Heap.get_put, layA, brow]
    · have h0' : decide ((brow a).length + l.length ≤ (brow a).length) = false := by simp; omega
      have hb1 : Nat.ble 0 t = true := Nat.ble_eq_true_of_le (by omega)
      have hg1 := growN_of (by_ := by_) (n := (brow a).length + l.length) (by rw [brow_len]; exact hb) (by rw [brow_len]; exact hb2)
      simp only [h0', cond_false, hg1, Bool.not_true, cond_true, hg, hb1, Nat.beq_refl, beq_self_eq_true, hel, Bool.and_self, Nat.ble_eq_true_of_le (Nat.le_refl _)]
      refine ⟨_, _, rfl, ⟨rfl, by simp [brow_len], rfl, rfl, hl, brow_one _, true, ?_⟩, Fr.put H t _ (fun _ => rfl), fun t q => Or.inl q⟩
      have ht : (brow a).flatten.take ((brow a).length * 1) = (brow a).flatten := List.take_of_length_le (by omega)
      simp only [Eff.on, Heap.get_put, if_pos, ht, brow_app, List.flatten_append]
  | _ => exact h.elim
theorem Ret.appS {by_ : Nat} {a l : List UInt8} (h : Grow H e 1 x (brow a)) (hb : (a.length + l.length) * by_ ≤ 70368744177664) (hb2 : a.length + l.length ≤ 70368744177664)
    (hk : ∀ x' H', Grow H' e 1 x' (brow (a ++ l)) → Fr x.lies H H' → (∀ t, x'.lies t → x.lies t ∨ H.sz ≤ t) → scal x' = true → Ret Q (K x' H')) : Ret Q (effK H (apA ρ 0 H e 1 by_ x (.str (ba l))) K) := by
  obtain ⟨x', f, ea, G, fr, hl⟩ := h.appStr (ρ := ρ) (l := l) hb hb2
  rw [ea, effK_on]
  refine hk x' _ G fr hl ?_
  cases x' <;> first | exact G.elim | rfl
/-- A slice that is full: an append lays it anew. -/
def Full (H : Heap) (e sz : Nat) (x : AV) (els : List (List AV)) : Prop := match x with
  | .sl l v o n c m => o = 0 ∧ n = els.length ∧ c = n ∧ m = false ∧ l < H.sz ∧ (∀ r ∈ els, r.length = sz) ∧ ∃ fr g, H.get l = .cells v e fr g els.flatten
  | _ => False
theorem Full.toEls (h : Full H e sz x els) : Els ρ H sz x els := by
  cases x with
  | sl l v o n c m =>
    obtain ⟨rfl, rfl, rfl, rfl, hl, hs, fr, g, hg⟩ := h
    exact Els.of_cells hl hg hs
  | _ => exact h.elim
theorem Full.frame (h : Full H e sz x els) (S : Nat → Prop) (f : Fr S H H') (hs : ∀ l, x.lies l → ¬ S l) : Full H' e sz x els := by
  cases x with
  | sl l v o n c m =>
    obtain ⟨h1, h2, h3, h4, hl, h5, fr, g, hg⟩ := h
    exact ⟨h1, h2, h3, h4, Nat.lt_of_lt_of_le hl f.sz, h5, fr, g, by rw [f.get l hl (hs l rfl), hg]⟩
  | _ => exact h.elim
theorem Full.append {by_ : Nat} (h : Full H e sz x els) (hy : Els ρ H sz y ys) (hne : ys ≠ []) (hs : ∀ r ∈ ys, r.all AV.solid = true) (hb : (els.length + ys.length) * by_ ≤ 70368744177664) (hb2 : els.length + ys.length ≤ 70368744177664) :
    ∃ x' f, apA ρ 0 H e sz by_ x y = some (x', f) ∧ Grow (f.on H) e sz x' (els ++ ys) ∧ Fr Nop H (f.on H) ∧ ∀ l, x'.lies l → H.sz ≤ l := by
  have hE := h.toEls (ρ := ρ)
  have hsol : ys.flatten.all AV.solid = true := by
    rw [List.all_eq_true]; intro a ha
    obtain ⟨r, hr, har⟩ := List.mem_flatten.1 ha
    exact List.all_eq_true.1 (hs r hr) a har
  have hlr : ∀ r ∈ ys, r.length = sz := fun r hr => by obtain ⟨i, hi, rfl⟩ := List.mem_iff_getElem.1 hr; exact hy.len_el i hi
  have hlen := els_length ys sz hlr
  have h0 : 0 < ys.length := List.length_pos_iff.2 hne
  simp only [apA, hy.lenA, Option.bind_some, hy.frst, hsol, hlen, beq_self_eq_true, Bool.and_self, Bool.not_true, cond_false]
  cases x with
  | sl l v o n c m =>
    obtain ⟨rfl, rfl, rfl, rfl, hl, h5, fr, g, hg⟩ := h
    have h1 : decide (els.length + ys.length ≤ els.length) = false := by simp; omega
    have hf := hE.frst
    simp only [apSl, h1, cond_false, growN_of (by_ := by_) hb hb2, Bool.not_true, hf, Option.map_some]
    refine ⟨_, _, rfl, ⟨rfl, by simp, rfl, rfl, by simp [Eff.on, Heap.sz_new], ?_, true, ?_⟩, Fr.new Nop H _, fun l q => ?_⟩
    · intro r hr; rcases List.mem_append.1 hr with q | q
      · exact h5 r q
      · exact hlr r q
    · simp [Eff.on, newCells, Heap.get_new]
    · have e : H.sz = l := q; omega
  | _ => exact h.elim
/-- It grows, or is full. -/
def GF (H : Heap) (e sz : Nat) (x : AV) (els : List (List AV)) : Prop := Full H e sz x els ∨ Grow H e sz x els
theorem GF.toEls (h : GF H e sz x els) : Els ρ H sz x els := h.elim Full.toEls Grow.toEls
theorem GF.frame (h : GF H e sz x els) (S : Nat → Prop) (f : Fr S H H') (hs : ∀ l, x.lies l → ¬ S l) : GF H' e sz x els := h.elim (fun h => Or.inl (h.frame S f hs)) (fun h => Or.inr (h.frame S f hs))
theorem GF.notSx (h : GF H e sz x els) (n : Nat) : x ≠ .sx n := by
  rcases h with h | h
  · rintro rfl; exact h
  · exact h.notSx n
theorem Ret.appF {by_ : Nat} (h : GF H e sz x els) (hy : Els ρ H sz y ys) (hne : ys ≠ []) (hs : ∀ r ∈ ys, r.all AV.solid = true) (hb : (els.length + ys.length) * by_ ≤ 70368744177664) (hb2 : els.length + ys.length ≤ 70368744177664)
    (hk : ∀ x' H', Grow H' e sz x' (els ++ ys) → Fr x.lies H H' → (∀ l, x'.lies l → x.lies l ∨ H.sz ≤ l) → scal x' = true → Ret Q (K x' H')) : Ret Q (effK H (apA ρ 0 H e sz by_ x y) K) := by
  rcases h with h | h
  · obtain ⟨x', f, ea, G, fr, hl⟩ := h.append hy hne hs hb hb2
    rw [ea, effK_on]
    refine hk x' _ G (fr.mono fun _ _ q => q.elim) (fun l q => Or.inr (hl l q)) ?_
    cases x' <;> first | exact G.elim | rfl
  · exact Ret.app h hy hs hb hb2 hk
theorem u8n (n : Nat) : wrapK .u8 (n : Int) = ((UInt8.ofNat n).toNat : Int) := by
  rw [UInt8.toNat_ofNat']
  show ((n : Int) % 256) = _
  omega
theorem tmodN (n m : Nat) : (n : Int).tmod (m : Int) = ((n % m : Nat) : Int) := rfl
theorem tdivN (n m : Nat) (h : n < 9223372036854775808) : wrapK .i64 ((n : Int).tdiv (m : Int)) = ((n / m : Nat) : Int) := wrap_nat (n / m) (Nat.lt_of_le_of_lt (Nat.div_le_self _ _) h)
end
end Go.Ev

-- part EvQu
/- EvQu: a text's word, and a word's text, as plain lists of bytes. -/
set_option linter.unusedVariables false
set_option linter.unusedSimpArgs false
namespace Go.Ev
open Go.RowKit
/-- A byte that stands in a word as it is. -/
def plainB (c : UInt8) : Bool := decide (33 ≤ c.toNat) && decide (c.toNat ≤ 126) && decide (c.toNat ≠ 37)
def dig (n : Nat) : UInt8 := UInt8.ofNat (if n < 10 then 48 + n else 55 + n)
def qb (c : UInt8) : List UInt8 := if plainB c = true then [c] else [37, dig (c.toNat / 16), dig (c.toNat % 16)]
def quoteL (s : List UInt8) : List UInt8 := 61 :: s.flatMap qb
def worth (c : UInt8) : Option Nat := if 48 ≤ c.toNat ∧ c.toNat ≤ 57 then some (c.toNat - 48) else if 65 ≤ c.toNat ∧ c.toNat ≤ 70 then some (c.toNat - 55) else none
/-- The byte of two digits, if it may be told so. -/
def hexB (a b : UInt8) : Option UInt8 := match worth a, worth b with
  | some x, some y => if plainB (UInt8.ofNat (16 * x + y)) = true then none else some (UInt8.ofNat (16 * x + y))
  | _, _ => none
/-- One byte off the front of a word's rest: how many bytes it took, or none. -/
def unq1 (l : List UInt8) : Option (UInt8 × List UInt8) := match l with
  | [] => none
  | c :: r => if c = 37 then (match r with | a :: b :: q => (hexB a b).map fun d => (d, q) | _ => none) else if plainB c = true then some (c, r) else none
def unqN : Nat → List UInt8 → Option (List UInt8)
  | _, [] => some []
  | 0, _ :: _ => none
  | n + 1, l => match unq1 l with
    | some (d, q) => (unqN n q).map (d :: ·)
    | none => none
def unq (l : List UInt8) : Option (List UInt8) := unqN l.length l
def unquoteL (w : List UInt8) : Option (List UInt8) := match w with
  | c :: r => if c = 61 then unq r else none
  | [] => none
theorem unq1_len {l q : List UInt8} {d : UInt8} (h : unq1 l = some (d, q)) : q.length < l.length := by
  unfold unq1 at h
  match l, h with
  | c :: r, h =>
    simp only at h
    split at h
    · match r, h with
      | a :: b :: q', h =>
        simp only [Option.map_eq_some_iff, Prod.mk.injEq] at h
        obtain ⟨_, _, _, rfl⟩ := h
        simp; omega
    · split at h
      · simp only [Option.some.injEq, Prod.mk.injEq] at h
        obtain ⟨_, rfl⟩ := h
        simp
      · cases h
theorem unqN_fuel : ∀ (n m : Nat) (l : List UInt8), l.length ≤ n → l.length ≤ m → unqN n l = unqN m l
  | n, m, [], _, _ => by cases n <;> cases m <;> rfl
  | 0, m, c :: l, h, _ => by simp at h
  | n + 1, 0, c :: l, _, h => by simp at h
  | n + 1, m + 1, c :: l, hn, hm => by
    rw [unqN, unqN]
    · cases hu : unq1 (c :: l) with
      | none => rfl
      | some p =>
        obtain ⟨d, q⟩ := p
        have := unq1_len hu
        simp only [unqN_fuel n m q (by omega) (by omega)]
    · simp
    · simp
theorem unq_nil : unq [] = some [] := rfl
theorem unq_step {l q : List UInt8} {d : UInt8} (h : unq1 l = some (d, q)) : unq l = (unq q).map (d :: ·) := by
  have hl := unq1_len h
  match l, h, hl with
  | c :: r, h, hl =>
    unfold unq
    rw [List.length_cons, unqN, h]
    · simp only
      rw [unqN_fuel r.length q.length q (by simp at hl; omega) (Nat.le_refl _)]
    · simp
theorem unq_none {l : List UInt8} (hl : l ≠ []) (h : unq1 l = none) : unq l = none := by
  match l, hl, h with
  | c :: r, _, h =>
    unfold unq
    rw [List.length_cons, unqN, h]
    simp
theorem byte_all {P : UInt8 → Prop} [DecidablePred P] (h : ∀ n : Fin 256, P (UInt8.ofNat n.val)) (c : UInt8) : P c := by
  have := h ⟨c.toNat, c.toNat_lt⟩
  simpa using this
theorem hex_qb (c : UInt8) : plainB c = true ∨ hexB (dig (c.toNat / 16)) (dig (c.toNat % 16)) = some c :=
  byte_all (P := fun c => plainB c = true ∨ hexB (dig (c.toNat / 16)) (dig (c.toNat % 16)) = some c) (by decide +kernel) c
theorem plain37 (c : UInt8) (h : plainB c = true) : c ≠ 37 := by
  rintro rfl
  revert h; decide
theorem unq1_qb (c : UInt8) (r : List UInt8) : unq1 (qb c ++ r) = some (c, r) := by
  unfold qb
  by_cases h : plainB c = true
  · rw [if_pos h]
    simp [unq1, plain37 c h, h]
  · rw [if_neg h]
    have := (hex_qb c).resolve_left h
    simp [unq1, this]
theorem unq_quote : ∀ s : List UInt8, unq (s.flatMap qb) = some s
  | [] => rfl
  | c :: s => by
    rw [List.flatMap_cons, unq_step (unq1_qb c _), unq_quote s]; rfl
theorem unquote_quote (s : List UInt8) : unquoteL (quoteL s) = some s := by
  unfold unquoteL quoteL
  simp [unq_quote]
theorem worth_dig {a : UInt8} {x : Nat} (h : worth a = some x) : x < 16 ∧ dig x = a := by
  have := byte_all (P := fun a => (worth a).all (fun x => decide (x < 16) && decide (dig x = a)) = true) (by decide +kernel) a
  rw [h] at this
  simpa using this
theorem unq1_back {l q : List UInt8} {d : UInt8} (h : unq1 l = some (d, q)) : l = qb d ++ q := by
  unfold unq1 at h
  match l, h with
  | c :: r, h =>
    simp only at h
    split at h
    · rename_i hc
      match r, h with
      | a :: b :: q', h =>
        simp only [Option.map_eq_some_iff, Prod.mk.injEq] at h
        obtain ⟨e, he, rfl, rfl⟩ := h
        unfold hexB at he
        cases ha : worth a with
        | none => rw [ha] at he; simp at he
        | some x =>
          cases hb : worth b with
          | none => rw [ha, hb] at he; simp at he
          | some y =>
            rw [ha, hb] at he
            simp only at he
            split at he
            · cases he
            · rename_i hp
              simp only [Option.some.injEq] at he
              obtain ⟨x16, dx⟩ := worth_dig ha
              obtain ⟨y16, dy⟩ := worth_dig hb
              subst he
              have en : (UInt8.ofNat (16 * x + y)).toNat = 16 * x + y := by rw [UInt8.toNat_ofNat']; omega
              unfold qb
              rw [if_neg hp, en, show (16 * x + y) / 16 = x by omega, show (16 * x + y) % 16 = y by omega, dx, dy, hc]
              rfl
    · split at h
      · rename_i hp
        simp only [Option.some.injEq, Prod.mk.injEq] at h
        obtain ⟨rfl, rfl⟩ := h
        unfold qb
        rw [if_pos hp]; rfl
      · cases h
theorem unqN_back : ∀ (n : Nat) (l u : List UInt8), unqN n l = some u → l = u.flatMap qb
  | n, [], u, h => by
    have : u = [] := by cases n <;> simp [unqN] at h <;> exact h.symm ▸ rfl
    subst this; rfl
  | 0, c :: l, u, h => by simp [unqN] at h
  | n + 1, c :: l, u, h => by
    rw [unqN] at h
    · cases hu : unq1 (c :: l) with
      | none => rw [hu] at h; cases h
      | some p =>
        obtain ⟨d, q⟩ := p
        rw [hu] at h
        simp only [Option.map_eq_some_iff] at h
        obtain ⟨u', hu', rfl⟩ := h
        rw [unq1_back hu, List.flatMap_cons, ← unqN_back n q u' hu']
    · simp
theorem quote_unquote {w u : List UInt8} (h : unquoteL w = some u) : quoteL u = w := by
  unfold unquoteL at h
  match w, h with
  | c :: r, h =>
    simp only at h
    split at h
    · rename_i hc
      rw [quoteL, ← unqN_back _ _ _ h, hc]
    · cases h
end Go.Ev

-- part SnA
/- SnA: decimal numbers as lists of bytes. -/
set_option linter.unusedVariables false
set_option linter.unusedSimpArgs false
namespace Go.Ev
def dg (n : Nat) : UInt8 := UInt8.ofNat (48 + n % 10)
/-- n digits; zeros ahead are kept. -/
def fixD : Nat → Nat → List UInt8
  | 0, _ => []
  | n + 1, u => fixD n (u / 10) ++ [dg u]
def valD : List UInt8 → Nat → Nat
  | [], a => a
  | c :: l, a => valD l (10 * a + (c.toNat - 48))
def isD (c : UInt8) : Bool := decide (48 ≤ c.toNat) && decide (c.toNat ≤ 57)
def canon (w : List UInt8) : Prop := w ≠ [] ∧ w.all isD = true ∧ (w.length = 1 ∨ w.head? ≠ some 48)
instance (w : List UInt8) : Decidable (canon w) := by unfold canon; infer_instance
def numM (w : List UInt8) (most : Nat) : Option Nat := if canon w ∧ valD w 0 ≤ most then some (valD w 0) else none
def ndig (u : Nat) : Nat := if h : u < 10 then 1 else ndig (u / 10) + 1
decreasing_by omega
def decL (u : Nat) : List UInt8 := fixD (ndig u) u
theorem dg_nat (n : Nat) : (dg n).toNat = 48 + n % 10 := by
  unfold dg
  rw [UInt8.toNat_ofNat']
  omega
theorem dg_mod (n : Nat) : dg (n % 10) = dg n := by unfold dg; rw [Nat.mod_mod]
theorem isD_dg (n : Nat) : isD (dg n) = true := by
  unfold isD
  rw [dg_nat]
  simp
  omega
theorem isD_iff (c : UInt8) : isD c = true ↔ 48 ≤ c.toNat ∧ c.toNat ≤ 57 := by unfold isD; simp
theorem dg_of (c : UInt8) (h : isD c = true) (a : Nat) : dg (10 * a + (c.toNat - 48)) = c := by
  have := (isD_iff c).1 h
  apply UInt8.toNat_inj.1
  rw [dg_nat]
  omega
theorem fixD_len : ∀ n u, (fixD n u).length = n
  | 0, _ => rfl
  | n + 1, u => by rw [fixD, List.length_append, fixD_len n]; rfl
theorem fixD_all : ∀ n u, (fixD n u).all isD = true
  | 0, _ => rfl
  | n + 1, u => by rw [fixD, List.all_append, fixD_all n, List.all_cons, isD_dg]; rfl
theorem valD_app : ∀ (l m : List UInt8) (a : Nat), valD (l ++ m) a = valD m (valD l a)
  | [], _, _ => rfl
  | c :: l, m, a => by rw [List.cons_append, valD, valD, valD_app l m]
theorem valD_snoc (l : List UInt8) (c : UInt8) (a : Nat) : valD (l ++ [c]) a = 10 * valD l a + (c.toNat - 48) := by
  rw [valD_app]; rfl
theorem valD_fix : ∀ n u a, valD (fixD n u) a = a * 10 ^ n + u % 10 ^ n
  | 0, u, a => by simp [fixD, valD, Nat.mod_one]
  | n + 1, u, a => by
    rw [fixD, valD_snoc, valD_fix n, dg_nat, Nat.pow_succ, Nat.mul_comm (10 ^ n) 10, Nat.mod_mul]
    rw [Nat.mul_add, ← Nat.mul_assoc, Nat.mul_comm 10 a, Nat.mul_assoc]
    omega
theorem snoc_of {α : Type} (l : List α) (h : l ≠ []) : ∃ m c, l = m ++ [c] := ⟨l.dropLast, l.getLast h, (List.dropLast_concat_getLast h).symm⟩
theorem fix_valD : ∀ (n : Nat) (l : List UInt8) (a : Nat), l.length = n → l.all isD = true → fixD n (valD l a) = l
  | 0, l, a, hl, _ => by rw [List.eq_nil_of_length_eq_zero hl]; rfl
  | n + 1, l, a, hl, hd => by
    obtain ⟨m, c, rfl⟩ := snoc_of l (by rintro rfl; simp at hl)
    rw [List.length_append, List.length_singleton] at hl
    rw [List.all_append, Bool.and_eq_true] at hd
    have hc : isD c = true := by simpa using hd.2
    have hc2 := (isD_iff c).1 hc
    rw [fixD, valD_snoc, dg_of c hc, show (10 * valD m a + (c.toNat - 48)) / 10 = valD m a by omega, fix_valD n m a (by omega) hd.1]
theorem ndig_of : ∀ (n u : Nat), 1 ≤ n → u < 10 ^ n → (n = 1 ∨ 10 ^ (n - 1) ≤ u) → ndig u = n
  | 0, _, h, _, _ => by omega
  | 1, u, _, h, _ => by unfold ndig; rw [dif_pos (by simpa using h)]
  | n + 2, u, _, h, hl => by
    have hl' : 10 ^ (n + 1) ≤ u := by rcases hl with q | q; · omega
                                      · simpa using q
    have h10 : 10 ^ (n + 1) = 10 * 10 ^ n := by rw [Nat.pow_succ, Nat.mul_comm]
    have h20 : 10 ^ (n + 2) = 10 * 10 ^ (n + 1) := by rw [Nat.pow_succ, Nat.mul_comm]
    have hp : 0 < 10 ^ n := Nat.pow_pos (by omega)
    unfold ndig
    rw [dif_neg (by omega), ndig_of (n + 1) (u / 10) (by omega) (by omega) (by
      by_cases hn : n = 0
      · exact Or.inl (by omega)
      · right
        rw [show n + 1 - 1 = n by omega]
        omega)]
theorem ndig_spec : ∀ (u : Nat), 1 ≤ ndig u ∧ u < 10 ^ ndig u ∧ (ndig u = 1 ∨ 10 ^ (ndig u - 1) ≤ u) := by
  intro u
  induction u using Nat.strongRecOn with
  | _ u ih =>
    unfold ndig
    split
    · exact ⟨by omega, by simpa, Or.inl rfl⟩
    · obtain ⟨h1, h2, h3⟩ := ih (u / 10) (by omega)
      refine ⟨by omega, by rw [Nat.pow_succ]; omega, Or.inr ?_⟩
      rw [Nat.add_sub_cancel]
      rcases h3 with h3 | h3
      · rw [h3]; omega
      · have : 10 ^ ndig (u / 10) = 10 ^ (ndig (u / 10) - 1) * 10 := by rw [← Nat.pow_succ]; congr 1; omega
        omega
theorem valD_lt : ∀ (l : List UInt8), l.all isD = true → valD l 0 < 10 ^ l.length := by
  intro l hd
  have := valD_fix l.length (valD l 0) 0
  rw [fix_valD _ _ _ rfl hd] at this
  rw [this, Nat.zero_mul, Nat.zero_add]
  exact Nat.mod_lt _ (Nat.pow_pos (by omega))
theorem valD_mono : ∀ (l : List UInt8) (a b : Nat), a ≤ b → valD l a ≤ valD l b
  | [], _, _, h => h
  | c :: l, a, b, h => valD_mono l _ _ (by omega)
theorem valD_ge : ∀ (l : List UInt8) (a : Nat), a * 10 ^ l.length ≤ valD l a
  | [], a => by simp [valD]
  | c :: l, a => by
    rw [valD, List.length_cons, Nat.pow_succ]
    refine Nat.le_trans ?_ (valD_ge l _)
    rw [Nat.mul_comm (10 ^ l.length) 10, ← Nat.mul_assoc, Nat.mul_comm a 10]
    exact Nat.mul_le_mul_right _ (by omega)
theorem dec_val (w : List UInt8) (h : canon w) : decL (valD w 0) = w := by
  obtain ⟨h1, h2, h3⟩ := h
  unfold decL
  have hl : 1 ≤ w.length := by rcases w with _ | ⟨c, w⟩; · exact absurd rfl h1
                               · simp
  rw [ndig_of w.length _ hl (valD_lt w h2), fix_valD _ _ _ rfl h2]
  rcases h3 with h3 | h3
  · exact Or.inl h3
  · right
    rcases w with _ | ⟨c, w⟩
    · exact absurd rfl h1
    · rw [List.all_cons, Bool.and_eq_true] at h2
      have hc := (isD_iff c).1 h2.1
      have : c.toNat ≠ 48 := fun e => h3 (by
        have : c = 48 := UInt8.toNat_inj.1 e
        rw [this]; rfl)
      rw [valD, List.length_cons, Nat.add_sub_cancel]
      refine Nat.le_trans ?_ (valD_ge w _)
      exact Nat.le_mul_of_pos_left _ (by omega)
theorem dec_canon (u : Nat) : canon (decL u) := by
  obtain ⟨h1, h2, h3⟩ := ndig_spec u
  refine ⟨fun e => ?_, fixD_all .., ?_⟩
  · have := congrArg List.length e
    rw [decL, fixD_len] at this
    simp at this; omega
  · rw [decL, fixD_len]
    rcases h3 with h3 | h3
    · exact Or.inl h3
    · by_cases h1' : ndig u = 1
      · exact Or.inl h1'
      · right
        intro e
        have hv := valD_fix (ndig u) u 0
        rw [Nat.zero_mul, Nat.zero_add, Nat.mod_eq_of_lt h2] at hv
        have hl := fixD_len (ndig u) u
        have ha := fixD_all (ndig u) u
        generalize fixD (ndig u) u = w at e hv hl ha
        rcases w with _ | ⟨c, w⟩
        · simp at e
        · simp only [List.head?_cons, Option.some.injEq] at e
          subst e
          rw [valD] at hv
          have : valD w (10 * 0 + ((48 : UInt8).toNat - 48)) < 10 ^ w.length := valD_lt w (by rw [List.all_cons, Bool.and_eq_true] at ha; exact ha.2)
          rw [hv] at this
          rw [List.length_cons] at hl
          rw [← hl, Nat.add_sub_cancel] at h3
          omega
theorem val_dec (u : Nat) : valD (decL u) 0 = u := by
  obtain ⟨h1, h2, h3⟩ := ndig_spec u
  rw [decL, valD_fix, Nat.zero_mul, Nat.zero_add, Nat.mod_eq_of_lt h2]
theorem numM_dec (u most : Nat) (h : u ≤ most) : numM (decL u) most = some u := by
  unfold numM
  rw [if_pos ⟨dec_canon u, by rw [val_dec]; exact h⟩, val_dec]
/-- What the program asks. -/
theorem numM_iff (w : List UInt8) (most n : Nat) : numM w most = some n ↔ (w ≠ [] ∧ w.all isD = true ∧ valD w 0 ≤ most ∧ decL (valD w 0) = w ∧ n = valD w 0) := by
  unfold numM
  constructor
  · intro h
    split at h
    · rename_i q
      exact ⟨q.1.1, q.1.2.1, q.2, dec_val w q.1, (Option.some.inj h).symm⟩
    · cases h
  · rintro ⟨h1, h2, h3, h4, rfl⟩
    have := dec_canon (valD w 0)
    rw [h4] at this
    rw [if_pos ⟨this, h3⟩]
end Go.Ev

-- part SnP
/- SnP: texts cut at a byte. -/
set_option linter.unusedVariables false
set_option linter.unusedSimpArgs false
namespace Go.Ev
def cutB (c : UInt8) : List UInt8 → List (List UInt8)
  | [] => [[]]
  | b :: l => if b = c then [] :: cutB c l else match cutB c l with
    | [] => [[b]]
    | w :: r => (b :: w) :: r
theorem cutB_ne (c : UInt8) : ∀ l, cutB c l ≠ []
  | [] => by simp [cutB]
  | b :: l => by
    unfold cutB
    split
    · simp
    · split <;> simp
theorem cutB_no (c : UInt8) : ∀ l : List UInt8, (∀ b ∈ l, b ≠ c) → cutB c l = [l]
  | [], _ => rfl
  | b :: l, h => by
    rw [cutB, if_neg (h b (by simp)), cutB_no c l fun b hb => h b (by simp [hb])]
theorem cutB_pre (c : UInt8) (r : List UInt8) : ∀ l : List UInt8, (∀ b ∈ l, b ≠ c) → cutB c (l ++ c :: r) = l :: cutB c r
  | [], _ => by rw [List.nil_append, cutB, if_pos rfl]
  | b :: l, h => by
    rw [List.cons_append, cutB, if_neg (h b (by simp)), cutB_pre c r l fun b hb => h b (by simp [hb])]
theorem cutB_len (c : UInt8) : ∀ l, (cutB c l).length ≤ l.length + 1
  | [] => by simp [cutB]
  | b :: l => by
    have := cutB_len c l
    unfold cutB
    split
    · simp only [List.length_cons]; omega
    · split
      · simp
      · rename_i w r e
        rw [e] at this
        simp only [List.length_cons] at this ⊢; omega
theorem cutB_word (c : UInt8) : ∀ l, ∀ w ∈ cutB c l, w.length ≤ l.length
  | [], w, h => by simp [cutB] at h; subst h; simp
  | b :: l, w, h => by
    unfold cutB at h
    split at h
    · rcases List.mem_cons.1 h with rfl | h
      · simp
      · have := cutB_word c l w h; simp only [List.length_cons]; omega
    · split at h
      · simp at h; subst h; simp
      · rename_i v r e
        rcases List.mem_cons.1 h with rfl | h
        · have := cutB_word c l v (by rw [e]; simp); simp only [List.length_cons]; omega
        · have := cutB_word c l w (by rw [e]; simp [h]); simp only [List.length_cons]; omega
/-- Where the first one stands. -/
theorem idx_cut (c : UInt8) : ∀ (l : List UInt8) (n : Nat), (idxF l c n = -1 ∧ cutB c l = [l] ∧ ∀ b ∈ l, b ≠ c) ∨ ∃ m : Nat, idxF l c n = ((n + m : Nat) : Int) ∧ m < l.length ∧ cutB c l = l.take m :: cutB c (l.drop (m + 1))
  | [], n => Or.inl ⟨rfl, rfl, fun _ h => by cases h⟩
  | b :: l, n => by
    by_cases h : b = c
    · subst h
      right
      refine ⟨0, ?_, by simp, ?_⟩
      · simp [idxF]
      · rw [cutB, if_pos rfl]; simp
    · have hb : Nat.beq b.toNat c.toNat = false := by
        cases q : Nat.beq b.toNat c.toNat with
        | false => rfl
        | true => exact absurd (UInt8.toNat_inj.1 (Nat.eq_of_beq_eq_true q)) h
      rcases idx_cut c l (n + 1) with ⟨h1, h2, h3⟩ | ⟨m, h1, h2, h3⟩
      · left
        refine ⟨by simp only [idxF, hb, cond_false, h1], by rw [cutB, if_neg h, h2], fun a ha => ?_⟩
        rcases List.mem_cons.1 ha with rfl | ha
        · exact h
        · exact h3 a ha
      · right
        refine ⟨m + 1, by simp only [idxF, hb, cond_false, h1]; congr 1; omega, by simp only [List.length_cons]; omega, ?_⟩
        rw [cutB, if_neg h, h3]; simp
theorem cnt_cut (c : UInt8) : ∀ (l : List UInt8) (n : Nat), cntF l c n + 1 = ((n + (cutB c l).length : Nat) : Int)
  | [], n => by simp [cntF, cutB]
  | b :: l, n => by
    by_cases h : b = c
    · subst h
      have := cnt_cut b l (n + 1)
      simp only [cntF, Nat.beq_refl, cond_true]
      rw [this, cutB, if_pos rfl, List.length_cons]; congr 1; omega
    · have hb : Nat.beq b.toNat c.toNat = false := by
        cases q : Nat.beq b.toNat c.toNat with
        | false => rfl
        | true => exact absurd (UInt8.toNat_inj.1 (Nat.eq_of_beq_eq_true q)) h
      have := cnt_cut c l n
      simp only [cntF, hb, cond_false]
      rw [this, cutB, if_neg h]
      split
      · rename_i e; exact absurd e (cutB_ne c l)
      · rename_i w r e; rw [e]; simp
def sc (ws : List (List UInt8)) : List AV := ws.map fun w => .str (ba w)
def srow (ws : List (List UInt8)) : List (List AV) := ws.map fun w => [.str (ba w)]
theorem srow_len (ws : List (List UInt8)) : (srow ws).length = ws.length := List.length_map ..
theorem srow_app (a b : List (List UInt8)) : srow (a ++ b) = srow a ++ srow b := List.map_append ..
theorem sc_len (ws : List (List UInt8)) : (sc ws).length = ws.length := List.length_map ..
theorem srow_solid (ws : List (List UInt8)) : ∀ r ∈ srow ws, r.all AV.solid = true := by
  intro r hr
  obtain ⟨b, _, rfl⟩ := List.mem_map.1 hr; rfl
theorem srow_one (ws : List (List UInt8)) : ∀ r ∈ srow ws, r.length = 1 := by
  intro r hr
  obtain ⟨b, _, rfl⟩ := List.mem_map.1 hr; rfl
theorem srow_flat : ∀ ws : List (List UInt8), (srow ws).flatten = sc ws
  | [] => rfl
  | w :: ws => by
    have : (srow (w :: ws)).flatten = [.str (ba w)] ++ (srow ws).flatten := rfl
    rw [this, srow_flat ws]; rfl
end Go.Ev

-- part SnM
/- SnM: steps of lines. -/
set_option linter.unusedVariables false
set_option linter.unusedSimpArgs false
namespace Go.Ev
abbrev Wd := List UInt8
def wRead : Wd := [114, 101, 97, 100]
def wPut : Wd := [112, 117, 116]
def wAdd : Wd := [97, 100, 100]
def wDel : Wd := [100, 101, 108]
def opsT : List Wd := [[], wRead, wPut, wAdd, wDel]
def stepsW : List Wd := [[97, 115, 107], [109, 111, 118, 101], [114, 101, 115, 117, 109, 101], [100, 111], [114, 101, 97, 100, 111, 110, 108, 121], [104, 101, 97, 100], [102, 108, 117, 115, 104], [115, 97, 118, 101], [99, 114, 97, 115, 104], [115, 116, 97, 114, 116]]
def stepsT : List Wd := [] :: stepsW
def idxW : List Wd → Wd → Nat → Int
  | [], _, _ => -1
  | a :: l, w, n => if w = a then (n : Int) else idxW l w (n + 1)
def kindM (w : Wd) : Nat := (idxW stepsT w 0).toNat
def okM (w : Wd) : Nat := (idxW opsT w 0).toNat
theorem idxW_range : ∀ (l : List Wd) (w : Wd) (n : Nat), idxW l w n = -1 ∨ ∃ m : Nat, idxW l w n = m ∧ n ≤ m ∧ m < n + l.length
  | [], _, _ => Or.inl rfl
  | a :: l, w, n => by
    unfold idxW
    split
    · exact Or.inr ⟨n, rfl, by omega, by simp⟩
    · rcases idxW_range l w (n + 1) with h | ⟨m, h1, h2, h3⟩
      · exact Or.inl h
      · exact Or.inr ⟨m, h1, by omega, by simp only [List.length_cons]; omega⟩
structure OpV where
  k : Nat
  key : Wd
  val : Wd
  n : Nat
structure Stp where
  kind : Nat
  s : Nat
  n : Nat
  op : OpV
  picks : List Nat
def op0 : OpV := ⟨0, [], [], 0⟩
def opc (x : OpV) : List AV := [.int .i64 x.k, .str (ba x.key), .str (ba x.val), .int .u64 x.n]
def stc (x : Stp) (p : AV) : List AV := [.int .i64 x.kind, .int .i64 x.s, .int .i64 x.n, .int .i64 x.op.k, .str (ba x.op.key), .str (ba x.op.val), .int .u64 x.op.n, p]
def irow (l : List Nat) : List (List AV) := l.map fun n => [.int .i64 (n : Nat)]
theorem irow_len (l : List Nat) : (irow l).length = l.length := List.length_map ..
theorem irow_app (a b : List Nat) : irow (a ++ b) = irow a ++ irow b := List.map_append ..
def m9 : Nat := 999999999
def m64 : Nat := 18446744073709551615
-- a reader's words; none: something was wrong
abbrev RW := Option (List Wd)
def tlO : RW → RW
  | some (_ :: r) => some r
  | _ => none
def hdO : RW → Wd
  | some (w :: _) => w
  | _ => []
def numO (most : Nat) : RW → Option (Nat × List Wd)
  | some (w :: r) => (numM w most).map (·, r)
  | _ => none
def txtO : RW → Option (Wd × List Wd)
  | some (w :: r) => (unquoteL w).map (·, r)
  | _ => none
def opO (o : RW) : Option (OpV × List Wd) := match txtO (tlO o) with
  | none => none
  | some (key, r) =>
    if okM (hdO o) = 0 then none
    else if okM (hdO o) = 2 then (txtO (some r)).map fun x => (⟨2, key, x.1, 0⟩, x.2)
    else if okM (hdO o) = 3 then (numO m64 (some r)).map fun x => (⟨3, key, [], x.1⟩, x.2)
    else some (⟨okM (hdO o), key, [], 0⟩, r)
/-- The words behind 'ask' and its number. -/
def opM (ws : List Wd) : Option OpV := match opO (some ws) with
  | some (x, []) => some x
  | _ => none
def stepM (line : Wd) : Option Stp := match cutB 32 line with
  | [] => none
  | w :: r =>
    if kindM w = 0 then none
    else if kindM w = 9 then (if r.length ≤ 32 then (r.mapM fun a => numM a m9).map fun l => ⟨9, 0, 0, op0, l⟩ else none)
    else if kindM w = 8 ∨ kindM w = 10 then (if r = [] then some ⟨kindM w, 0, 0, op0, []⟩ else none)
    else match numO m9 (some r) with
      | none => none
      | some (n, q) =>
        if kindM w = 1 then (opM q).map fun x => ⟨1, n, 0, x, []⟩
        else if q = [] then some (if kindM w ≤ 3 then ⟨kindM w, n, 0, op0, []⟩ else ⟨kindM w, 0, n, op0, []⟩)
        else none
inductive PRes where
  | steps (l : List Stp)
  | bad (n : Nat)
/-- Lines, the n-th first; what was read so far. -/
def goP : Nat → List Wd → List Stp → PRes
  | _, [], acc => .steps acc
  | n, [l], acc => if l = [] then .steps acc else .bad n
  | n, l :: a :: r, acc => if l = [] ∨ l.head? = some 35 then goP (n + 1) (a :: r) acc else match stepM l with
    | none => .bad n
    | some x => goP (n + 1) (a :: r) (acc ++ [x])
def parseM (text : Wd) : PRes := goP 1 (cutB 10 text) []
end Go.Ev
