/- Part 3: EvBd EvGe EvWp EvSt EvBy EvQb EvQu. -/
import Derived.Test.YtnkeebchblfbgaaDoorBnB
-- part EvBd
/- EvBd: texts that are built byte by byte: rows of one byte, and what unsafe.String makes of them. -/
set_option linter.unusedVariables false
set_option linter.unusedSimpArgs false
namespace Go.Ev
open Go.RowKit
/-- A text of n times one byte. -/
def rep (b : UInt8) (n : Nat) : ByteArray := ⟨(List.replicate n b).toArray⟩
theorem rep_size (b : UInt8) (n : Nat) : (rep b n).size = n := by simp [rep, ByteArray.size]
theorem rep_cut (b : UInt8) (n m : Nat) (h : m ≤ n) : (rep b n).extract 0 m = rep b m := by
  apply ByteArray.ext
  rw [ByteArray.data_extract]
  simp only [rep]
  apply Array.toList_inj.1
  simp [List.take_replicate, Nat.min_eq_left h]
def rowOf (b : UInt8) (j n : Nat) : List AV := List.replicate j (byteCell b) ++ List.replicate n .any
theorem rowOf_len (b : UInt8) (j n : Nat) : (rowOf b j n).length = j + n := by simp [rowOf]
theorem rowOf_lay (b : UInt8) (j n c : Nat) (h : c ≤ n) : layA (rowOf b j n) j (List.replicate c (byteCell b)) = rowOf b (j + c) (n - c) := by
  unfold rowOf
  rw [lay_mid _ _ _ _ (by simp) (by simpa using h)]
  simp [← List.append_assoc, List.replicate_append_replicate]
theorem bytesOf_rep (b : UInt8) : ∀ n, bytesOfA (List.replicate n (byteCell b)) = some (List.replicate n b)
  | 0 => rfl
  | n + 1 => by
    have h1 : (0 : Int) ≤ (b.toNat : Int) := by omega
    have h2 : (b.toNat : Int) < 256 := by have := b.toNat_lt; omega
    rw [List.replicate_succ, List.replicate_succ]
    unfold byteCell
    simp only [bytesOfA, h1, h2, decide_true, Bool.and_self, cond_true]
    have := bytesOf_rep b n
    unfold byteCell at this
    rw [this]
    simp
theorem rep_cells (b : UInt8) (n : Nat) : (((rep b n).extract 0 n).data.toList).map byteCell = List.replicate n (byteCell b) := by
  rw [rep_cut b n n (Nat.le_refl _)]
  simp [rep]
theorem usA_of {C : Ctx} {H : Heap} {pt e : TypeId} {l v : Nat} {m j n : Nat} {g : Bool} {b : UInt8} (hp : C.P.underlying pt = some (.pointer e)) (hc : C.P.cellsOf e = 1) (hg : H.get l = .cells v e (0, m) g (rowOf b j n)) (hm : m ≤ j) (h0 : 0 < j) (h1 : j < 9223372036854775807) :
    unsafeStringA C 0 H pt (.ptr l v 0) (.int .i64 j) = some (.str (rep b j), .put l (.cells v e (0, j) g (rowOf b j n))) := by
  have e1 : ((j : Int) == 0) = false := by simp; omega
  have e2 : Nat.ble m j = true := Nat.ble_eq_true_of_le hm
  have e3 : Nat.ble j (rowOf b j n).length = true := Nat.ble_eq_true_of_le (by rw [rowOf_len]; omega)
  have e4 : (0 : Int) < (j : Int) := by omega
  have e5 : (j : Int) ≤ 9223372036854775807 := by omega
  have e6 : (rowOf b j n).take j = List.replicate j (byteCell b) := by unfold rowOf; rw [List.take_left' (by simp)]
  have e7 : Nat.ble 0 l = true := Nat.ble_eq_true_of_le (by omega)
  simp only [unsafeStringA, e1, cond_false, hp, hg, hc, e2, e3, e4, e5, e7, Int.toNat_natCast, Bool.or_true, beq_self_eq_true, Nat.beq_refl, decide_true, Bool.and_self, cond_true, e6, bytesOf_rep, Option.map_some, rep]
theorem storeN_over {H : Heap} {l v e m : Nat} {g : Bool} {c : List AV} (vs : List AV) (o : Nat) (h : H.get l = .cells v e (0, m) g c) (hm : m ≤ o) (hn : o + vs.length ≤ c.length) (hs : vs.all AV.solid = true) : storeN 0 H vs (.ptr l v o) = some (.put l (.cells v e (0, m) g (layA c o vs))) := by
  have h1 : Nat.ble (o + vs.length) c.length = true := Nat.ble_eq_true_of_le hn
  have h2 : Nat.ble m o = true := Nat.ble_eq_true_of_le hm
  have h3 : Nat.ble 0 l = true := Nat.ble_eq_true_of_le (by omega)
  simp only [storeN, h, h1, h2, h3, hs, beq_self_eq_true, Nat.beq_refl, Bool.or_true, Bool.and_self, cond_true]
theorem rep_solid (b : UInt8) (n : Nat) : (List.replicate n (byteCell b)).all AV.solid = true := by
  rw [List.all_eq_true]; intro y hy
  obtain ⟨_, rfl⟩ := List.mem_replicate.1 hy; rfl
/-- One byte's text is written behind what is there. -/
theorem apA_rep {ρ : Addr → Option Value} {H : Heap} {l v e by_ m j n c : Nat} {g mm : Bool} {b : UInt8} (hg : H.get l = .cells v e (0, m) g (rowOf b j n)) (hm : m ≤ j) (hc : c ≤ n) :
    apA ρ 0 H e 1 by_ (.sl l v 0 j (j + n) mm) (.str (rep b c)) = some (.sl l v 0 (j + c) (j + n) mm, .put l (.cells v e (0, m) g (rowOf b (j + c) (n - c)))) := by
  have e1 : lenA (.str (rep b c)) = some c := by simp [Go.Ev.lenA, rep_size]
  have e2 : j + c ≤ j + n := by omega
  simp only [apA, e1, Option.bind_some, frst, rep_cells, rep_solid, List.length_replicate, Nat.mul_one, beq_self_eq_true, Bool.and_self, Bool.not_true, cond_false, apSl, e2, decide_true, cond_true, Nat.zero_add]
  rw [storeN_over _ _ hg hm (by simp [rowOf_len]; omega) (rep_solid b c), rowOf_lay b j n c hc]
  rfl
end Go.Ev

-- part EvGe
/- EvGe: a slice that is empty at first, and grows. -/
set_option linter.unusedVariables false
set_option linter.unusedSimpArgs false
namespace Go.Ev
open Go.RowKit
def GE (H : Heap) (e sz : Nat) (y : AV) (els : List (List AV)) : Prop := (els = [] ∧ Emp H y) ∨ Grow H e sz y els
section
variable {ρ : Addr → Option Value} {H H' : Heap} {e sz : Nat} {x y : AV} {els ys : List (List AV)}
theorem GE.toEls (h : GE H e sz y els) : Els ρ H sz y els := by
  rcases h with ⟨rfl, h⟩ | h
  · exact h.toEls
  · exact h.toEls
theorem GE.frame (h : GE H e sz y els) (S : Nat → Prop) (f : Fr S H H') (hs : ∀ l, y.lies l → ¬ S l) : GE H' e sz y els := by
  rcases h with ⟨rfl, h⟩ | h
  · exact Or.inl ⟨rfl, h.frame S f hs⟩
  · exact Or.inr (h.frame S f hs)
theorem GE.append {by_ : Nat} (h : GE H e sz x els) (hy : Els ρ H sz y ys) (hne : ys ≠ []) (hs : ∀ r ∈ ys, r.all AV.solid = true) (hb : (els.length + ys.length) * by_ ≤ 70368744177664) (hb2 : els.length + ys.length ≤ 70368744177664) :
    ∃ x' f, apA ρ 0 H e sz by_ x y = some (x', f) ∧ GE (f.on H) e sz x' (els ++ ys) ∧ Fr x.lies H (f.on H) ∧ ∀ l, x'.lies l → x.lies l ∨ H.sz ≤ l := by
  rcases h with ⟨rfl, h⟩ | h
  · rw [List.length_nil, Nat.zero_add] at hb hb2
    obtain ⟨x', f, h1, h2, h3, h4⟩ := h.append (ρ := ρ) hy hne hs hb hb2
    exact ⟨x', f, h1, Or.inr h2, h3.mono fun t _ q => q.elim, fun l q => Or.inr (h4 l q)⟩
  · obtain ⟨x', f, h1, h2, h3, h4⟩ := h.append (ρ := ρ) hy hs hb hb2
    exact ⟨x', f, h1, Or.inr h2, h3, h4⟩
theorem flat_rep (w : UInt8) : ∀ n, (List.replicate n [byteCell w]).flatten = List.replicate n (byteCell w)
  | 0 => rfl
  | n + 1 => by rw [List.replicate_succ, List.replicate_succ, List.flatten_cons, flat_rep w n]; rfl
/-- The text of a slice that reads as n times one byte. -/
theorem b2s_rep {w : UInt8} {n : Nat} (h : Els ρ H 1 y (List.replicate n [byteCell w])) (hy : ∀ m, y ≠ .sx m) : b2s ρ H y = some (.str (rep w n)) := by
  have e1 := h.lenA
  have e2 := h.frst
  rw [List.length_replicate] at e1 e2
  rw [flat_rep] at e2
  cases y with
  | nils =>
    have : n = 0 := by simp [Els] at h; exact h
    subst this; rfl
  | sl l v o n' c m => simp only [b2s, e1, Option.bind_some, e2, bytesOf_rep, Option.map_some]; rfl
  | xs a n' c => simp only [b2s, e1, Option.bind_some, e2, bytesOf_rep, Option.map_some]; rfl
  | sx m => exact absurd rfl (hy m)
  | _ => exact h.elim
theorem GE.notSx (h : GE H e sz y els) (n : Nat) : y ≠ .sx n := by
  rcases h with ⟨_, h⟩ | h
  · rintro rfl; exact h
  · exact h.notSx n
end
end Go.Ev

-- part EvWp
/- EvWp: what a run comes to, step by step. -/
set_option linter.unusedVariables false
set_option linter.unusedSimpArgs false
namespace Go.Ev
open Go.RowKit
/-- It comes to its end, with Q. -/
def Ret (Q : AV → Heap → Prop) (r : Res) : Prop := ∃ v H', r = some (v, H') ∧ Q v H'
section
variable {Q Q' : AV → Heap → Prop} {r r' : Res} {K : AV → Heap → Res} {H : Heap} {ρ : Addr → Option Value}
@[congr] theorem Ret_congr (h : r = r') : Ret Q r = Ret Q r' := by rw [h]
theorem Ret.intro {v : AV} {H : Heap} (h : Q v H) : Ret Q (some (v, H)) := ⟨v, H, rfl, h⟩
theorem Ret.bind (h : Ret Q r) (hk : ∀ v H', Q v H' → Ret Q' (K v H')) : Ret Q' (resK r K) := by
  obtain ⟨v, H', rfl, hq⟩ := h; exact hk v H' hq
theorem Ret.mono (h : Ret Q r) (hk : ∀ v H', Q v H' → Q' v H') : Ret Q' r := by
  obtain ⟨v, H', rfl, hq⟩ := h; exact ⟨v, H', rfl, hk v H' hq⟩
theorem Ret.cond {c : Bool} {x y : Res} (h1 : c = true → Ret Q x) (h0 : c = false → Ret Q y) : Ret Q (condK (.bool c) x y) := by
  cases c
  · exact h0 rfl
  · exact h1 rfl
theorem Ret.condD {p : Prop} [Decidable p] {x y : Res} (h1 : p → Ret Q x) (h0 : ¬ p → Ret Q y) : Ret Q (condK (.bool (decide p)) x y) := by
  by_cases h : p
  · simp only [h, decide_true, condK_true]; exact h1 h
  · simp only [h, decide_false, condK_false]; exact h0 h
theorem Ret.ex1 {α : Type} {g : α → Res} {P : α → Prop} (h : ∃ x, r = g x ∧ P x) (hk : ∀ x, P x → Ret Q (g x)) : Ret Q r := by
  obtain ⟨x, rfl, h⟩ := h; exact hk x h
theorem Ret.ex2 {α β : Type} {g : α → β → Res} {P : α → β → Prop} (h : ∃ x y, r = g x y ∧ P x y) (hk : ∀ x y, P x y → Ret Q (g x y)) : Ret Q r := by
  obtain ⟨x, y, rfl, h⟩ := h; exact hk x y h
/-- Rounds of a loop, each bringing the measure down. -/
theorem Ret.loop {σ : Type} {B : σ → Heap → (σ → Heap → Res) → Res} (Inv : Nat → σ → Heap → Prop)
    (step : ∀ m x H f, Inv m x H → (∀ m' x' H', m' < m → Inv m' x' H' → Ret Q (f x' H')) → Ret Q (B x H f)) (m n : Nat) (x : σ) (H : Heap) (h : Inv m x H) (hn : m < n) : Ret Q (loopL B n x H) :=
  loopL_wp Inv step m n x H h hn
/-- An append to what grows. -/
theorem Ret.app {e sz by_ : Nat} {x y : AV} {els ys : List (List AV)} (h : Grow H e sz x els) (hy : Els ρ H sz y ys) (hs : ∀ r ∈ ys, r.all AV.solid = true) (hb : (els.length + ys.length) * by_ ≤ 70368744177664) (hb2 : els.length + ys.length ≤ 70368744177664)
    (hk : ∀ x' H', Grow H' e sz x' (els ++ ys) → Fr x.lies H H' → (∀ l, x'.lies l → x.lies l ∨ H.sz ≤ l) → scal x' = true → Ret Q (K x' H')) : Ret Q (effK H (apA ρ 0 H e sz by_ x y) K) := by
  obtain ⟨x', f, ea, G, fr, hl⟩ := h.append hy hs hb hb2
  rw [ea, effK_on]
  refine hk x' _ G fr hl ?_
  cases x' <;> first | exact G.elim | rfl
theorem Ret.appE {e sz by_ : Nat} {x y : AV} {els ys : List (List AV)} (h : GE H e sz x els) (hy : Els ρ H sz y ys) (hne : ys ≠ []) (hs : ∀ r ∈ ys, r.all AV.solid = true) (hb : (els.length + ys.length) * by_ ≤ 70368744177664) (hb2 : els.length + ys.length ≤ 70368744177664)
    (hk : ∀ x' H', GE H' e sz x' (els ++ ys) → Fr x.lies H H' → (∀ l, x'.lies l → x.lies l ∨ H.sz ≤ l) → Ret Q (K x' H')) : Ret Q (effK H (apA ρ 0 H e sz by_ x y) K) := by
  obtain ⟨x', f, ea, G, fr, hl⟩ := h.append hy hne hs hb hb2
  rw [ea, effK_on]
  exact hk x' _ G fr hl
end
end Go.Ev

-- part EvSt
/- EvSt: what is known of places while a function runs. -/
set_option linter.unusedVariables false
set_option linter.unusedSimpArgs false
namespace Go.Ev
open Go.RowKit
/-- Places and what lies in them; nothing else that was there at H0 has turned, but at S. -/
structure St (S : Nat → Prop) (H0 : Heap) (L : List (Nat × AObj)) (H : Heap) : Prop where
  nd : (L.map Prod.fst).Nodup
  lt : ∀ q ∈ L, q.1 < H.sz
  get : ∀ q ∈ L, H.get q.1 = q.2
  own : ∀ q ∈ L, S q.1 ∨ H0.sz ≤ q.1
  fr : Fr S H0 H
section
variable {Q : AV → Heap → Prop} {K : AV → Heap → Res} {H H0 H1 : Heap} {S : Nat → Prop} {L : List (Nat × AObj)} {ρ : Addr → Option Value}
theorem St.start (S : Nat → Prop) (H : Heap) : St S H [] H := ⟨by simp, by simp, by simp, by simp, Fr.refl ..⟩
theorem St.start1 {S : Nat → Prop} {H : Heap} {l : Nat} {o : AObj} (hl : l < H.sz) (hg : H.get l = o) (hs : S l) : St S H [(l, o)] H :=
  ⟨by simp, by simpa using hl, by simpa using hg, by simpa using Or.inl hs, Fr.refl ..⟩
theorem St.at (s : St S H0 L H) (i : Nat) {n : Nat} {o : AObj} (h : L[i]? = some (n, o)) : H.get n = o := s.get (n, o) (List.mem_of_getElem? h)
theorem St.lt' (s : St S H0 L H) (i : Nat) {n : Nat} {o : AObj} (h : L[i]? = some (n, o)) : n < H.sz := s.lt (n, o) (List.mem_of_getElem? h)
theorem St.new1 (s : St S H0 L H) (o : AObj) : St S H0 (L ++ [(H.sz, o)]) (H.new o) where
  nd := by
    rw [List.map_append, List.map_cons, List.map_nil, List.nodup_append]
    refine ⟨s.nd, by simp, ?_⟩
    intro a ha b hb
    obtain ⟨q, hq, rfl⟩ := List.mem_map.1 ha
    have := s.lt q hq
    simp at hb; omega
  lt := by
    intro q hq
    rw [Heap.sz_new]
    rcases List.mem_append.1 hq with h | h
    · have := s.lt q h; omega
    · simp at h; subst h; simp
  get := by
    intro q hq
    rcases List.mem_append.1 hq with h | h
    · have := s.lt q h
      rw [Heap.get_new, if_neg (by omega)]; exact s.get q h
    · simp at h; subst h; simp [Heap.get_new_same]
  own := by
    intro q hq
    rcases List.mem_append.1 hq with h | h
    · exact s.own q h
    · simp at h; subst h; exact Or.inr s.fr.sz
  fr := s.fr.trans (Fr.new S H o)
theorem St.put1 (s : St S H0 L H) (i : Nat) {n : Nat} {o : AObj} (o' : AObj) (h : L[i]? = some (n, o)) : St S H0 (L.set i (n, o')) (H.put n o') := by
  have hm := List.mem_of_getElem? h
  obtain ⟨hi, he⟩ := List.getElem?_eq_some_iff.1 h
  have hmap : (L.set i (n, o')).map Prod.fst = L.map Prod.fst := by
    rw [List.map_set]
    apply List.ext_getElem?
    intro j
    rw [List.getElem?_set]
    split
    · rename_i e; subst e; simp [hi, he]
    · rfl
  have key : ∀ q ∈ L.set i (n, o'), q = (n, o') ∨ (q ∈ L ∧ q.1 ≠ n) := by
    intro q hq
    obtain ⟨j, hj, rfl⟩ := List.mem_iff_getElem.1 hq
    rw [List.getElem_set]
    split
    · exact Or.inl rfl
    · rename_i hne
      rw [List.length_set] at hj
      refine Or.inr ⟨List.getElem_mem hj, fun e => hne ?_⟩
      have hnd := s.nd
      have a1 : (L.map Prod.fst)[i]'(by simpa using hi) = n := by simp [he]
      have a2 : (L.map Prod.fst)[j]'(by simpa using hj) = n := by simpa using e
      exact (List.getElem_inj hnd).1 (a1.trans a2.symm)
  refine ⟨by rw [hmap]; exact s.nd, ?_, ?_, ?_, ?_⟩
  · intro q hq
    rcases key q hq with rfl | ⟨h1, _⟩
    · exact s.lt (n, o) hm
    · exact s.lt q h1
  · intro q hq
    rcases key q hq with rfl | ⟨h1, h2⟩
    · exact Heap.get_put_same ..
    · rw [Heap.get_put_ne _ _ _ _ h2]; exact s.get q h1
  · intro q hq
    rcases key q hq with rfl | ⟨h1, _⟩
    · exact s.own (n, o) hm
    · exact s.own q h1
  · refine s.fr.trans' (S1 := fun t => t = n) (Fr.put H n o' fun _ => rfl) fun l hl e => ?_
    subst e
    rcases s.own (l, o) hm with q | q
    · exact q
    · exact absurd hl (Nat.not_lt.2 q)
/-- Something was done that left these as they were. -/
theorem St.frame (s : St S H0 L H) {S1 : Nat → Prop} (f : Fr S1 H H1) (h1 : ∀ q ∈ L, ¬ S1 q.1) (h2 : ∀ l, l < H0.sz → S1 l → S l) : St S H0 L H1 :=
  ⟨s.nd, fun q hq => Nat.lt_of_lt_of_le (s.lt q hq) f.sz, fun q hq => by rw [f.get q.1 (s.lt q hq) (h1 q hq)]; exact s.get q hq, s.own, s.fr.trans' f h2⟩
theorem St.frame0 (s : St S H0 L H) (f : Fr Nop H H1) : St S H0 L H1 := s.frame f (fun _ _ q => q) fun _ _ q => q.elim
/-- .. but of this one. -/
theorem St.turn (s : St S H0 L H) (i : Nat) {n : Nat} {o o' : AObj} (h : L[i]? = some (n, o)) (f : Fr (fun t => t = n) H H1) (hg : H1.get n = o') : St S H0 (L.set i (n, o')) H1 := by
  have s1 := s.put1 i o' h
  refine ⟨s1.nd, fun q hq => Nat.lt_of_lt_of_le (s1.lt q hq) f.sz, fun q hq => ?_, s1.own, ?_⟩
  · by_cases e : q.1 = n
    · have := s1.get q hq
      rw [e, Heap.get_put_same] at this
      rw [e, hg, this]
    · rw [f.get q.1 (s1.lt q hq) e, ← s1.get q hq, Heap.get_put_ne _ _ _ _ e]
  · refine s.fr.trans' f fun l hl e => ?_
    subst e
    rcases s.own (l, o) (List.mem_of_getElem? h) with q | q
    · exact q
    · exact absurd hl (Nat.not_lt.2 q)
theorem St.drop {R : List (Nat × AObj)} (s : St S H0 (L ++ R) H) : St S H0 L H where
  nd := by have := s.nd; rw [List.map_append, List.nodup_append] at this; exact this.1
  lt := fun q hq => s.lt q (List.mem_append_left _ hq)
  get := fun q hq => s.get q (List.mem_append_left _ hq)
  own := fun q hq => s.own q (List.mem_append_left _ hq)
  fr := s.fr
/-- Something was done behind z alone. -/
theorem St.above (s : St S H0 L H) {z : Nat} (f : Fr (fun t => z ≤ t) H H1) (h1 : ∀ q ∈ L, q.1 < z) (h2 : H0.sz ≤ z) : St S H0 L H1 :=
  s.frame f (fun q hq e => absurd (h1 q hq) (Nat.not_lt.2 e)) fun l hl e => absurd (Nat.lt_of_lt_of_le hl h2) (Nat.not_lt.2 e)
-- steps
theorem St.newP (s : St S H0 L H) {o : AObj} (hk : ∀ n H1, St S H0 (L ++ [(n, o)]) H1 → H.sz ≤ n → Fr Nop H H1 → Ret Q (K (.ptr n 0 0) H1)) : Ret Q (effK H (some (.ptr H.sz 0 0, .new o)) K) := by
  rw [effK_new]; exact hk _ _ (s.new1 o) (Nat.le_refl _) (Fr.new Nop H o)
theorem St.newS (s : St S H0 L H) {o : AObj} {a c : Nat} {m : Bool} (hk : ∀ n H1, St S H0 (L ++ [(n, o)]) H1 → H.sz ≤ n → Fr Nop H H1 → Ret Q (K (.sl n 0 0 a c m) H1)) : Ret Q (effK H (some (.sl H.sz 0 0 a c m, .new o)) K) := by
  rw [effK_new]; exact hk _ _ (s.new1 o) (Nat.le_refl _) (Fr.new Nop H o)
theorem St.mkS (s : St S H0 L H) {o : AObj} {a c : Nat} {m : Bool} (hu : o.under H.sz = true) (hk : ∀ n H1, St S H0 (L ++ [(n, o)]) H1 → H.sz ≤ n → Fr Nop H H1 → Ret Q (K (.sl n 0 0 a c m) H1)) : Ret Q (mkK H (some (.sl H.sz 0 0 a c m, .new o)) true K) := by
  rw [mkK_new _ _ _ _ hu]; exact hk _ _ (s.new1 o) (Nat.le_refl _) (Fr.new Nop H o)
theorem St.st (s : St S H0 L H) (i : Nat) {n v e o : Nat} {g : Bool} {c : List AV} {x : AV} (h : L[i]? = some (n, .cells v e (0, 0) g c)) (hx : scal x = true) (ho : o < c.length)
    (hk : ∀ H1, St S H0 (L.set i (n, .cells v e (0, 0) g (c.set o x))) H1 → H1.sz = H.sz → Fr (fun t => t = n) H H1 → Ret Q (K (.tup []) H1)) : Ret Q (effK H (stA 0 H 1 (.ptr n v o) x) K) := by
  rw [st1 o x (s.at i h) hx ho, effK_put]
  exact hk _ (s.put1 i _ h) rfl (Fr.put _ _ _ fun _ => rfl)
theorem St.stN (s : St S H0 L H) (i : Nat) {n v e o m : Nat} {g : Bool} {c cs : List AV} (h : L[i]? = some (n, .cells v e (0, 0) g c)) (hl : cs.length = m) (hs : cs.all AV.solid = true) (ho : o + m ≤ c.length)
    (hk : ∀ H1, St S H0 (L.set i (n, .cells v e (0, 0) g (layA c o cs))) H1 → H1.sz = H.sz → Fr (fun t => t = n) H H1 → Ret Q (K (.tup []) H1)) : Ret Q (effK H (stA 0 H m (.ptr n v o) (.agg cs)) K) := by
  rw [stA_agg_ptr _ _ _ _ _ _ hl, s.at i h, stC_many _ _ _ _ _ _ _ hs (by omega), effK_put]
  exact hk _ (s.put1 i _ h) rfl (Fr.put _ _ _ fun _ => rfl)
end
end Go.Ev

-- part EvBy
/- EvBy: texts as lists of bytes. -/
set_option linter.unusedVariables false
set_option linter.unusedSimpArgs false
namespace Go.Ev
open Go.RowKit
def ba (l : List UInt8) : ByteArray := ⟨l.toArray⟩
def bs (s : ByteArray) : List UInt8 := s.data.toList
theorem bs_ba (l : List UInt8) : bs (ba l) = l := rfl
theorem ba_bs (s : ByteArray) : ba (bs s) = s := by
  apply ByteArray.ext
  show s.data.toList.toArray = s.data
  simp
theorem ba_size (l : List UInt8) : (ba l).size = l.length := by
  show l.toArray.size = _
  simp
theorem bs_len (s : ByteArray) : (bs s).length = s.size := by
  show s.data.toList.length = s.data.size
  simp
theorem ba_inj {a b : List UInt8} : ba a = ba b ↔ a = b := ⟨fun h => congrArg bs h, fun h => by rw [h]⟩
theorem ba_app (a b : List UInt8) : ba a ++ ba b = ba (a ++ b) := by
  apply ByteArray.ext
  simp [ba]
theorem ba_cut (l : List UInt8) (i j : Nat) : (ba l).extract i j = ba ((l.drop i).take (j - i)) := by
  apply ByteArray.ext
  rw [ByteArray.data_extract]
  simp only [ba]
  apply Array.toList_inj.1
  rw [Array.toList_extract]
theorem emp1 : ByteArray.mk #[] = ba [] := rfl
theorem emp2 : ByteArray.empty = ba [] := rfl
theorem lenT_ba (l : List UInt8) : lenT (.str (ba l)) = some (.int .i64 l.length) := by rw [lenT_str, ba_size]
theorem ixT_ba (l : List UInt8) (k : IntKind) (i : Nat) (h : i < l.length) : ixT (.str (ba l)) (.int k i) = some (.int .u8 l[i].toNat) := by
  have hs : (i : Int).toNat < (ba l).size := by rw [ba_size, Int.toNat_natCast]; exact h
  rw [ixT_str _ _ _ (by omega) hs]
  rfl
theorem slT_ba (l : List UInt8) (lo hi : Nat) (h1 : lo ≤ hi) (h2 : hi ≤ l.length) (k k' : IntKind) : slT (.str (ba l)) (some (.int k lo)) (some (.int k' hi)) = some (.str (ba ((l.drop lo).take (hi - lo)))) := by
  have a1 : decide ((0 : Int) ≤ hi) = true := by simp
  have a2 : decide ((hi : Int) ≤ ((ba l).size : Nat)) = true := by rw [ba_size]; simp; omega
  have a3 : decide ((0 : Int) ≤ lo) = true := by simp
  have a4 : decide ((lo : Int) ≤ hi) = true := by simp; omega
  simp only [slT, boundsA, Option.bind_some, boundA, asInt, a1, a2, a3, a4, Bool.and_self, cond_true, Int.toNat_natCast, Option.map_some, ba_cut]
theorem slT_hi (l : List UInt8) (hi : Nat) (h2 : hi ≤ l.length) (k' : IntKind) : slT (.str (ba l)) none (some (.int k' hi)) = some (.str (ba (l.take hi))) := by
  have a1 : decide ((0 : Int) ≤ hi) = true := by simp
  have a2 : decide ((hi : Int) ≤ ((ba l).size : Nat)) = true := by rw [ba_size]; simp; omega
  simp only [slT, boundsA, Option.bind_some, boundA, asInt, a1, a2, Bool.and_self, cond_true, Int.toNat_natCast, Option.map_some, ba_cut, List.drop_zero, Nat.sub_zero]
theorem slT_lo (l : List UInt8) (lo : Nat) (h2 : lo ≤ l.length) (k' : IntKind) : slT (.str (ba l)) (some (.int k' lo)) none = some (.str (ba (l.drop lo))) := by
  have a1 : decide ((0 : Int) ≤ lo) = true := by simp
  have a2 : decide ((lo : Int) ≤ (l.length : Nat)) = true := by simp; omega
  have e : ((l.drop lo).take (l.length - lo)) = l.drop lo := List.take_of_length_le (by simp)
  simp only [slT, boundsA, Option.bind_some, boundA, asInt, a1, a2, Bool.and_self, cond_true, Int.toNat_natCast, Option.map_some, ba_cut, ba_size, e]
theorem bin_scatB (P : Program) (H : Heap) (t : TypeId) (a b : List UInt8) (h : a.length + b.length ≤ 9223372036854775807) : binA P H .add t (.str (ba a)) (.str (ba b)) = some (.str (ba (a ++ b))) := by
  rw [bin_scat _ _ _ _ _ (by rw [ba_size, ba_size]; exact h), ba_app]
theorem ba_toList (l : List UInt8) : (ba l).toList = l := by rw [ByteArray.toList_eq]; rfl
theorem bin_seqB (P : Program) (H : Heap) (t : TypeId) (a b : List UInt8) : binA P H .eql t (.str (ba a)) (.str (ba b)) = some (.bool (decide (a = b))) := by
  rw [bin_seql]; simp only [ba_inj]
theorem bin_sneB (P : Program) (H : Heap) (t : TypeId) (a b : List UInt8) : binA P H .neq t (.str (ba a)) (.str (ba b)) = some (.bool (decide (a ≠ b))) := by
  rw [bin_sneq]; simp only [ne_eq, ba_inj]
theorem bin_sgeB (P : Program) (H : Heap) (t : TypeId) (a b : List UInt8) : binA P H .geq t (.str (ba a)) (.str (ba b)) = some (.bool (!Op.bytesLess a b)) := by
  simp only [binA, strA, ba_toList]
theorem bin_sltB (P : Program) (H : Heap) (t : TypeId) (a b : List UInt8) : binA P H .lss t (.str (ba a)) (.str (ba b)) = some (.bool (Op.bytesLess a b)) := by
  simp only [binA, strA, ba_toList]
/-- Bytes as elements of a slice. -/
def brow (l : List UInt8) : List (List AV) := l.map fun b => [byteCell b]
theorem brow_len (l : List UInt8) : (brow l).length = l.length := List.length_map ..
theorem brow_app (a b : List UInt8) : brow (a ++ b) = brow a ++ brow b := List.map_append ..
theorem brow_flat : ∀ l : List UInt8, (brow l).flatten = l.map byteCell
  | [] => rfl
  | b :: l => by
    have : (brow (b :: l)).flatten = [byteCell b] ++ (brow l).flatten := rfl
    rw [this, brow_flat l]; rfl
theorem brow_solid (l : List UInt8) : ∀ r ∈ brow l, r.all AV.solid = true := by
  intro r hr
  obtain ⟨b, _, rfl⟩ := List.mem_map.1 hr; rfl
theorem brow_one (l : List UInt8) : ∀ r ∈ brow l, r.length = 1 := by
  intro r hr
  obtain ⟨b, _, rfl⟩ := List.mem_map.1 hr; rfl
theorem bytesOf_map : ∀ l : List UInt8, bytesOfA (l.map byteCell) = some l
  | [] => rfl
  | b :: l => by
    have h1 : (0 : Int) ≤ (b.toNat : Int) := by omega
    have h2 : (b.toNat : Int) < 256 := by have := b.toNat_lt; omega
    rw [List.map_cons]
    unfold byteCell
    simp only [bytesOfA, h1, h2, decide_true, Bool.and_self, cond_true]
    have := bytesOf_map l
    unfold byteCell at this
    rw [this]
    simp
section
variable {ρ : Addr → Option Value} {H H' : Heap} {e sz : Nat} {x y : AV} {els ys : List (List AV)} {Q : AV → Heap → Prop} {K : AV → Heap → Res}
theorem b2s_brow {l : List UInt8} (h : Els ρ H 1 y (brow l)) (hy : ∀ m, y ≠ .sx m) : b2s ρ H y = some (.str (ba l)) := by
  have e1 := h.lenA
  have e2 := h.frst
  rw [brow_flat] at e2
  rw [brow_len] at e1 e2
  cases y with
  | nils =>
    have : brow l = [] := h
    have : l = [] := by simpa [brow] using this
    subst this; rfl
  | sl l' v o n' c m => simp only [b2s, e1, Option.bind_some, e2, bytesOf_map, Option.map_some]; rfl
  | xs a n' c => simp only [b2s, e1, Option.bind_some, e2, bytesOf_map, Option.map_some]; rfl
  | sx m => exact absurd rfl (hy m)
  | _ => exact h.elim
theorem slS_notSx {l v o n c : Nat} {a b : Option AV} {y : AV} (h : slS sz (.sl l v o n c false) a b none = some y) (m : Nat) : y ≠ .sx m := by
  rintro rfl
  revert h
  simp only [slS, sliceSl]
  cases Nat.ble n c with
  | false => simp
  | true => cases boundsA n c a b none <;> simp
theorem lenA_str (l : List UInt8) : lenA (.str (ba l)) = some l.length := by simp [lenA, ba_size]
theorem frst_str (l : List UInt8) : frst ρ H 1 l.length (.str (ba l)) = some (brow l).flatten := by
  rw [brow_flat]
  simp only [frst, ba_cut, List.drop_zero, Nat.sub_zero, List.take_length]
  rfl
/-- A text's bytes are appended. -/
theorem Grow.appStr {by_ : Nat} {a l : List UInt8} (h : Grow H e 1 x (brow a)) (hb : (a.length + l.length) * by_ ≤ 70368744177664) (hb2 : a.length + l.length ≤ 70368744177664) :
    ∃ x' f, apA ρ 0 H e 1 by_ x (.str (ba l)) = some (x', f) ∧ Grow (f.on H) e 1 x' (brow (a ++ l)) ∧ Fr x.lies H (f.on H) ∧ ∀ t, x'.lies t → x.lies t ∨ H.sz ≤ t := by
  -- as if they lay in a slice of their own
  have hsol : (brow l).flatten.all AV.solid = true := by
    rw [brow_flat, List.all_eq_true]; intro z hz
    obtain ⟨b, _, rfl⟩ := List.mem_map.1 hz; rfl
  have hlen := els_length (brow l) 1 (brow_one l)
  rw [brow_len] at hlen
  simp only [apA, lenA_str, Option.bind_some, frst_str, hsol, hlen, beq_self_eq_true, Bool.and_self, Bool.not_true, cond_false]
  cases x with
  | nils =>
    have : brow a = [] := h
    have ha : a = [] := by simpa [brow] using this
    subst ha
    by_cases h0 : l.length = 0
    · have : l = [] := List.eq_nil_of_length_eq_zero h0
      subst this
      exact ⟨.nils, .nothing, rfl, Grow.nils .., Fr.refl .., fun l q => Or.inl q⟩
    · have h0' : (l.length == 0) = false := by simpa using h0
      simp only [h0', cond_false, growN_of (by_ := by_) (n := l.length) (by simpa using hb) (by simpa using hb2), cond_true]
      refine ⟨_, _, rfl, ⟨rfl, by simp [brow_len], rfl, rfl, by simp [Eff.on, Heap.sz_new], brow_one _, true, ?_⟩, Fr.new _ H _, fun t q => Or.inr (by have e : H.sz = t := q; omega)⟩
      simp [Eff.on, newCells, Heap.get_new]
  | sl t v o n c m =>
    obtain ⟨rfl, rfl, rfl, rfl, hl, h5, g, hg⟩ := h
    have hel := els_length (brow a) 1 h5
    simp only [apSl]
    by_cases h0 : l.length = 0
    · have : l = [] := List.eq_nil_of_length_eq_zero h0
      subst this
      simp only [List.length_nil, Nat.add_zero, Nat.le_refl, decide_true, cond_true]
      rw [storeN_of (vs := (brow []).flatten) _ hg (by rw [hel]; simp [brow]) rfl]
      refine ⟨_, _, rfl, ⟨rfl, by simp, rfl, rfl, hl, by simpa using h5, g, ?_⟩, Fr.put H t _ (fun _ => rfl), fun t q => Or.inl q⟩
      simp [Eff.on, Heap.get_put, layA, brow]
    · have h0' : decide ((brow a).length + l.length ≤ (brow a).length) = false := by simp; omega
      have hb1 : Nat.ble 0 t = true := Nat.ble_eq_true_of_le (by omega)
      have hg1 := growN_of (by_ := by_) (n := (brow a).length + l.length) (by rw [brow_len]; exact hb) (by rw [brow_len]; exact hb2)
      simp only [h0', cond_false, hg1, Bool.not_true, cond_true, hg, hb1, Nat.beq_refl, beq_self_eq_true, hel, Bool.and_self, Nat.ble_eq_true_of_le (Nat.le_refl _)]
      refine ⟨_, _, rfl, ⟨rfl, by simp [brow_len], rfl, rfl, hl, brow_one _, true, ?_⟩, Fr.put H t _ (fun _ => rfl), fun t q => Or.inl q⟩
      have ht : (brow a).flatten.take ((brow a).length * 1) = (brow a).flatten := List.take_of_length_le (by omega)
      simp only [Eff.on, Heap.get_put, if_pos, ht, brow_app, List.flatten_append]
  | _ => exact h.elim
theorem Ret.appS {by_ : Nat} {a l : List UInt8} (h : Grow H e 1 x (brow a)) (hb : (a.length + l.length) * by_ ≤ 70368744177664) (hb2 : a.length + l.length ≤ 70368744177664)
    (hk : ∀ x' H', Grow H' e 1 x' (brow (a ++ l)) → Fr x.lies H H' → (∀ t, x'.lies t → x.lies t ∨ H.sz ≤ t) → scal x' = true → Ret Q (K x' H')) : Ret Q (effK H (apA ρ 0 H e 1 by_ x (.str (ba l))) K) := by
  obtain ⟨x', f, ea, G, fr, hl⟩ := h.appStr (ρ := ρ) (l := l) hb hb2
  rw [ea, effK_on]
  refine hk x' _ G fr hl ?_
  cases x' <;> first | exact G.elim | rfl
/-- A slice that is full: an append lays it anew. -/
def Full (H : Heap) (e sz : Nat) (x : AV) (els : List (List AV)) : Prop := match x with
  | .sl l v o n c m => o = 0 ∧ n = els.length ∧ c = n ∧ m = false ∧ l < H.sz ∧ (∀ r ∈ els, r.length = sz) ∧ ∃ fr g, H.get l = .cells v e fr g els.flatten
  | _ => False
theorem Full.toEls (h : Full H e sz x els) : Els ρ H sz x els := by
  cases x with
  | sl l v o n c m =>
    obtain ⟨rfl, rfl, rfl, rfl, hl, hs, fr, g, hg⟩ := h
    exact Els.of_cells hl hg hs
  | _ => exact h.elim
theorem Full.frame (h : Full H e sz x els) (S : Nat → Prop) (f : Fr S H H') (hs : ∀ l, x.lies l → ¬ S l) : Full H' e sz x els := by
  cases x with
  | sl l v o n c m =>
    obtain ⟨h1, h2, h3, h4, hl, h5, fr, g, hg⟩ := h
    exact ⟨h1, h2, h3, h4, Nat.lt_of_lt_of_le hl f.sz, h5, fr, g, by rw [f.get l hl (hs l rfl), hg]⟩
  | _ => exact h.elim
theorem Full.append {by_ : Nat} (h : Full H e sz x els) (hy : Els ρ H sz y ys) (hne : ys ≠ []) (hs : ∀ r ∈ ys, r.all AV.solid = true) (hb : (els.length + ys.length) * by_ ≤ 70368744177664) (hb2 : els.length + ys.length ≤ 70368744177664) :
    ∃ x' f, apA ρ 0 H e sz by_ x y = some (x', f) ∧ Grow (f.on H) e sz x' (els ++ ys) ∧ Fr Nop H (f.on H) ∧ ∀ l, x'.lies l → H.sz ≤ l := by
  have hE := h.toEls (ρ := ρ)
  have hsol : ys.flatten.all AV.solid = true := by
    rw [List.all_eq_true]; intro a ha
    obtain ⟨r, hr, har⟩ := List.mem_flatten.1 ha
    exact List.all_eq_true.1 (hs r hr) a har
  have hlr : ∀ r ∈ ys, r.length = sz := fun r hr => by obtain ⟨i, hi, rfl⟩ := List.mem_iff_getElem.1 hr; exact hy.len_el i hi
  have hlen := els_length ys sz hlr
  have h0 : 0 < ys.length := List.length_pos_iff.2 hne
  simp only [apA, hy.lenA, Option.bind_some, hy.frst, hsol, hlen, beq_self_eq_true, Bool.and_self, Bool.not_true, cond_false]
  cases x with
  | sl l v o n c m =>
    obtain ⟨rfl, rfl, rfl, rfl, hl, h5, fr, g, hg⟩ := h
    have h1 : decide (els.length + ys.length ≤ els.length) = false := by simp; omega
    have hf := hE.frst
    simp only [apSl, h1, cond_false, growN_of (by_ := by_) hb hb2, Bool.not_true, hf, Option.map_some]
    refine ⟨_, _, rfl, ⟨rfl, by simp, rfl, rfl, by simp [Eff.on, Heap.sz_new], ?_, true, ?_⟩, Fr.new Nop H _, fun l q => ?_⟩
    · intro r hr; rcases List.mem_append.1 hr with q | q
      · exact h5 r q
      · exact hlr r q
    · simp [Eff.on, newCells, Heap.get_new]
    · have e : H.sz = l := q; omega
  | _ => exact h.elim
/-- It grows, or is full. -/
def GF (H : Heap) (e sz : Nat) (x : AV) (els : List (List AV)) : Prop := Full H e sz x els ∨ Grow H e sz x els
theorem GF.toEls (h : GF H e sz x els) : Els ρ H sz x els := h.elim Full.toEls Grow.toEls
theorem GF.frame (h : GF H e sz x els) (S : Nat → Prop) (f : Fr S H H') (hs : ∀ l, x.lies l → ¬ S l) : GF H' e sz x els := h.elim (fun h => Or.inl (h.frame S f hs)) (fun h => Or.inr (h.frame S f hs))
theorem GF.notSx (h : GF H e sz x els) (n : Nat) : x ≠ .sx n := by
  rcases h with h | h
  · rintro rfl; exact h
  · exact h.notSx n
theorem Ret.appF {by_ : Nat} (h : GF H e sz x els) (hy : Els ρ H sz y ys) (hne : ys ≠ []) (hs : ∀ r ∈ ys, r.all AV.solid = true) (hb : (els.length + ys.length) * by_ ≤ 70368744177664) (hb2 : els.length + ys.length ≤ 70368744177664)
    (hk : ∀ x' H', Grow H' e sz x' (els ++ ys) → Fr x.lies H H' → (∀ l, x'.lies l → x.lies l ∨ H.sz ≤ l) → scal x' = true → Ret Q (K x' H')) : Ret Q (effK H (apA ρ 0 H e sz by_ x y) K) := by
  rcases h with h | h
  · obtain ⟨x', f, ea, G, fr, hl⟩ := h.append hy hne hs hb hb2
    rw [ea, effK_on]
    refine hk x' _ G (fr.mono fun _ _ q => q.elim) (fun l q => Or.inr (hl l q)) ?_
    cases x' <;> first | exact G.elim | rfl
  · exact Ret.app h hy hs hb hb2 hk
theorem u8n (n : Nat) : wrapK .u8 (n : Int) = ((UInt8.ofNat n).toNat : Int) := by
  rw [UInt8.toNat_ofNat']
  show ((n : Int) % 256) = _
  omega
theorem tmodN (n m : Nat) : (n : Int).tmod (m : Int) = ((n % m : Nat) : Int) := rfl
theorem tdivN (n m : Nat) (h : n < 9223372036854775808) : wrapK .i64 ((n : Int).tdiv (m : Int)) = ((n / m : Nat) : Int) := wrap_nat (n / m) (Nat.lt_of_le_of_lt (Nat.div_le_self _ _) h)
end
end Go.Ev

-- part EvQb
/- EvQb: plain laws on words of 64 bits and their bytes. -/
set_option linter.unusedVariables false
set_option linter.unusedSimpArgs false
namespace Go.Ev
open Go.RowKit
def U64 (x : Int) : Prop := 0 ≤ x ∧ x < 18446744073709551616
theorem bv_of {x : Int} (h : U64 x) : (BitVec.ofInt 64 x).toNat = x.toNat := by
  unfold U64 at h
  rw [BitVec.toNat_ofInt]
  congr 1
  exact Int.emod_eq_of_lt h.1 (by omega)
theorem bits_nat (op : BinOp) (a b : Int) (v : BitVec 64) (h : Go.bits op .u64 a b = wrapK .u64 (v.toNat : Int)) : Go.bits op .u64 a b = v.toNat := by rw [h, bv_u64_nat]
theorem and_bv (a b : Int) : Go.bits .and .u64 a b = ((BitVec.ofInt 64 a &&& BitVec.ofInt 64 b).toNat : Int) := by rw [← bv_u64_nat, wrapK_eq]; rfl
theorem xor_bv (a b : Int) : Go.bits .xor .u64 a b = ((BitVec.ofInt 64 a ^^^ BitVec.ofInt 64 b).toNat : Int) := by rw [← bv_u64_nat, wrapK_eq]; rfl
theorem and_one {c : Int} (h : U64 c) : Go.bits .and .u64 c 1 = c % 2 := by
  rw [and_bv, BitVec.toNat_and, bv_of h, bv_of (show U64 1 by unfold U64; omega)]
  show ((c.toNat &&& 1 : Nat) : Int) = _
  rw [Nat.and_one_is_mod]
  have := h.1
  omega
theorem xor_zero {c : Int} (h : U64 c) : Go.bits .xor .u64 c 0 = c := by
  rw [xor_bv]
  have : (BitVec.ofInt 64 0) = 0#64 := rfl
  rw [this, BitVec.xor_zero, bv_of h]
  have := h.1
  omega
theorem xor_max {c : Int} (h : U64 c) : Go.bits .xor .u64 18446744073709551615 c = 18446744073709551615 - c := by
  rw [xor_bv]
  have e : (BitVec.ofInt 64 18446744073709551615) = BitVec.allOnes 64 := rfl
  rw [e, BitVec.allOnes_xor, BitVec.toNat_not, bv_of h]
  have := h.1; have := h.2
  omega
-- words and their bytes
theorem repeatL_one (x : AV) : ∀ n, repeatL [x] n = List.replicate n x
  | 0 => rfl
  | n + 1 => by rw [repeatL, repeatL_one x n]; rfl
def wbyte (ws : List Int) (i : Nat) : UInt8 := UInt8.ofNat ((ws.getD (i / 8) 0).toNat / 256 ^ (i % 8) % 256)
def wbytes (ws : List Int) : List UInt8 := (List.range (8 * ws.length)).map (wbyte ws)
theorem wbytes_len (ws : List Int) : (wbytes ws).length = 8 * ws.length := by simp [wbytes]
def w8 (n : Int) : List UInt8 := wbytes [n]
theorem w8_len (n : Int) : (w8 n).length = 8 := wbytes_len [n]
theorem w8_at (n : Int) (i : Nat) (h : i < 8) : (w8 n)[i]'(by rw [w8_len]; exact h) = UInt8.ofNat (n.toNat / 256 ^ i % 256) := by
  have a : i / 8 = 0 := by omega
  have b : i % 8 = i := by omega
  simp [w8, wbytes, wbyte, a, b]
def urow (ws : List Int) : List (List AV) := ws.map fun n => [.int .u64 n]
theorem urow_len (ws : List Int) : (urow ws).length = ws.length := List.length_map ..
theorem byte_val (w : Int) (h : U64 w) (m : Nat) (hm : m < 8) : wrapK .u8 (w.fdiv (2 ^ min (((m : Int) * 8)).toNat IntKind.u64.bits)) = (UInt8.ofNat (w.toNat / 256 ^ m % 256)).toNat := by
  have e0 : min ((m : Int) * 8).toNat IntKind.u64.bits = 8 * m := by
    have : IntKind.u64.bits = 64 := rfl
    omega
  rw [e0]
  have e1 : (2 : Int) ^ (8 * m) = ((256 ^ m : Nat) : Int) := by
    rw [Int.pow_mul]
    norm_cast
  rw [e1, Int.fdiv_eq_ediv_of_nonneg _ (Int.natCast_nonneg _)]
  obtain ⟨n, rfl⟩ : ∃ n : Nat, w = n := ⟨w.toNat, by have := h.1; omega⟩
  rw [Int.toNat_natCast, UInt8.toNat_ofNat']
  show ((n : Int) / ((256 ^ m : Nat) : Int)) % 256 = _
  have : (n : Int) / ((256 ^ m : Nat) : Int) = ((n / 256 ^ m : Nat) : Int) := rfl
  rw [this]
  omega
theorem range_set {α : Type} (f : Nat → α) (N i : Nat) (v : α) : ((List.range N).map f).set i v = (List.range N).map (fun j => if j = i then v else f j) := by
  apply List.ext_getElem?
  intro j
  rw [List.getElem?_set]
  by_cases h : i = j
  · subst h
    by_cases hi : i < N
    · simp [hi]
    · simp [hi]
  · have h' : ¬ j = i := fun e => h e.symm
    simp only [h, if_false, List.getElem?_map]
    by_cases hj : j < N
    · simp [hj, h']
    · simp [hj]
theorem q_div (i : Nat) (h : i < 1000000000) : wrapK .i64 ((i : Int).tdiv 8) = ((i / 8 : Nat) : Int) := wrap_nat (i / 8) (by omega)
theorem q_mod (i : Nat) : (i : Int).tmod 8 = ((i % 8 : Nat) : Int) := rfl
theorem q_mul (m : Nat) (h : m < 8) : wrapK .i64 ((m : Int) * 8) = (m : Int) * 8 := wrap_i64 _ (by omega)
theorem q_up (n : Nat) (h : n < 1000000000) : wrapK .i64 (wrapK .i64 ((n : Int) + 8) - 1) = ((n + 7 : Nat) : Int) := by
  rw [wrap_i64 ((n : Int) + 8) (by omega), wrap_i64 _ (by omega)]; omega
theorem q_N (n : Nat) (h : n < 1000000000) : wrapK .i64 (8 * (n : Int)) = ((8 * n : Nat) : Int) := by rw [wrap_i64 _ (by omega)]; omega
theorem rs1 (S i : Nat) : (((S / 256 ^ i : Nat) : Int)).tmod 256 = ((S / 256 ^ i % 256 : Nat) : Int) := rfl
theorem rs2 (m : Nat) (h : m < 256) : wrapK .u8 ((m : Nat) : Int) = (UInt8.ofNat m).toNat := by
  rw [UInt8.toNat_ofNat', wrap_u8 _ (by omega)]; omega
theorem rs3 (S i : Nat) (hS : S < 18446744073709551616) : wrapK .u64 (((S / 256 ^ i : Nat) : Int).tdiv 256) = ((S / 256 ^ (i + 1) : Nat) : Int) := by
  have e : ((S / 256 ^ i : Nat) : Int).tdiv 256 = ((S / 256 ^ i / 256 : Nat) : Int) := rfl
  have le : S / 256 ^ i / 256 < 18446744073709551616 := Nat.lt_of_le_of_lt (Nat.div_le_self _ _) (Nat.lt_of_le_of_lt (Nat.div_le_self _ _) hS)
  have e2 : S / 256 ^ i / 256 = S / 256 ^ (i + 1) := by rw [Nat.div_div_eq_div_mul, ← Nat.pow_succ]
  rw [e, ← e2]
  generalize S / 256 ^ i / 256 = z at le
  exact wrap_u64 _ (by omega)
/-- The number of bytes, the lowest first. -/
def numB : List UInt8 → Nat
  | [] => 0
  | b :: r => b.toNat + 256 * numB r
theorem numB_snoc : ∀ (l : List UInt8) (b : UInt8), numB (l ++ [b]) = numB l + 256 ^ l.length * b.toNat
  | [], b => by simp [numB]
  | a :: l, b => by
    rw [List.cons_append, numB, numB_snoc l b, numB, List.length_cons, Nat.pow_succ]
    rw [Nat.mul_add]
    have : 256 * (256 ^ l.length * b.toNat) = 256 ^ l.length * 256 * b.toNat := by rw [← Nat.mul_assoc, Nat.mul_comm 256]
    omega
theorem numB_lt : ∀ l : List UInt8, numB l < 256 ^ l.length
  | [] => by simp [numB]
  | b :: l => by
    have := numB_lt l
    have := b.toNat_lt
    rw [numB, List.length_cons, Nat.pow_succ]
    omega
theorem or_add (w m : Nat) (b : Nat) (hm : m < 8) (hw : w < 256 ^ m) (hb : b < 256) : Go.bits .or .u64 (w : Int) ((256 ^ m * b : Nat) : Int) = ((w + 256 ^ m * b : Nat) : Int) := by
  have e3 : Go.bits .or .u64 (w : Int) ((256 ^ m * b : Nat) : Int) = ((BitVec.ofInt 64 (w : Int) ||| BitVec.ofInt 64 ((256 ^ m * b : Nat) : Int)).toNat : Int) := by rw [← bv_u64_nat, wrapK_eq]; rfl
  have p : 256 ^ m = 2 ^ (8 * m) := by rw [Nat.pow_mul]
  have hp : 256 ^ m * 256 ≤ 256 ^ 8 := by rw [← Nat.pow_succ]; exact Nat.pow_le_pow_right (by decide) (by omega)
  have h8 : 256 ^ 8 = 18446744073709551616 := by decide
  have hpos : 0 < 256 ^ m := Nat.pow_pos (by decide)
  have hprod : 256 ^ m * b + w < 18446744073709551616 := by
    have : 256 ^ m * b + 256 ^ m ≤ 256 ^ m * 256 := by rw [← Nat.mul_succ]; exact Nat.mul_le_mul_left _ (by omega)
    omega
  rw [e3, BitVec.toNat_or, bv_of (show U64 (w : Int) by unfold U64; omega), bv_of (show U64 ((256 ^ m * b : Nat) : Int) by unfold U64; omega)]
  rw [Int.toNat_natCast, Int.toNat_natCast]
  have := Nat.two_pow_add_eq_or_of_lt (i := 8 * m) (b := w) (by rw [← p]; exact hw) b
  rw [← p] at this
  rw [Nat.or_comm, ← this, Nat.add_comm]
theorem shl_val (b m : Nat) (hm : m < 8) (hb : b < 256) : wrapK .u64 ((b : Int) * 2 ^ min (((m : Int) * 8)).toNat IntKind.u64.bits) = ((256 ^ m * b : Nat) : Int) := by
  have e0 : min ((m : Int) * 8).toNat IntKind.u64.bits = 8 * m := by
    have : IntKind.u64.bits = 64 := rfl
    omega
  rw [e0]
  have e1 : (b : Int) * (2 : Int) ^ (8 * m) = ((256 ^ m * b : Nat) : Int) := by
    rw [Int.pow_mul]
    norm_cast
    rw [Nat.mul_comm]
  have hp : 256 ^ m * 256 ≤ 256 ^ 8 := by rw [← Nat.pow_succ]; exact Nat.pow_le_pow_right (by decide) (by omega)
  have h8 : 256 ^ 8 = 18446744073709551616 := by decide
  have hpos : 0 < 256 ^ m := Nat.pow_pos (by decide)
  have : 256 ^ m * b < 256 ^ m * 256 := Nat.mul_lt_mul_of_pos_left hb hpos
  rw [e1, wrap_u64 _ (by omega)]
end Go.Ev

-- part EvQu
/- EvQu: a text's word, and a word's text, as plain lists of bytes. -/
set_option linter.unusedVariables false
set_option linter.unusedSimpArgs false
namespace Go.Ev
open Go.RowKit
/-- A byte that stands in a word as it is. -/
def plainB (c : UInt8) : Bool := decide (33 ≤ c.toNat) && decide (c.toNat ≤ 126) && decide (c.toNat ≠ 37)
def dig (n : Nat) : UInt8 := UInt8.ofNat (if n < 10 then 48 + n else 55 + n)
def qb (c : UInt8) : List UInt8 := if plainB c = true then [c] else [37, dig (c.toNat / 16), dig (c.toNat % 16)]
def quoteL (s : List UInt8) : List UInt8 := 61 :: s.flatMap qb
def worth (c : UInt8) : Option Nat := if 48 ≤ c.toNat ∧ c.toNat ≤ 57 then some (c.toNat - 48) else if 65 ≤ c.toNat ∧ c.toNat ≤ 70 then some (c.toNat - 55) else none
/-- The byte of two digits, if it may be told so. -/
def hexB (a b : UInt8) : Option UInt8 := match worth a, worth b with
  | some x, some y => if plainB (UInt8.ofNat (16 * x + y)) = true then none else some (UInt8.ofNat (16 * x + y))
  | _, _ => none
/-- One byte off the front of a word's rest: how many bytes it took, or none. -/
def unq1 (l : List UInt8) : Option (UInt8 × List UInt8) := match l with
  | [] => none
  | c :: r => if c = 37 then (match r with | a :: b :: q => (hexB a b).map fun d => (d, q) | _ => none) else if plainB c = true then some (c, r) else none
def unqN : Nat → List UInt8 → Option (List UInt8)
  | _, [] => some []
  | 0, _ :: _ => none
  | n + 1, l => match unq1 l with
    | some (d, q) => (unqN n q).map (d :: ·)
    | none => none
def unq (l : List UInt8) : Option (List UInt8) := unqN l.length l
def unquoteL (w : List UInt8) : Option (List UInt8) := match w with
  | c :: r => if c = 61 then unq r else none
  | [] => none
theorem unq1_len {l q : List UInt8} {d : UInt8} (h : unq1 l = some (d, q)) : q.length < l.length := by
  unfold unq1 at h
  match l, h with
  | c :: r, h =>
    simp only at h
    split at h
    · match r, h with
      | a :: b :: q', h =>
        simp only [Option.map_eq_some_iff, Prod.mk.injEq] at h
        obtain ⟨_, _, _, rfl⟩ := h
        simp; omega
    · split at h
      · simp only [Option.some.injEq, Prod.mk.injEq] at h
        obtain ⟨_, rfl⟩ := h
        simp
      · cases h
theorem unqN_fuel : ∀ (n m : Nat) (l : List UInt8), l.length ≤ n → l.length ≤ m → unqN n l = unqN m l
  | n, m, [], _, _ => by cases n <;> cases m <;> rfl
  | 0, m, c :: l, h, _ => by simp at h
  | n + 1, 0, c :: l, _, h => by simp at h
  | n + 1, m + 1, c :: l, hn, hm => by
    rw [unqN, unqN]
    · cases hu : unq1 (c :: l) with
      | none => rfl
      | some p =>
        obtain ⟨d, q⟩ := p
        have := unq1_len hu
        simp only [unqN_fuel n m q (by omega) (by omega)]
    · simp
    · simp
theorem unq_nil : unq [] = some [] := rfl
theorem unq_step {l q : List UInt8} {d : UInt8} (h : unq1 l = some (d, q)) : unq l = (unq q).map (d :: ·) := by
  have hl := unq1_len h
  match l, h, hl with
  | c :: r, h, hl =>
    unfold unq
    rw [List.length_cons, unqN, h]
    · simp only
      rw [unqN_fuel r.length q.length q (by simp at hl; omega) (Nat.le_refl _)]
    · simp
theorem unq_none {l : List UInt8} (hl : l ≠ []) (h : unq1 l = none) : unq l = none := by
  match l, hl, h with
  | c :: r, _, h =>
    unfold unq
    rw [List.length_cons, unqN, h]
    simp
theorem byte_all {P : UInt8 → Prop} [DecidablePred P] (h : ∀ n : Fin 256, P (UInt8.ofNat n.val)) (c : UInt8) : P c := by
  have := h ⟨c.toNat, c.toNat_lt⟩
  simpa using this
theorem hex_qb (c : UInt8) : plainB c = true ∨ hexB (dig (c.toNat / 16)) (dig (c.toNat % 16)) = some c :=
  byte_all (P := fun c => plainB c = true ∨ hexB (dig (c.toNat / 16)) (dig (c.toNat % 16)) = some c) (by decide +kernel) c
theorem plain37 (c : UInt8) (h : plainB c = true) : c ≠ 37 := by
  rintro rfl
  revert h; decide
theorem unq1_qb (c : UInt8) (r : List UInt8) : unq1 (qb c ++ r) = some (c, r) := by
  unfold qb
  by_cases h : plainB c = true
  · rw [if_pos h]
    simp [unq1, plain37 c h, h]
  · rw [if_neg h]
    have := (hex_qb c).resolve_left h
    simp [unq1, this]
theorem unq_quote : ∀ s : List UInt8, unq (s.flatMap qb) = some s
  | [] => rfl
  | c :: s => by
    rw [List.flatMap_cons, unq_step (unq1_qb c _), unq_quote s]; rfl
theorem unquote_quote (s : List UInt8) : unquoteL (quoteL s) = some s := by
  unfold unquoteL quoteL
  simp [unq_quote]
theorem worth_dig {a : UInt8} {x : Nat} (h : worth a = some x) : x < 16 ∧ dig x = a := by
  have := byte_all (P := fun a => (worth a).all (fun x => decide (x < 16) && decide (dig x = a)) = true) (by decide +kernel) a
  rw [h] at this
  simpa using this
theorem unq1_back {l q : List UInt8} {d : UInt8} (h : unq1 l = some (d, q)) : l = qb d ++ q := by
  unfold unq1 at h
  match l, h with
  | c :: r, h =>
    simp only at h
    split at h
    · rename_i hc
      match r, h with
      | a :: b :: q', h =>
        simp only [Option.map_eq_some_iff, Prod.mk.injEq] at h
        obtain ⟨e, he, rfl, rfl⟩ := h
        unfold hexB at he
        cases ha : worth a with
        | none => rw [ha] at he; simp at he
        | some x =>
          cases hb : worth b with
          | none => rw [ha, hb] at he; simp at he
          | some y =>
            rw [ha, hb] at he
            simp only at he
            split at he
            · cases he
            · rename_i hp
              simp only [Option.some.injEq] at he
              obtain ⟨x16, dx⟩ := worth_dig ha
              obtain ⟨y16, dy⟩ := worth_dig hb
              subst he
              have en : (UInt8.ofNat (16 * x + y)).toNat = 16 * x + y := by rw [UInt8.toNat_ofNat']; omega
              unfold qb
              rw [if_neg hp, en, show (16 * x + y) / 16 = x by omega, show (16 * x + y) % 16 = y by omega, dx, dy, hc]
              rfl
    · split at h
      · rename_i hp
        simp only [Option.some.injEq, Prod.mk.injEq] at h
        obtain ⟨rfl, rfl⟩ := h
        unfold qb
        rw [if_pos hp]; rfl
      · cases h
theorem unqN_back : ∀ (n : Nat) (l u : List UInt8), unqN n l = some u → l = u.flatMap qb
  | n, [], u, h => by
    have : u = [] := by cases n <;> simp [unqN] at h <;> exact h.symm ▸ rfl
    subst this; rfl
  | 0, c :: l, u, h => by simp [unqN] at h
  | n + 1, c :: l, u, h => by
    rw [unqN] at h
    · cases hu : unq1 (c :: l) with
      | none => rw [hu] at h; cases h
      | some p =>
        obtain ⟨d, q⟩ := p
        rw [hu] at h
        simp only [Option.map_eq_some_iff] at h
        obtain ⟨u', hu', rfl⟩ := h
        rw [unq1_back hu, List.flatMap_cons, ← unqN_back n q u' hu']
    · simp
theorem quote_unquote {w u : List UInt8} (h : unquoteL w = some u) : quoteL u = w := by
  unfold unquoteL at h
  match w, h with
  | c :: r, h =>
    simp only at h
    split at h
    · rename_i hc
      rw [quoteL, ← unqN_back _ _ _ h, hc]
    · cases h
end Go.Ev
