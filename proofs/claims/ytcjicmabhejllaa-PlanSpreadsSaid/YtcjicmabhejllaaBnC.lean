/- Part 3 of the proof of PlanSpreads: EvSt. -/
import Derived.Test.YtcjicmabhejllaaBnB
-- part EvSt
/- EvSt: what is known of places while a function runs. -/
set_option linter.unusedVariables false
set_option linter.unusedSimpArgs false
namespace Go.Ev
open Go.RowKit
/-- Places and what lies in them; nothing else that was there at H0 has turned, but at S. -/
structure St (S : Nat → Prop) (H0 : Heap) (L : List (Nat × AObj)) (H : Heap) : Prop where
  nd : (L.map Prod.fst).Nodup
  lt : ∀ q ∈ L, q.1 < H.sz
  get : ∀ q ∈ L, H.get q.1 = q.2
  own : ∀ q ∈ L, S q.1 ∨ H0.sz ≤ q.1
  fr : Fr S H0 H
section
variable {Q : AV → Heap → Prop} {K : AV → Heap → Res} {H H0 H1 : Heap} {S : Nat → Prop} {L : List (Nat × AObj)} {ρ : Addr → Option Value}
theorem St.start (S : Nat → Prop) (H : Heap) : St S H [] H := ⟨by simp, by simp, by simp, by simp, Fr.refl ..⟩
theorem St.start1 {S : Nat → Prop} {H : Heap} {l : Nat} {o : AObj} (hl : l < H.sz) (hg : H.get l = o) (hs : S l) : St S H [(l, o)] H :=
  ⟨by simp, by simpa using hl, by simpa using hg, by simpa using Or.inl hs, Fr.refl ..⟩
theorem St.at (s : St S H0 L H) (i : Nat) {n : Nat} {o : AObj} (h : L[i]? = some (n, o)) : H.get n = o := s.get (n, o) (List.mem_of_getElem? h)
theorem St.lt' (s : St S H0 L H) (i : Nat) {n : Nat} {o : AObj} (h : L[i]? = some (n, o)) : n < H.sz := s.lt (n, o) (List.mem_of_getElem? h)
theorem St.new1 (s : St S H0 L H) (o : AObj) : St S H0 (L ++ [(H.sz, o)]) (H.new o) where
  nd := by
    rw [List.map_append, List.map_cons, List.map_nil, List.nodup_append]
    refine ⟨s.nd, by simp, ?_⟩
    intro a ha b hb
    obtain ⟨q, hq, rfl⟩ := List.mem_map.1 ha
    have := s.lt q hq
    simp at hb; omega
  lt := by
    intro q hq
    rw [Heap.sz_new]
    rcases List.mem_append.1 hq with h | h
    · have := s.lt q h; omega
    · simp at h; subst h; simp
  get := by
    intro q hq
    rcases List.mem_append.1 hq with h | h
    · have := s.lt q h
      rw [Heap.get_new, if_neg (by omega)]; exact s.get q h
    · simp at h; subst h; simp [Heap.get_new_same]
  own := by
    intro q hq
    rcases List.mem_append.1 hq with h | h
    · exact s.own q h
    · simp at h; subst h; exact Or.inr s.fr.sz
  fr := s.fr.trans (Fr.new S H o)
theorem St.put1 (s : St S H0 L H) (i : Nat) {n : Nat} {o : AObj} (o' : AObj) (h : L[i]? = some (n, o)) : St S H0 (L.set i (n, o')) (H.put n o') := by
  have hm := List.mem_of_getElem? h
  obtain ⟨hi, he⟩ := List.getElem?_eq_some_iff.1 h
  have hmap : (L.set i (n, o')).map Prod.fst = L.map Prod.fst := by
    rw [List.map_set]
    apply List.ext_getElem?
    intro j
    rw [List.getElem?_set]
    split
    · rename_i e; subst e; simp [hi, he]
    · rfl
  have key : ∀ q ∈ L.set i (n, o'), q = (n, o') ∨ (q ∈ L ∧ q.1 ≠ n) := by
    intro q hq
    obtain ⟨j, hj, rfl⟩ := List.mem_iff_getElem.1 hq
    rw [List.getElem_set]
    split
    · exact Or.inl rfl
    · rename_i hne
      rw [List.length_set] at hj
      refine Or.inr ⟨List.getElem_mem hj, fun e => hne ?_⟩
      have hnd := s.nd
      have a1 : (L.map Prod.fst)[i]'(by simpa using hi) = n := by simp [he]
      have a2 : (L.map Prod.fst)[j]'(by simpa using hj) = n := by simpa using e
      exact (List.getElem_inj hnd).1 (a1.trans a2.symm)
  refine ⟨by rw [hmap]; exact s.nd, ?_, ?_, ?_, ?_⟩
  · intro q hq
    rcases key q hq with rfl | ⟨h1, _⟩
    · exact s.lt (n, o) hm
    · exact s.lt q h1
  · intro q hq
    rcases key q hq with rfl | ⟨h1, h2⟩
    · exact Heap.get_put_same ..
    · rw [Heap.get_put_ne _ _ _ _ h2]; exact s.get q h1
  · intro q hq
    rcases key q hq with rfl | ⟨h1, _⟩
    · exact s.own (n, o) hm
    · exact s.own q h1
  · refine s.fr.trans' (S1 := fun t => t = n) (Fr.put H n o' fun _ => rfl) fun l hl e => ?_
    subst e
    rcases s.own (l, o) hm with q | q
    · exact q
    · exact absurd hl (Nat.not_lt.2 q)
/-- Something was done that left these as they were. -/
theorem St.frame (s : St S H0 L H) {S1 : Nat → Prop} (f : Fr S1 H H1) (h1 : ∀ q ∈ L, ¬ S1 q.1) (h2 : ∀ l, l < H0.sz → S1 l → S l) : St S H0 L H1 :=
  ⟨s.nd, fun q hq => Nat.lt_of_lt_of_le (s.lt q hq) f.sz, fun q hq => by rw [f.get q.1 (s.lt q hq) (h1 q hq)]; exact s.get q hq, s.own, s.fr.trans' f h2⟩
theorem St.frame0 (s : St S H0 L H) (f : Fr Nop H H1) : St S H0 L H1 := s.frame f (fun _ _ q => q) fun _ _ q => q.elim
/-- .. but of this one. -/
theorem St.turn (s : St S H0 L H) (i : Nat) {n : Nat} {o o' : AObj} (h : L[i]? = some (n, o)) (f : Fr (fun t => t = n) H H1) (hg : H1.get n = o') : St S H0 (L.set i (n, o')) H1 := by
  have s1 := s.put1 i o' h
  refine ⟨s1.nd, fun q hq => Nat.lt_of_lt_of_le (s1.lt q hq) f.sz, fun q hq => ?_, s1.own, ?_⟩
  · by_cases e : q.1 = n
    · have := s1.get q hq
      rw [e, Heap.get_put_same] at this
      rw [e, hg, this]
    · rw [f.get q.1 (s1.lt q hq) e, ← s1.get q hq, Heap.get_put_ne _ _ _ _ e]
  · refine s.fr.trans' f fun l hl e => ?_
    subst e
    rcases s.own (l, o) (List.mem_of_getElem? h) with q | q
    · exact q
    · exact absurd hl (Nat.not_lt.2 q)
theorem St.drop {R : List (Nat × AObj)} (s : St S H0 (L ++ R) H) : St S H0 L H where
  nd := by have := s.nd; rw [List.map_append, List.nodup_append] at this; exact this.1
  lt := fun q hq => s.lt q (List.mem_append_left _ hq)
  get := fun q hq => s.get q (List.mem_append_left _ hq)
  own := fun q hq => s.own q (List.mem_append_left _ hq)
  fr := s.fr
/-- Something was done behind z alone. -/
theorem St.above (s : St S H0 L H) {z : Nat} (f : Fr (fun t => z ≤ t) H H1) (h1 : ∀ q ∈ L, q.1 < z) (h2 : H0.sz ≤ z) : St S H0 L H1 :=
  s.frame f (fun q hq e => absurd (h1 q hq) (Nat.not_lt.2 e)) fun l hl e => absurd (Nat.lt_of_lt_of_le hl h2) (Nat.not_lt.2 e)
-- steps
theorem St.newP (s : St S H0 L H) {o : AObj} (hk : ∀ n H1, St S H0 (L ++ [(n, o)]) H1 → H.sz ≤ n → Fr Nop H H1 → Ret Q (K (.ptr n 0 0) H1)) : Ret Q (effK H (some (.ptr H.sz 0 0, .new o)) K) := by
  rw [effK_new]; exact hk _ _ (s.new1 o) (Nat.le_refl _) (Fr.new Nop H o)
theorem St.newS (s : St S H0 L H) {o : AObj} {a c : Nat} {m : Bool} (hk : ∀ n H1, St S H0 (L ++ [(n, o)]) H1 → H.sz ≤ n → Fr Nop H H1 → Ret Q (K (.sl n 0 0 a c m) H1)) : Ret Q (effK H (some (.sl H.sz 0 0 a c m, .new o)) K) := by
  rw [effK_new]; exact hk _ _ (s.new1 o) (Nat.le_refl _) (Fr.new Nop H o)
theorem St.mkS (s : St S H0 L H) {o : AObj} {a c : Nat} {m : Bool} (hu : o.under H.sz = true) (hk : ∀ n H1, St S H0 (L ++ [(n, o)]) H1 → H.sz ≤ n → Fr Nop H H1 → Ret Q (K (.sl n 0 0 a c m) H1)) : Ret Q (mkK H (some (.sl H.sz 0 0 a c m, .new o)) true K) := by
  rw [mkK_new _ _ _ _ hu]; exact hk _ _ (s.new1 o) (Nat.le_refl _) (Fr.new Nop H o)
theorem St.st (s : St S H0 L H) (i : Nat) {n v e o : Nat} {g : Bool} {c : List AV} {x : AV} (h : L[i]? = some (n, .cells v e (0, 0) g c)) (hx : scal x = true) (ho : o < c.length)
    (hk : ∀ H1, St S H0 (L.set i (n, .cells v e (0, 0) g (c.set o x))) H1 → H1.sz = H.sz → Fr (fun t => t = n) H H1 → Ret Q (K (.tup []) H1)) : Ret Q (effK H (stA 0 H 1 (.ptr n v o) x) K) := by
  rw [st1 o x (s.at i h) hx ho, effK_put]
  exact hk _ (s.put1 i _ h) rfl (Fr.put _ _ _ fun _ => rfl)
theorem St.stN (s : St S H0 L H) (i : Nat) {n v e o m : Nat} {g : Bool} {c cs : List AV} (h : L[i]? = some (n, .cells v e (0, 0) g c)) (hl : cs.length = m) (hs : cs.all AV.solid = true) (ho : o + m ≤ c.length)
    (hk : ∀ H1, St S H0 (L.set i (n, .cells v e (0, 0) g (layA c o cs))) H1 → H1.sz = H.sz → Fr (fun t => t = n) H H1 → Ret Q (K (.tup []) H1)) : Ret Q (effK H (stA 0 H m (.ptr n v o) (.agg cs)) K) := by
  rw [stA_agg_ptr _ _ _ _ _ _ hl, s.at i h, stC_many _ _ _ _ _ _ _ hs (by omega), effK_put]
  exact hk _ (s.put1 i _ h) rfl (Fr.put _ _ _ fun _ => rfl)
end
end Go.Ev
