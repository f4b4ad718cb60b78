/- Part 3 of the proof of DumpPacks: EvSt EvBy. -/
import Derived.Test.YtkmohjddojpdjaaBnB
-- part EvSt
/- EvSt: what is known of places while a function runs. -/
set_option linter.unusedVariables false
set_option linter.unusedSimpArgs false
namespace Go.Ev
open Go.RowKit
/-- Places and what lies in them; nothing else that was there at H0 has turned, but at S. -/
structure St (S : Nat → Prop) (H0 : Heap) (L : List (Nat × AObj)) (H : Heap) : Prop where
  nd : (L.map Prod.fst).Nodup
  lt : ∀ q ∈ L, q.1 < H.sz
  get : ∀ q ∈ L, H.get q.1 = q.2
  own : ∀ q ∈ L, S q.1 ∨ H0.sz ≤ q.1
  fr : Fr S H0 H
section
variable {Q : AV → Heap → Prop} {K : AV → Heap → Res} {H H0 H1 : Heap} {S : Nat → Prop} {L : List (Nat × AObj)} {ρ : Addr → Option Value}
theorem St.start (S : Nat → Prop) (H : Heap) : St S H [] H := ⟨by simp, by simp, by simp, by simp, Fr.refl ..⟩
theorem St.start1 {S : Nat → Prop} {H : Heap} {l : Nat} {o : AObj} (hl : l < H.sz) (hg : H.get l = o) (hs : S l) : St S H [(l, o)] H :=
  ⟨by simp, by simpa using hl, by simpa using hg, by simpa using Or.inl hs, Fr.refl ..⟩
theorem St.at (s : St S H0 L H) (i : Nat) {n : Nat} {o : AObj} (h : L[i]? = some (n, o)) : H.get n = o := s.get (n, o) (List.mem_of_getElem? h)
theorem St.lt' (s : St S H0 L H) (i : Nat) {n : Nat} {o : AObj} (h : L[i]? = some (n, o)) : n < H.sz := s.lt (n, o) (List.mem_of_getElem? h)
theorem St.new1 (s : St S H0 L H) (o : AObj) : St S H0 (L ++ [(H.sz, o)]) (H.new o) where
  nd := by
    rw [List.map_append, List.map_cons, List.map_nil, List.nodup_append]
    refine ⟨s.nd, by simp, ?_⟩
    intro a ha b hb
    obtain ⟨q, hq, rfl⟩ := List.mem_map.1 ha
    have := s.lt q hq
    simp at hb; omega
  lt := by
    intro q hq
    rw [Heap.sz_new]
    rcases List.mem_append.1 hq with h | h
    · have := s.lt q h; omega
    · simp at h; subst h; simp
  get := by
    intro q hq
    rcases List.mem_append.1 hq with h | h
    · have := s.lt q h
      rw [Heap.get_new, if_neg (by omega)]; exact s.get q h
    · simp at h; subst h; simp [Heap.get_new_same]
  own := by
    intro q hq
    rcases List.mem_append.1 hq with h | h
    · exact s.own q h
    · simp at h; subst h; exact Or.inr s.fr.sz
  fr := s.fr.trans (Fr.new S H o)
theorem St.put1 (s : St S H0 L H) (i : Nat) {n : Nat} {o : AObj} (o' : AObj) (h : L[i]? = some (n, o)) : St S H0 (L.set i (n, o')) (H.put n o') := by
  have hm := List.mem_of_getElem? h
  obtain ⟨hi, he⟩ := List.getElem?_eq_some_iff.1 h
  have hmap : (L.set i (n, o')).map Prod.fst = L.map Prod.fst := by
    rw [List.map_set]
    apply List.ext_getElem?
    intro j
    rw [List.getElem?_set]
    split
    · rename_i e; subst e; simp [hi, he]
    · rfl
  have key : ∀ q ∈ L.set i (n, o'), q = (n, o') ∨ (q ∈ L ∧ q.1 ≠ n) := by
    intro q hq
    obtain ⟨j, hj, rfl⟩ := List.mem_iff_getElem.1 hq
    rw [List.getElem_set]
    split
    · exact Or.inl rfl
    · rename_i hne
      rw [List.length_set] at hj
      refine Or.inr ⟨List.getElem_mem hj, fun e => hne ?_⟩
      have hnd := s.nd
      have a1 : (L.map Prod.fst)[i]'(by simpa using hi) = n := by simp [he]
      have a2 : (L.map Prod.fst)[j]'(by simpa using hj) = n := by simpa using e
      exact (List.getElem_inj hnd).1 (a1.trans a2.symm)
  refine ⟨by rw [hmap]; exact s.nd, ?_, ?_, ?_, ?_⟩
  · intro q hq
    rcases key q hq with rfl | ⟨h1, _⟩
    · exact s.lt (n, o) hm
    · exact s.lt q h1
  · intro q hq
    rcases key q hq with rfl | ⟨h1, h2⟩
    · exact Heap.get_put_same ..
    · rw [Heap.get_put_ne _ _ _ _ h2]; exact s.get q h1
  · intro q hq
    rcases key q hq with rfl | ⟨h1, _⟩
    · exact s.own (n, o) hm
    · exact s.own q h1
  · refine s.fr.trans' (S1 := fun t => t = n) (Fr.put H n o' fun _ => rfl) fun l hl e => ?_
    subst e
    rcases s.own (l, o) hm with q | q
    · exact q
    · exact absurd hl (Nat.not_lt.2 q)
/-- Something was done that left these as they were. -/
theorem St.frame (s : St S H0 L H) {S1 : Nat → Prop} (f : Fr S1 H H1) (h1 : ∀ q ∈ L, ¬ S1 q.1) (h2 : ∀ l, l < H0.sz → S1 l → S l) : St S H0 L H1 :=
  ⟨s.nd, fun q hq => Nat.lt_of_lt_of_le (s.lt q hq) f.sz, fun q hq => by rw [f.get q.1 (s.lt q hq) (h1 q hq)]; exact s.get q hq, s.own, s.fr.trans' f h2⟩
theorem St.frame0 (s : St S H0 L H) (f : Fr Nop H H1) : St S H0 L H1 := s.frame f (fun _ _ q => q) fun _ _ q => q.elim
/-- .. but of this one. -/
theorem St.turn (s : St S H0 L H) (i : Nat) {n : Nat} {o o' : AObj} (h : L[i]? = some (n, o)) (f : Fr (fun t => t = n) H H1) (hg : H1.get n = o') : St S H0 (L.set i (n, o')) H1 := by
  have s1 := s.put1 i o' h
  refine ⟨s1.nd, fun q hq => Nat.lt_of_lt_of_le (s1.lt q hq) f.sz, fun q hq => ?_, s1.own, ?_⟩
  · by_cases e : q.1 = n
    · have := s1.get q hq
      rw [e, Heap.get_put_same] at this
      rw [e, hg, this]
    · rw [f.get q.1 (s1.lt q hq) e, ← s1.get q hq, Heap.get_put_ne _ _ _ _ e]
  · refine s.fr.trans' f fun l hl e => ?_
    subst e
    rcases s.own (l, o) (List.mem_of_getElem? h) with q | q
    · exact q
    · exact absurd hl (Nat.not_lt.2 q)
theorem St.drop {R : List (Nat × AObj)} (s : St S H0 (L ++ R) H) : St S H0 L H where
  nd := by have := s.nd; rw [List.map_append, List.nodup_append] at this; exact this.1
  lt := fun q hq => s.lt q (List.mem_append_left _ hq)
  get := fun q hq => s.get q (List.mem_append_left _ hq)
  own := fun q hq => s.own q (List.mem_append_left _ hq)
  fr := s.fr
/-- Something was done behind z alone. -/
theorem St.above (s : St S H0 L H) {z : Nat} (f : Fr (fun t => z ≤ t) H H1) (h1 : ∀ q ∈ L, q.1 < z) (h2 : H0.sz ≤ z) : St S H0 L H1 :=
  s.frame f (fun q hq e => absurd (h1 q hq) (Nat.not_lt.2 e)) fun l hl e => absurd (Nat.lt_of_lt_of_le hl h2) (Nat.not_lt.2 e)
-- steps
theorem St.newP (s : St S H0 L H) {o : AObj} (hk : ∀ n H1, St S H0 (L ++ [(n, o)]) H1 → H.sz ≤ n → Fr Nop H H1 → Ret Q (K (.ptr n 0 0) H1)) : Ret Q (effK H (some (.ptr H.sz 0 0, .new o)) K) := by
  rw [effK_new]; exact hk _ _ (s.new1 o) (Nat.le_refl _) (Fr.new Nop H o)
theorem St.newS (s : St S H0 L H) {o : AObj} {a c : Nat} {m : Bool} (hk : ∀ n H1, St S H0 (L ++ [(n, o)]) H1 → H.sz ≤ n → Fr Nop H H1 → Ret Q (K (.sl n 0 0 a c m) H1)) : Ret Q (effK H (some (.sl H.sz 0 0 a c m, .new o)) K) := by
  rw [effK_new]; exact hk _ _ (s.new1 o) (Nat.le_refl _) (Fr.new Nop H o)
theorem St.mkS (s : St S H0 L H) {o : AObj} {a c : Nat} {m : Bool} (hu : o.under H.sz = true) (hk : ∀ n H1, St S H0 (L ++ [(n, o)]) H1 → H.sz ≤ n → Fr Nop H H1 → Ret Q (K (.sl n 0 0 a c m) H1)) : Ret Q (mkK H (some (.sl H.sz 0 0 a c m, .new o)) true K) := by
  rw [mkK_new _ _ _ _ hu]; exact hk _ _ (s.new1 o) (Nat.le_refl _) (Fr.new Nop H o)
theorem St.st (s : St S H0 L H) (i : Nat) {n v e o : Nat} {g : Bool} {c : List AV} {x : AV} (h : L[i]? = some (n, .cells v e (0, 0) g c)) (hx : scal x = true) (ho : o < c.length)
    (hk : ∀ H1, St S H0 (L.set i (n, .cells v e (0, 0) g (c.set o x))) H1 → H1.sz = H.sz → Fr (fun t => t = n) H H1 → Ret Q (K (.tup []) H1)) : Ret Q (effK H (stA 0 H 1 (.ptr n v o) x) K) := by
  rw [st1 o x (s.at i h) hx ho, effK_put]
  exact hk _ (s.put1 i _ h) rfl (Fr.put _ _ _ fun _ => rfl)
theorem St.stN (s : St S H0 L H) (i : Nat) {n v e o m : Nat} {g : Bool} {c cs : List AV} (h : L[i]? = some (n, .cells v e (0, 0) g c)) (hl : cs.length = m) (hs : cs.all AV.solid = true) (ho : o + m ≤ c.length)
    (hk : ∀ H1, St S H0 (L.set i (n, .cells v e (0, 0) g (layA c o cs))) H1 → H1.sz = H.sz → Fr (fun t => t = n) H H1 → Ret Q (K (.tup []) H1)) : Ret Q (effK H (stA 0 H m (.ptr n v o) (.agg cs)) K) := by
  rw [stA_agg_ptr _ _ _ _ _ _ hl, s.at i h, stC_many _ _ _ _ _ _ _ hs (by omega), effK_put]
  exact hk _ (s.put1 i _ h) rfl (Fr.put _ _ _ fun _ => rfl)
end
end Go.Ev

-- part EvBy
/- EvBy: texts as lists of bytes. -/
set_option linter.unusedVariables false
set_option linter.unusedSimpArgs false
namespace Go.Ev
open Go.RowKit
def ba (l : List UInt8) : ByteArray := ⟨l.toArray⟩
def bs (s : ByteArray) : List UInt8 := s.data.toList
theorem bs_ba (l : List UInt8) : bs (ba l) = l := rfl
theorem ba_bs (s : ByteArray) : ba (bs s) = s := by
  apply ByteArray.ext
  show s.data.toList.toArray = s.data
  simp
theorem ba_size (l : List UInt8) : (ba l).size = l.length := by
  show l.toArray.size = _
  simp
theorem bs_len (s : ByteArray) : (bs s).length = s.size := by
  show s.data.toList.length = s.data.size
  simp
theorem ba_inj {a b : List UInt8} : ba a = ba b ↔ a = b := ⟨fun h => congrArg bs h, fun h => by rw [h]⟩
theorem ba_app (a b : List UInt8) : ba a ++ ba b = ba (a ++ b) := by
  apply ByteArray.ext
  simp [ba]
theorem ba_cut (l : List UInt8) (i j : Nat) : (ba l).extract i j = ba ((l.drop i).take (j - i)) := by
  apply ByteArray.ext
  rw [ByteArray.data_extract]
  simp only [ba]
  apply Array.toList_inj.1
  rw [Array.toList_extract]
theorem emp1 : ByteArray.mk #[] = ba [] := rfl
theorem emp2 : ByteArray.empty = ba [] := rfl
theorem lenT_ba (l : List UInt8) : lenT (.str (ba l)) = some (.int .i64 l.length) := by rw [lenT_str, ba_size]
theorem ixT_ba (l : List UInt8) (k : IntKind) (i : Nat) (h : i < l.length) : ixT (.str (ba l)) (.int k i) = some (.int .u8 l[i].toNat) := by
  have hs : (i : Int).toNat < (ba l).size := by rw [ba_size, Int.toNat_natCast]; exact h
  rw [ixT_str _ _ _ (by omega) hs]
  rfl
theorem slT_ba (l : List UInt8) (lo hi : Nat) (h1 : lo ≤ hi) (h2 : hi ≤ l.length) (k k' : IntKind) : slT (.str (ba l)) (some (.int k lo)) (some (.int k' hi)) = some (.str (ba ((l.drop lo).take (hi - lo)))) := by
  have a1 : decide ((0 : Int) ≤ hi) = true := by simp
  have a2 : decide ((hi : Int) ≤ ((ba l).size : Nat)) = true := by rw [ba_size]; simp; omega
  have a3 : decide ((0 : Int) ≤ lo) = true := by simp
  have a4 : decide ((lo : Int) ≤ hi) = true := by simp; omega
  simp only [slT, boundsA, Option.bind_some, boundA, asInt, a1, a2, a3, a4, Bool.and_self, cond_true, Int.toNat_natCast, Option.map_some, ba_cut]
theorem slT_hi (l : List UInt8) (hi : Nat) (h2 : hi ≤ l.length) (k' : IntKind) : slT (.str (ba l)) none (some (.int k' hi)) = some (.str (ba (l.take hi))) := by
  have a1 : decide ((0 : Int) ≤ hi) = true := by simp
  have a2 : decide ((hi : Int) ≤ ((ba l).size : Nat)) = true := by rw [ba_size]; simp; omega
  simp only [slT, boundsA, Option.bind_some, boundA, asInt, a1, a2, Bool.and_self, cond_true, Int.toNat_natCast, Option.map_some, ba_cut, List.drop_zero, Nat.sub_zero]
theorem slT_lo (l : List UInt8) (lo : Nat) (h2 : lo ≤ l.length) (k' : IntKind) : slT (.str (ba l)) (some (.int k' lo)) none = some (.str (ba (l.drop lo))) := by
  have a1 : decide ((0 : Int) ≤ lo) = true := by simp
  have a2 : decide ((lo : Int) ≤ (l.length : Nat)) = true := by simp; omega
  have e : ((l.drop lo).take (l.length - lo)) = l.drop lo := List.take_of_length_le (by simp)
  simp only [slT, boundsA, Option.bind_some, boundA, asInt, a1, a2, Bool.and_self, cond_true, Int.toNat_natCast, Option.map_some, ba_cut, ba_size, e]
theorem bin_scatB (P : Program) (H : Heap) (t : TypeId) (a b : List UInt8) (h : a.length + b.length ≤ 9223372036854775807) : binA P H .add t (.str (ba a)) (.str (ba b)) = some (.str (ba (a ++ b))) := by
  rw [bin_scat _ _ _ _ _ (by rw [ba_size, ba_size]; exact h), ba_app]
theorem ba_toList (l : List UInt8) : (ba l).toList = l := by rw [ByteArray.toList_eq]; rfl
theorem bin_seqB (P : Program) (H : Heap) (t : TypeId) (a b : List UInt8) : binA P H .eql t (.str (ba a)) (.str (ba b)) = some (.bool (decide (a = b))) := by
  rw [bin_seql]; simp only [ba_inj]
theorem bin_sneB (P : Program) (H : Heap) (t : TypeId) (a b : List UInt8) : binA P H .neq t (.str (ba a)) (.str (ba b)) = some (.bool (decide (a ≠ b))) := by
  rw [bin_sneq]; simp only [ne_eq, ba_inj]
theorem bin_sgeB (P : Program) (H : Heap) (t : TypeId) (a b : List UInt8) : binA P H .geq t (.str (ba a)) (.str (ba b)) = some (.bool (!Op.bytesLess a b)) := by
  simp only [binA, strA, ba_toList]
theorem bin_sltB (P : Program) (H : Heap) (t : TypeId) (a b : List UInt8) : binA P H .lss t (.str (ba a)) (.str (ba b)) = some (.bool (Op.bytesLess a b)) := by
  simp only [binA, strA, ba_toList]
/-- Bytes as elements of a slice. -/
def brow (l : List UInt8) : List (List AV) := l.map fun b => [byteCell b]
theorem brow_len (l : List UInt8) : (brow l).length = l.length := List.length_map ..
theorem brow_app (a b : List UInt8) : brow (a ++ b) = brow a ++ brow b := List.map_append ..
theorem brow_flat : ∀ l : List UInt8, (brow l).flatten = l.map byteCell
  | [] => rfl
  | b :: l => by
    have : (brow (b :: l)).flatten = [byteCell b] ++ (brow l).flatten := rfl
    rw [this, brow_flat l]; rfl
theorem brow_solid (l : List UInt8) : ∀ r ∈ brow l, r.all AV.solid = true := by
  intro r hr
  obtain ⟨b, _, rfl⟩ := List.mem_map.1 hr; rfl
theorem brow_one (l : List UInt8) : ∀ r ∈ brow l, r.length = 1 := by
  intro r hr
  obtain ⟨b, _, rfl⟩ := List.mem_map.1 hr; rfl
theorem bytesOf_map : ∀ l : List UInt8, bytesOfA (l.map byteCell) = some l
  | [] => rfl
  | b :: l => by
    have h1 : (0 : Int) ≤ (b.toNat : Int) := by omega
    have h2 : (b.toNat : Int) < 256 := by have := b.toNat_lt; omega
    rw [List.map_cons]
    unfold byteCell
    simp only [bytesOfA, h1, h2, decide_true, Bool.and_self, cond_true]
    have := bytesOf_map l
    unfold byteCell at this
    rw [this]
    simp
section
variable {ρ : Addr → Option Value} {H H' : Heap} {e sz : Nat} {x y : AV} {els ys : List (List AV)} {Q : AV → Heap → Prop} {K : AV → Heap → Res}
theorem b2s_brow {l : List UInt8} (h : Els ρ H 1 y (brow l)) (hy : ∀ m, y ≠ .sx m) : b2s ρ H y = some (.str (ba l)) := by
  have e1 := h.lenA
  have e2 := h.frst
  rw [brow_flat] at e2
  rw [brow_len] at e1 e2
  cases y with
  | nils =>
    have : brow l = [] := h
    have : l = [] := by simpa [brow] using this
    subst this; rfl
  | sl l' v o n' c m => simp only [b2s, e1, Option.bind_some, e2, bytesOf_map, Option.map_some]; rfl
  | xs a n' c => simp only [b2s, e1, Option.bind_some, e2, bytesOf_map, Option.map_some]; rfl
  | sx m => exact absurd rfl (hy m)
  | _ => exact h.elim
theorem slS_notSx {l v o n c : Nat} {a b : Option AV} {y : AV} (h : slS sz (.sl l v o n c false) a b none = some y) (m : Nat) : y ≠ .sx m := by
  rintro rfl
  revert h
  simp only [slS, sliceSl]
  cases Nat.ble n c with
  | false => simp
  | true => cases boundsA n c a b none <;> simp
theorem lenA_str (l : List UInt8) : lenA (.str (ba l)) = some l.length := by simp [lenA, ba_size]
theorem frst_str (l : List UInt8) : frst ρ H 1 l.length (.str (ba l)) = some (brow l).flatten := by
  rw [brow_flat]
  simp only [frst, ba_cut, List.drop_zero, Nat.sub_zero, List.take_length]
  rfl
/-- A text's bytes are appended. -/
theorem Grow.appStr {by_ : Nat} {a l : List UInt8} (h : Grow H e 1 x (brow a)) (hb : (a.length + l.length) * by_ ≤ 70368744177664) (hb2 : a.length + l.length ≤ 70368744177664) :
    ∃ x' f, apA ρ 0 H e 1 by_ x (.str (ba l)) = some (x', f) ∧ Grow (f.on H) e 1 x' (brow (a ++ l)) ∧ Fr x.lies H (f.on H) ∧ ∀ t, x'.lies t → x.lies t ∨ H.sz ≤ t := by
  -- as if they lay in a slice of their own
  have hsol : (brow l).flatten.all AV.solid = true := by
    rw [brow_flat, List.all_eq_true]; intro z hz
    obtain ⟨b, _, rfl⟩ := List.mem_map.1 hz; rfl
  have hlen := els_length (brow l) 1 (brow_one l)
  rw [brow_len] at hlen
  simp only [apA, lenA_str, Option.bind_some, frst_str, hsol, hlen, beq_self_eq_true, Bool.and_self, Bool.not_true, cond_false]
  cases x with
  | nils =>
    have : brow a = [] := h
    have ha : a = [] := by simpa [brow] using this
    subst ha
    by_cases h0 : l.length = 0
    · have : l = [] := List.eq_nil_of_length_eq_zero h0
      subst this
      exact ⟨.nils, .nothing, rfl, Grow.nils .., Fr.refl .., fun l q => Or.inl q⟩
    · have h0' : (l.length == 0) = false := by simpa using h0
      simp only [h0', cond_false, growN_of (by_ := by_) (n := l.length) (by simpa using hb) (by simpa using hb2), cond_true]
      refine ⟨_, _, rfl, ⟨rfl, by simp [brow_len], rfl, rfl, by simp [Eff.on, Heap.sz_new], brow_one _, true, ?_⟩, Fr.new _ H _, fun t q => Or.inr (by have e : H.sz = t := q; omega)⟩
      simp [Eff.on, newCells, Heap.get_new]
  | sl t v o n c m =>
    obtain ⟨rfl, rfl, rfl, rfl, hl, h5, g, hg⟩ := h
    have hel := els_length (brow a) 1 h5
    simp only [apSl]
    by_cases h0 : l.length = 0
    · have : l = [] := List.eq_nil_of_length_eq_zero h0
      subst this
      simp only [List.length_nil, Nat.add_zero, Nat.le_refl, decide_true, cond_true]
      rw [storeN_of (vs := (brow []).flatten) _ hg (by rw [hel]; simp [brow]) rfl]
      refine ⟨_, _, rfl, ⟨rfl, by simp, rfl, rfl, hl, by simpa using h5, g, ?_⟩, Fr.put H t _ (fun _ => rfl), fun t q => Or.inl q⟩
      simp [Eff.on, Heap.get_put, layA, brow]
    · have h0' : decide ((brow a).length + l.length ≤ (brow a).length) = false := by simp; omega
      have hb1 : Nat.ble 0 t = true := Nat.ble_eq_true_of_le (by omega)
      have hg1 := growN_of (by_ := by_) (n := (brow a).length + l.length) (by rw [brow_len]; exact hb) (by rw [brow_len]; exact hb2)
      simp only [h0', cond_false, hg1, Bool.not_true, cond_true, hg, hb1, Nat.beq_refl, beq_self_eq_true, hel, Bool.and_self, Nat.ble_eq_true_of_le (Nat.le_refl _)]
      refine ⟨_, _, rfl, ⟨rfl, by simp [brow_len], rfl, rfl, hl, brow_one _, true, ?_⟩, Fr.put H t _ (fun _ => rfl), fun t q => Or.inl q⟩
      have ht : (brow a).flatten.take ((brow a).length * 1) = (brow a).flatten := List.take_of_length_le (by omega)
      simp only [Eff.on, Heap.get_put, if_pos, ht, brow_app, List.flatten_append]
  | _ => exact h.elim
theorem Ret.appS {by_ : Nat} {a l : List UInt8} (h : Grow H e 1 x (brow a)) (hb : (a.length + l.length) * by_ ≤ 70368744177664) (hb2 : a.length + l.length ≤ 70368744177664)
    (hk : ∀ x' H', Grow H' e 1 x' (brow (a ++ l)) → Fr x.lies H H' → (∀ t, x'.lies t → x.lies t ∨ H.sz ≤ t) → scal x' = true → Ret Q (K x' H')) : Ret Q (effK H (apA ρ 0 H e 1 by_ x (.str (ba l))) K) := by
  obtain ⟨x', f, ea, G, fr, hl⟩ := h.appStr (ρ := ρ) (l := l) hb hb2
  rw [ea, effK_on]
  refine hk x' _ G fr hl ?_
  cases x' <;> first | exact G.elim | rfl
/-- A slice that is full: an append lays it anew. -/
def Full (H : Heap) (e sz : Nat) (x : AV) (els : List (List AV)) : Prop := match x with
  | .sl l v o n c m => o = 0 ∧ n = els.length ∧ c = n ∧ m = false ∧ l < H.sz ∧ (∀ r ∈ els, r.length = sz) ∧ ∃ fr g, H.get l = .cells v e fr g els.flatten
  | _ => False
theorem Full.toEls (h : Full H e sz x els) : Els ρ H sz x els := by
  cases x with
  | sl l v o n c m =>
    obtain ⟨rfl, rfl, rfl, rfl, hl, hs, fr, g, hg⟩ := h
    exact Els.of_cells hl hg hs
  | _ => exact h.elim
theorem Full.frame (h : Full H e sz x els) (S : Nat → Prop) (f : Fr S H H') (hs : ∀ l, x.lies l → ¬ S l) : Full H' e sz x els := by
  cases x with
  | sl l v o n c m =>
    obtain ⟨h1, h2, h3, h4, hl, h5, fr, g, hg⟩ := h
    exact ⟨h1, h2, h3, h4, Nat.lt_of_lt_of_le hl f.sz, h5, fr, g, by rw [f.get l hl (hs l rfl), hg]⟩
  | _ => exact h.elim
theorem Full.append {by_ : Nat} (h : Full H e sz x els) (hy : Els ρ H sz y ys) (hne : ys ≠ []) (hs : ∀ r ∈ ys, r.all AV.solid = true) (hb : (els.length + ys.length) * by_ ≤ 70368744177664) (hb2 : els.length + ys.length ≤ 70368744177664) :
    ∃ x' f, apA ρ 0 H e sz by_ x y = some (x', f) ∧ Grow (f.on H) e sz x' (els ++ ys) ∧ Fr Nop H (f.on H) ∧ ∀ l, x'.lies l → H.sz ≤ l := by
  have hE := h.toEls (ρ := ρ)
  have hsol : ys.flatten.all AV.solid = true := by
    rw [List.all_eq_true]; intro a ha
    obtain ⟨r, hr, har⟩ := List.mem_flatten.1 ha
    exact List.all_eq_true.1 (hs r hr) a har
  have hlr : ∀ r ∈ ys, r.length = sz := fun r hr => by obtain ⟨i, hi, rfl⟩ := List.mem_iff_getElem.1 hr; exact hy.len_el i hi
  have hlen := els_length ys sz hlr
  have h0 : 0 < ys.length := List.length_pos_iff.2 hne
  simp only [apA, hy.lenA, Option.bind_some, hy.frst, hsol, hlen, beq_self_eq_true, Bool.and_self, Bool.not_true, cond_false]
  cases x with
  | sl l v o n c m =>
    obtain ⟨rfl, rfl, rfl, rfl, hl, h5, fr, g, hg⟩ := h
    have h1 : decide (els.length + ys.length ≤ els.length) = false := by simp; omega
    have hf := hE.frst
    simp only [apSl, h1, cond_false, growN_of (by_ := by_) hb hb2, Bool.not_true, hf, Option.map_some]
    refine ⟨_, _, rfl, ⟨rfl, by simp, rfl, rfl, by simp [Eff.on, Heap.sz_new], ?_, true, ?_⟩, Fr.new Nop H _, fun l q => ?_⟩
    · intro r hr; rcases List.mem_append.1 hr with q | q
      · exact h5 r q
      · exact hlr r q
    · simp [Eff.on, newCells, Heap.get_new]
    · have e : H.sz = l := q; omega
  | _ => exact h.elim
/-- It grows, or is full. -/
def GF (H : Heap) (e sz : Nat) (x : AV) (els : List (List AV)) : Prop := Full H e sz x els ∨ Grow H e sz x els
theorem GF.toEls (h : GF H e sz x els) : Els ρ H sz x els := h.elim Full.toEls Grow.toEls
theorem GF.frame (h : GF H e sz x els) (S : Nat → Prop) (f : Fr S H H') (hs : ∀ l, x.lies l → ¬ S l) : GF H' e sz x els := h.elim (fun h => Or.inl (h.frame S f hs)) (fun h => Or.inr (h.frame S f hs))
theorem GF.notSx (h : GF H e sz x els) (n : Nat) : x ≠ .sx n := by
  rcases h with h | h
  · rintro rfl; exact h
  · exact h.notSx n
theorem Ret.appF {by_ : Nat} (h : GF H e sz x els) (hy : Els ρ H sz y ys) (hne : ys ≠ []) (hs : ∀ r ∈ ys, r.all AV.solid = true) (hb : (els.length + ys.length) * by_ ≤ 70368744177664) (hb2 : els.length + ys.length ≤ 70368744177664)
    (hk : ∀ x' H', Grow H' e sz x' (els ++ ys) → Fr x.lies H H' → (∀ l, x'.lies l → x.lies l ∨ H.sz ≤ l) → scal x' = true → Ret Q (K x' H')) : Ret Q (effK H (apA ρ 0 H e sz by_ x y) K) := by
  rcases h with h | h
  · obtain ⟨x', f, ea, G, fr, hl⟩ := h.append hy hne hs hb hb2
    rw [ea, effK_on]
    refine hk x' _ G (fr.mono fun _ _ q => q.elim) (fun l q => Or.inr (hl l q)) ?_
    cases x' <;> first | exact G.elim | rfl
  · exact Ret.app h hy hs hb hb2 hk
theorem u8n (n : Nat) : wrapK .u8 (n : Int) = ((UInt8.ofNat n).toNat : Int) := by
  rw [UInt8.toNat_ofNat']
  show ((n : Int) % 256) = _
  omega
theorem tmodN (n m : Nat) : (n : Int).tmod (m : Int) = ((n % m : Nat) : Int) := rfl
theorem tdivN (n m : Nat) (h : n < 9223372036854775808) : wrapK .i64 ((n : Int).tdiv (m : Int)) = ((n / m : Nat) : Int) := wrap_nat (n / m) (Nat.lt_of_le_of_lt (Nat.div_le_self _ _) h)
end
end Go.Ev
