/- Part 3: EvBy EvQu SnA SnP SnM. -/
import Derived.Test.YtnkeebchblfbgaaDoorBnB
-- part EvBy
/- EvBy: texts as lists of bytes. -/
set_option linter.unusedVariables false
set_option linter.unusedSimpArgs false
namespace Go.Ev
open Go.RowKit
def ba (l : List UInt8) : ByteArray := ⟨l.toArray⟩
def bs (s : ByteArray) : List UInt8 := s.data.toList
theorem bs_ba (l : List UInt8) : bs (ba l) = l := rfl
theorem ba_bs (s : ByteArray) : ba (bs s) = s := by
  apply ByteArray.ext
  show s.data.toList.toArray = s.data
  simp
theorem ba_size (l : List UInt8) : (ba l).size = l.length := by
  show l.toArray.size = _
  simp
theorem bs_len (s : ByteArray) : (bs s).length = s.size := by
  show s.data.toList.length = s.data.size
  simp
theorem ba_inj {a b : List UInt8} : ba a = ba b ↔ a = b := ⟨fun h => congrArg bs h, fun h => by rw [h]⟩
theorem ba_app (a b : List UInt8) : ba a ++ ba b = ba (a ++ b) := by
  apply ByteArray.ext
  simp [ba]
theorem ba_cut (l : List UInt8) (i j : Nat) : (ba l).extract i j = ba ((l.drop i).take (j - i)) := by
  apply ByteArray.ext
  rw [ByteArray.data_extract]
  simp only [ba]
  apply Array.toList_inj.1
  rw [Array.toList_extract]
theorem emp1 : ByteArray.mk #[] = ba [] := rfl
theorem emp2 : ByteArray.empty = ba [] := rfl
theorem lenT_ba (l : List UInt8) : lenT (.str (ba l)) = some (.int .i64 l.length) := by rw [lenT_str, ba_size]
theorem ixT_ba (l : List UInt8) (k : IntKind) (i : Nat) (h : i < l.length) : ixT (.str (ba l)) (.int k i) = some (.int .u8 l[i].toNat) := by
  have hs : (i : Int).toNat < (ba l).size := by rw [ba_size, Int.toNat_natCast]; exact h
  rw [ixT_str _ _ _ (by omega) hs]
  rfl
theorem slT_ba (l : List UInt8) (lo hi : Nat) (h1 : lo ≤ hi) (h2 : hi ≤ l.length) (k k' : IntKind) : slT (.str (ba l)) (some (.int k lo)) (some (.int k' hi)) = some (.str (ba ((l.drop lo).take (hi - lo)))) := by
  have a1 : decide ((0 : Int) ≤ hi) = true := by simp
  have a2 : decide ((hi : Int) ≤ ((ba l).size : Nat)) = true := by rw [ba_size]; simp; omega
  have a3 : decide ((0 : Int) ≤ lo) = true := by simp
  have a4 : decide ((lo : Int) ≤ hi) = true := by simp; omega
  simp only [slT, boundsA, Option.bind_some, boundA, asInt, a1, a2, a3, a4, Bool.and_self, cond_true, Int.toNat_natCast, Option.map_some, ba_cut]
theorem slT_hi (l : List UInt8) (hi : Nat) (h2 : hi ≤ l.length) (k' : IntKind) : slT (.str (ba l)) none (some (.int k' hi)) = some (.str (ba (l.take hi))) := by
  have a1 : decide ((0 : Int) ≤ hi) = true := by simp
  have a2 : decide ((hi : Int) ≤ ((ba l).size : Nat)) = true := by rw [ba_size]; simp; omega
  simp only [slT, boundsA, Option.bind_some, boundA, asInt, a1, a2, Bool.and_self, cond_true, Int.toNat_natCast, Option.map_some, ba_cut, List.drop_zero, Nat.sub_zero]
theorem slT_lo (l : List UInt8) (lo : Nat) (h2 : lo ≤ l.length) (k' : IntKind) : slT (.str (ba l)) (some (.int k' lo)) none = some (.str (ba (l.drop lo))) := by
  have a1 : decide ((0 : Int) ≤ lo) = true := by simp
  have a2 : decide ((lo : Int) ≤ (l.length : Nat)) = true := by simp; omega
  have e : ((l.drop lo).take (l.length - lo)) = l.drop lo := List.take_of_length_le (by simp)
  simp only [slT, boundsA, Option.bind_some, boundA, asInt, a1, a2, Bool.and_self, cond_true, Int.toNat_natCast, Option.map_some, ba_cut, ba_size, e]
theorem bin_scatB (P : Program) (H : Heap) (t : TypeId) (a b : List UInt8) (h : a.length + b.length ≤ 9223372036854775807) : binA P H .add t (.str (ba a)) (.str (ba b)) = some (.str (ba (a ++ b))) := by
  rw [bin_scat _ _ _ _ _ (by rw [ba_size, ba_size]; exact h), ba_app]
theorem ba_toList (l : List UInt8) : (ba l).toList = l := by rw [ByteArray.toList_eq]; rfl
theorem bin_seqB (P : Program) (H : Heap) (t : TypeId) (a b : List UInt8) : binA P H .eql t (.str (ba a)) (.str (ba b)) = some (.bool (decide (a = b))) := by
  rw [bin_seql]; simp only [ba_inj]
theorem bin_sneB (P : Program) (H : Heap) (t : TypeId) (a b : List UInt8) : binA P H .neq t (.str (ba a)) (.str (ba b)) = some (.bool (decide (a ≠ b))) := by
  rw [bin_sneq]; simp only [ne_eq, ba_inj]
theorem bin_sgeB (P : Program) (H : Heap) (t : TypeId) (a b : List UInt8) : binA P H .geq t (.str (ba a)) (.str (ba b)) = some (.bool (!Op.bytesLess a b)) := by
  simp only [binA, strA, ba_toList]
theorem bin_sltB (P : Program) (H : Heap) (t : TypeId) (a b : List UInt8) : binA P H .lss t (.str (ba a)) (.str (ba b)) = some (.bool (Op.bytesLess a b)) := by
  simp only [binA, strA, ba_toList]
/-- Bytes as elements of a slice. -/
def brow (l : List UInt8) : List (List AV) := l.map fun b => [byteCell b]
theorem brow_len (l : List UInt8) : (brow l).length = l.length := List.length_map ..
theorem brow_app (a b : List UInt8) : brow (a ++ b) = brow a ++ brow b := List.map_append ..
theorem brow_flat : ∀ l : List UInt8, (brow l).flatten = l.map byteCell
  | [] => rfl
  | b :: l => by
    have : (brow (b :: l)).flatten = [byteCell b] ++ (brow l).flatten := rfl
    rw [this, brow_flat l]; rfl
theorem brow_solid (l : List UInt8) : ∀ r ∈ brow l, r.all AV.solid = true := by
  intro r hr
  obtain ⟨b, _, rfl⟩ := List.mem_map.1 hr; rfl
theorem brow_one (l : List UInt8) : ∀ r ∈ brow l, r.length = 1 := by
  intro r hr
  obtain ⟨b, _, rfl⟩ := List.mem_map.1 hr; rfl
theorem bytesOf_map : ∀ l : List UInt8, bytesOfA (l.map byteCell) = some l
  | [] => rfl
  | b :: l => by
    have h1 : (0 : Int) ≤ (b.toNat : Int) := by omega
    have h2 : (b.toNat : Int) < 256 := by have := b.toNat_lt; omega
    rw [List.map_cons]
    unfold byteCell
    simp only [bytesOfA, h1, h2, decide_true, Bool.and_self, cond_true]
    have := bytesOf_map l
    unfold byteCell at this
    rw [this]
    simp
section
variable {ρ : Addr → Option Value} {H H' : Heap} {e sz : Nat} {x y : AV} {els ys : List (List AV)} {Q : AV → Heap → Prop} {K : AV → Heap → Res}
theorem b2s_brow {l : List UInt8} (h : Els ρ H 1 y (brow l)) (hy : ∀ m, y ≠ .sx m) : b2s ρ H y = some (.str (ba l)) := by
  have e1 := h.lenA
  have e2 := h.frst
  rw [brow_flat] at e2
  rw [brow_len] at e1 e2
  cases y with
  | nils =>
    have : brow l = [] := h
    have : l = [] := by simpa [brow] using this
    subst this; rfl
  | sl l' v o n' c m => simp only [b2s, e1, Option.bind_some, e2, bytesOf_map, Option.map_some]; rfl
  | xs a n' c => simp only [b2s, e1, Option.bind_some, e2, bytesOf_map, Option.map_some]; rfl
  | sx m => exact absurd rfl (hy m)
  | _ => exact h.elim
theorem slS_notSx {l v o n c : Nat} {a b : Option AV} {y : AV} (h : slS sz (.sl l v o n c false) a b none = some y) (m : Nat) : y ≠ .sx m := by
  rintro rfl
  revert h
  simp only [slS, sliceSl]
  cases Nat.ble n c with
  | false => simp
  | true => cases boundsA n c a b none <;> simp
theorem lenA_str (l : List UInt8) : lenA (.str (ba l)) = some l.length := by simp [lenA, ba_size]
theorem frst_str (l : List UInt8) : frst ρ H 1 l.length (.str (ba l)) = some (brow l).flatten := by
  rw [brow_flat]
  simp only [frst, ba_cut, List.drop_zero, Nat.sub_zero, List.take_length]
  rfl
/-- A text's bytes are appended. -/
theorem Grow.appStr {by_ : Nat} {a l : List UInt8} (h : Grow H e 1 x (brow a)) (hb : (a.length + l.length) * by_ ≤ 70368744177664) (hb2 : a.length + l.length ≤ 70368744177664) :
    ∃ x' f, apA ρ 0 H e 1 by_ x (.str (ba l)) = some (x', f) ∧ Grow (f.on H) e 1 x' (brow (a ++ l)) ∧ Fr x.lies H (f.on H) ∧ ∀ t, x'.lies t → x.lies t ∨ H.sz ≤ t := by
  -- as if they lay in a slice of their own
  have hsol : (brow l).flatten.all AV.solid = true := by
    rw [brow_flat, List.all_eq_true]; intro z hz
    obtain ⟨b, _, rfl⟩ := List.mem_map.1 hz; rfl
  have hlen := els_length (brow l) 1 (brow_one l)
  rw [brow_len] at hlen
  simp only [apA, lenA_str, Option.bind_some, frst_str, hsol, hlen, beq_self_eq_true, Bool.and_self, Bool.not_true, cond_false]
  cases x with
  | nils =>
    have : brow a = [] := h
    have ha : a = [] := by simpa [brow] using this
    subst ha
    by_cases h0 : l.length = 0
    · have : l = [] := List.eq_nil_of_length_eq_zero h0
      subst this
      exact ⟨.nils, .nothing, rfl, Grow.nils .., Fr.refl .., fun l q => Or.inl q⟩
    · have h0' : (l.length == 0) = false := by simpa using h0
      simp only [h0', cond_false, growN_of (by_ := by_) (n := l.length) (by simpa using hb) (by simpa using hb2), cond_true]
      refine ⟨_, _, rfl, ⟨rfl, by simp [brow_len], rfl, rfl, by simp [Eff.on, Heap.sz_new], brow_one _, true, ?_⟩, Fr.new _ H _, fun t q => Or.inr (by have e : H.sz = t := q; omega)⟩
      simp [Eff.on, newCells, Heap.get_new]
  | sl t v o n c m =>
    obtain ⟨rfl, rfl, rfl, rfl, hl, h5, g, hg⟩ := h
    have hel := els_length (brow a) 1 h5
    simp only [apSl]
    by_cases h0 : l.length = 0
    · have : l = [] := List.eq_nil_of_length_eq_zero h0
      subst this
      simp only [List.length_nil, Nat.add_zero, Nat.le_refl, decide_true, cond_true]
      rw [storeN_of (vs := (brow []).flatten) _ hg (by rw [hel]; simp [brow]) rfl]
      refine ⟨_, _, rfl, ⟨rfl, by simp, rfl, rfl, hl, by simpa using h5, g, ?_⟩, Fr.put H t _ (fun _ => rfl), fun t q => Or.inl q⟩
      simp [Eff.on, Heap.get_put, layA, brow]
    · have h0' : decide ((brow a).length + l.length ≤ (brow a).length) = false := by simp; omega
      have hb1 : Nat.ble 0 t = true := Nat.ble_eq_true_of_le (by omega)
      have hg1 := growN_of (by_ := by_) (n := (brow a).length + l.length) (by rw [brow_len]; exact hb) (by rw [brow_len]; exact hb2)
      simp only [h0', cond_false, hg1, Bool.not_true, cond_true, hg, hb1, Nat.beq_refl, beq_self_eq_true, hel, Bool.and_self, Nat.ble_eq_true_of_le (Nat.le_refl _)]
      refine ⟨_, _, rfl, ⟨rfl, by simp [brow_len], rfl, rfl, hl, brow_one _, true, ?_⟩, Fr.put H t _ (fun _ => rfl), fun t q => Or.inl q⟩
      have ht : (brow a).flatten.take ((brow a).length * 1) = (brow a).flatten := List.take_of_length_le (by omega)
      simp only [Eff.on, Heap.get_put, if_pos, ht, brow_app, List.flatten_append]
  | _ => exact h.elim
theorem Ret.appS {by_ : Nat} {a l : List UInt8} (h : Grow H e 1 x (brow a)) (hb : (a.length + l.length) * by_ ≤ 70368744177664) (hb2 : a.length + l.length ≤ 70368744177664)
    (hk : ∀ x' H', Grow H' e 1 x' (brow (a ++ l)) → Fr x.lies H H' → (∀ t, x'.lies t → x.lies t ∨ H.sz ≤ t) → scal x' = true → Ret Q (K x' H')) : Ret Q (effK H (apA ρ 0 H e 1 by_ x (.str (ba l))) K) := by
  obtain ⟨x', f, ea, G, fr, hl⟩ := h.appStr (ρ := ρ) (l := l) hb hb2
  rw [ea, effK_on]
  refine hk x' _ G fr hl ?_
  cases x' <;> first | exact G.elim | rfl
/-- A slice that is full: an append lays it anew. -/
def Full (H : Heap) (e sz : Nat) (x : AV) (els : List (List AV)) : Prop := match x with
  | .sl l v o n c m => o = 0 ∧ n = els.length ∧ c = n ∧ m = false ∧ l < H.sz ∧ (∀ r ∈ els, r.length = sz) ∧ ∃ fr g, H.get l = .cells v e fr g els.flatten
  | _ => False
theorem Full.toEls (h : Full H e sz x els) : Els ρ H sz x els := by
  cases x with
  | sl l v o n c m =>
    obtain ⟨rfl, rfl, rfl, rfl, hl, hs, fr, g, hg⟩ := h
    exact Els.of_cells hl hg hs
  | _ => exact h.elim
theorem Full.frame (h : Full H e sz x els) (S : Nat → Prop) (f : Fr S H H') (hs : ∀ l, x.lies l → ¬ S l) : Full H' e sz x els := by
  cases x with
  | sl l v o n c m =>
    obtain ⟨h1, h2, h3, h4, hl, h5, fr, g, hg⟩ := h
    exact ⟨h1, h2, h3, h4, Nat.lt_of_lt_of_le hl f.sz, h5, fr, g, by rw [f.get l hl (hs l rfl), hg]⟩
  | _ => exact h.elim
theorem Full.append {by_ : Nat} (h : Full H e sz x els) (hy : Els ρ H sz y ys) (hne : ys ≠ []) (hs : ∀ r ∈ ys, r.all AV.solid = true) (hb : (els.length + ys.length) * by_ ≤ 70368744177664) (hb2 : els.length + ys.length ≤ 70368744177664) :
    ∃ x' f, apA ρ 0 H e sz by_ x y = some (x', f) ∧ Grow (f.on H) e sz x' (els ++ ys) ∧ Fr Nop H (f.on H) ∧ ∀ l, x'.lies l → H.sz ≤ l := by
  have hE := h.toEls (ρ := ρ)
  have hsol : ys.flatten.all AV.solid = true := by
    rw [List.all_eq_true]; intro a ha
    obtain ⟨r, hr, har⟩ := List.mem_flatten.1 ha
    exact List.all_eq_true.1 (hs r hr) a har
  have hlr : ∀ r ∈ ys, r.length = sz := fun r hr => by obtain ⟨i, hi, rfl⟩ := List.mem_iff_getElem.1 hr; exact hy.len_el i hi
  have hlen := els_length ys sz hlr
  have h0 : 0 < ys.length := List.length_pos_iff.2 hne
  simp only [apA, hy.lenA, Option.bind_some, hy.frst, hsol, hlen, beq_self_eq_true, Bool.and_self, Bool.not_true, cond_false]
  cases x with
  | sl l v o n c m =>
    obtain ⟨rfl, rfl, rfl, rfl, hl, h5, fr, g, hg⟩ := h
    have h1 : decide (els.length + ys.length ≤ els.length) = false := by simp; omega
    have hf := hE.frst
    simp only [apSl, h1, cond_false, growN_of (by_ := by_) hb hb2, Bool.not_true, hf, Option.map_some]
    refine ⟨_, _, rfl, ⟨rfl, by simp, rfl, rfl, by simp [Eff.on, Heap.sz_new], ?_, true, ?_⟩, Fr.new Nop H _, fun l q => ?_⟩
    · intro r hr; rcases List.mem_append.1 hr with q | q
      · exact h5 r q
      · exact hlr r q
    · simp [Eff.on, newCells, Heap.get_new]
    · have e : H.sz = l := q; omega
  | _ => exact h.elim
/-- It grows, or is full. -/
def GF (H : Heap) (e sz : Nat) (x : AV) (els : List (List AV)) : Prop := Full H e sz x els ∨ Grow H e sz x els
theorem GF.toEls (h : GF H e sz x els) : Els ρ H sz x els := h.elim Full.toEls Grow.toEls
theorem GF.frame (h : GF H e sz x els) (S : Nat → Prop) (f : Fr S H H') (hs : ∀ l, x.lies l → ¬ S l) : GF H' e sz x els := h.elim (fun h => Or.inl (h.frame S f hs)) (fun h => Or.inr (h.frame S f hs))
theorem GF.notSx (h : GF H e sz x els) (n : Nat) : x ≠ .sx n := by
  rcases h with h | h
  · rintro rfl; exact h
  · exact h.notSx n
theorem Ret.appF {by_ : Nat} (h : GF H e sz x els) (hy : Els ρ H sz y ys) (hne : ys ≠ []) (hs : ∀ r ∈ ys, r.all AV.solid = true) (hb : (els.length + ys.length) * by_ ≤ 70368744177664) (hb2 : els.length + ys.length ≤ 70368744177664)
    (hk : ∀ x' H', Grow H' e sz x' (els ++ ys) → Fr x.lies H H' → (∀ l, x'.lies l → x.lies l ∨ H.sz ≤ l) → scal x' = true → Ret Q (K x' H')) : Ret Q (effK H (apA ρ 0 H e sz by_ x y) K) := by
  rcases h with h | h
  · obtain ⟨x', f, ea, G, fr, hl⟩ := h.append hy hne hs hb hb2
    rw [ea, effK_on]
    refine hk x' _ G (fr.mono fun _ _ q => q.elim) (fun l q => Or.inr (hl l q)) ?_
    cases x' <;> first | exact G.elim | rfl
  · exact Ret.app h hy hs hb hb2 hk
theorem u8n (n : Nat) : wrapK .u8 (n : Int) = ((UInt8.ofNat n).toNat : Int) := by
  rw [UInt8.toNat_ofNat']
  show ((n : Int) % 256) = _
  omega
theorem tmodN (n m : Nat) : (n : Int).tmod (m : Int) = ((n % m : Nat) : Int) := rfl
theorem tdivN (n m : Nat) (h : n < 9223372036854775808) : wrapK .i64 ((n : Int).tdiv (m : Int)) = ((n / m : Nat) : Int) := wrap_nat (n / m) (Nat.lt_of_le_of_lt (Nat.div_le_self _ _) h)
end
end Go.Ev

-- part EvQu
/- EvQu: a text's word, and a word's text, as plain lists of bytes. -/
set_option linter.unusedVariables false
set_option linter.unusedSimpArgs false
namespace Go.Ev
open Go.RowKit
/-- A byte that stands in a word as it is. -/
def plainB (c : UInt8) : Bool := decide (33 ≤ c.toNat) && decide (c.toNat ≤ 126) && decide (c.toNat ≠ 37)
def dig (n : Nat) : UInt8 := UInt8.ofNat (if n < 10 then 48 + n else 55 + n)
def qb (c : UInt8) : List UInt8 := if plainB c = true then [c] else [37, dig (c.toNat / 16), dig (c.toNat % 16)]
def quoteL (s : List UInt8) : List UInt8 := 61 :: s.flatMap qb
def worth (c : UInt8) : Option Nat := if 48 ≤ c.toNat ∧ c.toNat ≤ 57 then some (c.toNat - 48) else if 65 ≤ c.toNat ∧ c.toNat ≤ 70 then some (c.toNat - 55) else none
/-- The byte of two digits, if it may be told so. -/
def hexB (a b : UInt8) : Option UInt8 := match worth a, worth b with
  | some x, some y => if plainB (UInt8.ofNat (16 * x + y)) = true then none else some (UInt8.ofNat (16 * x + y))
  | _, _ => none
/-- One byte off the front of a word's rest: how many bytes it took, or none. -/
def unq1 (l : List UInt8) : Option (UInt8 × List UInt8) := match l with
  | [] => none
  | c :: r => if c = 37 then (match r with | a :: b :: q => (hexB a b).map fun d => (d, q) | _ => none) else if plainB c = true then some (c, r) else none
def unqN : Nat → List UInt8 → Option (List UInt8)
  | _, [] => some []
  | 0, _ :: _ => none
  | n + 1, l => match unq1 l with
    | some (d, q) => (unqN n q).map (d :: ·)
    | none => none
def unq (l : List UInt8) : Option (List UInt8) := unqN l.length l
def unquoteL (w : List UInt8) : Option (List UInt8) := match w with
  | c :: r => if c = 61 then unq r else none
  | [] => none
theorem unq1_len {l q : List UInt8} {d : UInt8} (h : unq1 l = some (d, q)) : q.length < l.length := by
  unfold unq1 at h
  match l, h with
  | c :: r, h =>
    simp only at h
    split at h
    · match r, h with
      | a :: b :: q', h =>
        simp only [Option.map_eq_some_iff, Prod.mk.injEq] at h
        obtain ⟨_, _, _, rfl⟩ := h
        simp; omega
    · split at h
      · simp only [Option.some.injEq, Prod.mk.injEq] at h
        obtain ⟨_, rfl⟩ := h
        simp
      · cases h
theorem unqN_fuel : ∀ (n m : Nat) (l : List UInt8), l.length ≤ n → l.length ≤ m → unqN n l = unqN m l
  | n, m, [], _, _ => by cases n <;> cases m <;> rfl
  | 0, m, c :: l, h, _ => by simp at h
  | n + 1, 0, c :: l, _, h => by simp at h
  | n + 1, m + 1, c :: l, hn, hm => by
    rw [unqN, unqN]
    · cases hu : unq1 (c :: l) with
      | none => rfl
      | some p =>
        obtain ⟨d, q⟩ := p
        have := unq1_len hu
        simp only [unqN_fuel n m q (by omega) (by omega)]
    · simp
    · simp
theorem unq_nil : unq [] = some [] := rfl
theorem unq_step {l q : List UInt8} {d : UInt8} (h : unq1 l = some (d, q)) : unq l = (unq q).map (d :: ·) := by
  have hl := unq1_len h
  match l, h, hl with
  | c :: r, h, hl =>
    unfold unq
    rw [List.length_cons, unqN, h]
    · simp only
      rw [unqN_fuel r.length q.length q (by simp at hl; omega) (Nat.le_refl _)]
    · simp
theorem unq_none {l : List UInt8} (hl : l ≠ []) (h : unq1 l = none) : unq l = none := by
  match l, hl, h with
  | c :: r, _, h =>
    unfold unq
    rw [List.length_cons, unqN, h]
    simp
theorem byte_all {P : UInt8 → Prop} [DecidablePred P] (h : ∀ n : Fin 256, P (UInt8.ofNat n.val)) (c : UInt8) : P c := by
  have := h ⟨c.toNat, c.toNat_lt⟩
  simpa using this
theorem hex_qb (c : UInt8) : plainB c = true ∨ hexB (dig (c.toNat / 16)) (dig (c.toNat % 16)) = some c :=
  byte_all (P := fun c => plainB c = true ∨ hexB (dig (c.toNat / 16)) (dig (c.toNat % 16)) = some c) (by decide +kernel) c
theorem plain37 (c : UInt8) (h : plainB c = true) : c ≠ 37 := by
  rintro rfl
  revert h; decide
theorem unq1_qb (c : UInt8) (r : List UInt8) : unq1 (qb c ++ r) = some (c, r) := by
  unfold qb
  by_cases h : plainB c = true
  · rw [if_pos h]
    simp [unq1, plain37 c h, h]
  · rw [if_neg h]
    have := (hex_qb c).resolve_left h
    simp [unq1, this]
theorem unq_quote : ∀ s : List UInt8, unq (s.flatMap qb) = some s
  | [] => rfl
  | c :: s => by
    rw [List.flatMap_cons, unq_step (unq1_qb c _), unq_quote s]; rfl
theorem unquote_quote (s : List UInt8) : unquoteL (quoteL s) = some s := by
  unfold unquoteL quoteL
  simp [unq_quote]
theorem worth_dig {a : UInt8} {x : Nat} (h : worth a = some x) : x < 16 ∧ dig x = a := by
  have := byte_all (P := fun a => (worth a).all (fun x => decide (x < 16) && decide (dig x = a)) = true) (by decide +kernel) a
  rw [h] at this
  simpa using this
theorem unq1_back {l q : List UInt8} {d : UInt8} (h : unq1 l = some (d, q)) : l = qb d ++ q := by
  unfold unq1 at h
  match l, h with
  | c :: r, h =>
    simp only at h
    split at h
    · rename_i hc
      match r, h with
      | a :: b :: q', h =>
        simp only [Option.map_eq_some_iff, Prod.mk.injEq] at h
        obtain ⟨e, he, rfl, rfl⟩ := h
        unfold hexB at he
        cases ha : worth a with
        | none => rw [ha] at he; simp at he
        | some x =>
          cases hb : worth b with
          | none => rw [ha, hb] at he; simp at he
          | some y =>
            rw [ha, hb] at he
            simp only at he
            split at he
            · cases he
            · rename_i hp
              simp only [Option.some.injEq] at he
              obtain ⟨x16, dx⟩ := worth_dig ha
              obtain ⟨y16, dy⟩ := worth_dig hb
              subst he
              have en : (UInt8.ofNat (16 * x + y)).toNat = 16 * x + y := by rw [UInt8.toNat_ofNat']; omega
              unfold qb
              rw [if_neg hp, en, show (16 * x + y) / 16 = x by omega, show (16 * x + y) % 16 = y by omega, dx, dy, hc]
              rfl
    · split at h
      · rename_i hp
        simp only [Option.some.injEq, Prod.mk.injEq] at h
        obtain ⟨rfl, rfl⟩ := h
        unfold qb
        rw [if_pos hp]; rfl
      · cases h
theorem unqN_back : ∀ (n : Nat) (l u : List UInt8), unqN n l = some u → l = u.flatMap qb
  | n, [], u, h => by
    have : u = [] := by cases n <;> simp [unqN] at h <;> exact h.symm ▸ rfl
    subst this; rfl
  | 0, c :: l, u, h => by simp [unqN] at h
  | n + 1, c :: l, u, h => by
    rw [unqN] at h
    · cases hu : unq1 (c :: l) with
      | none => rw [hu] at h; cases h
      | some p =>
        obtain ⟨d, q⟩ := p
        rw [hu] at h
        simp only [Option.map_eq_some_iff] at h
        obtain ⟨u', hu', rfl⟩ := h
        rw [unq1_back hu, List.flatMap_cons, ← unqN_back n q u' hu']
    · simp
theorem quote_unquote {w u : List UInt8} (h : unquoteL w = some u) : quoteL u = w := by
  unfold unquoteL at h
  match w, h with
  | c :: r, h =>
    simp only at h
    split at h
    · rename_i hc
      rw [quoteL, ← unqN_back _ _ _ h, hc]
    · cases h
end Go.Ev

-- part SnA
/- SnA: decimal numbers as lists of bytes. -/
set_option linter.unusedVariables false
set_option linter.unusedSimpArgs false
namespace Go.Ev
def dg (n : Nat) : UInt8 := UInt8.ofNat (48 + n % 10)
/-- n digits; zeros ahead are kept. -/
def fixD : Nat → Nat → List UInt8
  | 0, _ => []
  | n + 1, u => fixD n (u / 10) ++ [dg u]
def valD : List UInt8 → Nat → Nat
  | [], a => a
  | c :: l, a => valD l (10 * a + (c.toNat - 48))
def isD (c : UInt8) : Bool := decide (48 ≤ c.toNat) && decide (c.toNat ≤ 57)
def canon (w : List UInt8) : Prop := w ≠ [] ∧ w.all isD = true ∧ (w.length = 1 ∨ w.head? ≠ some 48)
instance (w : List UInt8) : Decidable (canon w) := by unfold canon; infer_instance
def numM (w : List UInt8) (most : Nat) : Option Nat := if canon w ∧ valD w 0 ≤ most then some (valD w 0) else none
def ndig (u : Nat) : Nat := if h : u < 10 then 1 else ndig (u / 10) + 1
decreasing_by omega
def decL (u : Nat) : List UInt8 := fixD (ndig u) u
theorem dg_nat (n : Nat) : (dg n).toNat = 48 + n % 10 := by
  unfold dg
  rw [UInt8.toNat_ofNat']
  omega
theorem dg_mod (n : Nat) : dg (n % 10) = dg n := by unfold dg; rw [Nat.mod_mod]
theorem isD_dg (n : Nat) : isD (dg n) = true := by
  unfold isD
  rw [dg_nat]
  simp
  omega
theorem isD_iff (c : UInt8) : isD c = true ↔ 48 ≤ c.toNat ∧ c.toNat ≤ 57 := by unfold isD; simp
theorem dg_of (c : UInt8) (h : isD c = true) (a : Nat) : dg (10 * a + (c.toNat - 48)) = c := by
  have := (isD_iff c).1 h
  apply UInt8.toNat_inj.1
  rw [dg_nat]
  omega
theorem fixD_len : ∀ n u, (fixD n u).length = n
  | 0, _ => rfl
  | n + 1, u => by rw [fixD, List.length_append, fixD_len n]; rfl
theorem fixD_all : ∀ n u, (fixD n u).all isD = true
  | 0, _ => rfl
  | n + 1, u => by rw [fixD, List.all_append, fixD_all n, List.all_cons, isD_dg]; rfl
theorem valD_app : ∀ (l m : List UInt8) (a : Nat), valD (l ++ m) a = valD m (valD l a)
  | [], _, _ => rfl
  | c :: l, m, a => by rw [List.cons_append, valD, valD, valD_app l m]
theorem valD_snoc (l : List UInt8) (c : UInt8) (a : Nat) : valD (l ++ [c]) a = 10 * valD l a + (c.toNat - 48) := by
  rw [valD_app]; rfl
theorem valD_fix : ∀ n u a, valD (fixD n u) a = a * 10 ^ n + u % 10 ^ n
  | 0, u, a => by simp [fixD, valD, Nat.mod_one]
  | n + 1, u, a => by
    rw [fixD, valD_snoc, valD_fix n, dg_nat, Nat.pow_succ, Nat.mul_comm (10 ^ n) 10, Nat.mod_mul]
    rw [Nat.mul_add, ← Nat.mul_assoc, Nat.mul_comm 10 a, Nat.mul_assoc]
    omega
theorem snoc_of {α : Type} (l : List α) (h : l ≠ []) : ∃ m c, l = m ++ [c] := ⟨l.dropLast, l.getLast h, (List.dropLast_concat_getLast h).symm⟩
theorem fix_valD : ∀ (n : Nat) (l : List UInt8) (a : Nat), l.length = n → l.all isD = true → fixD n (valD l a) = l
  | 0, l, a, hl, _ => by rw [List.eq_nil_of_length_eq_zero hl]; rfl
  | n + 1, l, a, hl, hd => by
    obtain ⟨m, c, rfl⟩ := snoc_of l (by rintro rfl; simp at hl)
    rw [List.length_append, List.length_singleton] at hl
    rw [List.all_append, Bool.and_eq_true] at hd
    have hc : isD c = true := by simpa using hd.2
    have hc2 := (isD_iff c).1 hc
    rw [fixD, valD_snoc, dg_of c hc, show (10 * valD m a + (c.toNat - 48)) / 10 = valD m a by omega, fix_valD n m a (by omega) hd.1]
theorem ndig_of : ∀ (n u : Nat), 1 ≤ n → u < 10 ^ n → (n = 1 ∨ 10 ^ (n - 1) ≤ u) → ndig u = n
  | 0, _, h, _, _ => by omega
  | 1, u, _, h, _ => by unfold ndig; rw [dif_pos (by simpa using h)]
  | n + 2, u, _, h, hl => by
    have hl' : 10 ^ (n + 1) ≤ u := by rcases hl with q | q; · omega
                                      · simpa using q
    have h10 : 10 ^ (n + 1) = 10 * 10 ^ n := by rw [Nat.pow_succ, Nat.mul_comm]
    have h20 : 10 ^ (n + 2) = 10 * 10 ^ (n + 1) := by rw [Nat.pow_succ, Nat.mul_comm]
    have hp : 0 < 10 ^ n := Nat.pow_pos (by omega)
    unfold ndig
    rw [dif_neg (by omega), ndig_of (n + 1) (u / 10) (by omega) (by omega) (by
      by_cases hn : n = 0
      · exact Or.inl (by omega)
      · right
        rw [show n + 1 - 1 = n by omega]
        omega)]
theorem ndig_spec : ∀ (u : Nat), 1 ≤ ndig u ∧ u < 10 ^ ndig u ∧ (ndig u = 1 ∨ 10 ^ (ndig u - 1) ≤ u) := by
  intro u
  induction u using Nat.strongRecOn with
  | _ u ih =>
    unfold ndig
    split
    · exact ⟨by omega, by simpa, Or.inl rfl⟩
    · obtain ⟨h1, h2, h3⟩ := ih (u / 10) (by omega)
      refine ⟨by omega, by rw [Nat.pow_succ]; omega, Or.inr ?_⟩
      rw [Nat.add_sub_cancel]
      rcases h3 with h3 | h3
      · rw [h3]; omega
      · have : 10 ^ ndig (u / 10) = 10 ^ (ndig (u / 10) - 1) * 10 := by rw [← Nat.pow_succ]; congr 1; omega
        omega
theorem valD_lt : ∀ (l : List UInt8), l.all isD = true → valD l 0 < 10 ^ l.length := by
  intro l hd
  have := valD_fix l.length (valD l 0) 0
  rw [fix_valD _ _ _ rfl hd] at this
  rw [this, Nat.zero_mul, Nat.zero_add]
  exact Nat.mod_lt _ (Nat.pow_pos (by omega))
theorem valD_mono : ∀ (l : List UInt8) (a b : Nat), a ≤ b → valD l a ≤ valD l b
  | [], _, _, h => h
  | c :: l, a, b, h => valD_mono l _ _ (by omega)
theorem valD_ge : ∀ (l : List UInt8) (a : Nat), a * 10 ^ l.length ≤ valD l a
  | [], a => by simp [valD]
  | c :: l, a => by
    rw [valD, List.length_cons, Nat.pow_succ]
    refine Nat.le_trans ?_ (valD_ge l _)
    rw [Nat.mul_comm (10 ^ l.length) 10, ← Nat.mul_assoc, Nat.mul_comm a 10]
    exact Nat.mul_le_mul_right _ (by omega)
theorem dec_val (w : List UInt8) (h : canon w) : decL (valD w 0) = w := by
  obtain ⟨h1, h2, h3⟩ := h
  unfold decL
  have hl : 1 ≤ w.length := by rcases w with _ | ⟨c, w⟩; · exact absurd rfl h1
                               · simp
  rw [ndig_of w.length _ hl (valD_lt w h2), fix_valD _ _ _ rfl h2]
  rcases h3 with h3 | h3
  · exact Or.inl h3
  · right
    rcases w with _ | ⟨c, w⟩
    · exact absurd rfl h1
    · rw [List.all_cons, Bool.and_eq_true] at h2
      have hc := (isD_iff c).1 h2.1
      have : c.toNat ≠ 48 := fun e => h3 (by
        have : c = 48 := UInt8.toNat_inj.1 e
        rw [this]; rfl)
      rw [valD, List.length_cons, Nat.add_sub_cancel]
      refine Nat.le_trans ?_ (valD_ge w _)
      exact Nat.le_mul_of_pos_left _ (by omega)
theorem dec_canon (u : Nat) : canon (decL u) := by
  obtain ⟨h1, h2, h3⟩ := ndig_spec u
  refine ⟨fun e => ?_, fixD_all .., ?_⟩
  · have := congrArg List.length e
    rw [decL, fixD_len] at this
    simp at this; omega
  · rw [decL, fixD_len]
    rcases h3 with h3 | h3
    · exact Or.inl h3
    · by_cases h1' : ndig u = 1
      · exact Or.inl h1'
      · right
        intro e
        have hv := valD_fix (ndig u) u 0
        rw [Nat.zero_mul, Nat.zero_add, Nat.mod_eq_of_lt h2] at hv
        have hl := fixD_len (ndig u) u
        have ha := fixD_all (ndig u) u
        generalize fixD (ndig u) u = w at e hv hl ha
        rcases w with _ | ⟨c, w⟩
        · simp at e
        · simp only [List.head?_cons, Option.some.injEq] at e
          subst e
          rw [valD] at hv
          have : valD w (10 * 0 + ((48 : UInt8).toNat - 48)) < 10 ^ w.length := valD_lt w (by rw [List.all_cons, Bool.and_eq_true] at ha; exact ha.2)
          rw [hv] at this
          rw [List.length_cons] at hl
          rw [← hl, Nat.add_sub_cancel] at h3
          omega
theorem val_dec (u : Nat) : valD (decL u) 0 = u := by
  obtain ⟨h1, h2, h3⟩ := ndig_spec u
  rw [decL, valD_fix, Nat.zero_mul, Nat.zero_add, Nat.mod_eq_of_lt h2]
theorem numM_dec (u most : Nat) (h : u ≤ most) : numM (decL u) most = some u := by
  unfold numM
  rw [if_pos ⟨dec_canon u, by rw [val_dec]; exact h⟩, val_dec]
/-- What the program asks. -/
theorem numM_iff (w : List UInt8) (most n : Nat) : numM w most = some n ↔ (w ≠ [] ∧ w.all isD = true ∧ valD w 0 ≤ most ∧ decL (valD w 0) = w ∧ n = valD w 0) := by
  unfold numM
  constructor
  · intro h
    split at h
    · rename_i q
      exact ⟨q.1.1, q.1.2.1, q.2, dec_val w q.1, (Option.some.inj h).symm⟩
    · cases h
  · rintro ⟨h1, h2, h3, h4, rfl⟩
    have := dec_canon (valD w 0)
    rw [h4] at this
    rw [if_pos ⟨this, h3⟩]
end Go.Ev

-- part SnP
/- SnP: texts cut at a byte. -/
set_option linter.unusedVariables false
set_option linter.unusedSimpArgs false
namespace Go.Ev
def cutB (c : UInt8) : List UInt8 → List (List UInt8)
  | [] => [[]]
  | b :: l => if b = c then [] :: cutB c l else match cutB c l with
    | [] => [[b]]
    | w :: r => (b :: w) :: r
theorem cutB_ne (c : UInt8) : ∀ l, cutB c l ≠ []
  | [] => by simp [cutB]
  | b :: l => by
    unfold cutB
    split
    · simp
    · split <;> simp
theorem cutB_no (c : UInt8) : ∀ l : List UInt8, (∀ b ∈ l, b ≠ c) → cutB c l = [l]
  | [], _ => rfl
  | b :: l, h => by
    rw [cutB, if_neg (h b (by simp)), cutB_no c l fun b hb => h b (by simp [hb])]
theorem cutB_pre (c : UInt8) (r : List UInt8) : ∀ l : List UInt8, (∀ b ∈ l, b ≠ c) → cutB c (l ++ c :: r) = l :: cutB c r
  | [], _ => by rw [List.nil_append, cutB, if_pos rfl]
  | b :: l, h => by
    rw [List.cons_append, cutB, if_neg (h b (by simp)), cutB_pre c r l fun b hb => h b (by simp [hb])]
theorem cutB_len (c : UInt8) : ∀ l, (cutB c l).length ≤ l.length + 1
  | [] => by simp [cutB]
  | b :: l => by
    have := cutB_len c l
    unfold cutB
    split
    · simp only [List.length_cons]; omega
    · split
      · simp
      · rename_i w r e
        rw [e] at this
        simp only [List.length_cons] at this ⊢; omega
theorem cutB_word (c : UInt8) : ∀ l, ∀ w ∈ cutB c l, w.length ≤ l.length
  | [], w, h => by simp [cutB] at h; subst h; simp
  | b :: l, w, h => by
    unfold cutB at h
    split at h
    · rcases List.mem_cons.1 h with rfl | h
      · simp
      · have := cutB_word c l w h; simp only [List.length_cons]; omega
    · split at h
      · simp at h; subst h; simp
      · rename_i v r e
        rcases List.mem_cons.1 h with rfl | h
        · have := cutB_word c l v (by rw [e]; simp); simp only [List.length_cons]; omega
        · have := cutB_word c l w (by rw [e]; simp [h]); simp only [List.length_cons]; omega
/-- Where the first one stands. -/
theorem idx_cut (c : UInt8) : ∀ (l : List UInt8) (n : Nat), (idxF l c n = -1 ∧ cutB c l = [l] ∧ ∀ b ∈ l, b ≠ c) ∨ ∃ m : Nat, idxF l c n = ((n + m : Nat) : Int) ∧ m < l.length ∧ cutB c l = l.take m :: cutB c (l.drop (m + 1))
  | [], n => Or.inl ⟨rfl, rfl, fun _ h => by cases h⟩
  | b :: l, n => by
    by_cases h : b = c
    · subst h
      right
      refine ⟨0, ?_, by simp, ?_⟩
      · simp [idxF]
      · rw [cutB, if_pos rfl]; simp
    · have hb : Nat.beq b.toNat c.toNat = false := by
        cases q : Nat.beq b.toNat c.toNat with
        | false => rfl
        | true => exact absurd (UInt8.toNat_inj.1 (Nat.eq_of_beq_eq_true q)) h
      rcases idx_cut c l (n + 1) with ⟨h1, h2, h3⟩ | ⟨m, h1, h2, h3⟩
      · left
        refine ⟨by simp only [idxF, hb, cond_false, h1], by rw [cutB, if_neg h, h2], fun a ha => ?_⟩
        rcases List.mem_cons.1 ha with rfl | ha
        · exact h
        · exact h3 a ha
      · right
        refine ⟨m + 1, by simp only [idxF, hb, cond_false, h1]; congr 1; omega, by simp only [List.length_cons]; omega, ?_⟩
        rw [cutB, if_neg h, h3]; simp
theorem cnt_cut (c : UInt8) : ∀ (l : List UInt8) (n : Nat), cntF l c n + 1 = ((n + (cutB c l).length : Nat) : Int)
  | [], n => by simp [cntF, cutB]
  | b :: l, n => by
    by_cases h : b = c
    · subst h
      have := cnt_cut b l (n + 1)
      simp only [cntF, Nat.beq_refl, cond_true]
      rw [this, cutB, if_pos rfl, List.length_cons]; congr 1; omega
    · have hb : Nat.beq b.toNat c.toNat = false := by
        cases q : Nat.beq b.toNat c.toNat with
        | false => rfl
        | true => exact absurd (UInt8.toNat_inj.1 (Nat.eq_of_beq_eq_true q)) h
      have := cnt_cut c l n
      simp only [cntF, hb, cond_false]
      rw [this, cutB, if_neg h]
      split
      · rename_i e; exact absurd e (cutB_ne c l)
      · rename_i w r e; rw [e]; simp
def sc (ws : List (List UInt8)) : List AV := ws.map fun w => .str (ba w)
def srow (ws : List (List UInt8)) : List (List AV) := ws.map fun w => [.str (ba w)]
theorem srow_len (ws : List (List UInt8)) : (srow ws).length = ws.length := List.length_map ..
theorem srow_app (a b : List (List UInt8)) : srow (a ++ b) = srow a ++ srow b := List.map_append ..
theorem sc_len (ws : List (List UInt8)) : (sc ws).length = ws.length := List.length_map ..
theorem srow_solid (ws : List (List UInt8)) : ∀ r ∈ srow ws, r.all AV.solid = true := by
  intro r hr
  obtain ⟨b, _, rfl⟩ := List.mem_map.1 hr; rfl
theorem srow_one (ws : List (List UInt8)) : ∀ r ∈ srow ws, r.length = 1 := by
  intro r hr
  obtain ⟨b, _, rfl⟩ := List.mem_map.1 hr; rfl
theorem srow_flat : ∀ ws : List (List UInt8), (srow ws).flatten = sc ws
  | [] => rfl
  | w :: ws => by
    have : (srow (w :: ws)).flatten = [.str (ba w)] ++ (srow ws).flatten := rfl
    rw [this, srow_flat ws]; rfl
end Go.Ev

-- part SnM
/- SnM: steps of lines. -/
set_option linter.unusedVariables false
set_option linter.unusedSimpArgs false
namespace Go.Ev
abbrev Wd := List UInt8
def wRead : Wd := [114, 101, 97, 100]
def wPut : Wd := [112, 117, 116]
def wAdd : Wd := [97, 100, 100]
def wDel : Wd := [100, 101, 108]
def opsT : List Wd := [[], wRead, wPut, wAdd, wDel]
def stepsW : List Wd := [[97, 115, 107], [109, 111, 118, 101], [114, 101, 115, 117, 109, 101], [100, 111], [114, 101, 97, 100, 111, 110, 108, 121], [104, 101, 97, 100], [102, 108, 117, 115, 104], [115, 97, 118, 101], [99, 114, 97, 115, 104], [115, 116, 97, 114, 116]]
def stepsT : List Wd := [] :: stepsW
def idxW : List Wd → Wd → Nat → Int
  | [], _, _ => -1
  | a :: l, w, n => if w = a then (n : Int) else idxW l w (n + 1)
def kindM (w : Wd) : Nat := (idxW stepsT w 0).toNat
def okM (w : Wd) : Nat := (idxW opsT w 0).toNat
theorem idxW_range : ∀ (l : List Wd) (w : Wd) (n : Nat), idxW l w n = -1 ∨ ∃ m : Nat, idxW l w n = m ∧ n ≤ m ∧ m < n + l.length
  | [], _, _ => Or.inl rfl
  | a :: l, w, n => by
    unfold idxW
    split
    · exact Or.inr ⟨n, rfl, by omega, by simp⟩
    · rcases idxW_range l w (n + 1) with h | ⟨m, h1, h2, h3⟩
      · exact Or.inl h
      · exact Or.inr ⟨m, h1, by omega, by simp only [List.length_cons]; omega⟩
structure OpV where
  k : Nat
  key : Wd
  val : Wd
  n : Nat
structure Stp where
  kind : Nat
  s : Nat
  n : Nat
  op : OpV
  picks : List Nat
def op0 : OpV := ⟨0, [], [], 0⟩
def opc (x : OpV) : List AV := [.int .i64 x.k, .str (ba x.key), .str (ba x.val), .int .u64 x.n]
def stc (x : Stp) (p : AV) : List AV := [.int .i64 x.kind, .int .i64 x.s, .int .i64 x.n, .int .i64 x.op.k, .str (ba x.op.key), .str (ba x.op.val), .int .u64 x.op.n, p]
def irow (l : List Nat) : List (List AV) := l.map fun n => [.int .i64 (n : Nat)]
theorem irow_len (l : List Nat) : (irow l).length = l.length := List.length_map ..
theorem irow_app (a b : List Nat) : irow (a ++ b) = irow a ++ irow b := List.map_append ..
def m9 : Nat := 999999999
def m64 : Nat := 18446744073709551615
-- a reader's words; none: something was wrong
abbrev RW := Option (List Wd)
def tlO : RW → RW
  | some (_ :: r) => some r
  | _ => none
def hdO : RW → Wd
  | some (w :: _) => w
  | _ => []
def numO (most : Nat) : RW → Option (Nat × List Wd)
  | some (w :: r) => (numM w most).map (·, r)
  | _ => none
def txtO : RW → Option (Wd × List Wd)
  | some (w :: r) => (unquoteL w).map (·, r)
  | _ => none
def opO (o : RW) : Option (OpV × List Wd) := match txtO (tlO o) with
  | none => none
  | some (key, r) =>
    if okM (hdO o) = 0 then none
    else if okM (hdO o) = 2 then (txtO (some r)).map fun x => (⟨2, key, x.1, 0⟩, x.2)
    else if okM (hdO o) = 3 then (numO m64 (some r)).map fun x => (⟨3, key, [], x.1⟩, x.2)
    else some (⟨okM (hdO o), key, [], 0⟩, r)
/-- The words behind 'ask' and its number. -/
def opM (ws : List Wd) : Option OpV := match opO (some ws) with
  | some (x, []) => some x
  | _ => none
def stepM (line : Wd) : Option Stp := match cutB 32 line with
  | [] => none
  | w :: r =>
    if kindM w = 0 then none
    else if kindM w = 9 then (if r.length ≤ 32 then (r.mapM fun a => numM a m9).map fun l => ⟨9, 0, 0, op0, l⟩ else none)
    else if kindM w = 8 ∨ kindM w = 10 then (if r = [] then some ⟨kindM w, 0, 0, op0, []⟩ else none)
    else match numO m9 (some r) with
      | none => none
      | some (n, q) =>
        if kindM w = 1 then (opM q).map fun x => ⟨1, n, 0, x, []⟩
        else if q = [] then some (if kindM w ≤ 3 then ⟨kindM w, n, 0, op0, []⟩ else ⟨kindM w, 0, n, op0, []⟩)
        else none
inductive PRes where
  | steps (l : List Stp)
  | bad (n : Nat)
/-- Lines, the n-th first; what was read so far. -/
def goP : Nat → List Wd → List Stp → PRes
  | _, [], acc => .steps acc
  | n, [l], acc => if l = [] then .steps acc else .bad n
  | n, l :: a :: r, acc => if l = [] ∨ l.head? = some 35 then goP (n + 1) (a :: r) acc else match stepM l with
    | none => .bad n
    | some x => goP (n + 1) (a :: r) (acc ++ [x])
def parseM (text : Wd) : PRes := goP 1 (cutB 10 text) []
end Go.Ev
