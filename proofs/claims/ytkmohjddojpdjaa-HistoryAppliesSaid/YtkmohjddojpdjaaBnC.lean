/- Part 3: EvBy EvQb. -/
import Derived.Test.YtkmohjddojpdjaaBnB
-- part EvBy
/- EvBy: texts as lists of bytes. -/
set_option linter.unusedVariables false
set_option linter.unusedSimpArgs false
namespace Go.Ev
open Go.RowKit
def ba (l : List UInt8) : ByteArray := ⟨l.toArray⟩
def bs (s : ByteArray) : List UInt8 := s.data.toList
theorem bs_ba (l : List UInt8) : bs (ba l) = l := rfl
theorem ba_bs (s : ByteArray) : ba (bs s) = s := by
  apply ByteArray.ext
  show s.data.toList.toArray = s.data
  simp
theorem ba_size (l : List UInt8) : (ba l).size = l.length := by
  show l.toArray.size = _
  simp
theorem bs_len (s : ByteArray) : (bs s).length = s.size := by
  show s.data.toList.length = s.data.size
  simp
theorem ba_inj {a b : List UInt8} : ba a = ba b ↔ a = b := ⟨fun h => congrArg bs h, fun h => by rw [h]⟩
theorem ba_app (a b : List UInt8) : ba a ++ ba b = ba (a ++ b) := by
  apply ByteArray.ext
  simp [ba]
theorem ba_cut (l : List UInt8) (i j : Nat) : (ba l).extract i j = ba ((l.drop i).take (j - i)) := by
  apply ByteArray.ext
  rw [ByteArray.data_extract]
  simp only [ba]
  apply Array.toList_inj.1
  rw [Array.toList_extract]
theorem emp1 : ByteArray.mk #[] = ba [] := rfl
theorem emp2 : ByteArray.empty = ba [] := rfl
theorem lenT_ba (l : List UInt8) : lenT (.str (ba l)) = some (.int .i64 l.length) := by rw [lenT_str, ba_size]
theorem ixT_ba (l : List UInt8) (k : IntKind) (i : Nat) (h : i < l.length) : ixT (.str (ba l)) (.int k i) = some (.int .u8 l[i].toNat) := by
  have hs : (i : Int).toNat < (ba l).size := by rw [ba_size, Int.toNat_natCast]; exact h
  rw [ixT_str _ _ _ (by omega) hs]
  rfl
theorem slT_ba (l : List UInt8) (lo hi : Nat) (h1 : lo ≤ hi) (h2 : hi ≤ l.length) (k k' : IntKind) : slT (.str (ba l)) (some (.int k lo)) (some (.int k' hi)) = some (.str (ba ((l.drop lo).take (hi - lo)))) := by
  have a1 : decide ((0 : Int) ≤ hi) = true := by simp
  have a2 : decide ((hi : Int) ≤ ((ba l).size : Nat)) = true := by rw [ba_size]; simp; omega
  have a3 : decide ((0 : Int) ≤ lo) = true := by simp
  have a4 : decide ((lo : Int) ≤ hi) = true := by simp; omega
  simp only [slT, boundsA, Option.bind_some, boundA, asInt, a1, a2, a3, a4, Bool.and_self, cond_true, Int.toNat_natCast, Option.map_some, ba_cut]
theorem slT_hi (l : List UInt8) (hi : Nat) (h2 : hi ≤ l.length) (k' : IntKind) : slT (.str (ba l)) none (some (.int k' hi)) = some (.str (ba (l.take hi))) := by
  have a1 : decide ((0 : Int) ≤ hi) = true := by simp
  have a2 : decide ((hi : Int) ≤ ((ba l).size : Nat)) = true := by rw [ba_size]; simp; omega
  simp only [slT, boundsA, Option.bind_some, boundA, asInt, a1, a2, Bool.and_self, cond_true, Int.toNat_natCast, Option.map_some, ba_cut, List.drop_zero, Nat.sub_zero]
theorem slT_lo (l : List UInt8) (lo : Nat) (h2 : lo ≤ l.length) (k' : IntKind) : slT (.str (ba l)) (some (.int k' lo)) none = some (.str (ba (l.drop lo))) := by
  have a1 : decide ((0 : Int) ≤ lo) = true := by simp
  have a2 : decide ((lo : Int) ≤ (l.length : Nat)) = true := by simp; omega
  have e : ((l.drop lo).take (l.length - lo)) = l.drop lo := List.take_of_length_le (by simp)
  simp only [slT, boundsA, Option.bind_some, boundA, asInt, a1, a2, Bool.and_self, cond_true, Int.toNat_natCast, Option.map_some, ba_cut, ba_size, e]
theorem bin_scatB (P : Program) (H : Heap) (t : TypeId) (a b : List UInt8) (h : a.length + b.length ≤ 9223372036854775807) : binA P H .add t (.str (ba a)) (.str (ba b)) = some (.str (ba (a ++ b))) := by
  rw [bin_scat _ _ _ _ _ (by rw [ba_size, ba_size]; exact h), ba_app]
theorem ba_toList (l : List UInt8) : (ba l).toList = l := by rw [ByteArray.toList_eq]; rfl
theorem bin_seqB (P : Program) (H : Heap) (t : TypeId) (a b : List UInt8) : binA P H .eql t (.str (ba a)) (.str (ba b)) = some (.bool (decide (a = b))) := by
  rw [bin_seql]; simp only [ba_inj]
theorem bin_sneB (P : Program) (H : Heap) (t : TypeId) (a b : List UInt8) : binA P H .neq t (.str (ba a)) (.str (ba b)) = some (.bool (decide (a ≠ b))) := by
  rw [bin_sneq]; simp only [ne_eq, ba_inj]
theorem bin_sgeB (P : Program) (H : Heap) (t : TypeId) (a b : List UInt8) : binA P H .geq t (.str (ba a)) (.str (ba b)) = some (.bool (!Op.bytesLess a b)) := by
  simp only [binA, strA, ba_toList]
theorem bin_sltB (P : Program) (H : Heap) (t : TypeId) (a b : List UInt8) : binA P H .lss t (.str (ba a)) (.str (ba b)) = some (.bool (Op.bytesLess a b)) := by
  simp only [binA, strA, ba_toList]
/-- Bytes as elements of a slice. -/
def brow (l : List UInt8) : List (List AV) := l.map fun b => [byteCell b]
theorem brow_len (l : List UInt8) : (brow l).length = l.length := List.length_map ..
theorem brow_app (a b : List UInt8) : brow (a ++ b) = brow a ++ brow b := List.map_append ..
theorem brow_flat : ∀ l : List UInt8, (brow l).flatten = l.map byteCell
  | [] => rfl
  | b :: l => by
    have : (brow (b :: l)).flatten = [byteCell b] ++ (brow l).flatten := rfl
    rw [this, brow_flat l]; rfl
theorem brow_solid (l : List UInt8) : ∀ r ∈ brow l, r.all AV.solid = true := by
  intro r hr
  obtain ⟨b, _, rfl⟩ := List.mem_map.1 hr; rfl
theorem brow_one (l : List UInt8) : ∀ r ∈ brow l, r.length = 1 := by
  intro r hr
  obtain ⟨b, _, rfl⟩ := List.mem_map.1 hr; rfl
theorem bytesOf_map : ∀ l : List UInt8, bytesOfA (l.map byteCell) = some l
  | [] => rfl
  | b :: l => by
    have h1 : (0 : Int) ≤ (b.toNat : Int) := by omega
    have h2 : (b.toNat : Int) < 256 := by have := b.toNat_lt; omega
    rw [List.map_cons]
    unfold byteCell
    simp only [bytesOfA, h1, h2, decide_true, Bool.and_self, cond_true]
    have := bytesOf_map l
    unfold byteCell at this
    rw [this]
    simp
section
variable {ρ : Addr → Option Value} {H H' : Heap} {e sz : Nat} {x y : AV} {els ys : List (List AV)} {Q : AV → Heap → Prop} {K : AV → Heap → Res}
theorem b2s_brow {l : List UInt8} (h : Els ρ H 1 y (brow l)) (hy : ∀ m, y ≠ .sx m) : b2s ρ H y = some (.str (ba l)) := by
  have e1 := h.lenA
  have e2 := h.frst
  rw [brow_flat] at e2
  rw [brow_len] at e1 e2
  cases y with
  | nils =>
    have : brow l = [] := h
    have : l = [] := by simpa [brow] using this
    subst this; rfl
  | sl l' v o n' c m => simp only [b2s, e1, Option.bind_some, e2, bytesOf_map, Option.map_some]; rfl
  | xs a n' c => simp only [b2s, e1, Option.bind_some, e2, bytesOf_map, Option.map_some]; rfl
  | sx m => exact absurd rfl (hy m)
  | _ => exact h.elim
theorem slS_notSx {l v o n c : Nat} {a b : Option AV} {y : AV} (h : slS sz (.sl l v o n c false) a b none = some y) (m : Nat) : y ≠ .sx m := by
  rintro rfl
  revert h
  simp only [slS, sliceSl]
  cases Nat.ble n c with
  | false => simp
  | true => cases boundsA n c a b none <;> simp
theorem lenA_str (l : List UInt8) : lenA (.str (ba l)) = some l.length := by simp [lenA, ba_size]
theorem frst_str (l : List UInt8) : frst ρ H 1 l.length (.str (ba l)) = some (brow l).flatten := by
  rw [brow_flat]
  simp only [frst, ba_cut, List.drop_zero, Nat.sub_zero, List.take_length]
  rfl
/-- A text's bytes are appended. -/
theorem Grow.appStr {by_ : Nat} {a l : List UInt8} (h : Grow H e 1 x (brow a)) (hb : (a.length + l.length) * by_ ≤ 70368744177664) (hb2 : a.length + l.length ≤ 70368744177664) :
    ∃ x' f, apA ρ 0 H e 1 by_ x (.str (ba l)) = some (x', f) ∧ Grow (f.on H) e 1 x' (brow (a ++ l)) ∧ Fr x.lies H (f.on H) ∧ ∀ t, x'.lies t → x.lies t ∨ H.sz ≤ t := by
  -- as if they lay in a slice of their own
  have hsol : (brow l).flatten.all AV.solid = true := by
    rw [brow_flat, List.all_eq_true]; intro z hz
    obtain ⟨b, _, rfl⟩ := List.mem_map.1 hz; rfl
  have hlen := els_length (brow l) 1 (brow_one l)
  rw [brow_len] at hlen
  simp only [apA, lenA_str, Option.bind_some, frst_str, hsol, hlen, beq_self_eq_true, Bool.and_self, Bool.not_true, cond_false]
  cases x with
  | nils =>
    have : brow a = [] := h
    have ha : a = [] := by simpa [brow] using this
    subst ha
    by_cases h0 : l.length = 0
    · have : l = [] := List.eq_nil_of_length_eq_zero h0
      subst this
      exact ⟨.nils, .nothing, rfl, Grow.nils .., Fr.refl .., fun l q => Or.inl q⟩
    · have h0' : (l.length == 0) = false := by simpa using h0
      simp only [h0', cond_false, growN_of (by_ := by_) (n := l.length) (by simpa using hb) (by simpa using hb2), cond_true]
      refine ⟨_, _, rfl, ⟨rfl, by simp [brow_len], rfl, rfl, by simp [Eff.on, Heap.sz_new], brow_one _, true, ?_⟩, Fr.new _ H _, fun t q => Or.inr (by have e : H.sz = t := q; omega)⟩
      simp [Eff.on, newCells, Heap.get_new]
  | sl t v o n c m =>
    obtain ⟨rfl, rfl, rfl, rfl, hl, h5, g, hg⟩ := h
    have hel := els_length (brow a) 1 h5
    simp only [apSl]
    by_cases h0 : l.length = 0
    · have : l = [] := List.eq_nil_of_length_eq_zero h0
      subst this
      simp only [List.length_nil, Nat.add_zero, Nat.le_refl, decide_true, cond_true]
      rw [storeN_of (vs := (brow []).flatten) _ hg (by rw [hel]; simp [brow]) rfl]
      refine ⟨_, _, rfl, ⟨rfl, by simp, rfl, rfl, hl, by simpa using h5, g, ?_⟩, Fr.put H t _ (fun _ => rfl), fun t q => Or.inl q⟩
      simp [Eff.on, Heap.get_put, layA, brow]
    · have h0' : decide ((brow a).length + l.length ≤ (brow a).length) = false := by simp; omega
      have hb1 : Nat.ble 0 t = true := Nat.ble_eq_true_of_le (by omega)
      have hg1 := growN_of (by_ := by_) (n := (brow a).length + l.length) (by rw [brow_len]; exact hb) (by rw [brow_len]; exact hb2)
      simp only [h0', cond_false, hg1, Bool.not_true, cond_true, hg, hb1, Nat.beq_refl, beq_self_eq_true, hel, Bool.and_self, Nat.ble_eq_true_of_le (Nat.le_refl _)]
      refine ⟨_, _, rfl, ⟨rfl, by simp [brow_len], rfl, rfl, hl, brow_one _, true, ?_⟩, Fr.put H t _ (fun _ => rfl), fun t q => Or.inl q⟩
      have ht : (brow a).flatten.take ((brow a).length * 1) = (brow a).flatten := List.take_of_length_le (by omega)
      simp only [Eff.on, Heap.get_put, if_pos, ht, brow_app, List.flatten_append]
  | _ => exact h.elim
theorem Ret.appS {by_ : Nat} {a l : List UInt8} (h : Grow H e 1 x (brow a)) (hb : (a.length + l.length) * by_ ≤ 70368744177664) (hb2 : a.length + l.length ≤ 70368744177664)
    (hk : ∀ x' H', Grow H' e 1 x' (brow (a ++ l)) → Fr x.lies H H' → (∀ t, x'.lies t → x.lies t ∨ H.sz ≤ t) → scal x' = true → Ret Q (K x' H')) : Ret Q (effK H (apA ρ 0 H e 1 by_ x (.str (ba l))) K) := by
  obtain ⟨x', f, ea, G, fr, hl⟩ := h.appStr (ρ := ρ) (l := l) hb hb2
  rw [ea, effK_on]
  refine hk x' _ G fr hl ?_
  cases x' <;> first | exact G.elim | rfl
/-- A slice that is full: an append lays it anew. -/
def Full (H : Heap) (e sz : Nat) (x : AV) (els : List (List AV)) : Prop := match x with
  | .sl l v o n c m => o = 0 ∧ n = els.length ∧ c = n ∧ m = false ∧ l < H.sz ∧ (∀ r ∈ els, r.length = sz) ∧ ∃ fr g, H.get l = .cells v e fr g els.flatten
  | _ => False
theorem Full.toEls (h : Full H e sz x els) : Els ρ H sz x els := by
  cases x with
  | sl l v o n c m =>
    obtain ⟨rfl, rfl, rfl, rfl, hl, hs, fr, g, hg⟩ := h
    exact Els.of_cells hl hg hs
  | _ => exact h.elim
theorem Full.frame (h : Full H e sz x els) (S : Nat → Prop) (f : Fr S H H') (hs : ∀ l, x.lies l → ¬ S l) : Full H' e sz x els := by
  cases x with
  | sl l v o n c m =>
    obtain ⟨h1, h2, h3, h4, hl, h5, fr, g, hg⟩ := h
    exact ⟨h1, h2, h3, h4, Nat.lt_of_lt_of_le hl f.sz, h5, fr, g, by rw [f.get l hl (hs l rfl), hg]⟩
  | _ => exact h.elim
theorem Full.append {by_ : Nat} (h : Full H e sz x els) (hy : Els ρ H sz y ys) (hne : ys ≠ []) (hs : ∀ r ∈ ys, r.all AV.solid = true) (hb : (els.length + ys.length) * by_ ≤ 70368744177664) (hb2 : els.length + ys.length ≤ 70368744177664) :
    ∃ x' f, apA ρ 0 H e sz by_ x y = some (x', f) ∧ Grow (f.on H) e sz x' (els ++ ys) ∧ Fr Nop H (f.on H) ∧ ∀ l, x'.lies l → H.sz ≤ l := by
  have hE := h.toEls (ρ := ρ)
  have hsol : ys.flatten.all AV.solid = true := by
    rw [List.all_eq_true]; intro a ha
    obtain ⟨r, hr, har⟩ := List.mem_flatten.1 ha
    exact List.all_eq_true.1 (hs r hr) a har
  have hlr : ∀ r ∈ ys, r.length = sz := fun r hr => by obtain ⟨i, hi, rfl⟩ := List.mem_iff_getElem.1 hr; exact hy.len_el i hi
  have hlen := els_length ys sz hlr
  have h0 : 0 < ys.length := List.length_pos_iff.2 hne
  simp only [apA, hy.lenA, Option.bind_some, hy.frst, hsol, hlen, beq_self_eq_true, Bool.and_self, Bool.not_true, cond_false]
  cases x with
  | sl l v o n c m =>
    obtain ⟨rfl, rfl, rfl, rfl, hl, h5, fr, g, hg⟩ := h
    have h1 : decide (els.length + ys.length ≤ els.length) = false := by simp; omega
    have hf := hE.frst
    simp only [apSl, h1, cond_false, growN_of (by_ := by_) hb hb2, Bool.not_true, hf, Option.map_some]
    refine ⟨_, _, rfl, ⟨rfl, by simp, rfl, rfl, by simp [Eff.on, Heap.sz_new], ?_, true, ?_⟩, Fr.new Nop H _, fun l q => ?_⟩
    · intro r hr; rcases List.mem_append.1 hr with q | q
      · exact h5 r q
      · exact hlr r q
    · simp [Eff.on, newCells, Heap.get_new]
    · have e : H.sz = l := q; omega
  | _ => exact h.elim
/-- It grows, or is full. -/
def GF (H : Heap) (e sz : Nat) (x : AV) (els : List (List AV)) : Prop := Full H e sz x els ∨ Grow H e sz x els
theorem GF.toEls (h : GF H e sz x els) : Els ρ H sz x els := h.elim Full.toEls Grow.toEls
theorem GF.frame (h : GF H e sz x els) (S : Nat → Prop) (f : Fr S H H') (hs : ∀ l, x.lies l → ¬ S l) : GF H' e sz x els := h.elim (fun h => Or.inl (h.frame S f hs)) (fun h => Or.inr (h.frame S f hs))
theorem GF.notSx (h : GF H e sz x els) (n : Nat) : x ≠ .sx n := by
  rcases h with h | h
  · rintro rfl; exact h
  · exact h.notSx n
theorem Ret.appF {by_ : Nat} (h : GF H e sz x els) (hy : Els ρ H sz y ys) (hne : ys ≠ []) (hs : ∀ r ∈ ys, r.all AV.solid = true) (hb : (els.length + ys.length) * by_ ≤ 70368744177664) (hb2 : els.length + ys.length ≤ 70368744177664)
    (hk : ∀ x' H', Grow H' e sz x' (els ++ ys) → Fr x.lies H H' → (∀ l, x'.lies l → x.lies l ∨ H.sz ≤ l) → scal x' = true → Ret Q (K x' H')) : Ret Q (effK H (apA ρ 0 H e sz by_ x y) K) := by
  rcases h with h | h
  · obtain ⟨x', f, ea, G, fr, hl⟩ := h.append hy hne hs hb hb2
    rw [ea, effK_on]
    refine hk x' _ G (fr.mono fun _ _ q => q.elim) (fun l q => Or.inr (hl l q)) ?_
    cases x' <;> first | exact G.elim | rfl
  · exact Ret.app h hy hs hb hb2 hk
theorem u8n (n : Nat) : wrapK .u8 (n : Int) = ((UInt8.ofNat n).toNat : Int) := by
  rw [UInt8.toNat_ofNat']
  show ((n : Int) % 256) = _
  omega
theorem tmodN (n m : Nat) : (n : Int).tmod (m : Int) = ((n % m : Nat) : Int) := rfl
theorem tdivN (n m : Nat) (h : n < 9223372036854775808) : wrapK .i64 ((n : Int).tdiv (m : Int)) = ((n / m : Nat) : Int) := wrap_nat (n / m) (Nat.lt_of_le_of_lt (Nat.div_le_self _ _) h)
end
end Go.Ev

-- part EvQb
/- EvQb: plain laws on words of 64 bits and their bytes. -/
set_option linter.unusedVariables false
set_option linter.unusedSimpArgs false
namespace Go.Ev
open Go.RowKit
def U64 (x : Int) : Prop := 0 ≤ x ∧ x < 18446744073709551616
theorem bv_of {x : Int} (h : U64 x) : (BitVec.ofInt 64 x).toNat = x.toNat := by
  unfold U64 at h
  rw [BitVec.toNat_ofInt]
  congr 1
  exact Int.emod_eq_of_lt h.1 (by omega)
theorem bits_nat (op : BinOp) (a b : Int) (v : BitVec 64) (h : Go.bits op .u64 a b = wrapK .u64 (v.toNat : Int)) : Go.bits op .u64 a b = v.toNat := by rw [h, bv_u64_nat]
theorem and_bv (a b : Int) : Go.bits .and .u64 a b = ((BitVec.ofInt 64 a &&& BitVec.ofInt 64 b).toNat : Int) := by rw [← bv_u64_nat, wrapK_eq]; rfl
theorem xor_bv (a b : Int) : Go.bits .xor .u64 a b = ((BitVec.ofInt 64 a ^^^ BitVec.ofInt 64 b).toNat : Int) := by rw [← bv_u64_nat, wrapK_eq]; rfl
theorem and_one {c : Int} (h : U64 c) : Go.bits .and .u64 c 1 = c % 2 := by
  rw [and_bv, BitVec.toNat_and, bv_of h, bv_of (show U64 1 by unfold U64; omega)]
  show ((c.toNat &&& 1 : Nat) : Int) = _
  rw [Nat.and_one_is_mod]
  have := h.1
  omega
theorem xor_zero {c : Int} (h : U64 c) : Go.bits .xor .u64 c 0 = c := by
  rw [xor_bv]
  have : (BitVec.ofInt 64 0) = 0#64 := rfl
  rw [this, BitVec.xor_zero, bv_of h]
  have := h.1
  omega
theorem xor_max {c : Int} (h : U64 c) : Go.bits .xor .u64 18446744073709551615 c = 18446744073709551615 - c := by
  rw [xor_bv]
  have e : (BitVec.ofInt 64 18446744073709551615) = BitVec.allOnes 64 := rfl
  rw [e, BitVec.allOnes_xor, BitVec.toNat_not, bv_of h]
  have := h.1; have := h.2
  omega
-- words and their bytes
theorem repeatL_one (x : AV) : ∀ n, repeatL [x] n = List.replicate n x
  | 0 => rfl
  | n + 1 => by rw [repeatL, repeatL_one x n]; rfl
def wbyte (ws : List Int) (i : Nat) : UInt8 := UInt8.ofNat ((ws.getD (i / 8) 0).toNat / 256 ^ (i % 8) % 256)
def wbytes (ws : List Int) : List UInt8 := (List.range (8 * ws.length)).map (wbyte ws)
theorem wbytes_len (ws : List Int) : (wbytes ws).length = 8 * ws.length := by simp [wbytes]
def w8 (n : Int) : List UInt8 := wbytes [n]
theorem w8_len (n : Int) : (w8 n).length = 8 := wbytes_len [n]
theorem w8_at (n : Int) (i : Nat) (h : i < 8) : (w8 n)[i]'(by rw [w8_len]; exact h) = UInt8.ofNat (n.toNat / 256 ^ i % 256) := by
  have a : i / 8 = 0 := by omega
  have b : i % 8 = i := by omega
  simp [w8, wbytes, wbyte, a, b]
def urow (ws : List Int) : List (List AV) := ws.map fun n => [.int .u64 n]
theorem urow_len (ws : List Int) : (urow ws).length = ws.length := List.length_map ..
theorem byte_val (w : Int) (h : U64 w) (m : Nat) (hm : m < 8) : wrapK .u8 (w.fdiv (2 ^ min (((m : Int) * 8)).toNat IntKind.u64.bits)) = (UInt8.ofNat (w.toNat / 256 ^ m % 256)).toNat := by
  have e0 : min ((m : Int) * 8).toNat IntKind.u64.bits = 8 * m := by
    have : IntKind.u64.bits = 64 := rfl
    omega
  rw [e0]
  have e1 : (2 : Int) ^ (8 * m) = ((256 ^ m : Nat) : Int) := by
    rw [Int.pow_mul]
    norm_cast
  rw [e1, Int.fdiv_eq_ediv_of_nonneg _ (Int.natCast_nonneg _)]
  obtain ⟨n, rfl⟩ : ∃ n : Nat, w = n := ⟨w.toNat, by have := h.1; omega⟩
  rw [Int.toNat_natCast, UInt8.toNat_ofNat']
  show ((n : Int) / ((256 ^ m : Nat) : Int)) % 256 = _
  have : (n : Int) / ((256 ^ m : Nat) : Int) = ((n / 256 ^ m : Nat) : Int) := rfl
  rw [this]
  omega
theorem range_set {α : Type} (f : Nat → α) (N i : Nat) (v : α) : ((List.range N).map f).set i v = (List.range N).map (fun j => if j = i then v else f j) := by
  apply List.ext_getElem?
  intro j
  rw [List.getElem?_set]
  by_cases h : i = j
  · subst h
    by_cases hi : i < N
    · simp [hi]
    · simp [hi]
  · have h' : ¬ j = i := fun e => h e.symm
    simp only [h, if_false, List.getElem?_map]
    by_cases hj : j < N
    · simp [hj, h']
    · simp [hj]
theorem q_div (i : Nat) (h : i < 1000000000) : wrapK .i64 ((i : Int).tdiv 8) = ((i / 8 : Nat) : Int) := wrap_nat (i / 8) (by omega)
theorem q_mod (i : Nat) : (i : Int).tmod 8 = ((i % 8 : Nat) : Int) := rfl
theorem q_mul (m : Nat) (h : m < 8) : wrapK .i64 ((m : Int) * 8) = (m : Int) * 8 := wrap_i64 _ (by omega)
theorem q_up (n : Nat) (h : n < 1000000000) : wrapK .i64 (wrapK .i64 ((n : Int) + 8) - 1) = ((n + 7 : Nat) : Int) := by
  rw [wrap_i64 ((n : Int) + 8) (by omega), wrap_i64 _ (by omega)]; omega
theorem q_N (n : Nat) (h : n < 1000000000) : wrapK .i64 (8 * (n : Int)) = ((8 * n : Nat) : Int) := by rw [wrap_i64 _ (by omega)]; omega
theorem rs1 (S i : Nat) : (((S / 256 ^ i : Nat) : Int)).tmod 256 = ((S / 256 ^ i % 256 : Nat) : Int) := rfl
theorem rs2 (m : Nat) (h : m < 256) : wrapK .u8 ((m : Nat) : Int) = (UInt8.ofNat m).toNat := by
  rw [UInt8.toNat_ofNat', wrap_u8 _ (by omega)]; omega
theorem rs3 (S i : Nat) (hS : S < 18446744073709551616) : wrapK .u64 (((S / 256 ^ i : Nat) : Int).tdiv 256) = ((S / 256 ^ (i + 1) : Nat) : Int) := by
  have e : ((S / 256 ^ i : Nat) : Int).tdiv 256 = ((S / 256 ^ i / 256 : Nat) : Int) := rfl
  have le : S / 256 ^ i / 256 < 18446744073709551616 := Nat.lt_of_le_of_lt (Nat.div_le_self _ _) (Nat.lt_of_le_of_lt (Nat.div_le_self _ _) hS)
  have e2 : S / 256 ^ i / 256 = S / 256 ^ (i + 1) := by rw [Nat.div_div_eq_div_mul, ← Nat.pow_succ]
  rw [e, ← e2]
  generalize S / 256 ^ i / 256 = z at le
  exact wrap_u64 _ (by omega)
/-- The number of bytes, the lowest first. -/
def numB : List UInt8 → Nat
  | [] => 0
  | b :: r => b.toNat + 256 * numB r
theorem numB_snoc : ∀ (l : List UInt8) (b : UInt8), numB (l ++ [b]) = numB l + 256 ^ l.length * b.toNat
  | [], b => by simp [numB]
  | a :: l, b => by
    rw [List.cons_append, numB, numB_snoc l b, numB, List.length_cons, Nat.pow_succ]
    rw [Nat.mul_add]
    have : 256 * (256 ^ l.length * b.toNat) = 256 ^ l.length * 256 * b.toNat := by rw [← Nat.mul_assoc, Nat.mul_comm 256]
    omega
theorem numB_lt : ∀ l : List UInt8, numB l < 256 ^ l.length
  | [] => by simp [numB]
  | b :: l => by
    have := numB_lt l
    have := b.toNat_lt
    rw [numB, List.length_cons, Nat.pow_succ]
    omega
theorem or_add (w m : Nat) (b : Nat) (hm : m < 8) (hw : w < 256 ^ m) (hb : b < 256) : Go.bits .or .u64 (w : Int) ((256 ^ m * b : Nat) : Int) = ((w + 256 ^ m * b : Nat) : Int) := by
  have e3 : Go.bits .or .u64 (w : Int) ((256 ^ m * b : Nat) : Int) = ((BitVec.ofInt 64 (w : Int) ||| BitVec.ofInt 64 ((256 ^ m * b : Nat) : Int)).toNat : Int) := by rw [← bv_u64_nat, wrapK_eq]; rfl
  have p : 256 ^ m = 2 ^ (8 * m) := by rw [Nat.pow_mul]
  have hp : 256 ^ m * 256 ≤ 256 ^ 8 := by rw [← Nat.pow_succ]; exact Nat.pow_le_pow_right (by decide) (by omega)
  have h8 : 256 ^ 8 = 18446744073709551616 := by decide
  have hpos : 0 < 256 ^ m := Nat.pow_pos (by decide)
  have hprod : 256 ^ m * b + w < 18446744073709551616 := by
    have : 256 ^ m * b + 256 ^ m ≤ 256 ^ m * 256 := by rw [← Nat.mul_succ]; exact Nat.mul_le_mul_left _ (by omega)
    omega
  rw [e3, BitVec.toNat_or, bv_of (show U64 (w : Int) by unfold U64; omega), bv_of (show U64 ((256 ^ m * b : Nat) : Int) by unfold U64; omega)]
  rw [Int.toNat_natCast, Int.toNat_natCast]
  have := Nat.two_pow_add_eq_or_of_lt (i := 8 * m) (b := w) (by rw [← p]; exact hw) b
  rw [← p] at this
  rw [Nat.or_comm, ← this, Nat.add_comm]
theorem shl_val (b m : Nat) (hm : m < 8) (hb : b < 256) : wrapK .u64 ((b : Int) * 2 ^ min (((m : Int) * 8)).toNat IntKind.u64.bits) = ((256 ^ m * b : Nat) : Int) := by
  have e0 : min ((m : Int) * 8).toNat IntKind.u64.bits = 8 * m := by
    have : IntKind.u64.bits = 64 := rfl
    omega
  rw [e0]
  have e1 : (b : Int) * (2 : Int) ^ (8 * m) = ((256 ^ m * b : Nat) : Int) := by
    rw [Int.pow_mul]
    norm_cast
    rw [Nat.mul_comm]
  have hp : 256 ^ m * 256 ≤ 256 ^ 8 := by rw [← Nat.pow_succ]; exact Nat.pow_le_pow_right (by decide) (by omega)
  have h8 : 256 ^ 8 = 18446744073709551616 := by decide
  have hpos : 0 < 256 ^ m := Nat.pow_pos (by decide)
  have : 256 ^ m * b < 256 ^ m * 256 := Nat.mul_lt_mul_of_pos_left hb hpos
  rw [e1, wrap_u64 _ (by omega)]
end Go.Ev
