/- Part 3: EvBy EvQb EvMp EvU32 EvSg EvNx. -/
import Derived.Test.YtkmohjddojpdjabBnB
-- part EvBy
/- EvBy: texts as lists of bytes. -/
set_option linter.unusedVariables false
set_option linter.unusedSimpArgs false
namespace Go.Ev
open Go.RowKit
def ba (l : List UInt8) : ByteArray := ⟨l.toArray⟩
def bs (s : ByteArray) : List UInt8 := s.data.toList
theorem bs_ba (l : List UInt8) : bs (ba l) = l := rfl
theorem ba_bs (s : ByteArray) : ba (bs s) = s := by
  apply ByteArray.ext
  show s.data.toList.toArray = s.data
  simp
theorem ba_size (l : List UInt8) : (ba l).size = l.length := by
  show l.toArray.size = _
  simp
theorem bs_len (s : ByteArray) : (bs s).length = s.size := by
  show s.data.toList.length = s.data.size
  simp
theorem ba_inj {a b : List UInt8} : ba a = ba b ↔ a = b := ⟨fun h => congrArg bs h,fun h => by rw [h]⟩
theorem ba_app (a b : List UInt8) : ba a ++ ba b = ba (a ++ b) := by
  apply ByteArray.ext
  simp [ba]
theorem ba_cut (l : List UInt8) (i j : Nat) : (ba l).extract i j = ba ((l.drop i).take (j - i)) := by
  apply ByteArray.ext
  rw [ByteArray.data_extract]
  simp only [ba]
  apply Array.toList_inj.1
  rw [Array.toList_extract]
theorem emp1 : ByteArray.mk #[] = ba [] := rfl
theorem emp2 : ByteArray.empty = ba [] := rfl
theorem lenT_ba (l : List UInt8) : lenT (.str (ba l)) = some (.int .i64 l.length) := by rw [lenT_str,ba_size]
theorem ixT_ba (l : List UInt8) (k : IntKind) (i : Nat) (h : i < l.length) : ixT (.str (ba l)) (.int k i) = some (.int .u8 l[i].toNat) := by
  have hs : (i : Int).toNat < (ba l).size := by rw [ba_size,Int.toNat_natCast]; exact h
  rw [ixT_str _ _ _ (by omega) hs]
  rfl
theorem slT_ba (l : List UInt8) (lo hi : Nat) (h1 : lo ≤ hi) (h2 : hi ≤ l.length) (k k' : IntKind) : slT (.str (ba l)) (some (.int k lo)) (some (.int k' hi)) = some (.str (ba ((l.drop lo).take (hi - lo)))) := by
  have a1 : decide ((0 : Int) ≤ hi) = true := by simp
  have a2 : decide ((hi : Int) ≤ ((ba l).size : Nat)) = true := by rw [ba_size]; simp; omega
  have a3 : decide ((0 : Int) ≤ lo) = true := by simp
  have a4 : decide ((lo : Int) ≤ hi) = true := by simp; omega
  simp only [slT,boundsA,Option.bind_some,boundA,asInt,a1,a2,a3,a4,Bool.and_self,cond_true,Int.toNat_natCast,Option.map_some,ba_cut]
theorem slT_hi (l : List UInt8) (hi : Nat) (h2 : hi ≤ l.length) (k' : IntKind) : slT (.str (ba l)) none (some (.int k' hi)) = some (.str (ba (l.take hi))) := by
  have a1 : decide ((0 : Int) ≤ hi) = true := by simp
  have a2 : decide ((hi : Int) ≤ ((ba l).size : Nat)) = true := by rw [ba_size]; simp; omega
  simp only [slT,boundsA,Option.bind_some,boundA,asInt,a1,a2,Bool.and_self,cond_true,Int.toNat_natCast,Option.map_some,ba_cut,List.drop_zero,Nat.sub_zero]
theorem slT_lo (l : List UInt8) (lo : Nat) (h2 : lo ≤ l.length) (k' : IntKind) : slT (.str (ba l)) (some (.int k' lo)) none = some (.str (ba (l.drop lo))) := by
  have a1 : decide ((0 : Int) ≤ lo) = true := by simp
  have a2 : decide ((lo : Int) ≤ (l.length : Nat)) = true := by simp; omega
  have e : ((l.drop lo).take (l.length - lo)) = l.drop lo := List.take_of_length_le (by simp)
  simp only [slT,boundsA,Option.bind_some,boundA,asInt,a1,a2,Bool.and_self,cond_true,Int.toNat_natCast,Option.map_some,ba_cut,ba_size,e]
theorem bin_scatB (P : Program) (H : Heap) (t : TypeId) (a b : List UInt8) (h : a.length + b.length ≤ 9223372036854775807) : binA P H .add t (.str (ba a)) (.str (ba b)) = some (.str (ba (a ++ b))) := by
  rw [bin_scat _ _ _ _ _ (by rw [ba_size,ba_size]; exact h),ba_app]
theorem ba_toList (l : List UInt8) : (ba l).toList = l := by rw [ByteArray.toList_eq]; rfl
theorem bin_seqB (P : Program) (H : Heap) (t : TypeId) (a b : List UInt8) : binA P H .eql t (.str (ba a)) (.str (ba b)) = some (.bool (decide (a = b))) := by
  rw [bin_seql]; simp only [ba_inj]
theorem bin_sneB (P : Program) (H : Heap) (t : TypeId) (a b : List UInt8) : binA P H .neq t (.str (ba a)) (.str (ba b)) = some (.bool (decide (a ≠ b))) := by
  rw [bin_sneq]; simp only [ne_eq,ba_inj]
theorem bin_sgeB (P : Program) (H : Heap) (t : TypeId) (a b : List UInt8) : binA P H .geq t (.str (ba a)) (.str (ba b)) = some (.bool (!Op.bytesLess a b)) := by
  simp only [binA,strA,ba_toList]
theorem bin_sltB (P : Program) (H : Heap) (t : TypeId) (a b : List UInt8) : binA P H .lss t (.str (ba a)) (.str (ba b)) = some (.bool (Op.bytesLess a b)) := by
  simp only [binA,strA,ba_toList]
/-- Bytes as elements of a slice. -/
def brow (l : List UInt8) : List (List AV) := l.map fun b => [byteCell b]
theorem brow_len (l : List UInt8) : (brow l).length = l.length := List.length_map ..
theorem brow_app (a b : List UInt8) : brow (a ++ b) = brow a ++ brow b := List.map_append ..
theorem brow_flat : ∀ l : List UInt8,(brow l).flatten = l.map byteCell
  | [] => rfl
  | b :: l => by
    have : (brow (b :: l)).flatten = [byteCell b] ++ (brow l).flatten := rfl
    rw [this,brow_flat l]; rfl
theorem brow_solid (l : List UInt8) : ∀ r ∈ brow l,r.all AV.solid = true := by
  intro r hr
  obtain ⟨b,_,rfl⟩ := List.mem_map.1 hr; rfl
theorem brow_one (l : List UInt8) : ∀ r ∈ brow l,r.length = 1 := by
  intro r hr
  obtain ⟨b,_,rfl⟩ := List.mem_map.1 hr; rfl
theorem bytesOf_map : ∀ l : List UInt8,bytesOfA (l.map byteCell) = some l
  | [] => rfl
  | b :: l => by
    have h1 : (0 : Int) ≤ (b.toNat : Int) := by omega
    have h2 : (b.toNat : Int) < 256 := by have := b.toNat_lt; omega
    rw [List.map_cons]
    unfold byteCell
    simp only [bytesOfA,h1,h2,decide_true,Bool.and_self,cond_true]
    have := bytesOf_map l
    unfold byteCell at this
    rw [this]
    simp
section
variable {ρ : Addr → Option Value} {H H' : Heap} {e sz : Nat} {x y : AV} {els ys : List (List AV)} {Q : AV → Heap → Prop} {K : AV → Heap → Res}
theorem b2s_brow {l : List UInt8} (h : Els ρ H 1 y (brow l)) (hy : ∀ m,y ≠ .sx m) : b2s ρ H y = some (.str (ba l)) := by
  have e1 := h.lenA
  have e2 := h.frst
  rw [brow_flat] at e2
  rw [brow_len] at e1 e2
  cases y with
  | nils =>
    have : brow l = [] := h
    have : l = [] := by simpa [brow] using this
    subst this; rfl
  | sl l' v o n' c m => simp only [b2s,e1,Option.bind_some,e2,bytesOf_map,Option.map_some]; rfl
  | xs a n' c => simp only [b2s,e1,Option.bind_some,e2,bytesOf_map,Option.map_some]; rfl
  | sx m => exact absurd rfl (hy m)
  | _ => exact h.elim
theorem slS_notSx {l v o n c : Nat} {a b : Option AV} {y : AV} (h : slS sz (.sl l v o n c false) a b none = some y) (m : Nat) : y ≠ .sx m := by
  rintro rfl
  revert h
  simp only [slS,sliceSl]
  cases Nat.ble n c with
  | false => simp
  | true => cases boundsA n c a b none <;> simp
theorem lenA_str (l : List UInt8) : lenA (.str (ba l)) = some l.length := by simp [lenA,ba_size]
theorem frst_str (l : List UInt8) : frst ρ H 1 l.length (.str (ba l)) = some (brow l).flatten := by
  rw [brow_flat]
  simp only [frst,ba_cut,List.drop_zero,Nat.sub_zero,List.take_length]
  rfl
/-- A text's bytes are appended. -/
theorem Grow.appStr {by_ : Nat} {a l : List UInt8} (h : Grow H e 1 x (brow a)) (hb : (a.length + l.length) * by_ ≤ 70368744177664) (hb2 : a.length + l.length ≤ 70368744177664) :
    ∃ x' f,apA ρ 0 H e 1 by_ x (.str (ba l)) = some (x',f) ∧ Grow (f.on H) e 1 x' (brow (a ++ l)) ∧ Fr x.lies H (f.on H) ∧ ∀ t,x'.lies t → x.lies t ∨ H.sz ≤ t := by
  -- as if they lay in a slice of their own
  have hsol : (brow l).flatten.all AV.solid = true := by
    rw [brow_flat,List.all_eq_true]; intro z hz
    obtain ⟨b,_,rfl⟩ := List.mem_map.1 hz; rfl
  have hlen := els_length (brow l) 1 (brow_one l)
  rw [brow_len] at hlen
  simp only [apA,lenA_str,Option.bind_some,frst_str,hsol,hlen,beq_self_eq_true,Bool.and_self,Bool.not_true,cond_false]
  cases x with
  | nils =>
    have : brow a = [] := h
    have ha : a = [] := by simpa [brow] using this
    subst ha
    by_cases h0 : l.length = 0
    · have : l = [] := List.eq_nil_of_length_eq_zero h0
      subst this
      exact ⟨.nils,.nothing,rfl,Grow.nils ..,Fr.refl ..,fun l q => Or.inl q⟩
    · have h0' : (l.length == 0) = false := by simpa using h0
      simp only [h0',cond_false,growN_of (by_ := by_) (n := l.length) (by simpa using hb) (by simpa using hb2),cond_true]
      refine ⟨_,_,rfl,⟨rfl,by simp [brow_len],rfl,rfl,by simp [Eff.on,Heap.sz_new],brow_one _,true,?_⟩,Fr.new _ H _,fun t q => Or.inr (by have e : H.sz = t := q; omega)⟩
      simp [Eff.on,newCells,Heap.get_new]
  | sl t v o n c m =>
    obtain ⟨rfl,rfl,rfl,rfl,hl,h5,g,hg⟩ := h
    have hel := els_length (brow a) 1 h5
    simp only [apSl]
    by_cases h0 : l.length = 0
    · have : l = [] := List.eq_nil_of_length_eq_zero h0
      subst this
      simp only [List.length_nil,Nat.add_zero,Nat.le_refl,decide_true,cond_true]
      rw [storeN_of (vs := (brow []).flatten) _ hg (by rw [hel]; simp [brow]) rfl]
      refine ⟨_,_,rfl,⟨rfl,by simp,rfl,rfl,hl,by simpa using h5,g,?_⟩,Fr.put H t _ (fun _ => rfl),fun t q => Or.inl q⟩
      simp [Eff.on,Heap.get_put,layA,brow]
    · have h0' : decide ((brow a).length + l.length ≤ (brow a).length) = false := by simp; omega
      have hb1 : Nat.ble 0 t = true := Nat.ble_eq_true_of_le (by omega)
      have hg1 := growN_of (by_ := by_) (n := (brow a).length + l.length) (by rw [brow_len]; exact hb) (by rw [brow_len]; exact hb2)
      simp only [h0',cond_false,hg1,Bool.not_true,cond_true,hg,hb1,Nat.beq_refl,beq_self_eq_true,hel,Bool.and_self,Nat.ble_eq_true_of_le (Nat.le_refl _)]
      refine ⟨_,_,rfl,⟨rfl,by simp [brow_len],rfl,rfl,hl,brow_one _,true,?_⟩,Fr.put H t _ (fun _ => rfl),fun t q => Or.inl q⟩
      have ht : (brow a).flatten.take ((brow a).length * 1) = (brow a).flatten := List.take_of_length_le (by omega)
      simp only [Eff.on,Heap.get_put,if_pos,ht,brow_app,List.flatten_append]
  | _ => exact h.elim
theorem Ret.appS {by_ : Nat} {a l : List UInt8} (h : Grow H e 1 x (brow a)) (hb : (a.length + l.length) * by_ ≤ 70368744177664) (hb2 : a.length + l.length ≤ 70368744177664)
    (hk : ∀ x' H',Grow H' e 1 x' (brow (a ++ l)) → Fr x.lies H H' → (∀ t,x'.lies t → x.lies t ∨ H.sz ≤ t) → scal x' = true → Ret Q (K x' H')) : Ret Q (effK H (apA ρ 0 H e 1 by_ x (.str (ba l))) K) := by
  obtain ⟨x',f,ea,G,fr,hl⟩ := h.appStr (ρ := ρ) (l := l) hb hb2
  rw [ea,effK_on]
  refine hk x' _ G fr hl ?_
  cases x' <;> first | exact G.elim | rfl
/-- A slice that is full: an append lays it anew. -/
def Full (H : Heap) (e sz : Nat) (x : AV) (els : List (List AV)) : Prop := match x with
  | .sl l v o n c m => o = 0 ∧ n = els.length ∧ c = n ∧ m = false ∧ l < H.sz ∧ (∀ r ∈ els,r.length = sz) ∧ ∃ fr g,H.get l = .cells v e fr g els.flatten
  | _ => False
theorem Full.toEls (h : Full H e sz x els) : Els ρ H sz x els := by
  cases x with
  | sl l v o n c m =>
    obtain ⟨rfl,rfl,rfl,rfl,hl,hs,fr,g,hg⟩ := h
    exact Els.of_cells hl hg hs
  | _ => exact h.elim
theorem Full.frame (h : Full H e sz x els) (S : Nat → Prop) (f : Fr S H H') (hs : ∀ l,x.lies l → ¬ S l) : Full H' e sz x els := by
  cases x with
  | sl l v o n c m =>
    obtain ⟨h1,h2,h3,h4,hl,h5,fr,g,hg⟩ := h
    exact ⟨h1,h2,h3,h4,Nat.lt_of_lt_of_le hl f.sz,h5,fr,g,by rw [f.get l hl (hs l rfl),hg]⟩
  | _ => exact h.elim
theorem Full.append {by_ : Nat} (h : Full H e sz x els) (hy : Els ρ H sz y ys) (hne : ys ≠ []) (hs : ∀ r ∈ ys,r.all AV.solid = true) (hb : (els.length + ys.length) * by_ ≤ 70368744177664) (hb2 : els.length + ys.length ≤ 70368744177664) :
    ∃ x' f,apA ρ 0 H e sz by_ x y = some (x',f) ∧ Grow (f.on H) e sz x' (els ++ ys) ∧ Fr Nop H (f.on H) ∧ ∀ l,x'.lies l → H.sz ≤ l := by
  have hE := h.toEls (ρ := ρ)
  have hsol : ys.flatten.all AV.solid = true := by
    rw [List.all_eq_true]; intro a ha
    obtain ⟨r,hr,har⟩ := List.mem_flatten.1 ha
    exact List.all_eq_true.1 (hs r hr) a har
  have hlr : ∀ r ∈ ys,r.length = sz := fun r hr => by obtain ⟨i,hi,rfl⟩ := List.mem_iff_getElem.1 hr; exact hy.len_el i hi
  have hlen := els_length ys sz hlr
  have h0 : 0 < ys.length := List.length_pos_iff.2 hne
  simp only [apA,hy.lenA,Option.bind_some,hy.frst,hsol,hlen,beq_self_eq_true,Bool.and_self,Bool.not_true,cond_false]
  cases x with
  | sl l v o n c m =>
    obtain ⟨rfl,rfl,rfl,rfl,hl,h5,fr,g,hg⟩ := h
    have h1 : decide (els.length + ys.length ≤ els.length) = false := by simp; omega
    have hf := hE.frst
    simp only [apSl,h1,cond_false,growN_of (by_ := by_) hb hb2,Bool.not_true,hf,Option.map_some]
    refine ⟨_,_,rfl,⟨rfl,by simp,rfl,rfl,by simp [Eff.on,Heap.sz_new],?_,true,?_⟩,Fr.new Nop H _,fun l q => ?_⟩
    · intro r hr; rcases List.mem_append.1 hr with q | q
      · exact h5 r q
      · exact hlr r q
    · simp [Eff.on,newCells,Heap.get_new]
    · have e : H.sz = l := q; omega
  | _ => exact h.elim
/-- It grows, or is full. -/
def GF (H : Heap) (e sz : Nat) (x : AV) (els : List (List AV)) : Prop := Full H e sz x els ∨ Grow H e sz x els
theorem GF.toEls (h : GF H e sz x els) : Els ρ H sz x els := h.elim Full.toEls Grow.toEls
theorem GF.frame (h : GF H e sz x els) (S : Nat → Prop) (f : Fr S H H') (hs : ∀ l,x.lies l → ¬ S l) : GF H' e sz x els := h.elim (fun h => Or.inl (h.frame S f hs)) (fun h => Or.inr (h.frame S f hs))
theorem GF.notSx (h : GF H e sz x els) (n : Nat) : x ≠ .sx n := by
  rcases h with h | h
  · rintro rfl; exact h
  · exact h.notSx n
theorem Ret.appF {by_ : Nat} (h : GF H e sz x els) (hy : Els ρ H sz y ys) (hne : ys ≠ []) (hs : ∀ r ∈ ys,r.all AV.solid = true) (hb : (els.length + ys.length) * by_ ≤ 70368744177664) (hb2 : els.length + ys.length ≤ 70368744177664)
    (hk : ∀ x' H',Grow H' e sz x' (els ++ ys) → Fr x.lies H H' → (∀ l,x'.lies l → x.lies l ∨ H.sz ≤ l) → scal x' = true → Ret Q (K x' H')) : Ret Q (effK H (apA ρ 0 H e sz by_ x y) K) := by
  rcases h with h | h
  · obtain ⟨x',f,ea,G,fr,hl⟩ := h.append hy hne hs hb hb2
    rw [ea,effK_on]
    refine hk x' _ G (fr.mono fun _ _ q => q.elim) (fun l q => Or.inr (hl l q)) ?_
    cases x' <;> first | exact G.elim | rfl
  · exact Ret.app h hy hs hb hb2 hk
theorem u8n (n : Nat) : wrapK .u8 (n : Int) = ((UInt8.ofNat n).toNat : Int) := by
  rw [UInt8.toNat_ofNat']
  show ((n : Int) % 256) = _
  omega
theorem tmodN (n m : Nat) : (n : Int).tmod (m : Int) = ((n % m : Nat) : Int) := rfl
theorem tdivN (n m : Nat) (h : n < 9223372036854775808) : wrapK .i64 ((n : Int).tdiv (m : Int)) = ((n / m : Nat) : Int) := wrap_nat (n / m) (Nat.lt_of_le_of_lt (Nat.div_le_self _ _) h)
end
end Go.Ev

-- part EvQb
/- EvQb: plain laws on words of 64 bits and their bytes. -/
set_option linter.unusedVariables false
set_option linter.unusedSimpArgs false
namespace Go.Ev
open Go.RowKit
def U64 (x : Int) : Prop := 0 ≤ x ∧ x < 18446744073709551616
theorem bv_of {x : Int} (h : U64 x) : (BitVec.ofInt 64 x).toNat = x.toNat := by
  unfold U64 at h
  rw [BitVec.toNat_ofInt]
  congr 1
  exact Int.emod_eq_of_lt h.1 (by omega)
theorem bits_nat (op : BinOp) (a b : Int) (v : BitVec 64) (h : Go.bits op .u64 a b = wrapK .u64 (v.toNat : Int)) : Go.bits op .u64 a b = v.toNat := by rw [h,bv_u64_nat]
theorem and_bv (a b : Int) : Go.bits .and .u64 a b = ((BitVec.ofInt 64 a &&& BitVec.ofInt 64 b).toNat : Int) := by rw [← bv_u64_nat,wrapK_eq]; rfl
theorem xor_bv (a b : Int) : Go.bits .xor .u64 a b = ((BitVec.ofInt 64 a ^^^ BitVec.ofInt 64 b).toNat : Int) := by rw [← bv_u64_nat,wrapK_eq]; rfl
theorem and_one {c : Int} (h : U64 c) : Go.bits .and .u64 c 1 = c % 2 := by
  rw [and_bv,BitVec.toNat_and,bv_of h,bv_of (show U64 1 by unfold U64; omega)]
  show ((c.toNat &&& 1 : Nat) : Int) = _
  rw [Nat.and_one_is_mod]
  have := h.1
  omega
theorem xor_zero {c : Int} (h : U64 c) : Go.bits .xor .u64 c 0 = c := by
  rw [xor_bv]
  have : (BitVec.ofInt 64 0) = 0#64 := rfl
  rw [this,BitVec.xor_zero,bv_of h]
  have := h.1
  omega
theorem xor_max {c : Int} (h : U64 c) : Go.bits .xor .u64 18446744073709551615 c = 18446744073709551615 - c := by
  rw [xor_bv]
  have e : (BitVec.ofInt 64 18446744073709551615) = BitVec.allOnes 64 := rfl
  rw [e,BitVec.allOnes_xor,BitVec.toNat_not,bv_of h]
  have := h.1; have := h.2
  omega
-- words and their bytes
theorem repeatL_one (x : AV) : ∀ n,repeatL [x] n = List.replicate n x
  | 0 => rfl
  | n + 1 => by rw [repeatL,repeatL_one x n]; rfl
def wbyte (ws : List Int) (i : Nat) : UInt8 := UInt8.ofNat ((ws.getD (i / 8) 0).toNat / 256 ^ (i % 8) % 256)
def wbytes (ws : List Int) : List UInt8 := (List.range (8 * ws.length)).map (wbyte ws)
theorem wbytes_len (ws : List Int) : (wbytes ws).length = 8 * ws.length := by simp [wbytes]
def w8 (n : Int) : List UInt8 := wbytes [n]
theorem w8_len (n : Int) : (w8 n).length = 8 := wbytes_len [n]
theorem w8_at (n : Int) (i : Nat) (h : i < 8) : (w8 n)[i]'(by rw [w8_len]; exact h) = UInt8.ofNat (n.toNat / 256 ^ i % 256) := by
  have a : i / 8 = 0 := by omega
  have b : i % 8 = i := by omega
  simp [w8,wbytes,wbyte,a,b]
def urow (ws : List Int) : List (List AV) := ws.map fun n => [.int .u64 n]
theorem urow_len (ws : List Int) : (urow ws).length = ws.length := List.length_map ..
theorem byte_val (w : Int) (h : U64 w) (m : Nat) (hm : m < 8) : wrapK .u8 (w.fdiv (2 ^ min (((m : Int) * 8)).toNat IntKind.u64.bits)) = (UInt8.ofNat (w.toNat / 256 ^ m % 256)).toNat := by
  have e0 : min ((m : Int) * 8).toNat IntKind.u64.bits = 8 * m := by
    have : IntKind.u64.bits = 64 := rfl
    omega
  rw [e0]
  have e1 : (2 : Int) ^ (8 * m) = ((256 ^ m : Nat) : Int) := by
    rw [Int.pow_mul]
    norm_cast
  rw [e1,Int.fdiv_eq_ediv_of_nonneg _ (Int.natCast_nonneg _)]
  obtain ⟨n,rfl⟩ : ∃ n : Nat,w = n := ⟨w.toNat,by have := h.1; omega⟩
  rw [Int.toNat_natCast,UInt8.toNat_ofNat']
  show ((n : Int) / ((256 ^ m : Nat) : Int)) % 256 = _
  have : (n : Int) / ((256 ^ m : Nat) : Int) = ((n / 256 ^ m : Nat) : Int) := rfl
  rw [this]
  omega
theorem range_set {α : Type} (f : Nat → α) (N i : Nat) (v : α) : ((List.range N).map f).set i v = (List.range N).map (fun j => if j = i then v else f j) := by
  apply List.ext_getElem?
  intro j
  rw [List.getElem?_set]
  by_cases h : i = j
  · subst h
    by_cases hi : i < N
    · simp [hi]
    · simp [hi]
  · have h' : ¬ j = i := fun e => h e.symm
    simp only [h,if_false,List.getElem?_map]
    by_cases hj : j < N
    · simp [hj,h']
    · simp [hj]
theorem q_div (i : Nat) (h : i < 1000000000) : wrapK .i64 ((i : Int).tdiv 8) = ((i / 8 : Nat) : Int) := wrap_nat (i / 8) (by omega)
theorem q_mod (i : Nat) : (i : Int).tmod 8 = ((i % 8 : Nat) : Int) := rfl
theorem q_mul (m : Nat) (h : m < 8) : wrapK .i64 ((m : Int) * 8) = (m : Int) * 8 := wrap_i64 _ (by omega)
theorem q_up (n : Nat) (h : n < 1000000000) : wrapK .i64 (wrapK .i64 ((n : Int) + 8) - 1) = ((n + 7 : Nat) : Int) := by
  rw [wrap_i64 ((n : Int) + 8) (by omega),wrap_i64 _ (by omega)]; omega
theorem q_N (n : Nat) (h : n < 1000000000) : wrapK .i64 (8 * (n : Int)) = ((8 * n : Nat) : Int) := by rw [wrap_i64 _ (by omega)]; omega
theorem rs1 (S i : Nat) : (((S / 256 ^ i : Nat) : Int)).tmod 256 = ((S / 256 ^ i % 256 : Nat) : Int) := rfl
theorem rs2 (m : Nat) (h : m < 256) : wrapK .u8 ((m : Nat) : Int) = (UInt8.ofNat m).toNat := by
  rw [UInt8.toNat_ofNat',wrap_u8 _ (by omega)]; omega
theorem rs3 (S i : Nat) (hS : S < 18446744073709551616) : wrapK .u64 (((S / 256 ^ i : Nat) : Int).tdiv 256) = ((S / 256 ^ (i + 1) : Nat) : Int) := by
  have e : ((S / 256 ^ i : Nat) : Int).tdiv 256 = ((S / 256 ^ i / 256 : Nat) : Int) := rfl
  have le : S / 256 ^ i / 256 < 18446744073709551616 := Nat.lt_of_le_of_lt (Nat.div_le_self _ _) (Nat.lt_of_le_of_lt (Nat.div_le_self _ _) hS)
  have e2 : S / 256 ^ i / 256 = S / 256 ^ (i + 1) := by rw [Nat.div_div_eq_div_mul,← Nat.pow_succ]
  rw [e,← e2]
  generalize S / 256 ^ i / 256 = z at le
  exact wrap_u64 _ (by omega)
/-- The number of bytes, the lowest first. -/
def numB : List UInt8 → Nat
  | [] => 0
  | b :: r => b.toNat + 256 * numB r
theorem numB_snoc : ∀ (l : List UInt8) (b : UInt8),numB (l ++ [b]) = numB l + 256 ^ l.length * b.toNat
  | [],b => by simp [numB]
  | a :: l,b => by
    rw [List.cons_append,numB,numB_snoc l b,numB,List.length_cons,Nat.pow_succ]
    rw [Nat.mul_add]
    have : 256 * (256 ^ l.length * b.toNat) = 256 ^ l.length * 256 * b.toNat := by rw [← Nat.mul_assoc,Nat.mul_comm 256]
    omega
theorem numB_lt : ∀ l : List UInt8,numB l < 256 ^ l.length
  | [] => by simp [numB]
  | b :: l => by
    have := numB_lt l
    have := b.toNat_lt
    rw [numB,List.length_cons,Nat.pow_succ]
    omega
theorem or_add (w m : Nat) (b : Nat) (hm : m < 8) (hw : w < 256 ^ m) (hb : b < 256) : Go.bits .or .u64 (w : Int) ((256 ^ m * b : Nat) : Int) = ((w + 256 ^ m * b : Nat) : Int) := by
  have e3 : Go.bits .or .u64 (w : Int) ((256 ^ m * b : Nat) : Int) = ((BitVec.ofInt 64 (w : Int) ||| BitVec.ofInt 64 ((256 ^ m * b : Nat) : Int)).toNat : Int) := by rw [← bv_u64_nat,wrapK_eq]; rfl
  have p : 256 ^ m = 2 ^ (8 * m) := by rw [Nat.pow_mul]
  have hp : 256 ^ m * 256 ≤ 256 ^ 8 := by rw [← Nat.pow_succ]; exact Nat.pow_le_pow_right (by decide) (by omega)
  have h8 : 256 ^ 8 = 18446744073709551616 := by decide
  have hpos : 0 < 256 ^ m := Nat.pow_pos (by decide)
  have hprod : 256 ^ m * b + w < 18446744073709551616 := by
    have : 256 ^ m * b + 256 ^ m ≤ 256 ^ m * 256 := by rw [← Nat.mul_succ]; exact Nat.mul_le_mul_left _ (by omega)
    omega
  rw [e3,BitVec.toNat_or,bv_of (show U64 (w : Int) by unfold U64; omega),bv_of (show U64 ((256 ^ m * b : Nat) : Int) by unfold U64; omega)]
  rw [Int.toNat_natCast,Int.toNat_natCast]
  have := Nat.two_pow_add_eq_or_of_lt (i := 8 * m) (b := w) (by rw [← p]; exact hw) b
  rw [← p] at this
  rw [Nat.or_comm,← this,Nat.add_comm]
theorem shl_val (b m : Nat) (hm : m < 8) (hb : b < 256) : wrapK .u64 ((b : Int) * 2 ^ min (((m : Int) * 8)).toNat IntKind.u64.bits) = ((256 ^ m * b : Nat) : Int) := by
  have e0 : min ((m : Int) * 8).toNat IntKind.u64.bits = 8 * m := by
    have : IntKind.u64.bits = 64 := rfl
    omega
  rw [e0]
  have e1 : (b : Int) * (2 : Int) ^ (8 * m) = ((256 ^ m * b : Nat) : Int) := by
    rw [Int.pow_mul]
    norm_cast
    rw [Nat.mul_comm]
  have hp : 256 ^ m * 256 ≤ 256 ^ 8 := by rw [← Nat.pow_succ]; exact Nat.pow_le_pow_right (by decide) (by omega)
  have h8 : 256 ^ 8 = 18446744073709551616 := by decide
  have hpos : 0 < 256 ^ m := Nat.pow_pos (by decide)
  have : 256 ^ m * b < 256 ^ m * 256 := Nat.mul_lt_mul_of_pos_left hb hpos
  rw [e1,wrap_u64 _ (by omega)]
end Go.Ev

-- part EvMp
/- EvMp: maps whose keys are numbers, texts, or structs of such: what they read as; how they grow. -/
set_option linter.unusedVariables false
set_option linter.unusedSimpArgs false
namespace Go.Ev
open Go.RowKit
/-- Keys that are told apart by what they stand for. -/
structure KeyT {δ : Type} [DecidableEq δ] (P : Program) (kt : TypeId) (f : δ → AV) : Prop where
  eq : ∀ H d d',eqIn P H 20 kt (f d) (f d') = some (decide (d = d'))
  chk : ∀ d,keyChk P 20 kt (f d) = true
  same : ∀ d,sameA (f d) (f d) = true
def entO {δ : Type} (f : δ → AV) (es : List (δ × AV × Nat)) : List (AV × AV × Nat) := es.map fun e => (f e.1,e.2.1,e.2.2)
/-- What lies in a map's place. -/
def mapO {δ : Type} (f : δ → AV) (es : List (δ × AV × Nat)) (c : Nat) : AObj := .map (entO f es) c
/-- The births rise. -/
def Born {δ : Type} (es : List (δ × AV × Nat)) (c : Nat) : Prop := (es.map fun e => e.2.2).Pairwise (· < ·) ∧ ∀ e ∈ es,e.2.2 < c
theorem Born.nil {δ : Type} : Born ([] : List (δ × AV × Nat)) 0 := ⟨.nil,by simp⟩
theorem Born.snoc {δ : Type} {es : List (δ × AV × Nat)} {c : Nat} (h : Born es c) (d : δ) (v : AV) : Born (es ++ [(d,v,c)]) (c + 1) := by
  constructor
  · rw [List.map_append,List.pairwise_append]
    refine ⟨h.1,by simp,?_⟩
    intro a ha b hb
    obtain ⟨e,he,rfl⟩ := List.mem_map.1 ha
    simp at hb; subst hb
    exact h.2 e he
  · intro e he
    rcases List.mem_append.1 he with q | q
    · have := h.2 e q; omega
    · simp at q; subst q; simp
/-- What a key leads to. -/
def getM {δ : Type} [DecidableEq δ] (es : List (δ × AV × Nat)) (d : δ) : Option AV := (es.find? fun e => decide (e.1 = d)).map fun e => e.2.1
section
variable {δ : Type} [DecidableEq δ] {C : Ctx} {kt t e : TypeId} {f : δ → AV} {H : Heap} {l c : Nat} {es : List (δ × AV × Nat)}
theorem findA_entO (K : KeyT C.P kt f) (d : δ) : ∀ (es : List (δ × AV × Nat)) (i : Nat),findA C.P H kt (f d) (entO f es) i = some ((es.findIdx? fun e => decide (e.1 = d)).bind fun j => (es[j]?).map fun e => (i + j,e.2.1))
  | [],i => rfl
  | x :: r,i => by
    have ih := findA_entO K d r (i + 1)
    have hx : entO f (x :: r) = (f x.1,x.2.1,x.2.2) :: entO f r := rfl
    rw [hx]
    simp only [findA,K.eq,Option.bind_some,ih]
    by_cases h : d = x.1
    · subst h
      simp [List.findIdx?_cons]
    · have h' : ¬ x.1 = d := fun e => h e.symm
      have e1 : decide (d = x.1) = false := by simp [h]
      have e2 : decide (x.1 = d) = false := by simp [h']
      simp only [e1,cond_false,List.findIdx?_cons,e2]
      simp only [Bool.false_eq_true,if_false]
      congr 1
      cases hf : r.findIdx? fun e => decide (e.1 = d) with
      | none => rfl
      | some j =>
        simp only [Option.map_some,Option.bind_some,List.getElem?_cons_succ]
        have : i + 1 + j = i + (j + 1) := by omega
        rw [this]
theorem find_getM (d : δ) : ∀ (es : List (δ × AV × Nat)) (i : Nat),(((es.findIdx? fun e => decide (e.1 = d)).bind fun j => (es[j]?).map fun e => (i + j,e.2.1)).map fun r => r.2) = getM es d
  | [],i => rfl
  | x :: r,i => by
    have ih := find_getM d r (i + 1)
    unfold getM at ih ⊢
    by_cases h : x.1 = d
    · simp [List.findIdx?_cons,h]
    · have e2 : decide (x.1 = d) = false := by simp [h]
      simp only [List.findIdx?_cons,e2,List.find?_cons,Bool.false_eq_true,if_false]
      rw [← ih]
      cases r.findIdx? fun e => decide (e.1 = d) with
      | none => rfl
      | some j =>
        simp only [Option.map_some,Option.bind_some,List.getElem?_cons_succ]
        cases r[j]? <;> rfl
theorem getM_none {d : δ} : getM es d = none ↔ ∀ e ∈ es,e.1 ≠ d := by
  unfold getM
  rw [Option.map_eq_none_iff,List.find?_eq_none]
  simp
theorem getM_snoc (d d' : δ) (v : AV) (h : getM es d = none) : getM (es ++ [(d,v,c)]) d' = if d = d' then some v else getM es d' := by
  have h' := getM_none.1 h
  unfold getM
  rw [List.find?_append]
  by_cases e : d = d'
  · subst e
    have : es.find? (fun e => decide (e.1 = d)) = none := by
      rw [List.find?_eq_none]; simpa using h'
    simp [this]
  · simp [e]
/-- A map is looked into. -/
theorem lookup_at (K : KeyT C.P kt f) (ht : C.P.underlying t = some (.map kt e)) (hg : H.get l = mapO f es c) (d : δ) {z : AV} (hz : zeroA C.P e = some z) :
    lookupA C H t (.mp l) (f d) false = some ((getM es d).getD z) := by
  have he : entriesA H (.mp l) = some (entO f es) := by simp only [entriesA,hg,mapO]
  simp only [lookupA,ht,K.chk,cond_true,he,Option.bind_some,findA_entO K d es 0]
  rw [← find_getM d es 0]
  cases (es.findIdx? fun e => decide (e.1 = d)).bind fun j => (es[j]?).map fun e => (0 + j,e.2.1) with
  | none => simp [hz]
  | some r => simp
theorem lookup_ok (K : KeyT C.P kt f) (ht : C.P.underlying t = some (.map kt e)) (hg : H.get l = mapO f es c) (d : δ) {z : AV} (hz : zeroA C.P e = some z) :
    lookupA C H t (.mp l) (f d) true = some (.tup [(getM es d).getD z,.bool (getM es d).isSome]) := by
  have he : entriesA H (.mp l) = some (entO f es) := by simp only [entriesA,hg,mapO]
  simp only [lookupA,ht,K.chk,cond_true,he,Option.bind_some,findA_entO K d es 0]
  rw [← find_getM d es 0]
  cases (es.findIdx? fun e => decide (e.1 = d)).bind fun j => (es[j]?).map fun e => (0 + j,e.2.1) with
  | none => simp [hz]
  | some r => simp
theorem idx_none {d : δ} (h : getM es d = none) : (es.findIdx? fun e => decide (e.1 = d)) = none := by
  rw [List.findIdx?_eq_none_iff]
  have := getM_none.1 h
  intro e he
  simpa using this e he
/-- A key comes in that was not there. -/
theorem put_new (K : KeyT C.P kt f) (ht : C.P.underlying t = some (.map kt e)) (hg : H.get l = mapO f es c) (d : δ) (v : AV) (h : getM es d = none) :
    mapPutA C 0 H t (.mp l) (f d) v = some (.put l (mapO f (es ++ [(d,v,c)]) (c + 1))) := by
  have hb : Nat.ble 0 l = true := Nat.ble_eq_true_of_le (by omega)
  simp only [mapPutA,ht,K.chk,hb,Bool.and_self,cond_true,hg,mapO,findA_entO K d es 0,idx_none h,Option.bind_none,Option.bind_some]
  simp [entO]
/-- A place for a key that was not there. -/
theorem entry_new (K : KeyT C.P kt f) (ht : C.P.underlying t = some (.map kt e)) (hg : H.get l = mapO f es c) (d : δ) {z : AV} (hz : zeroA C.P e = some z) (h : getM es d = none) :
    mapEntryA C 0 H t (.mp l) (f d) = some (.tup [z,.int .i64 c],.put l (mapO f (es ++ [(d,z,c)]) (c + 1))) := by
  have hb : Nat.ble 0 l = true := Nat.ble_eq_true_of_le (by omega)
  simp only [mapEntryA,ht,K.chk,hb,Bool.and_self,cond_true,hg,mapO,findA_entO K d es 0,idx_none h,Option.bind_none,Option.bind_some,hz,Option.map_some]
  simp [entO]
omit [DecidableEq δ] in
theorem born_idx {d : δ} {z : AV} (hB : Born es c) : (entO f (es ++ [(d,z,c)])).findIdx? (fun e => (e.2.2 : Int) == (c : Int)) = some es.length := by
  have h1 : (entO f es).findIdx? (fun e => (e.2.2 : Int) == (c : Int)) = none := by
    rw [List.findIdx?_eq_none_iff]
    intro x hx
    obtain ⟨y,hy,rfl⟩ := List.mem_map.1 hx
    have := hB.2 y hy
    simp; omega
  unfold entO at h1 ⊢
  rw [List.map_append,List.findIdx?_append,h1]
  simp
omit [DecidableEq δ] in
theorem modify_last {α : Type} (b : α) (g : α → α) : ∀ a : List α,(a ++ [b]).modify a.length g = a ++ [g b]
  | [] => rfl
  | x :: a => by
    have := modify_last b g a
    simp only [List.cons_append,List.length_cons,List.modify_succ_cons,this]
omit [DecidableEq δ] in
/-- .. and what lies there. -/
theorem entryStore_new {d : δ} {z : AV} (hg : H.get l = mapO f (es ++ [(d,z,c)]) (c + 1)) (hB : Born es c) (v : AV) :
    entryStoreA 0 H (.mp l) (.int .i64 c) v = some (.put l (mapO f (es ++ [(d,v,c)]) (c + 1))) := by
  have hb : Nat.ble 0 l = true := Nat.ble_eq_true_of_le (by omega)
  simp only [entryStoreA,hb,cond_true,hg,mapO,born_idx hB,Option.map_some]
  congr 2
  unfold entO
  rw [List.map_append,List.map_append]
  have : (es.map fun e => (f e.1,e.2.1,e.2.2)).length = es.length := List.length_map ..
  rw [← this,List.map_cons,List.map_nil,modify_last]
  rfl
end
end Go.Ev

-- part EvU32
/- EvU32: sets of bits, in words of 32. -/
set_option linter.unusedVariables false
namespace Go.Ev
open Go.RowKit
theorem u32w (n : Int) : wrapK .u32 n = n % 4294967296 := by rw [wrapK_eq]; simp [IntKind.wrap,IntKind.bits,IntKind.signed]
theorem bv_u32_nat (x : BitVec 32) : wrapK .u32 (x.toNat : Int) = x.toNat := by
  have := x.isLt
  rw [u32w]; omega
theorem of32 (a : Nat) (h : a < 4294967296) : (BitVec.ofInt 32 (a : Int)).toNat = a := by
  rw [BitVec.toNat_ofInt]
  have : ((a : Int) % (2 ^ 32 : Nat)).toNat = a % 2 ^ 32 := by norm_cast
  rw [this]
  exact Nat.mod_eq_of_lt h
theorem or32 (a b : Nat) (ha : a < 4294967296) (hb : b < 4294967296) : Go.bits .or .u32 (a : Int) (b : Int) = ((a ||| b : Nat) : Int) := by
  have e : Go.bits .or .u32 (a : Int) (b : Int) = ((BitVec.ofInt 32 (a : Int) ||| BitVec.ofInt 32 (b : Int)).toNat : Int) := by rw [← bv_u32_nat,wrapK_eq]; rfl
  rw [e,BitVec.toNat_or,of32 a ha,of32 b hb]
theorem and32 (a b : Nat) (ha : a < 4294967296) (hb : b < 4294967296) : Go.bits .and .u32 (a : Int) (b : Int) = ((a &&& b : Nat) : Int) := by
  have e : Go.bits .and .u32 (a : Int) (b : Int) = ((BitVec.ofInt 32 (a : Int) &&& BitVec.ofInt 32 (b : Int)).toNat : Int) := by rw [← bv_u32_nat,wrapK_eq]; rfl
  rw [e,BitVec.toNat_and,of32 a ha,of32 b hb]
/-- Is the one within the other? -/
def subM (a b : Nat) : Bool := decide (a &&& b = a)
theorem subM_iff {a b : Nat} : subM a b = true ↔ ∀ j,a.testBit j = true → b.testBit j = true := by
  unfold subM
  rw [decide_eq_true_eq]
  constructor
  · intro h j hj
    have := congrArg (fun n => n.testBit j) h
    simp only [Nat.testBit_and,hj,Bool.true_and] at this
    exact this
  · intro h
    apply Nat.eq_of_testBit_eq
    intro j
    rw [Nat.testBit_and]
    cases hj : a.testBit j with
    | false => rfl
    | true => rw [h j hj]; rfl
theorem andNot32 (a b : Nat) (ha : a < 4294967296) (hb : b < 4294967296) : (Go.bits .andNot .u32 (a : Int) (b : Int) = 0) ↔ subM a b = true := by
  have e : Go.bits .andNot .u32 (a : Int) (b : Int) = ((BitVec.ofInt 32 (a : Int) &&& ~~~ BitVec.ofInt 32 (b : Int)).toNat : Int) := by rw [← bv_u32_nat,wrapK_eq]; rfl
  rw [e]
  obtain ⟨A,hA⟩ : ∃ A,A = BitVec.ofInt 32 (a : Int) := ⟨_,rfl⟩
  obtain ⟨B,hB⟩ : ∃ B,B = BitVec.ofInt 32 (b : Int) := ⟨_,rfl⟩
  have hA' : A.toNat = a := by rw [hA]; exact of32 a ha
  have hB' : B.toNat = b := by rw [hB]; exact of32 b hb
  rw [← hA,← hB,subM_iff,← hA',← hB']
  constructor
  · intro h j hj
    have h0 : A &&& ~~~ B = 0#32 := by apply BitVec.eq_of_toNat_eq; simpa using h
    by_cases hlt : j < 32
    · have := congrArg (fun v => v.getLsbD j) h0
      simp only [BitVec.getLsbD_and,BitVec.getLsbD_not,hlt,decide_true,Bool.true_and,BitVec.getLsbD_zero] at this
      rw [BitVec.testBit_toNat] at hj ⊢
      rw [hj] at this
      simpa using this
    · rw [BitVec.testBit_toNat,BitVec.getLsbD_of_ge _ _ (by omega)] at hj
      cases hj
  · intro h
    have h0 : A &&& ~~~ B = 0#32 := by
      apply BitVec.eq_of_getLsbD_eq
      intro j hlt
      simp only [BitVec.getLsbD_and,BitVec.getLsbD_not,hlt,decide_true,Bool.true_and,BitVec.getLsbD_zero]
      have := h j
      rw [BitVec.testBit_toNat,BitVec.testBit_toNat] at this
      cases hj : A.getLsbD j with
      | false => rfl
      | true => rw [this hj]; rfl
    rw [h0]; rfl
theorem shl32 (i : Nat) (h : i < 32) : wrapK .u32 (1 * 2 ^ min ((i : Int)).toNat IntKind.u32.bits) = ((2 ^ i : Nat) : Int) := by
  have e0 : min ((i : Int)).toNat IntKind.u32.bits = i := by
    have : IntKind.u32.bits = 32 := rfl
    omega
  rw [e0,u32w]
  have : 2 ^ i < 2 ^ 32 := Nat.pow_lt_pow_right (by decide) h
  have e1 : (1 * 2 ^ i : Int) = ((2 ^ i : Nat) : Int) := by norm_cast; omega
  rw [e1]
  have h2 : (2 : Nat) ^ 32 = 4294967296 := by decide
  rw [h2] at this
  generalize 2 ^ i = q at this ⊢
  omega
theorem pow_lt32 (i : Nat) (h : i < 32) : 2 ^ i < 4294967296 := by
  have : 2 ^ i < 2 ^ 32 := Nat.pow_lt_pow_right (by decide) h
  exact this
theorem shr32 (m i : Nat) (h : i < 32) (hm : m < 4294967296) : (Go.bits .and .u32 ((m : Int).fdiv (2 ^ min ((i : Int)).toNat IntKind.u32.bits)) 1 = 1) ↔ m.testBit i = true := by
  have e0 : min ((i : Int)).toNat IntKind.u32.bits = i := by
    have : IntKind.u32.bits = 32 := rfl
    omega
  rw [e0]
  have e1 : ((m : Int).fdiv (2 ^ i)) = ((m / 2 ^ i : Nat) : Int) := by
    rw [Int.fdiv_eq_ediv_of_nonneg _ (by exact_mod_cast Nat.zero_le _)]
    norm_cast
  have hlt : m / 2 ^ i < 4294967296 := Nat.lt_of_le_of_lt (Nat.div_le_self _ _) hm
  rw [e1]
  have := and32 (m / 2 ^ i) 1 hlt (by decide)
  rw [show ((1 : Nat) : Int) = (1 : Int) from rfl] at this
  rw [this,Nat.and_one_is_mod,Nat.testBit_eq_decide_div_mod_eq]
  rw [decide_eq_true_eq]
  omega
-- sets
theorem or_pow_bit (m i j : Nat) : (m ||| 2 ^ i).testBit j = (m.testBit j || decide (i = j)) := by
  rw [Nat.testBit_or,Nat.testBit_two_pow]
theorem or_lt (m i n : Nat) (hm : m < 2 ^ n) (hi : i < n) : m ||| 2 ^ i < 2 ^ n := Nat.or_lt_two_pow hm (Nat.pow_lt_pow_right (by decide) hi)
/-- The set of those that are told true. -/
def maskL : List Bool → Nat
  | [] => 0
  | b :: r => (if b then 1 else 0) + 2 * maskL r
theorem maskL_bit : ∀ (l : List Bool) (j : Nat),(maskL l).testBit j = l.getD j false
  | [],j => by simp [maskL]
  | b :: r,0 => by
    cases b <;> simp [maskL,Nat.testBit_zero] <;> omega
  | b :: r,j + 1 => by
    have ih := maskL_bit r j
    have : (maskL (b :: r)) / 2 = maskL r := by
      cases b <;> simp [maskL] <;> omega
    rw [Nat.testBit_succ,this,ih]
    rfl
theorem maskL_lt : ∀ l : List Bool,maskL l < 2 ^ l.length
  | [] => by decide
  | b :: r => by
    have := maskL_lt r
    rw [List.length_cons,Nat.pow_succ]
    unfold maskL
    split <;> omega
theorem maskL_snoc (l : List Bool) (b : Bool) : maskL (l ++ [b]) = if b then maskL l ||| 2 ^ l.length else maskL l := by
  apply Nat.eq_of_testBit_eq
  intro j
  rw [maskL_bit]
  cases b with
  | false =>
    simp only [Bool.false_eq_true,if_false,maskL_bit]
    rw [List.getD_eq_getElem?_getD,List.getD_eq_getElem?_getD,List.getElem?_append]
    split
    · rfl
    · rename_i h
      rw [List.getElem?_eq_none (by omega : l.length ≤ j)]
      by_cases hj : j - l.length = 0
      · rw [hj]; rfl
      · rw [List.getElem?_eq_none (by simp; omega)]
  | true =>
    simp only [if_true]
    rw [or_pow_bit,maskL_bit,List.getD_eq_getElem?_getD,List.getD_eq_getElem?_getD,List.getElem?_append]
    split
    · rename_i h
      have : ¬ l.length = j := by omega
      simp [this]
    · rename_i h
      rw [List.getElem?_eq_none (by omega : l.length ≤ j)]
      by_cases hj : l.length = j
      · subst hj; simp
      · rw [List.getElem?_eq_none (by simp; omega)]; simp [hj]
end Go.Ev

-- part EvSg
/- EvSg: places, and slices that grow beside them. -/
set_option linter.unusedVariables false
set_option linter.unusedSimpArgs false
namespace Go.Ev
open Go.RowKit
/-- A slice of nothing, with no room, in a place that may be written. -/
def Emp0 (H : Heap) (y : AV) : Prop := match y with
  | .sl l v o n c m => n = 0 ∧ c = 0 ∧ m = false ∧ l < H.sz ∧ ∃ e g cs,H.get l = .cells v e (0,0) g cs ∧ o ≤ cs.length
  | _ => False
/-- A slice that is full, in a place that may be written. -/
def Full0 (H : Heap) (e sz : Nat) (x : AV) (els : List (List AV)) : Prop := match x with
  | .sl l v o n c m => o = 0 ∧ n = els.length ∧ c = n ∧ m = false ∧ l < H.sz ∧ (∀ r ∈ els,r.length = sz) ∧ ∃ g,H.get l = .cells v e (0,0) g els.flatten
  | _ => False
/-- A slice that grows; at first it may be empty, or full. -/
def GG (H : Heap) (e sz : Nat) (y : AV) (els : List (List AV)) : Prop := (els = [] ∧ Emp0 H y) ∨ Full0 H e sz y els ∨ Grow H e sz y els
section
variable {ρ : Addr → Option Value} {H H' : Heap} {e sz : Nat} {x y : AV} {els ys : List (List AV)}
theorem Emp0.emp (h : Emp0 H x) : Emp H x := by
  cases x with
  | sl l v o n c m =>
    obtain ⟨rfl,rfl,rfl,hl,e',g,cs,hg,ho⟩ := h
    exact ⟨rfl,rfl,rfl,hl,e',_,g,cs,hg,ho⟩
  | _ => exact h.elim
theorem Emp0.frame (h : Emp0 H x) (S : Nat → Prop) (f : Fr S H H') (hs : ∀ l,x.lies l → ¬ S l) : Emp0 H' x := by
  cases x with
  | sl l v o n c m =>
    obtain ⟨h1,h2,h3,hl,e,g,cs,hg,ho⟩ := h
    exact ⟨h1,h2,h3,Nat.lt_of_lt_of_le hl f.sz,e,g,cs,by rw [f.get l hl (hs l rfl),hg],ho⟩
  | _ => exact h.elim
theorem Full0.full (h : Full0 H e sz x els) : Full H e sz x els := by
  cases x with
  | sl l v o n c m =>
    obtain ⟨h1,h2,h3,h4,h5,h6,g,hg⟩ := h
    exact ⟨h1,h2,h3,h4,h5,h6,_,g,hg⟩
  | _ => exact h.elim
theorem Full0.frame (h : Full0 H e sz x els) (S : Nat → Prop) (f : Fr S H H') (hs : ∀ l,x.lies l → ¬ S l) : Full0 H' e sz x els := by
  cases x with
  | sl l v o n c m =>
    obtain ⟨h1,h2,h3,h4,hl,h5,g,hg⟩ := h
    exact ⟨h1,h2,h3,h4,Nat.lt_of_lt_of_le hl f.sz,h5,g,by rw [f.get l hl (hs l rfl),hg]⟩
  | _ => exact h.elim
theorem GG.nils (H : Heap) (e sz : Nat) : GG H e sz .nils [] := Or.inr (Or.inr (Grow.nils H e sz))
theorem GG.of_new {l v : Nat} {e' : Nat} {g : Bool} (hl : l < H.sz) (hg : H.get l = .cells v e' (0,0) g []) : GG H e sz (.sl l v 0 0 0 false) [] := Or.inl ⟨rfl,rfl,rfl,rfl,hl,e',g,_,hg,Nat.le_refl _⟩
theorem GG.of_full {l n : Nat} (hl : l < H.sz) (hn : els.length = n) (hs : ∀ r ∈ els,r.length = sz) (hg : H.get l = .cells 0 e (0,0) false els.flatten) : GG H e sz (.sl l 0 0 n n false) els := Or.inr (Or.inl ⟨rfl,hn.symm,rfl,rfl,hl,hs,_,hg⟩)
theorem GG.toEls (h : GG H e sz x els) : Els ρ H sz x els := by
  rcases h with ⟨rfl,h⟩ | h | h
  · exact h.emp.toEls
  · exact h.full.toEls
  · exact h.toEls
theorem GG.notSx (h : GG H e sz x els) (n : Nat) : x ≠ .sx n := by
  rcases h with ⟨_,h⟩ | h | h
  · rintro rfl; exact h
  · rintro rfl; exact h
  · exact h.notSx n
theorem GG.frame (h : GG H e sz x els) (S : Nat → Prop) (f : Fr S H H') (hs : ∀ l,x.lies l → ¬ S l) : GG H' e sz x els := by
  rcases h with h | h | h
  · exact Or.inl ⟨h.1,h.2.frame S f hs⟩
  · exact Or.inr (Or.inl (h.frame S f hs))
  · exact Or.inr (Or.inr (h.frame S f hs))
theorem GG.lt (h : GG H e sz x els) (l : Nat) (hl : x.lies l) : l < H.sz := (h.toEls (ρ := fun _ => none)).lies_lt l hl
theorem GG.scal (h : GG H e sz x els) : scal x = true := by
  rcases h with ⟨_,h⟩ | h | h
  · cases x <;> first | exact h.elim | rfl
  · cases x <;> first | exact h.elim | rfl
  · cases x <;> first | exact h.elim | rfl
theorem layA_nil (c : List AV) (o : Nat) : layA c o [] = c := by simp [layA]
/-- An append to what grows, be it of nothing. -/
theorem GG.append {by_ : Nat} (h : GG H e sz x els) (hy : Els ρ H sz y ys) (hs : ∀ r ∈ ys,r.all AV.solid = true) (hb : (els.length + ys.length) * by_ ≤ 70368744177664) (hb2 : els.length + ys.length ≤ 70368744177664) :
    ∃ x' f,apA ρ 0 H e sz by_ x y = some (x',f) ∧ GG (f.on H) e sz x' (els ++ ys) ∧ Fr x.lies H (f.on H) ∧ (∀ l,x'.lies l → x.lies l ∨ H.sz ≤ l) := by
  rcases h with ⟨rfl,h⟩ | h | h
  · by_cases hne : ys = []
    · subst hne
      have hf : frst ρ H sz 0 y = some [] := hy.frst
      have hla : lenA y = some 0 := hy.lenA
      simp only [apA,hla,Option.bind_some,hf,List.flatten_nil,List.all_nil,List.length_nil,Nat.zero_mul,beq_self_eq_true,Bool.and_self,Bool.not_true,cond_false]
      cases x with
      | sl l v o n c m =>
        obtain ⟨rfl,rfl,rfl,hl,e',g,cs,hg,ho⟩ := h
        have c0 : decide (0 + 0 ≤ 0) = true := by decide
        simp only [apSl,c0,cond_true,Nat.zero_mul,Nat.add_zero]
        rw [storeN_of (vs := []) o hg (by simpa using ho) rfl,layA_nil]
        refine ⟨_,_,rfl,Or.inl ⟨rfl,rfl,rfl,rfl,hl,e',g,cs,?_,ho⟩,Fr.put H l _ (fun _ => rfl),fun l q => Or.inl q⟩
        simp [Eff.on,Heap.get_put]
      | _ => exact h.elim
    · rw [List.length_nil,Nat.zero_add] at hb hb2
      obtain ⟨x',f,h1,h2,h3,h4⟩ := h.emp.append (ρ := ρ) hy hne hs hb hb2
      exact ⟨x',f,h1,Or.inr (Or.inr h2),h3.mono fun t _ q => q.elim,fun l q => Or.inr (h4 l q)⟩
  · by_cases hne : ys = []
    · subst hne
      have hf : frst ρ H sz 0 y = some [] := hy.frst
      have hla : lenA y = some 0 := hy.lenA
      simp only [apA,hla,Option.bind_some,hf,List.flatten_nil,List.all_nil,List.length_nil,Nat.zero_mul,beq_self_eq_true,Bool.and_self,Bool.not_true,cond_false]
      cases x with
      | sl l v o n c m =>
        obtain ⟨rfl,rfl,rfl,rfl,hl,h5,g,hg⟩ := h
        have hel := els_length els sz h5
        simp only [apSl,Nat.add_zero,Nat.le_refl,decide_true,cond_true]
        rw [storeN_of (vs := []) _ hg (by simp [hel]) rfl,layA_nil]
        refine ⟨_,_,rfl,Or.inr (Or.inl ⟨rfl,by simp,rfl,rfl,hl,by simpa using h5,g,?_⟩),Fr.put H l _ (fun _ => rfl),fun l q => Or.inl q⟩
        simp [Eff.on,Heap.get_put]
      | _ => exact h.elim
    · obtain ⟨x',f,h1,h2,h3,h4⟩ := h.full.append (ρ := ρ) hy hne hs hb hb2
      exact ⟨x',f,h1,Or.inr (Or.inr h2),h3.mono fun t _ q => q.elim,fun l q => Or.inr (h4 l q)⟩
  · obtain ⟨x',f,h1,h2,h3,h4⟩ := h.append (ρ := ρ) hy hs hb hb2
    exact ⟨x',f,h1,Or.inr (Or.inr h2),h3,h4⟩
end
/-- A slice that grows. -/
structure GS where
  e : Nat
  sz : Nat
  x : AV
  els : List (List AV)
/-- Places and what lies in them; slices that grow, each in a place of its own. -/
structure Sg (S : Nat → Prop) (H0 : Heap) (L : List (Nat × AObj)) (G : List GS) (H : Heap) : Prop where
  st : St S H0 L H
  gr : ∀ g ∈ G,GG H g.e g.sz g.x g.els
  own : ∀ g ∈ G,∀ l,g.x.lies l → S l ∨ H0.sz ≤ l
  off : ∀ g ∈ G,∀ q ∈ L,¬ g.x.lies q.1
  dis : G.Pairwise fun a b => ∀ l,a.x.lies l → ¬ b.x.lies l
section
variable {Q : AV → Heap → Prop} {K : AV → Heap → Res} {H H0 H1 : Heap} {S : Nat → Prop} {L : List (Nat × AObj)} {G : List GS} {ρ : Addr → Option Value}
theorem St.sg (s : St S H0 L H) : Sg S H0 L [] H := ⟨s,by simp,by simp,by simp,.nil⟩
theorem Sg.fr (s : Sg S H0 L G H) : Fr S H0 H := s.st.fr
theorem Sg.at (s : Sg S H0 L G H) (i : Nat) {n : Nat} {o : AObj} (h : L[i]? = some (n,o)) : H.get n = o := s.st.at i h
theorem Sg.lt' (s : Sg S H0 L G H) (i : Nat) {n : Nat} {o : AObj} (h : L[i]? = some (n,o)) : n < H.sz := s.st.lt' i h
theorem Sg.els (s : Sg S H0 L G H) (i : Nat) {g : GS} (h : G[i]? = some g) : Els ρ H g.sz g.x g.els := (s.gr g (List.mem_of_getElem? h)).toEls
theorem Sg.gg (s : Sg S H0 L G H) (i : Nat) {g : GS} (h : G[i]? = some g) : GG H g.e g.sz g.x g.els := s.gr g (List.mem_of_getElem? h)
/-- A slice that is still nil. -/
theorem Sg.nils (s : Sg S H0 L G H) (e sz : Nat) : Sg S H0 L (G ++ [⟨e,sz,.nils,[]⟩]) H where
  st := s.st
  gr := by
    intro g hg
    rcases List.mem_append.1 hg with q | q
    · exact s.gr g q
    · simp at q; subst q; exact GG.nils H e sz
  own := by
    intro g hg
    rcases List.mem_append.1 hg with q | q
    · exact s.own g q
    · simp at q; subst q; intro l h; exact h.elim
  off := by
    intro g hg
    rcases List.mem_append.1 hg with q | q
    · exact s.off g q
    · simp at q; subst q; intro q' _ h; exact h.elim
  dis := by
    rw [List.pairwise_append]
    refine ⟨s.dis,by simp,?_⟩
    intro a ha b hb l h1 h2
    simp at hb; subst hb; exact h2.elim
theorem Sg.new1 (s : Sg S H0 L G H) (o : AObj) : Sg S H0 (L ++ [(H.sz,o)]) G (H.new o) where
  st := s.st.new1 o
  gr := fun g hg => (s.gr g hg).frame Nop (Fr.new Nop H o) fun _ _ q => q
  own := s.own
  off := by
    intro g hg q hq
    rcases List.mem_append.1 hq with h | h
    · exact s.off g hg q h
    · simp at h; subst h
      intro hl
      have := (s.gr g hg).lt _ hl
      simp at this
  dis := s.dis
theorem map_fst_set (i n : Nat) (o o' : AObj) (h : L[i]? = some (n,o)) : ∀ q ∈ L.set i (n,o'),∃ q' ∈ L,q'.1 = q.1 := by
  intro q hq
  obtain ⟨j,hj,rfl⟩ := List.mem_iff_getElem.1 hq
  rw [List.getElem_set]
  split
  · exact ⟨(n,o),List.mem_of_getElem? h,rfl⟩
  · rw [List.length_set] at hj
    exact ⟨L[j],List.getElem_mem hj,rfl⟩
theorem Sg.put1 (s : Sg S H0 L G H) (i : Nat) {n : Nat} {o : AObj} (o' : AObj) (h : L[i]? = some (n,o)) : Sg S H0 (L.set i (n,o')) G (H.put n o') where
  st := s.st.put1 i o' h
  gr := fun g hg => (s.gr g hg).frame (fun t => t = n) (Fr.put H n o' fun _ => rfl) fun l hl e => s.off g hg (n,o) (List.mem_of_getElem? h) (e ▸ hl)
  own := s.own
  off := by
    intro g hg q hq
    obtain ⟨q',h1,h2⟩ := map_fst_set i n o o' h q hq
    rw [← h2]
    exact s.off g hg q' h1
  dis := s.dis
theorem Sg.frame (s : Sg S H0 L G H) {S1 : Nat → Prop} (f : Fr S1 H H1) (h1 : ∀ q ∈ L,¬ S1 q.1) (h2 : ∀ l,l < H0.sz → S1 l → S l) (h3 : ∀ g ∈ G,∀ l,g.x.lies l → ¬ S1 l) : Sg S H0 L G H1 :=
  ⟨s.st.frame f h1 h2,fun g hg => (s.gr g hg).frame S1 f (h3 g hg),s.own,s.off,s.dis⟩
theorem Sg.frame0 (s : Sg S H0 L G H) (f : Fr Nop H H1) : Sg S H0 L G H1 := s.frame f (fun _ _ q => q) (fun _ _ q => q.elim) fun _ _ _ _ q => q
/-- A place turned, the rest stood still. -/
theorem Sg.turn (s : Sg S H0 L G H) (i : Nat) {n : Nat} {o o' : AObj} (h : L[i]? = some (n,o)) (f : Fr (fun t => t = n) H H1) (hg : H1.get n = o') : Sg S H0 (L.set i (n,o')) G H1 where
  st := s.st.turn i h f hg
  gr := fun g hg' => (s.gr g hg').frame _ f fun l hl e => s.off g hg' (n,o) (List.mem_of_getElem? h) (e ▸ hl)
  own := s.own
  off := by
    intro g hg q hq
    obtain ⟨q',h1,h2⟩ := map_fst_set i n o o' h q hq
    rw [← h2]
    exact s.off g hg q' h1
  dis := s.dis
-- steps
theorem Sg.newP (s : Sg S H0 L G H) {o : AObj} (hk : ∀ n H1,Sg S H0 (L ++ [(n,o)]) G H1 → H.sz ≤ n → Fr Nop H H1 → Ret Q (K (.ptr n 0 0) H1)) : Ret Q (effK H (some (.ptr H.sz 0 0,.new o)) K) := by
  rw [effK_new]; exact hk _ _ (s.new1 o) (Nat.le_refl _) (Fr.new Nop H o)
theorem Sg.newM (s : Sg S H0 L G H) (hk : ∀ n H1,Sg S H0 (L ++ [(n,.map [] 0)]) G H1 → H.sz ≤ n → Fr Nop H H1 → Ret Q (K (.mp n) H1)) : Ret Q (effK H (some (makeMapA H)) K) := by
  have : some (makeMapA H) = some (AV.mp H.sz,Eff.new (.map [] 0)) := rfl
  rw [this,effK_new]; exact hk _ _ (s.new1 _) (Nat.le_refl _) (Fr.new Nop H _)
theorem Sg.newS (s : Sg S H0 L G H) {o : AObj} {a c : Nat} {m : Bool} (hk : ∀ n H1,Sg S H0 (L ++ [(n,o)]) G H1 → H.sz ≤ n → Fr Nop H H1 → Ret Q (K (.sl n 0 0 a c m) H1)) : Ret Q (effK H (some (.sl H.sz 0 0 a c m,.new o)) K) := by
  rw [effK_new]; exact hk _ _ (s.new1 o) (Nat.le_refl _) (Fr.new Nop H o)
theorem Sg.mkS (s : Sg S H0 L G H) {o : AObj} {a c : Nat} {m : Bool} (hu : o.under H.sz = true) (hk : ∀ n H1,Sg S H0 (L ++ [(n,o)]) G H1 → H.sz ≤ n → Fr Nop H H1 → Ret Q (K (.sl n 0 0 a c m) H1)) : Ret Q (mkK H (some (.sl H.sz 0 0 a c m,.new o)) true K) := by
  rw [mkK_new _ _ _ _ hu]; exact hk _ _ (s.new1 o) (Nat.le_refl _) (Fr.new Nop H o)
theorem Sg.mkP (s : Sg S H0 L G H) {o : AObj} (hu : o.under H.sz = true) (hk : ∀ n H1,Sg S H0 (L ++ [(n,o)]) G H1 → H.sz ≤ n → Fr Nop H H1 → Ret Q (K (.ptr n 0 0) H1)) : Ret Q (mkK H (some (.ptr H.sz 0 0,.new o)) true K) := by
  rw [mkK_new _ _ _ _ hu]; exact hk _ _ (s.new1 o) (Nat.le_refl _) (Fr.new Nop H o)
/-- An empty slice of its own, that is to grow. -/
theorem Sg.newG (s : Sg S H0 L G H) {e e' sz : Nat} (hk : ∀ n H1,Sg S H0 L (G ++ [⟨e,sz,.sl n 0 0 0 0 false,[]⟩]) H1 → H.sz ≤ n → Fr Nop H H1 → Ret Q (K (.sl n 0 0 0 0 false) H1)) : Ret Q (effK H (some (.sl H.sz 0 0 0 0 false,.new (.cells 0 e' (0,0) false []))) K) := by
  rw [effK_new]
  have s1 := s.frame0 (Fr.new Nop H (.cells 0 e' (0,0) false []))
  have hlt : H.sz < (H.new (.cells 0 e' (0,0) false [])).sz := by rw [Heap.sz_new]; omega
  refine hk _ _ ⟨s1.st,?_,?_,?_,?_⟩ (Nat.le_refl _) (Fr.new Nop H _)
  · intro g hg
    rcases List.mem_append.1 hg with q | q
    · exact s1.gr g q
    · simp at q; subst q; exact GG.of_new hlt (Heap.get_new_same ..)
  · intro g hg
    rcases List.mem_append.1 hg with q | q
    · exact s1.own g q
    · simp at q; subst q; intro l h; have e : H.sz = l := h; subst e; exact Or.inr s.fr.sz
  · intro g hg
    rcases List.mem_append.1 hg with q | q
    · exact s1.off g q
    · simp at q; subst q; intro q' hq h; have e : H.sz = q'.1 := h; have := s.st.lt q' hq; omega
  · rw [List.pairwise_append]
    refine ⟨s1.dis,by simp,?_⟩
    intro a ha b hb l h1 h2
    simp at hb; subst hb
    have e : H.sz = l := h2
    have := (s.gr a ha).lt l h1; omega
/-- A slice of its own that is laid full, and is to grow. -/
theorem Sg.newF (s : Sg S H0 L G H) {e sz n : Nat} {cs : List AV} (els : List (List AV)) (hcs : els.flatten = cs) (hn : els.length = n) (hs : ∀ r ∈ els,r.length = sz) (hk : ∀ l H1,Sg S H0 L (G ++ [⟨e,sz,.sl l 0 0 n n false,els⟩]) H1 → H.sz ≤ l → Fr Nop H H1 → Ret Q (K (.sl l 0 0 n n false) H1)) : Ret Q (effK H (some (.sl H.sz 0 0 n n false,.new (.cells 0 e (0,0) false cs))) K) := by
  subst hcs
  rw [effK_new]
  have s1 := s.frame0 (Fr.new Nop H (.cells 0 e (0,0) false els.flatten))
  have hlt : H.sz < (H.new (.cells 0 e (0,0) false els.flatten)).sz := by rw [Heap.sz_new]; omega
  refine hk _ _ ⟨s1.st,?_,?_,?_,?_⟩ (Nat.le_refl _) (Fr.new Nop H _)
  · intro g hg
    rcases List.mem_append.1 hg with q | q
    · exact s1.gr g q
    · simp at q; subst q; exact GG.of_full hlt hn hs (Heap.get_new_same ..)
  · intro g hg
    rcases List.mem_append.1 hg with q | q
    · exact s1.own g q
    · simp at q; subst q; intro l h; have e : H.sz = l := h; subst e; exact Or.inr s.fr.sz
  · intro g hg
    rcases List.mem_append.1 hg with q | q
    · exact s1.off g q
    · simp at q; subst q; intro q' hq h; have e : H.sz = q'.1 := h; have := s.st.lt q' hq; omega
  · rw [List.pairwise_append]
    refine ⟨s1.dis,by simp,?_⟩
    intro a ha b hb l h1 h2
    simp at hb; subst hb
    have e : H.sz = l := h2
    have := (s.gr a ha).lt l h1; omega
theorem Sg.st1 (s : Sg S H0 L G H) (i : Nat) {n v e o : Nat} {g : Bool} {c : List AV} {x : AV} (h : L[i]? = some (n,.cells v e (0,0) g c)) (hx : scal x = true) (ho : o < c.length)
    (hk : ∀ H1,Sg S H0 (L.set i (n,.cells v e (0,0) g (c.set o x))) G H1 → H1.sz = H.sz → Fr (fun t => t = n) H H1 → Ret Q (K (.tup []) H1)) : Ret Q (effK H (stA 0 H 1 (.ptr n v o) x) K) := by
  rw [Ev.st1 o x (s.at i h) hx ho,effK_put]
  exact hk _ (s.put1 i _ h) rfl (Fr.put _ _ _ fun _ => rfl)
theorem Sg.stN (s : Sg S H0 L G H) (i : Nat) {n v e o m : Nat} {g : Bool} {c cs : List AV} (h : L[i]? = some (n,.cells v e (0,0) g c)) (hl : cs.length = m) (hs : cs.all AV.solid = true) (ho : o + m ≤ c.length)
    (hk : ∀ H1,Sg S H0 (L.set i (n,.cells v e (0,0) g (layA c o cs))) G H1 → H1.sz = H.sz → Fr (fun t => t = n) H H1 → Ret Q (K (.tup []) H1)) : Ret Q (effK H (stA 0 H m (.ptr n v o) (.agg cs)) K) := by
  rw [stA_agg_ptr _ _ _ _ _ _ hl,s.at i h,stC_many _ _ _ _ _ _ _ hs (by omega),effK_put]
  exact hk _ (s.put1 i _ h) rfl (Fr.put _ _ _ fun _ => rfl)
theorem Sg.stW (s : Sg S H0 L G H) (i : Nat) {n v e m : Nat} {g : Bool} {c cs : List AV} (h : L[i]? = some (n,.cells v e (0,0) g c)) (hl : cs.length = m) (hc : c.length = m) (hs : cs.all AV.solid = true)
    (hk : ∀ H1,Sg S H0 (L.set i (n,.cells v e (0,0) g cs)) G H1 → H1.sz = H.sz → Fr (fun t => t = n) H H1 → Ret Q (K (.tup []) H1)) : Ret Q (effK H (stA 0 H m (.ptr n v 0) (.agg cs)) K) := by
  refine s.stN i h hl hs (by omega) fun H1 s1 z1 f1 => ?_
  rw [lay_all c cs (by omega)] at s1
  exact hk H1 s1 z1 f1
/-- A local that is a struct: laid, and filled. -/
theorem Sg.var {m e : Nat} {z cs : List AV} {K : AV → AV → Heap → Res} (s : Sg S H0 L G H) (hl : cs.length = m) (hc : z.length = m) (hs : cs.all AV.solid = true)
    (hk : ∀ n H1,Sg S H0 (L ++ [(n,.cells 0 e (0,0) false cs)]) G H1 → H.sz ≤ n → Fr Nop H H1 → Ret Q (K (.ptr n 0 0) (.tup []) H1)) :
    Ret Q (effK H (some (.ptr H.sz 0 0,.new (newCells e false z))) fun x H => effK H (stA 0 H m x (.agg cs)) (K x)) := by
  refine s.newP fun n H1 s1 z1 f1 => ?_
  have hi : (L ++ [(n,newCells e false z)])[L.length]? = some (n,.cells 0 e (0,0) false z) := by rw [List.getElem?_append_right (Nat.le_refl _),Nat.sub_self]; rfl
  refine s1.stW L.length hi hl hc hs fun H2 s2 z2 f2 => ?_
  have : (L ++ [(n,newCells e false z)]).set L.length (n,.cells 0 e (0,0) false cs) = L ++ [(n,.cells 0 e (0,0) false cs)] := by
    rw [List.set_append_right _ _ (Nat.le_refl _),Nat.sub_self]; rfl
  rw [this] at s2
  exact hk n H2 s2 z1 (f1.trans' f2 fun l h1 h2 => by omega)
theorem pairwise_get {α : Type} {R : α → α → Prop} {l : List α} (h : l.Pairwise R) {i j : Nat} {a b : α} (hi : l[i]? = some a) (hj : l[j]? = some b) (hij : i < j) : R a b := by
  obtain ⟨h1,e1⟩ := List.getElem?_eq_some_iff.1 hi
  obtain ⟨h2,e2⟩ := List.getElem?_eq_some_iff.1 hj
  subst e1; subst e2
  exact (List.pairwise_iff_getElem.1 h) i j h1 h2 hij
/-- One of the slices grows. -/
theorem Sg.app (s : Sg S H0 L G H) (i : Nat) {by_ : Nat} {g : GS} {y : AV} {ys : List (List AV)} (h : G[i]? = some g) (hy : Els ρ H g.sz y ys) (hs : ∀ r ∈ ys,r.all AV.solid = true) (hb : (g.els.length + ys.length) * by_ ≤ 70368744177664) (hb2 : g.els.length + ys.length ≤ 70368744177664)
    (hk : ∀ x' H1,Sg S H0 L (G.set i ⟨g.e,g.sz,x',g.els ++ ys⟩) H1 → Fr g.x.lies H H1 → (∀ l,x'.lies l → g.x.lies l ∨ H.sz ≤ l) → scal x' = true → Ret Q (K x' H1)) : Ret Q (effK H (apA ρ 0 H g.e g.sz by_ g.x y) K) := by
  have hm := List.mem_of_getElem? h
  obtain ⟨x',f,ea,G',fr,hl⟩ := (s.gr g hm).append hy hs hb hb2
  rw [ea,effK_on]
  obtain ⟨hi,he⟩ := List.getElem?_eq_some_iff.1 h
  -- the others
  have other : ∀ g' ∈ G.set i ⟨g.e,g.sz,x',g.els ++ ys⟩,g' = ⟨g.e,g.sz,x',g.els ++ ys⟩ ∨ (g' ∈ G ∧ ∀ l,g'.x.lies l → ¬ g.x.lies l) := by
    intro g' hg'
    obtain ⟨j,hj,rfl⟩ := List.mem_iff_getElem.1 hg'
    rw [List.getElem_set]
    rw [List.length_set] at hj
    split
    · exact Or.inl rfl
    · rename_i hne
      refine Or.inr ⟨List.getElem_mem hj,?_⟩
      rcases Nat.lt_or_gt_of_ne hne with q | q
      · have := pairwise_get s.dis h (List.getElem?_eq_getElem hj) q
        exact fun l h1 h2 => this l h2 h1
      · exact pairwise_get s.dis (List.getElem?_eq_getElem hj) h q
  have low : ∀ l,l < H0.sz → g.x.lies l → S l := fun l h1 h2 => (s.own g hm l h2).resolve_right (by omega)
  refine hk x' _ ⟨s.st.frame fr (fun q hq hl' => s.off g hm q hq hl') low,?_,?_,?_,?_⟩ fr hl ?_
  · intro g' hg'
    rcases other g' hg' with rfl | ⟨h1,h2⟩
    · exact G'
    · exact (s.gr g' h1).frame _ fr h2
  · intro g' hg'
    rcases other g' hg' with rfl | ⟨h1,h2⟩
    · intro l hl'
      rcases hl l hl' with q | q
      · exact s.own g hm l q
      · exact Or.inr (Nat.le_trans s.fr.sz q)
    · exact s.own g' h1
  · intro g' hg' q hq
    rcases other g' hg' with rfl | ⟨h1,h2⟩
    · intro hl'
      rcases hl _ hl' with q' | q'
      · exact s.off g hm q hq q'
      · have := s.st.lt q hq; omega
    · exact s.off g' h1 q hq
  · rw [List.pairwise_iff_getElem]
    intro a b ha hb hab l
    rw [List.length_set] at ha hb
    rw [List.getElem_set,List.getElem_set]
    have base := pairwise_get s.dis (List.getElem?_eq_getElem ha) (List.getElem?_eq_getElem hb) hab
    split
    · rename_i e1
      subst e1
      rw [if_neg (by omega)]
      intro h1 h2
      rcases hl l h1 with q | q
      · rw [he] at base; exact base l q h2
      · have := (s.gr _ (List.getElem_mem hb)).lt l h2; omega
    · split
      · rename_i e1 e2
        subst e2
        intro h1 h2
        rcases hl l h2 with q | q
        · rw [he] at base; exact base l h1 q
        · have := (s.gr _ (List.getElem_mem ha)).lt l h1; omega
      · exact base l
  · exact G'.scal
theorem Sg.dropG {R : List GS} (s : Sg S H0 L (G ++ R) H) : Sg S H0 L G H :=
  ⟨s.st,fun g hg => s.gr g (List.mem_append_left _ hg),fun g hg => s.own g (List.mem_append_left _ hg),fun g hg => s.off g (List.mem_append_left _ hg),(List.pairwise_append.1 s.dis).1⟩
theorem Sg.drop {R : List (Nat × AObj)} (s : Sg S H0 (L ++ R) G H) : Sg S H0 L G H :=
  ⟨s.st.drop,s.gr,s.own,fun g hg q hq => s.off g hg q (List.mem_append_left _ hq),s.dis⟩
end
end Go.Ev
namespace Go.Ev
theorem GG.eqv {H : Heap} {e sz : Nat} {x : AV} {els : List (List AV)} (h : GG H e sz x els) : AV.eqv x x = true := by
  rcases h with ⟨_,h⟩ | h | h
  · cases x <;> first | exact h.elim | exact eqv_sl ..
  · cases x <;> first | exact h.elim | exact eqv_sl ..
  · cases x <;> first | exact h.elim | exact eqv_sl .. | exact eqv_nils
theorem GG.under {H : Heap} {e sz : Nat} {x : AV} {els : List (List AV)} (h : GG H e sz x els) : AV.under H.sz x = true := by
  have key : ∀ l,x.lies l → l < H.sz := h.lt
  cases x <;> first | rfl | (simp only [AV.under,Nat.blt_eq]; exact key _ rfl) | (exact absurd h (by rintro (⟨_,q⟩ | q | q) <;> exact q))
end Go.Ev
namespace Go.Ev
open Go.RowKit
theorem layA_row : ∀ (els : List (List AV)) (i sz : Nat) (r : List AV),(∀ q ∈ els,q.length = sz) → i < els.length → r.length = sz → layA els.flatten (i * sz) r = (els.set i r).flatten
  | [],i,_,_,_,h,_ => by simp at h
  | q :: els,0,sz,r,hq,_,hr => by
    have h1 := hq q (by simp)
    simp only [Nat.zero_mul,List.flatten_cons,List.set_cons_zero]
    unfold layA
    simp [hr,← h1]
  | q :: els,i + 1,sz,r,hq,h,hr => by
    have h1 := hq q (by simp)
    have ih := layA_row els i sz r (fun a ha => hq a (by simp [ha])) (by simpa using h) hr
    simp only [List.flatten_cons,List.set_cons_succ]
    rw [← ih]
    unfold layA
    have e1 : (i + 1) * sz = q.length + i * sz := by rw [Nat.succ_mul,h1,Nat.add_comm]
    rw [e1,List.take_append,List.drop_append]
    have e2 : q.take (q.length + i * sz) = q := List.take_of_length_le (by omega)
    have e3 : q.drop (q.length + i * sz + r.length) = [] := List.drop_of_length_le (by omega)
    have e4 : q.length + i * sz - q.length = i * sz := by omega
    have e5 : q.length + i * sz + r.length - q.length = i * sz + r.length := by omega
    rw [e2,e3,e4,e5,List.nil_append,List.append_assoc,List.append_assoc,List.append_assoc]
theorem layA_tail (els : List (List AV)) (i sz : Nat) (zs : List (List AV)) (hq : ∀ q ∈ els,q.length = sz) (hz : ∀ q ∈ zs,q.length = sz) (hi : i ≤ els.length) (hl : zs.length = els.length - i) : layA els.flatten (i * sz) zs.flatten = (els.take i ++ zs).flatten := by
  have h1 : els.flatten.length = els.length * sz := els_length els sz hq
  have h2 : zs.flatten.length = zs.length * sz := els_length zs sz hz
  have h3 : (els.take i).flatten.length = i * sz := by
    rw [els_length _ sz (fun q hq' => hq q (List.mem_of_mem_take hq')),List.length_take,Nat.min_eq_left hi]
  have e : els.flatten = (els.take i).flatten ++ (els.drop i).flatten := by rw [← List.flatten_append,List.take_append_drop]
  unfold layA
  rw [List.flatten_append]
  have t1 : els.flatten.take (i * sz) = (els.take i).flatten := by rw [e,List.take_left' h3]
  have t2 : els.flatten.drop (i * sz + zs.flatten.length) = [] := by
    refine List.drop_of_length_le ?_
    rw [h1,h2,hl,← Nat.add_mul]
    exact Nat.mul_le_mul_right _ (by omega)
  rw [t1,t2,List.append_nil]
section
variable {ρ : Addr → Option Value} {H H' : Heap} {e sz : Nat} {x y : AV} {els ys : List (List AV)} {Q : AV → Heap → Prop} {K : AV → Heap → Res}
/-- A slice with something in it: where it lies. -/
theorem GG.place (h : GG H e sz x els) (hne : els ≠ []) : ∃ l v n m,x = .sl l v 0 n n m ∧ n = els.length ∧ l < H.sz ∧ (∀ r ∈ els,r.length = sz) ∧ (∃ g,H.get l = .cells v e (0,0) g els.flatten) ∧
    ∀ H' els',els'.length = els.length → (∀ r ∈ els',r.length = sz) → H.sz ≤ H'.sz → (∃ g,H'.get l = .cells v e (0,0) g els'.flatten) → GG H' e sz x els' := by
  rcases h with ⟨rfl,_⟩ | h | h
  · exact absurd rfl hne
  · cases x with
    | sl l v o n c m =>
      obtain ⟨rfl,rfl,rfl,rfl,hl,h5,g,hg⟩ := h
      exact ⟨l,v,_,false,rfl,rfl,hl,h5,⟨g,hg⟩,fun H' els' h1 h2 h3 ⟨g',hg'⟩ => Or.inr (Or.inl ⟨rfl,h1.symm,rfl,rfl,Nat.lt_of_lt_of_le hl h3,h2,g',hg'⟩)⟩
    | _ => exact h.elim
  · cases x with
    | nils => exact absurd h hne
    | sl l v o n c m =>
      obtain ⟨rfl,rfl,rfl,rfl,hl,h5,g,hg⟩ := h
      exact ⟨l,v,_,true,rfl,rfl,hl,h5,⟨g,hg⟩,fun H' els' h1 h2 h3 ⟨g',hg'⟩ => Or.inr (Or.inr ⟨rfl,h1.symm,rfl,rfl,Nat.lt_of_lt_of_le hl h3,h2,g',hg'⟩)⟩
    | _ => exact h.elim
/-- An element is written. -/
theorem GG.stE (h : GG H e sz x els) (i : Nat) (hi : i < els.length) {r : List AV} (hr : r.length = sz) (hs : r.all AV.solid = true)
    (hk : ∀ H1,GG H1 e sz x (els.set i r) → H1.sz = H.sz → Fr x.lies H H1 → Ret Q (K (.tup []) H1)) : Ret Q (effK H (stA 0 H sz (elp sz x i 0) (.agg r)) K) := by
  obtain ⟨l,v,n,m,rfl,hn,hl,hrow,⟨g,hg⟩,back⟩ := h.place (by intro q; subst q; simp at hi)
  have hlen := els_length els sz hrow
  have hle : i * sz + sz ≤ els.length * sz := by rw [← Nat.succ_mul]; exact Nat.mul_le_mul_right _ hi
  have e0 : elp sz (.sl l v 0 n n m) i 0 = .ptr l v (i * sz) := by simp [elp]
  rw [e0,stA_agg_ptr _ _ _ _ _ _ hr,hg,stC_many _ _ _ _ _ _ _ hs (by omega),effK_put,layA_row els i sz r hrow hi hr]
  refine hk _ (back _ _ (by simp) ?_ (Nat.le_refl _) ⟨g,Heap.get_put_same ..⟩) rfl (Fr.put _ _ _ fun _ => rfl)
  intro q hq
  rcases List.mem_or_eq_of_mem_set hq with q' | q'
  · exact hrow q q'
  · rw [q']; exact hr
theorem GG.st1 (h : GG H e 1 x els) (i : Nat) (hi : i < els.length) {a : AV} (hs : Ev.scal a = true)
    (hk : ∀ H1,GG H1 e 1 x (els.set i [a]) → H1.sz = H.sz → Fr x.lies H H1 → Ret Q (K (.tup []) H1)) : Ret Q (effK H (stA 0 H 1 (elp 1 x i 0) a) K) := by
  obtain ⟨l,v,n,m,rfl,hn,hl,hrow,⟨g,hg⟩,back⟩ := h.place (by intro q; subst q; simp at hi)
  have hlen := els_length els 1 hrow
  have e0 : elp 1 (.sl l v 0 n n m) i 0 = .ptr l v (i * 1) := by simp [elp]
  have hlt : i * 1 < els.flatten.length := by omega
  rw [e0,stA_one_ptr _ _ _ _ _ hs,hg,stC_one _ _ _ _ _ _ _ hs hlt,effK_put]
  have : els.flatten.set (i * 1) a = (els.set i [a]).flatten := by
    rw [← lay_one _ _ _ hlt]; exact layA_row els i 1 [a] hrow hi rfl
  rw [this]
  refine hk _ (back _ _ (by simp) ?_ (Nat.le_refl _) ⟨g,Heap.get_put_same ..⟩) rfl (Fr.put _ _ _ fun _ => rfl)
  intro q hq
  rcases List.mem_or_eq_of_mem_set hq with q' | q'
  · exact hrow q q'
  · rw [q']; rfl
theorem repeat_flat (z : List AV) : ∀ n,repeatL z n = (List.replicate n z).flatten
  | 0 => rfl
  | n + 1 => by rw [repeatL,repeat_flat z n,List.replicate_succ,List.flatten_cons]
/-- The rest is cleared. -/
theorem GG.clr {C : Ctx} {t : TypeId} (h : GG H e sz x els) (lo : Nat) (hlo : lo < els.length) {z : AV} {zc : List AV} (ht : C.P.underlying t = some (.slice e)) (hz : zeroA C.P e = some z) (hzc : z.cells = zc) (hzl : zc.length = sz) (hz0 : 0 < sz) (hzs : zc.all AV.solid = true)
    (k : IntKind) : ∃ y,slS sz x (some (.int k lo)) none none = some y ∧ ∀ {Q : AV → Heap → Prop} {K : AV → Heap → Res},(∀ H1,GG H1 e sz x (els.take lo ++ List.replicate (els.length - lo) zc) → H1.sz = H.sz → Fr x.lies H H1 → Ret Q (K (.tup []) H1)) → Ret Q (effK H (builtinA C 0 H .clear #[t] [y]) K) := by
  subst hzc
  obtain ⟨l,v,n,m,rfl,hn,hl,hrow,⟨g,hg⟩,back⟩ := h.place (by intro q; subst q; simp at hlo)
  subst hn
  have hb : Nat.ble els.length els.length = true := Nat.ble_eq_true_of_le (Nat.le_refl _)
  have a3 : decide ((0 : Int) ≤ lo) = true := by simp
  have a5 : decide ((lo : Int) ≤ (els.length : Nat)) = true := by simp; omega
  have hB : boundsA els.length els.length (some (.int k lo)) none none = some (lo,els.length,els.length) := by
    simp only [boundsA,Option.bind_some,boundA,asInt,a3,a5,Bool.and_self,cond_true,Int.toNat_natCast]
  have hlc : (lo == els.length) = false := by simp; omega
  have hcl : (els.length == lo) = false := by simp; omega
  refine ⟨.sl l v (lo * sz) (els.length - lo) (els.length - lo) m,?_,?_⟩
  · simp only [slS,sliceSl,hb,Bool.not_true,cond_false,hB,Option.bind_some,hlc,hcl]
    cases m <;> simp
  · intro Q K hk
    have hlen := els_length els sz hrow
    have hrep : ∀ q ∈ List.replicate (els.length - lo) z.cells,q.length = sz := fun q hq => by rw [(List.mem_replicate.1 hq).2]; exact hzl
    have hlr := els_length (List.replicate (els.length - lo) z.cells) sz hrep
    rw [List.length_replicate] at hlr
    have hn0 : (els.length - lo == 0) = false := by simp; omega
    have hz1 : (z.cells.length == 0) = false := by rw [hzl]; simp; omega
    have hsol : (List.replicate (els.length - lo) z.cells).flatten.all AV.solid = true := by
      rw [List.all_eq_true]; intro a ha
      obtain ⟨r,hr,har⟩ := List.mem_flatten.1 ha
      rw [(List.mem_replicate.1 hr).2] at har
      exact List.all_eq_true.1 hzs a har
    have hsum : lo * sz + (els.length - lo) * sz = els.length * sz := by rw [← Nat.add_mul]; congr 1; omega
    have hle : lo * sz + (List.replicate (els.length - lo) z.cells).flatten.length ≤ els.flatten.length := by rw [hlr,hlen,hsum]; exact Nat.le_refl _
    have hc : builtinA C 0 H .clear #[t] [.sl l v (lo * sz) (els.length - lo) (els.length - lo) m] = some (.tup [],.put l (.cells v e (0,0) g (els.take lo ++ List.replicate (els.length - lo) z.cells).flatten)) := by
      show (clearA C 0 H t (.sl l v (lo * sz) (els.length - lo) (els.length - lo) m)).map skips = _
      simp only [clearA,ht,hn0,cond_false,hz,Option.bind_some,hz1,repeat_flat]
      rw [storeN_of _ (lo * sz) hg hle hsol,layA_tail els lo sz _ hrow hrep (by omega) (by simp)]
      rfl
    rw [hc,effK_put]
    refine hk _ (back _ _ (by rw [List.length_append,List.length_take,List.length_replicate]; omega) ?_ (Nat.le_refl _) ⟨g,Heap.get_put_same ..⟩) rfl (Fr.put _ _ _ fun _ => rfl)
    intro q hq
    rcases List.mem_append.1 hq with q' | q'
    · exact hrow q (List.mem_of_mem_take q')
    · exact hrep q q'
end
end Go.Ev

-- part EvNx
/- EvNx: the next entry of a map: whichever it is. -/
set_option linter.unusedVariables false
set_option linter.unusedSimpArgs false
namespace Go.Ev
open Go.RowKit
section
variable {Q : AV → Heap → Prop} {K : AV → Heap → Res} {H : Heap} {it m c : Nat} {seen : List Nat} {es : List (AV × AV × Nat)}
theorem next_guard (hlt : ∀ e ∈ es,e.2.2 < c) : (!seen.isEmpty && !es.isEmpty && es.all (fun e => decide (e.2.2 ≥ c))) = false := by
  cases es with
  | nil => simp
  | cons e r =>
    have := hlt e (by simp)
    have h : decide (e.2.2 ≥ c) = false := decide_eq_false (by omega)
    rw [List.all_cons,h]; simp
theorem unseen_nil (h : ∀ e ∈ es,e.2.2 ∈ seen) : (es.filter fun e => !seen.contains e.2.2) = [] := by
  rw [List.filter_eq_nil_iff]; intro e he; simp [h e he]
/-- No entry is left. -/
theorem nextK_over (h1 : H.get it = .iter (some m) c seen c) (h2 : H.get m = .map es c) (hlt : ∀ e ∈ es,e.2.2 < c) (hall : ∀ e ∈ es,e.2.2 ∈ seen) : nextK 0 H (.ptr it 0 0) false K = K (.tup [.bool false]) H := by
  have hg := next_guard (seen := seen) hlt
  simp only [nextK,outsA,nextA,h1,h2,hg,unseen_nil hall,cond_false,anyF,strA?_eq,applyK_eq,overA]
  rfl
/-- Some entry comes. -/
theorem Ret.next (h1 : H.get it = .iter (some m) c seen c) (h2 : H.get m = .map es c) (hlt : ∀ e ∈ es,e.2.2 < c) (hex : ∃ e ∈ es,e.2.2 ∉ seen)
    (hk : ∀ e ∈ es,e.2.2 ∉ seen → Ret Q (K (.tup [.bool true,e.1,e.2.1]) (H.put it (.iter (some m) c (seen ++ [e.2.2]) c)))) : Ret Q (nextK 0 H (.ptr it 0 0) false K) := by
  have hg := next_guard (seen := seen) hlt
  have hmem : ∀ e,e ∈ (es.filter fun e => !seen.contains e.2.2) ↔ e ∈ es ∧ e.2.2 ∉ seen := fun e => by simp
  obtain ⟨F,hF⟩ : ∃ F,F = es.filter fun e => !seen.contains e.2.2 := ⟨_,rfl⟩
  rw [← hF] at hmem
  have hb : Nat.ble 0 it = true := Nat.ble_eq_true_of_le (Nat.zero_le _)
  have hall : (F.all fun e => decide (e.2.2 < c)) = true := by
    rw [List.all_eq_true]; intro e he
    exact decide_eq_true (hlt e ((hmem e).1 he).1)
  cases F with
  | nil =>
    obtain ⟨e,he,hn⟩ := hex
    have := (hmem e).2 ⟨he,hn⟩
    simp at this
  | cons e r =>
    have he := (hmem e).1 (by simp)
    cases r with
    | nil =>
      have hd : decide (e.2.2 < c) = true := decide_eq_true (hlt e he.1)
      have : nextK 0 H (.ptr it 0 0) false K = K (.tup [.bool true,e.1,e.2.1]) (H.put it (.iter (some m) c (seen ++ [e.2.2]) c)) := by
        simp only [nextK,outsA,nextA,h1,h2,hg,← hF,cond_false,hd,hb,Bool.and_self,cond_true,anyF,strA?_eq,applyK_eq]
        rfl
      rw [this]
      exact hk e he.1 he.2
    | cons e2 r =>
      have : nextK 0 H (.ptr it 0 0) false K = .any (e :: e2 :: r).length fun i => bindR (((e :: e2 :: r).map fun e => ((AV.tup [.bool true,e.1,e.2.1],Eff.put it (.iter (some m) c (seen ++ [e.2.2]) c)) : AV × Eff))[i]?) fun r => strA? true r.1 fun v => applyK true H r.2 fun H => K v H := by
        have hne : (e :: e2 :: r).isEmpty = false := rfl
        simp only [nextK,outsA,nextA,nextsA,h1,h2,hg,← hF,cond_false,hb,Bool.not_true,Bool.or_self,hne,Bool.or_false,hall,cond_true,anyF,List.map_cons,List.length_cons,List.length_map]
      rw [this]
      refine ⟨fun i hi => ?_⟩
      show (bindR (((e :: e2 :: r).map fun e => ((AV.tup [.bool true,e.1,e.2.1],Eff.put it (.iter (some m) c (seen ++ [e.2.2]) c)) : AV × Eff))[i]?) fun r => strA? true r.1 fun v => applyK true H r.2 fun H => K v H).Ok _
      rw [List.getElem?_map,List.getElem?_eq_getElem hi]
      have hm := (hmem _).1 (List.getElem_mem hi)
      have := (hk _ hm.1 hm.2).ok
      simp only [Option.map_some,bindR_some,strA?_eq,applyK_eq]
      exact this
end
section
variable {δ : Type} [DecidableEq δ] {C : Ctx} {kt t e : TypeId} {f : δ → AV} {H : Heap} {l c : Nat} {es : List (δ × AV × Nat)}
/-- A key that is there comes again, with what it has. -/
theorem put_same (K : KeyT C.P kt f) (ht : C.P.underlying t = some (.map kt e)) (hg : H.get l = mapO f es c) (d : δ) (v : AV) (hv : ∀ e ∈ es,e.2.1 = v) (h : ∃ e ∈ es,e.1 = d) :
    mapPutA C 0 H t (.mp l) (f d) v = some (.put l (mapO f es c)) := by
  have hb : Nat.ble 0 l = true := Nat.ble_eq_true_of_le (by omega)
  cases hi : es.findIdx? fun e => decide (e.1 = d) with
  | none =>
    rw [List.findIdx?_eq_none_iff] at hi
    obtain ⟨e,he,q⟩ := h
    have := hi e he
    simp [q] at this
  | some j =>
    obtain ⟨hj,hp,_⟩ := List.findIdx?_eq_some_iff_getElem.1 hi
    have hd : es[j].1 = d := by simpa using hp
    have hv' := hv es[j] (List.getElem_mem hj)
    have hl : j < (entO f es).length := by unfold entO; rw [List.length_map]; exact hj
    have hej : (entO f es)[j]? = some (f d,v,es[j].2.2) := by
      unfold entO; rw [List.getElem?_map,List.getElem?_eq_getElem hj,Option.map_some,hd,hv']
    have hm : (entO f es).modify j (fun e => (f d,v,e.2.2)) = entO f es := by
      apply List.ext_getElem?
      intro q
      rw [List.getElem?_modify]
      by_cases hq : j = q
      · subst hq; rw [hej]; simp
      · simp [hq]
    simp only [mapPutA,ht,K.chk,hb,Bool.and_self,cond_true,hg,mapO,findA_entO K d es 0,hi,Option.bind_some,List.getElem?_eq_getElem hj,Option.map_some,Nat.zero_add,hej,K.same,hm]
end
end Go.Ev
