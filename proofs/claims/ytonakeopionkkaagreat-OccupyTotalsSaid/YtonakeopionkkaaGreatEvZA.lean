/- EvZA: append as a whole; copy, clear. -/
import Derived.Test.YtonakeopionkkaaGreatEvZ
set_option linter.unusedVariables false
set_option linter.unusedSimpArgs false
namespace Go.Ev
open Go.RowKit
section
variable {C : Ctx} {P : Program} {w0 : World} {Γ : Gh} {H : Heap} {w : World} {lim : Nat}
theorem appendSl_sound {t e xt : TypeId} {d : TypeDesc} {ts : Array TypeId} (ty : TypeId) {sz by_ n : Nat} {vs : List AV} {l v o len cap : Nat} {m : Bool} {x : AV} {u y : Value} {r : AV × Eff} (hρ : Reads C w0) (R : Rel C.P w0 Γ H w)
    (h0 : ts[0]? = some t) (h1 : ts[1]? = some xt) (hd : C.P.underlying xt = some d) (hi : ∀ k, d ≠ .int k) (hu : C.P.underlying t = some (.slice e)) (hsz : szA C.P e = some sz) (hby : bytesA C.P e = some by_) (hs0 : 0 < sz)
    (hn : lenA x = some n) (hvs : firstA C H sz n x = some vs) (hsol : vs.all AV.solid = true) (hvl : vs.length = n * sz) (h : appendSl C lim H e sz by_ n vs l v o len cap m = some r) (hs : RV Γ H (.sl l v o len cap m) u) (hx : RV Γ H x y) :
    Good C.P w0 lim Γ H w r.1 r.2 (Builtin.append_ ts ty #[u, y]) := by
  have hlen := (lenA_sound (P := C.P) (w := w) hn hx).1
  unfold appendSl at h
  have hs' := hs
  obtain ⟨g1, g2, p, c', rfl, gc, gm, g3⟩ := hs'
  cases hfit : decide (len + n ≤ cap) with
  | true =>
    rw [hfit] at h
    have hfit : len + n ≤ cap := of_decide_eq_true hfit
    obtain ⟨f, hf, rfl⟩ := map_some (by simpa using h)
    obtain ⟨new, hnew, hr⟩ := firstA_sound hρ R hvs hx
    -- the place: it is the present one
    have hv : v = H.ver l := by
      simp only [storeN] at hf
      obtain ⟨_, hf⟩ := cond_some hf
      split at hf
      · rename_i v' e' fr g c hg
        obtain ⟨hq, _⟩ := cond_some hf
        simp only [Bool.and_eq_true, beq_iff_eq] at hq
        have : v' = v := hq.1.1.1.1
        simp [Heap.ver, hg, AObj.ver, this]
      · cases hf
    obtain ⟨b, hb, hp, hc'⟩ := g3 hv
    subst hp
    obtain ⟨q, w', hq, hst, hR, hE⟩ := storeN_sound (us := new.toList) (u := .pointer (some ⟨b, o + len * sz, none⟩)) R hf ⟨g1, g2, ⟨_, rfl⟩, fun _ => ⟨b, hb, rfl⟩⟩ hr
    cases hq
    refine ⟨_, w', Γ, append_room ty h0 h1 hd hi hu hsz (by omega) hlen hnew hst, ?_, hR, hE⟩
    exact RV.mono hE.le _ _ ⟨g1, g2, _, _, rfl, gc, gm, fun _ => ⟨b, hb, rfl, hc'⟩⟩
  | false =>
    rw [hfit] at h
    have hfit : ¬ len + n ≤ cap := of_decide_eq_false hfit
    simp only [cond_false] at h
    obtain ⟨hgrow, h⟩ := cond_none h
    have hgrow : growOK C.P e sz by_ (len + n) = true := by simpa using hgrow
    cases m with
    | true =>
      simp only [cond_true] at h
      split at h
      · rename_i v' e' fr g c hg
        obtain ⟨hq, h⟩ := cond_some h
        simp only [Bool.and_eq_true, beq_iff_eq] at hq
        obtain ⟨⟨⟨⟨⟨⟨⟨q1, q2⟩, q3⟩, q4⟩, q5⟩, q6⟩, q7⟩, q8⟩ := hq
        have q1 := Nat.le_of_ble_eq_true q1
        have q4 := Nat.eq_of_beq_eq_true q4
        have hfr : fr = (0, 0) := Prod.ext (Nat.eq_of_beq_eq_true q5) (Nat.eq_of_beq_eq_true q6)
        have q7 := Nat.le_of_ble_eq_true q7
        have q8 := Nat.eq_of_beq_eq_true q8
        have hr := Option.some.inj h
        subst q2; subst q3; subst q4; subst hfr; subst hr
        have hv : v' = H.ver l := by simp [Heap.ver, hg, AObj.ver]
        obtain ⟨b, hb, hp, hc'⟩ := g3 hv
        subst hp
        simp only [if_true] at hc'
        have hca : H.cellsAt l v' = some c := by simp [Heap.cellsAt, hg]
        obtain ⟨b2, cc, e2, fr2, g2', sz2, hp2, hb2, _, hg2, hw, hsize, hsp0, hsz2, hrow⟩ := R.block (o := 0) hca ⟨g1, g2, ⟨_, rfl⟩, fun _ => ⟨b, hb, rfl⟩⟩
        rw [hb] at hb2
        obtain rfl := Option.some.inj hb2
        rw [hg] at hg2
        cases hg2
        have hspare : Γ.spare l * sz2 = Γ.spare l * sz := by
          cases g with
          | true =>
            have := hsz2 rfl
            rw [hsz] at this
            rw [Option.some.inj this]
          | false => rw [hsp0 rfl]; simp
        rw [hspare] at hsize
        have hccl : cc.size = (cap + Γ.spare l) * sz := by rw [hsize, q8, Nat.add_mul]
        have hlc : len * sz ≤ c.length := by rw [q8]; exact Nat.mul_le_mul_right _ q7
        have hfirst : RVs Γ H (c.take (len * sz)) (cc.toList.take (len * sz)) := by
          have := RVs.take (len * sz) hrow
          rwa [List.take_take, Nat.min_eq_left hlc] at this
        by_cases hroom : len + n ≤ c'
        · -- in its block
          obtain ⟨new, hnew, hr⟩ := firstA_sound hρ R hvs hx
          have hnl : new.size = n * sz := by rw [← hvl]; simpa using (RVs.length hr).symm
          have hle : len * sz + new.toList.length ≤ cc.size := by
            simp only [Array.length_toList]
            rw [hnl, hccl, ← Nat.add_mul]; exact Nat.mul_le_mul_right _ (by omega)
          have hst := run_storeCells_at C.P b (len * sz) e' new.toList 0 cc w hw (by simpa using hle) (RVs.oneCells hsol hr)
          simp only [Nat.add_zero] at hst
          have hchg := setRow_chg (vs := (cc.toList.take (len * sz) ++ new.toList ++ cc.toList.drop (len * sz + new.toList.length)).toArray) hw
          obtain ⟨k1, k2, k3⟩ := grow_here (lim := lim) (b' := b) (sp := cap + Γ.spare l - (len + n)) (n := n) (vs := vs) R g1 hb q1 hg hsz hchg (.inl rfl) hlc hvl
            (by
              simp only [List.size_toArray, List.length_append, List.length_take, List.length_drop, Array.length_toList]
              have e5 : (len + n) * sz + (cap + Γ.spare l - (len + n)) * sz = (cap + Γ.spare l) * sz := by rw [← Nat.add_mul]; congr 1; omega
              rw [e5, ← hccl]
              simp only [Array.length_toList] at hle
              omega)
            (by
              have e6 : (cc.toList.take (len * sz) ++ new.toList ++ cc.toList.drop (len * sz + new.toList.length)).take ((len + n) * sz) = cc.toList.take (len * sz) ++ new.toList := by
                have hlen2 : (cc.toList.take (len * sz) ++ new.toList).length = (len + n) * sz := by
                  simp only [List.length_append, List.length_take, Array.length_toList] at hle ⊢
                  rw [hnl, Nat.add_mul]; rw [hnl] at hle; omega
                rw [← hlen2, List.take_left']
                rfl
              show RVs Γ H _ ((cc.toList.take (len * sz) ++ new.toList ++ cc.toList.drop (len * sz + new.toList.length)).take _)
              rw [e6]
              exact RVs.append hfirst hr)
          refine ⟨_, _, _, append_room ty h0 h1 hd hi hu hsz hroom hlen hnew (by simpa using hst), ?_, k1, k2⟩
          have : c' = len + n + (cap + Γ.spare l - (len + n)) := by omega
          rw [this]; exact k3
        · -- in a new one
          obtain ⟨new, hnew, hr⟩ := firstA_sound hρ R.drew hvs hx
          have hold : (Builtin.firstCells sz len (.slice (some ⟨b, 0, none⟩) len c')).run C.P w.drew = .ok (cc.toList.take (len * sz)).toArray w.drew := by
            have := run_loadCells_list (P := C.P) w.drew ⟨b, 0, none⟩ (cc.toList.take (len * sz)) (fun j y hy => by
              rw [add_own, Nat.zero_add]
              have hw' : w.drew.heap[b]? = some (.cells cc e' (0, 0)) := hw
              simp only [List.getElem?_take] at hy
              split at hy
              · simp only [World.cell?, hw']; simpa using hy
              · cases hy)
            have hl2 : (cc.toList.take (len * sz)).length = len * sz := by
              simp only [List.length_take, Array.length_toList]; omega
            rw [hl2] at this
            simpa [Builtin.firstCells] using this
          obtain ⟨nc, z, hnc, hzs, hrun⟩ := append_grow ty h0 h1 hd hi hu hsz hby hgrow (by omega) hlen hold hnew
          have hvl' : (c.take (len * sz)).length = len * sz := by simp; omega
          obtain ⟨s1, s2⟩ := grown_row (k := nc - (len + n)) (old := (cc.toList.take (len * sz)).toArray) (by simpa using hfirst) hr hvl' hvl hzs hs0
          have hll : (c.take (len * sz) ++ vs).length = (len + n) * sz := by rw [List.length_append, hvl', hvl, Nat.add_mul]
          rw [hll] at s1 s2
          obtain ⟨k1, k2, k3⟩ := grow_here (lim := lim) (b' := w.heap.size) (sp := nc - (len + n)) (n := n) (vs := vs) R.drew g1 hb q1 hg hsz (Chg.alloc w.drew _) (.inr rfl) hlc hvl s1 s2
          refine ⟨_, _, _, hrun, ?_, k1, (Ext.same (w := w) (w' := w.drew) rfl).trans k2⟩
          have e7 : len + n + (nc - (len + n)) = nc := by omega
          rw [e7] at k3
          exact k3
      · cases h
    | false =>
      simp only [cond_false] at h
      obtain ⟨old, hold, rfl⟩ := map_some h
      have hcc : c' = cap := gm rfl
      obtain ⟨ov, hov, hor⟩ := firstA_sound hρ R.drew hold hs
      obtain ⟨new, hnew, hr⟩ := firstA_sound hρ R.drew hvs hx
      obtain ⟨nc, z, hnc, hzs, hrun⟩ := append_grow ty h0 h1 hd hi hu hsz hby hgrow (by omega) hlen hov hnew
      have hol := firstA_length hold (.inl ⟨_, _, _, _, _, _, rfl⟩)
      obtain ⟨s1, s2⟩ := grown_row (k := nc - (len + n)) hor hr hol hvl hzs hs0
      obtain ⟨k1, k2⟩ := new_cells (lim := lim) (e := e) true (nc - (len + n)) sz R.drew s1 (fun h => by cases h) (fun _ => hsz) s2
      refine ⟨_, _, _, hrun, ?_, k1, (Ext.same (w := w) (w' := w.drew) rfl).trans k2⟩
      have := RV.newSl (Γ := Γ) (H := H) (b := w.heap.size) (sp := nc - (len + n)) (n := len + n) (c := len + n) (m := true) (o := newCells e true (old ++ vs)) (fun h => by cases h)
      have e7 : len + n + (nc - (len + n)) = nc := by omega
      rw [e7] at this
      exact this
theorem appendA_sound {t xt : TypeId} {d : TypeDesc} {ts : Array TypeId} (ty : TypeId) {s x : AV} {u y : Value} {r : AV × Eff} (hρ : Reads C w0) (R : Rel C.P w0 Γ H w)
    (h0 : ts[0]? = some t) (h1 : ts[1]? = some xt) (hd : C.P.underlying xt = some d) (hi : ∀ k, d ≠ .int k) (h : appendA C lim H t s x = some r) (hs : RV Γ H s u) (hx : RV Γ H x y) :
    Good C.P w0 lim Γ H w r.1 r.2 (Builtin.append_ ts ty #[u, y]) := by
  unfold appendA at h
  split at h
  · rename_i e hu
    obtain ⟨sz, hsz, h⟩ := bind_some h
    obtain ⟨by_, hby, h⟩ := bind_some h
    obtain ⟨n, hn, h⟩ := bind_some h
    obtain ⟨h2, h⟩ := cond_none h
    have hs0 : 0 < sz := by have : sz ≠ 0 := by simpa using h2
                            omega
    obtain ⟨vs, hvs, h⟩ := bind_some h
    obtain ⟨h3, h⟩ := cond_none h
    simp only [Bool.not_eq_false', Bool.and_eq_true, beq_iff_eq] at h3
    obtain ⟨hsol, hvl⟩ := h3
    have hlen := (lenA_sound (P := C.P) (w := w) hn hx).1
    cases s with
    | nils =>
      simp only [RV] at hs; subst hs
      simp only at h
      cases hn0 : (n == 0) with
      | true =>
        rw [hn0] at h
        have hn0 : n = 0 := by simpa using hn0
        subst hn0
        obtain rfl := Option.some.inj (by simpa using h)
        obtain ⟨new, hnew, hr⟩ := firstA_sound hρ R hvs hx
        refine ⟨.slice none 0 0, w, Γ, ?_, rfl, R, Ext.refl _ _ _ _⟩
        simp [Builtin.append_, h0, h1, run_underlying hu, run_underlying hd, run_szA hsz, hlen, hnew]
      | false =>
        rw [hn0] at h
        have hn0 : n ≠ 0 := by simpa using hn0
        simp only [cond_false] at h
        obtain ⟨hgrow, h⟩ := cond_some h
        obtain rfl := Option.some.inj h
        obtain ⟨new, hnew, hr⟩ := firstA_sound hρ R.drew hvs hx
        obtain ⟨nc, z, hnc, hzs, hrun⟩ := append_grow (base := none) (len := 0) (c := 0) (old := #[]) ty h0 h1 hd hi hu hsz hby (by simpa using hgrow) (by omega) hlen (by simp [Builtin.firstCells]) hnew
        obtain ⟨s1, s2⟩ := grown_row (cs := []) (old := #[]) (len := 0) (k := nc - n) rfl hr (by simp) hvl hzs hs0
        simp only [Nat.zero_add] at hrun
        obtain ⟨k1, k2⟩ := new_cells (lim := lim) (e := e) true (nc - n) sz R.drew s1 (fun h => by cases h) (fun _ => hsz) s2
        refine ⟨_, _, _, hrun, ?_, k1, (Ext.same (w := w) (w' := w.drew) rfl).trans k2⟩
        have := RV.newSl (Γ := Γ) (H := H) (b := w.heap.size) (sp := nc - n) (n := n) (c := n) (m := true) (o := newCells e true vs) (fun h => by cases h)
        have e7 : n + (nc - n) = nc := by omega
        rw [e7] at this
        exact this
    | sl l v o len cap m => exact appendSl_sound ty hρ R h0 h1 hd hi hu hsz hby hs0 hn hvs hsol hvl h hs hx
    | xs a len cap =>
      simp only at h
      obtain ⟨h4, h⟩ := cond_none h
      simp only [Bool.or_eq_false_iff, decide_eq_false_iff_not, Bool.not_eq_false'] at h4
      obtain ⟨hfit, hgrow⟩ := h4
      obtain ⟨old, hold, rfl⟩ := map_some h
      have hs' := hs
      simp only [RV] at hs'; subst hs'
      obtain ⟨ov, hov, hor⟩ := firstA_sound hρ R.drew hold hs
      obtain ⟨new, hnew, hr⟩ := firstA_sound hρ R.drew hvs hx
      obtain ⟨nc, z, hnc, hzs, hrun⟩ := append_grow ty h0 h1 hd hi hu hsz hby hgrow (by omega) hlen hov hnew
      have hol := firstA_length hold (.inr ⟨_, _, _, rfl⟩)
      obtain ⟨s1, s2⟩ := grown_row (k := nc - (len + n)) hor hr hol hvl hzs hs0
      obtain ⟨k1, k2⟩ := new_cells (lim := lim) (e := e) true (nc - (len + n)) sz R.drew s1 (fun h => by cases h) (fun _ => hsz) s2
      refine ⟨_, _, _, hrun, ?_, k1, (Ext.same (w := w) (w' := w.drew) rfl).trans k2⟩
      have := RV.newSl (Γ := Γ) (H := H) (b := w.heap.size) (sp := nc - (len + n)) (n := len + n) (c := len + n) (m := true) (o := newCells e true (old ++ vs)) (fun h => by cases h)
      have e7 : len + n + (nc - (len + n)) = nc := by omega
      rw [e7] at this
      exact this
    | _ => simp at h
  · cases h
theorem copyA_sound {t : TypeId} {ts : Array TypeId} (ty : TypeId) {s x : AV} {u y : Value} {r : AV × Eff} (hρ : Reads C w0) (R : Rel C.P w0 Γ H w) (h0 : ts[0]? = some t) (h : copyA C lim H t s x = some r) (hs : RV Γ H s u) (hx : RV Γ H x y) :
    Good C.P w0 lim Γ H w r.1 r.2 (Builtin.copy_ ts ty #[u, y]) := by
  unfold copyA at h
  split at h
  · rename_i e hu
    obtain ⟨sz, hsz, h⟩ := bind_some h
    obtain ⟨n, hn, h⟩ := bind_some h
    obtain ⟨k, hk, h⟩ := bind_some h
    obtain ⟨vs, hvs, h⟩ := bind_some h
    have hlen := (lenA_sound (P := C.P) (w := w) hn hx).1
    obtain ⟨new, hnew, hr⟩ := firstA_sound hρ R hvs hx
    cases s with
    | nils =>
      simp only [RV] at hs; subst hs
      obtain rfl := Option.some.inj h
      obtain rfl := Option.some.inj hk
      refine ⟨goInt 0, w, Γ, ?_, rfl, R, Ext.refl _ _ _ _⟩
      have hnew' : (Builtin.firstCells sz (n.min 0) y).run C.P w = .ok new w := hnew
      simp [Builtin.copy_, h0, run_underlying hu, run_szA hsz, hlen] at hnew' ⊢
      simp [hnew']
    | sl l v o len cap m =>
      obtain ⟨f, hf, rfl⟩ := map_some h
      obtain rfl := Option.some.inj hk
      obtain ⟨g1, g2, p, c', rfl, gc, gm, g3⟩ := hs
      obtain ⟨q, w', hq, hst, hR, hE⟩ := storeN_sound (us := new.toList) (u := .pointer (some p)) R hf ⟨g1, g2, ⟨_, rfl⟩, fun e => by
        obtain ⟨b, hb, hp, _⟩ := g3 e; exact ⟨b, hb, by rw [hp]⟩⟩ hr
      cases hq
      refine ⟨goInt (Nat.min n len), w', Γ, ?_, rfl, hR, hE⟩
      have hnew' : (Builtin.firstCells sz (n.min len) y).run C.P w = .ok new w := hnew
      simp [Builtin.copy_, h0, run_underlying hu, run_szA hsz, hlen] at hnew' ⊢
      simp [hnew', hst]
    | _ => simp at h
  · cases h
theorem clearA_sound {t : TypeId} {ts : Array TypeId} (ty : TypeId) {x : AV} {u : Value} {f : Eff} (R : Rel C.P w0 Γ H w) (h0 : ts[0]? = some t) (h : clearA C lim H t x = some f) (hx : RV Γ H x u) :
    ∃ w', (Builtin.clear_ ts ty #[u]).run C.P w = .ok (.tuple #[]) w' ∧ Rel C.P w0 Γ (f.on H) w' ∧ Ext lim Γ H w Γ (f.on H) w' := by
  unfold clearA at h
  split at h
  · rename_i d hu
    obtain rfl := Option.some.inj h
    simp only [RV] at hx; subst hx
    exact ⟨w, by simp [Builtin.clear_, h0, run_underlying hu], R, Ext.refl _ _ _ _⟩
  · rename_i d hu
    obtain rfl := Option.some.inj h
    simp only [RV] at hx; subst hx
    exact ⟨w, by simp [Builtin.clear_, h0, run_underlying hu], R, Ext.refl _ _ _ _⟩
  · rename_i kt e l hu
    obtain ⟨hlim, h⟩ := cond_some h
    have hlim := Nat.le_of_ble_eq_true hlim
    split at h
    · rename_i es c hg
      obtain rfl := Option.some.inj h
      obtain ⟨b, fs, rfl, hb, hl, hw, hf⟩ := R.entries hg hx
      obtain ⟨g1, g2, g3⟩ := map_put (lim := lim) (es' := []) (c' := c) (fs' := #[]) R hlim hl hb hg hw rfl
      exact ⟨_, by simp [Builtin.clear_, h0, run_underlying hu, getMap hw, g1], g2, g3⟩
    · cases h
  · rename_i e l v o n c m hu
    obtain ⟨g1, g2, p, c', rfl, gc, gm, g3⟩ := hx
    cases hn : (n == 0) with
    | true =>
      rw [hn] at h
      have hn : n = 0 := by simpa using hn
      subst hn
      obtain rfl := Option.some.inj (by simpa using h)
      exact ⟨w, by simp [Builtin.clear_, h0, run_underlying hu], R, Ext.refl _ _ _ _⟩
    | false =>
      rw [hn] at h
      have hn : n ≠ 0 := by simpa using hn
      obtain ⟨z, hz, h⟩ := bind_some (by simpa using h)
      obtain ⟨zv, hzr, _, hc⟩ := zeroA_run (Γ := Γ) (H := H) hz
      obtain ⟨hz0, h⟩ := cond_none h
      have hz0 : zv.cells.size ≠ 0 := by
        have := RVs.length hc
        simp at hz0 this
        intro e; rw [e] at this; exact hz0 (List.eq_nil_of_length_eq_zero this)
      · obtain ⟨q, w', hq, hst, hR, hE⟩ := storeN_sound (us := (Builtin.zeroCells zv.cells n).toList) (u := .pointer (some p)) R h ⟨g1, g2, ⟨_, rfl⟩, fun e => by
          obtain ⟨b, hb, hp, _⟩ := g3 e; exact ⟨b, hb, by rw [hp]⟩⟩ (by rw [zeroCells_eq _ _ (by omega)]; exact RVs.repeatL hc n)
        cases hq
        refine ⟨w', ?_, hR, hE⟩
        obtain ⟨k, rfl⟩ : ∃ k, n = k + 1 := ⟨n - 1, by omega⟩
        simp [Builtin.clear_, h0, run_underlying hu, hzr, hst]
  · cases h
end
end Go.Ev
