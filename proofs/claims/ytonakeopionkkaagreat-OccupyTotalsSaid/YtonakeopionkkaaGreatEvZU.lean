/- EvZU: memory without a type: pointers that are turned, texts of bytes, bytes that nobody knows. -/
import Derived.Test.YtonakeopionkkaaGreatEvZA
import Derived.Lib.Builder
import Derived.Lib.UnsafeStr
import Derived.Room.MakeNoZero
set_option linter.unusedVariables false
set_option linter.unusedSimpArgs false
namespace Go.Ev
open Go.RowKit
section
variable {C : Ctx} {P : Program} {w0 : World} {Γ : Gh} {H : Heap} {w : World} {lim : Nat}
theorem info_szA {t : TypeId} {n : Nat} (h : szA P t = some n) : ∃ i, P.info? t = some i ∧ i.size = n := by
  unfold szA at h
  obtain ⟨i, hi, rfl⟩ := map_some h
  exact ⟨i, hi, rfl⟩
/-- The shape of an own place. -/
theorem Rel.shape {l v o : Nat} {v' : Nat} {e : TypeId} {fr : Nat × Nat} {g : Bool} {cs : List AV} {u : Value} (R : Rel P w0 Γ H w) (hg : H.get l = .cells v' e fr g cs) (hvv : v' = v) (hx : RV Γ H (.ptr l v o) u) :
    ∃ b c', u = .pointer (some ⟨b, o, none⟩) ∧ Γ.blk l = some b ∧ l < H.sz ∧ w.heap[b]? = some (.cells c' e fr) ∧ w.shape? b = some (e, c'.size) ∧ cs.length ≤ c'.size ∧ (g = false → c'.size = cs.length) ∧ RVs Γ H cs (c'.toList.take cs.length) := by
  subst hvv
  have hca : H.cellsAt l v' = some cs := by simp [Heap.cellsAt, hg]
  obtain ⟨b, c', e', fr', g', sz, rfl, hb, hl, hg', hw, hsz, h0, _, hr⟩ := R.block hca hx
  rw [hg] at hg'
  cases hg'
  exact ⟨b, c', rfl, hb, hl, hw, by simp [World.shape?, hw], by omega, fun e => by rw [h0 e] at hsz; omega, hr⟩
theorem unsafeA_sound {src dst : TypeId} {x v : AV} {u : Value} (R : Rel C.P w0 Γ H w) (h : unsafeA C H src dst x = some v) (hx : RV Γ H x u) : Fine C.P Γ H w v (convert src dst u) := by
  unfold unsafeA at h
  split at h
  · rename_i t hs hd
    simp only [RV] at hx; subst hx
    obtain rfl := Option.some.inj h
    exact ⟨_, by simp [convert, und_run hs, und_run hd, Conv.unsafePointer], rfl⟩
  · rename_i t hs hd
    simp only [RV] at hx; subst hx
    obtain rfl := Option.some.inj h
    exact ⟨_, by simp [convert, und_run hs, und_run hd, Conv.unsafePointer], rfl⟩
  · rename_i t l v o hs hd
    obtain ⟨n, hn, h⟩ := bind_some h
    obtain ⟨i, hi, hin⟩ := info_szA hn
    split at h
    · rename_i v' e fr g c hg
      obtain ⟨h1, h⟩ := cond_some h
      obtain rfl := Option.some.inj h
      simp only [Bool.and_eq_true, beq_iff_eq, Bool.not_eq_true', beq_eq_false_iff_ne] at h1
      obtain ⟨⟨e1, e2⟩, e3⟩ := h1
      have e3 : o < c.length := by simpa [Nat.blt_eq] using e3
      obtain ⟨b, c', rfl, _, _, _, hsh, hle, _⟩ := R.shape hg e1 hx
      exact ⟨_, Lib.run_to_unsafe w ⟨b, o, none⟩ hs hd hi (by rw [hin]; exact e2) hsh (by show o < _; omega), hx⟩
    · cases h
  · rename_i t l v o hs hd
    obtain ⟨n, hn, h⟩ := bind_some h
    obtain ⟨i, hi, hin⟩ := info_szA hn
    split at h
    · rename_i v' e fr c hg
      obtain ⟨h1, h⟩ := cond_some h
      obtain rfl := Option.some.inj h
      simp only [Bool.and_eq_true, beq_iff_eq] at h1
      obtain ⟨e1, e2⟩ := h1
      obtain ⟨b, c', rfl, _, _, _, hsh, _, hsz, _⟩ := R.shape hg e1 hx
      exact ⟨_, Lib.run_from_unsafe w ⟨b, o, none⟩ hs hd hi hsh (by rw [hsz rfl]; exact e2), hx⟩
    · cases h
  · cases h
theorem sliceDataA_sound {x v : AV} {u : Value} (ts : Array TypeId) (ty : TypeId) (h : sliceDataA x = some v) (hx : RV Γ H x u) : Fine P Γ H w v (Builtin.unsafeSliceData_ ts ty #[u]) := by
  unfold sliceDataA at h
  split at h
  · simp only [RV] at hx; subst hx
    obtain rfl := Option.some.inj h
    exact ⟨_, Lib.run_unsafeSliceData_nil w ts ty 0 0, rfl⟩
  · rename_i l v o n c m
    obtain ⟨h1, h⟩ := cond_none h
    obtain rfl := Option.some.inj h
    obtain ⟨g1, g2, p, c', rfl, g3, g4, g5⟩ := hx
    have h1 : c ≠ 0 := Nat.ne_of_beq_eq_false h1
    refine ⟨_, Lib.run_unsafeSliceData_row w ts ty p n c' (by omega), g1, g2, ⟨p, rfl⟩, fun e => ?_⟩
    obtain ⟨b, k1, k2, _⟩ := g5 e
    exact ⟨b, k1, by rw [k2]⟩
  · cases h
theorem bytesOfA_cells : ∀ {cs : List AV} {vs : List Value} {l : List UInt8}, RVs Γ H cs vs → bytesOfA cs = some l → vs = l.map fun b => Value.int .u8 b.toNat
  | [], vs, l, hr, h => by obtain rfl := hr; obtain rfl := Option.some.inj h; rfl
  | c :: r, _, l, ⟨x, y, hx, h1, h2⟩, h => by
    subst hx
    cases c
    case int k n =>
      cases k
      case u8 =>
        unfold bytesOfA at h
        obtain ⟨hb, h⟩ := cond_some h
        obtain ⟨m, hm, rfl⟩ := map_some h
        simp only [RV] at h1; subst h1
        simp only [Bool.and_eq_true, decide_eq_true_eq] at hb
        rw [bytesOfA_cells h2 hm]
        have : ((UInt8.ofNat n.toNat).toNat : Int) = n := by
          rw [UInt8.toNat_ofNat']
          omega
        rw [List.map_cons, this]
      all_goals (simp [bytesOfA] at h)
    all_goals (simp [bytesOfA] at h)
theorem freeze_chg {b : Nat} {c : Array Value} {e : TypeId} {n : Nat} (h : w.heap[b]? = some (.cells c e (0, 0))) (hn : n ≠ 0) : Chg w (w.freeze ⟨b, 0, none⟩ n) b (.cells c e (0, n)) := by
  have hlt : b < w.heap.size := (Array.getElem?_eq_some_iff.1 h).1
  unfold World.freeze
  rw [if_neg hn]
  refine ⟨rfl, rfl, rfl, Nat.le_of_lt hlt, by simp, ?_, fun k hk => ?_⟩
  · simp [Array.getElem?_modify, h]
  · simp [Array.getElem?_modify, Ne.symm hk]
theorem unsafeStringA_sound {pt it ty : TypeId} {x n : AV} {u z : Value} {r : AV × Eff} (R : Rel C.P w0 Γ H w) (h : unsafeStringA C lim H pt x n = some r) (hx : RV Γ H x u) (hn : RV Γ H n z) : Good C.P w0 lim Γ H w r.1 r.2 (Builtin.unsafeString_ #[pt, it] ty #[u, z]) := by
  unfold unsafeStringA at h
  split at h
  · rename_i n
    simp only [RV] at hn; subst hn
    cases hz : (n == 0) with
    | true =>
      rw [hz] at h
      have hz : n = 0 := by simpa using hz
      subst hz
      obtain ⟨h1, h⟩ := cond_some (by simpa only [cond_true] using h)
      obtain rfl := Option.some.inj h
      obtain ⟨p, rfl⟩ : ∃ p, u = .pointer p := by
        unfold isPtrA at h1
        split at h1
        · exact ⟨none, hx⟩
        · obtain ⟨_, _, ⟨p, rfl⟩, _⟩ := hx; exact ⟨_, rfl⟩
        · exact ⟨_, hx⟩
        · cases h1
      exact ⟨_, w, Γ, Lib.run_unsafeString_none w pt it ty p, rfl, R, Ext.refl _ _ _ _⟩
    | false =>
      rw [hz] at h
      simp only [cond_false] at h
      split at h
      · rename_i e l v o hp
        split at h
        · rename_i v' e' fr g c hg
          obtain ⟨h1, h⟩ := cond_some h
          obtain ⟨bs, hbs, rfl⟩ := map_some h
          simp only [Bool.and_eq_true, beq_iff_eq, decide_eq_true_eq] at h1
          obtain ⟨⟨⟨⟨⟨⟨⟨⟨⟨e1, e2⟩, e3⟩, e4⟩, e5⟩, e6⟩, e7⟩, e8⟩, e9⟩, e10⟩ := h1
          have e1 := Nat.le_of_ble_eq_true e1
          have e3 : o = 0 := Nat.eq_of_beq_eq_true e3
          have e4 : e' = e := Nat.eq_of_beq_eq_true e4
          have e5 : fr = (0, 0) := Prod.ext (Nat.eq_of_beq_eq_true e5) (Nat.eq_of_beq_eq_true e6)
          have e7 := Nat.eq_of_beq_eq_true e7
          have e10 := Nat.le_of_ble_eq_true e10
          subst e3; subst e4; subst e5
          obtain ⟨b, c', rfl, hb, hl, hw, hsh, hle, _, hr⟩ := R.shape hg e2 hx
          obtain ⟨m, rfl⟩ : ∃ m : Nat, n = m := ⟨n.toNat, by omega⟩
          simp only [Int.toNat_natCast] at e10 hbs ⊢
          have hm0 : m ≠ 0 := by omega
          have hvs := bytesOfA_cells (hr.take m) hbs
          have hlen : bs.length = m := by
            have := congrArg List.length hvs
            simp at this
            omega
          subst hlen
          have hrun := Lib.run_unsafeString_row (P := C.P) w pt it ty e' hp e7 b c'.size hsh bs (by intro h; rw [h] at hm0; exact hm0 rfl) (by omega) (by omega) (fun j x hx => by
            have hj : j < bs.length := (List.getElem?_eq_some_iff.1 hx).1
            have h3 := congrArg (fun l => l[j]?) hvs
            simp only [List.getElem?_map, hx, Option.map_some, List.getElem?_take, hj, if_true, show j < c.length from by omega] at h3
            rw [add_own]
            simp only [World.cell?, hw]
            simpa using h3)
          have hver : H.ver l = v' := by simp [Heap.ver, hg, AObj.ver]
          have hup := Gh.upd_self hb
          have hle2 : Le Γ H (Γ.upd l b (Γ.spare l)) (H.put l (.cells v' e' (0, bs.length) g c)) := Le.put b _ (by rw [hver]; exact Nat.le_refl _) (fun _ => ⟨hb, rfl⟩)
          obtain ⟨_, _, ho⟩ := R.obj l b hl hb
          rw [hg] at ho
          obtain ⟨c2, sz, k1, k2, k3, k4, k5⟩ := ho
          have : c2 = c' := by rw [hw] at k1; simpa using k1.symm
          subst this
          have key := Rel.upd (lim := lim) (o := .cells v' e' (0, bs.length) g c) (Γ.spare l) R hl hb e1 (by rw [hg]; simp) (freeze_chg hw hm0) (.inl rfl) (by rw [hver]; exact Nat.le_refl _) (fun _ => ⟨rfl, rfl⟩)
            ⟨c2, sz, (freeze_chg hw hm0).here, by rw [hup]; exact k2, by rw [hup]; exact k3, k4, RVs.mono hle2 _ _ k5⟩
          rw [hup] at key
          exact ⟨_, _, Γ, hrun, rfl, key.1, key.2⟩
        · cases h
      · cases h
  · cases h
theorem noZeroA_sound {ps : Array TypeId} {t : TypeId} {n : Int} {r : AV × Eff} (R : Rel P w0 Γ H w) (h : noZeroA P H t n = some r) : Good P w0 lim Γ H w r.1 r.2 (Extern.BytealgMakeNoZero.makeNoZero ps #[t] #[.int .i64 n]) := by
  unfold noZeroA at h
  split at h
  · rename_i e ht
    obtain ⟨sz, hsz, h⟩ := bind_some h
    obtain ⟨h1, h⟩ := cond_some h
    obtain rfl := Option.some.inj h
    simp only [Bool.and_eq_true, decide_eq_true_eq] at h1
    obtain ⟨⟨e1, e2⟩, e3⟩ := h1
    have e1 := Nat.eq_of_beq_eq_true e1
    subst e1
    obtain ⟨m, rfl⟩ : ∃ m : Nat, n = m := ⟨n.toNat, by omega⟩
    obtain ⟨cs, hrun, hle, _, _⟩ := Lib.run_makeNoZero_cap (P := P) w ps t e ht m (by omega)
    simp only [Int.toNat_natCast]
    have hany : ∀ (k : Nat) (l : List Value), l.length = k → RVs Γ H (List.replicate k .any) l := by
      intro k
      induction k with
      | zero => intro l hl; exact List.eq_nil_of_length_eq_zero hl
      | succ k ih =>
        intro l hl
        cases l with
        | nil => cases hl
        | cons x y => exact ⟨x, y, rfl, trivial, ih y (by simpa using hl)⟩
    obtain ⟨h1, h2⟩ := new_cells (lim := lim) (w := w.drew.drew) (e := e) (cs := List.replicate m .any) (vs := cs) true (cs.size - m) 1 (R.same rfl rfl rfl rfl) (by simp; omega) (fun h => by cases h) (fun _ => hsz) (hany _ _ (by simp; omega))
    have hE0 : Ext lim Γ H w Γ H w.drew.drew := Ext.same rfl
    refine ⟨_, _, _, hrun, ?_, h1, hE0.trans h2⟩
    have := RV.newSl (Γ := Γ) (H := H) (b := w.heap.size) (sp := cs.size - m) (n := m) (c := m) (m := true) (o := newCells e true (List.replicate m .any)) (fun h => by cases h)
    rw [show m + (cs.size - m) = cs.size from by omega] at this
    exact this
  · cases h
end
end Go.Ev
