/- EvG: a region that draws its order. -/
import Derived.Test.YtonakeopionkkaaGreatEvH
set_option linter.unusedVariables false
set_option linter.unusedSimpArgs false
namespace Go.Ev
open Go.RowKit
section
variable {C : Ctx} {w0 : World} {lim : Nat} {ops : Array Oper}
mutual
theorem RV.under {Γ Γ' : Gh} {H H' : Heap} {N : Nat} (hN : N ≤ H.sz) (h1 : ∀ l, l < N → H'.ver l = H.ver l ∧ Γ'.blk l = Γ.blk l ∧ Γ'.spare l = Γ.spare l) : ∀ (v : AV) (x : Value), v.under N = true → RV Γ' H' v x → RV Γ H v x
  | .any, _, _, _ => trivial
  | .int _ _, _, _, r => r
  | .bool _, _, _, r => r
  | .str _, _, _, r => r
  | .nilp, _, _, r => r
  | .ptr l v o, x, hu, r => by
    have hl : l < N := by simpa [AV.under, Nat.blt_eq] using hu
    obtain ⟨e1, e2, e3⟩ := h1 l hl
    obtain ⟨g1, g2, g3, g4⟩ := r
    rw [e1] at g2 g4
    rw [e2] at g4
    exact ⟨Nat.lt_of_lt_of_le hl hN, g2, g3, g4⟩
  | .nils, _, _, r => r
  | .sl l v o n c m, x, hu, r => by
    have hl : l < N := by simpa [AV.under, Nat.blt_eq] using hu
    obtain ⟨e1, e2, e3⟩ := h1 l hl
    obtain ⟨g1, g2, p, c', g3, g4, g5, g6⟩ := r
    rw [e1] at g2 g6
    rw [e2, e3] at g6
    exact ⟨Nat.lt_of_lt_of_le hl hN, g2, p, c', g3, g4, g5, g6⟩
  | .sx _, _, _, r => r
  | .xp _, _, _, r => r
  | .xs _ _ _, _, _, r => r
  | .nilm, _, _, r => r
  | .mp l, x, hu, r => by
    have hl : l < N := by simpa [AV.under, Nat.blt_eq] using hu
    obtain ⟨e1, e2, e3⟩ := h1 l hl
    obtain ⟨g1, g2, g3⟩ := r
    rw [e1, e2] at g3
    exact ⟨Nat.lt_of_lt_of_le hl hN, g2, g3⟩
  | .yld l, x, hu, r => by
    have hl : l < N := by simpa [AV.under, Nat.blt_eq] using hu
    obtain ⟨e1, e2, e3⟩ := h1 l hl
    obtain ⟨g1, g2, g3⟩ := r
    rw [e1, e2] at g3
    exact ⟨Nat.lt_of_lt_of_le hl hN, g2, g3⟩
  | .nilf, _, _, r => r
  | .fn f a c, x, hu, r => by
    simp only [AV.under, Bool.and_eq_true] at hu
    obtain ⟨va, vc, hx, ha, hc⟩ := r
    exact ⟨va, vc, hx, RVs.under hN h1 a _ hu.1 ha, RVs.under hN h1 c _ hu.2 hc⟩
  | .nili, _, _, r => r
  | .ifc t v, x, hu, r => by
    simp only [AV.under] at hu
    obtain ⟨y, hx, hy⟩ := r
    exact ⟨y, hx, RV.under hN h1 v y hu hy⟩
  | .agg cs, x, hu, r => by
    simp only [AV.under] at hu
    obtain ⟨vs, hx, hv⟩ := r
    exact ⟨vs, hx, RVs.under hN h1 cs _ hu hv⟩
  | .tup cs, x, hu, r => by
    simp only [AV.under] at hu
    obtain ⟨vs, hx, hv⟩ := r
    exact ⟨vs, hx, RVs.under hN h1 cs _ hu hv⟩
  | .ext _, _, _, r => r
theorem RVs.under {Γ Γ' : Gh} {H H' : Heap} {N : Nat} (hN : N ≤ H.sz) (h1 : ∀ l, l < N → H'.ver l = H.ver l ∧ Γ'.blk l = Γ.blk l ∧ Γ'.spare l = Γ.spare l) : ∀ (v : List AV) (x : List Value), AV.unders N v = true → RVs Γ' H' v x → RVs Γ H v x
  | [], _, _, r => r
  | a :: r, x, hu, q => by
    simp only [AV.unders, Bool.and_eq_true] at hu
    obtain ⟨y, z, hx, k1, k2⟩ := q
    exact ⟨y, z, hx, RV.under hN h1 a y hu.1 k1, RVs.under hN h1 r z hu.2 k2⟩
end

/-- A place that is reckoned, and not laid yet. -/
def Gh.gap (Γ : Gh) (l : Nat) : Gh := ⟨fun k => if k = l then none else Γ.blk k, Γ.spare⟩
theorem Rel.gap {P : Program} {Γ : Gh} {H : Heap} {w : World} (ob : AObj) (R : Rel P w0 Γ H w) : Rel P w0 (Γ.gap H.sz) (H.new ob) w ∧ Ext lim Γ H w (Γ.gap H.sz) (H.new ob) w := by
  have hg : ∀ l, l < H.sz → (H.new ob).get l = H.get l := fun l hl => by rw [Heap.get_new, if_neg (by omega)]
  have hb : ∀ l, l < H.sz → (Γ.gap H.sz).blk l = Γ.blk l := fun l hl => by simp [Gh.gap, show l ≠ H.sz from by omega]
  have le : Le Γ H (Γ.gap H.sz) (H.new ob) := ⟨by rw [Heap.sz_new]; omega, fun l hl => by simp [Heap.ver, hg l hl], fun l b hl _ h => ⟨(hb l hl).trans h, rfl⟩⟩
  have lt : ∀ l b, l < (H.new ob).sz → (Γ.gap H.sz).blk l = some b → l < H.sz ∧ Γ.blk l = some b := fun l b hl h => by
    rw [Heap.sz_new] at hl
    have hne : l ≠ H.sz := fun e => by simp [Gh.gap, e] at h
    exact ⟨by omega, by simpa [Gh.gap, hne] using h⟩
  refine ⟨⟨R.below, fun l b hl h => ?_, fun l l' b hl hl' h h' => ?_⟩, le, fun l hl _ => ⟨hg l hl, hb l hl, rfl, fun _ _ => rfl⟩, fun b hlt hf => ⟨rfl, fun l hl h => ?_⟩, Nat.le_refl _⟩
  · obtain ⟨h1, h2⟩ := lt l b hl h
    obtain ⟨g1, g2, g3⟩ := R.obj l b h1 h2
    exact ⟨g1, g2, by rw [hg l h1]; exact g3.mono le rfl rfl⟩
  · obtain ⟨h1, h2⟩ := lt l b hl h
    obtain ⟨h3, h4⟩ := lt l' b hl' h'
    exact R.inj l l' b h1 h3 h2 h4
  · obtain ⟨h1, h2⟩ := lt l b hl h
    exact hf l h1 h2
/-- The place is laid at last. -/
theorem Rel.fill {Γ : Gh} {H : Heap} {w : World} {s : Slots} {a : Act} {o : Oper} {v : AV} {ob : AObj} {l : Nat} (hρ : Reads C w0) (R : Rel C.P w0 Γ H w) (hS : RS Γ H s a) (hk : isMk o.op = true) (ho : opA C lim s H o.op = some (v, .new ob))
    (hl : l < H.sz) (hb : Γ.blk l = none) (hg : H.get l = ob) (hu : ob.under l = true) :
    ∃ x w' Γ', (execOp a.eval o).run C.P w = .ok (.value x) w' ∧ RV Γ' H (v.at l) x ∧ Rel C.P w0 Γ' H w' ∧ Le Γ H Γ' H ∧ (∀ k, k ≠ l → Γ'.blk k = Γ.blk k) ∧
      ∀ lim Γ0 H0 w1, Ext lim Γ0 H0 w1 Γ H w → H0.sz ≤ l → Ext lim Γ0 H0 w1 Γ' H w' := by
  obtain ⟨ob', hob, hver, hv, hany⟩ := opA_mk hk ho
  cases hob
  obtain ⟨nx, w', Γ1, hrun, hx, R1, E⟩ := opA_sound (lim := H.sz) hρ R hS (hany H.sz H)
  have hvv : v.at H.sz = v := by rcases hv with rfl | ⟨n, rfl⟩ <;> rfl
  have E : Ext H.sz Γ H w Γ1 (H.new ob) w' := E
  have R1 : Rel C.P w0 Γ1 (H.new ob) w' := R1
  obtain ⟨x, hnx, hq⟩ : ∃ x, nx = .value x ∧ RV Γ1 (H.new ob) v x := by
    rcases hx with ⟨x, h1, h2⟩ | ⟨_, h2⟩
    · exact ⟨x, h1, by rw [hvv] at h2; exact h2⟩
    · rcases hv with rfl | ⟨n, rfl⟩ <;> cases h2
  clear hx
  subst hnx
  have hkeep := fun k (h : k < H.sz) => E.keep k h (.inl h)
  have hnew : (H.new ob).get H.sz = ob := by rw [Heap.get_new, if_pos rfl]
  have hnv : (H.new ob).ver H.sz = 0 := by simp [Heap.ver, hnew, hver]
  have hlv : H.ver l = 0 := by simp [Heap.ver, hg, hver]
  obtain ⟨b, hb1⟩ : ∃ b, Γ1.blk H.sz = some b := by
    rcases hv with rfl | ⟨n, rfl⟩
    · obtain ⟨_, _, _, h4⟩ := hq
      obtain ⟨b, h, _⟩ := h4 hnv.symm
      exact ⟨b, h⟩
    · obtain ⟨_, _, p, c', _, _, _, h4⟩ := hq
      obtain ⟨b, h, _⟩ := h4 hnv.symm
      exact ⟨b, h⟩
  have hsz : H.sz < (H.new ob).sz := by rw [Heap.sz_new]; omega
  obtain ⟨g1, g2, g3⟩ := R1.obj H.sz b hsz hb1
  rw [hnew] at g3
  have le : Le Γ H (Γ.upd l b (Γ1.spare H.sz)) H := ⟨Nat.le_refl _, fun _ _ => Nat.le_refl _, fun k c hk _ h => by
    have hne : k ≠ l := fun e => by rw [e, hb] at h; cases h
    simp [Gh.upd, hne, h]⟩
  have hne : ∀ k c, k < H.sz → Γ.blk k = some c → c ≠ b := fun k c hk h e => by
    subst e
    have := R1.inj k H.sz c (by omega) hsz ((hkeep k hk).2.1.trans h) hb1
    omega
  refine ⟨x, w', Γ.upd l b (Γ1.spare H.sz), hrun, ?_, ⟨R1.below, fun k c hk h => ?_, fun k k' c hk hk' h h' => ?_⟩, le, fun k hk => by simp [Gh.upd, hk], fun lim Γ0 H0 w1 E0 hle => ?_⟩
  · rcases hv with rfl | ⟨n, rfl⟩
    · obtain ⟨_, _, h3, h4⟩ := hq
      refine ⟨hl, Nat.zero_le _, h3, fun _ => ?_⟩
      obtain ⟨b', e1, e2⟩ := h4 hnv.symm
      rw [hb1] at e1
      cases e1
      exact ⟨b, by simp [Gh.upd], e2⟩
    · obtain ⟨_, _, p, c', h1, h2, h3, h4⟩ := hq
      refine ⟨hl, Nat.zero_le _, p, c', h1, h2, h3, fun _ => ?_⟩
      obtain ⟨b', e1, e2, e3⟩ := h4 hnv.symm
      rw [hb1] at e1
      cases e1
      exact ⟨b, by simp [Gh.upd], e2, by simpa using e3⟩
  · by_cases e : k = l
    · subst e
      have : c = b := by simpa [Gh.upd] using h.symm
      subst this
      refine ⟨g1, g2, ?_⟩
      rw [hg]
      cases ob with
      | cells vv e fr g cs =>
        obtain ⟨c', sz, q1, q2, q3, q4, q5⟩ := g3
        have hsp : (Γ.upd k c (Γ1.spare H.sz)).spare k = Γ1.spare H.sz := by simp [Gh.upd]
        refine ⟨c', sz, q1, by rw [hsp]; exact q2, by rw [hsp]; exact q3, q4, RVs.mono le _ _ (RVs.under (N := k) (Nat.le_of_lt hl) (fun m hm => ?_) _ _ (by simpa [AObj.under] using hu) q5)⟩
        obtain ⟨e1, e2, e3, _⟩ := hkeep m (by omega)
        exact ⟨by simp [Heap.ver, e1], e2, e3⟩
      | _ => simp [AObj.under] at hu
    · have h : Γ.blk k = some c := by simpa [Gh.upd, e] using h
      obtain ⟨q1, q2, q3⟩ := R.obj k c hk h
      exact ⟨q1, Nat.lt_of_lt_of_le q2 E.size, q3.mono le ((hkeep k hk).2.2.2 c h) (by simp [Gh.upd, e])⟩
  · by_cases e : k = l <;> by_cases e' : k' = l
    · rw [e, e']
    · have h1 : b = c := by simpa [Gh.upd, e] using h
      have h2 : Γ.blk k' = some c := by simpa [Gh.upd, e'] using h'
      exact absurd h1.symm (hne k' c hk' h2)
    · have h1 : b = c := by simpa [Gh.upd, e'] using h'
      have h2 : Γ.blk k = some c := by simpa [Gh.upd, e] using h
      exact absurd h1.symm (hne k c hk h2)
    · exact R.inj k k' c hk hk' (by simpa [Gh.upd, e] using h) (by simpa [Gh.upd, e'] using h')
  · refine ⟨E0.le.trans le, fun k hk hc => ?_, fun c hc hf => ?_, Nat.le_trans E0.size E.size⟩
    · obtain ⟨e1, e2, e3, e4⟩ := E0.keep k hk hc
      have hkl : k ≠ l := by omega
      exact ⟨e1, by simp [Gh.upd, hkl, e2], by simp [Gh.upd, hkl, e3], fun c h => ((hkeep k (Nat.lt_of_lt_of_le hk E0.le.sz)).2.2.2 c (e2.trans h)).trans (e4 c h)⟩
    · obtain ⟨e1, e2⟩ := E0.frame c hc hf
      obtain ⟨e3, e4⟩ := E.frame c (Nat.lt_of_lt_of_le hc E0.size) e2
      refine ⟨e3.trans e1, fun k hk h => ?_⟩
      by_cases e : k = l
      · have : b = c := by simpa [Gh.upd, e] using h
        subst this
        exact e4 H.sz hsz hb1
      · exact e2 k hk (by simpa [Gh.upd, e] using h)
end
end Go.Ev
