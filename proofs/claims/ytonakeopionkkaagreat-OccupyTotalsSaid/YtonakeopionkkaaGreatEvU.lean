/- EvU: more operations that leave memory alone: parts, places, slices, reads. -/
import Derived.Test.YtonakeopionkkaaGreatEvT
set_option linter.unusedVariables false
set_option linter.unusedSimpArgs false
namespace Go.Ev
open Go.RowKit

section
variable {C : Ctx} {P : Program} {w0 : World} {Γ : Gh} {H : Heap} {w : World}

theorem fieldA_sound {t : TypeId} {x v : AV} {u : Value} {i : Nat} (h : fieldA P t x i = some v) (hx : RV Γ H x u) : Fine P Γ H w v (Instr.field t u i) := by
  unfold fieldA at h
  split at h
  · rename_i cs
    obtain ⟨vs, rfl, hvs⟩ := hx
    split at h
    · rename_i fs hu
      obtain ⟨f, hf, h⟩ := bind_some h
      obtain ⟨z, hz, hr⟩ := RV.part (P := P) (w := w) hvs h
      exact ⟨z, by simp [Instr.field, und_run hu, hf, asAgg, hz], hr⟩
    · cases h
  · cases h
theorem add_own (b o n : Nat) : (⟨b, o, none⟩ : Addr).add n = ⟨b, o + n, none⟩ := by
  unfold Addr.add
  split
  · subst_vars; rfl
  · rfl
/-- An address. -/
theorem addA_sound {x v : AV} {n : Nat} {u : Value} (h : addA n x = some v) (hx : RV Γ H x u) : ∃ a, u = .pointer (some a) ∧ RV Γ H v (.pointer (some (a.add n))) := by
  unfold addA at h
  split at h
  · obtain rfl := Option.some.inj h
    obtain ⟨h1, h2, ⟨p, rfl⟩, h3⟩ := hx
    refine ⟨p, rfl, h1, h2, ⟨_, rfl⟩, fun e => ?_⟩
    obtain ⟨b, hb, hp⟩ := h3 e
    cases hp
    exact ⟨b, hb, by rw [add_own]⟩
  · obtain rfl := Option.some.inj h
    simp only [RV] at hx; subst hx
    exact ⟨_, rfl, rfl⟩
  · cases h
theorem fieldAddrA_sound {t : TypeId} {x v : AV} {u : Value} {i : Nat} (h : fieldAddrA P t x i = some v) (hx : RV Γ H x u) : Fine P Γ H w v (Instr.fieldAt t u i) := by
  unfold fieldAddrA at h
  split at h
  · rename_i fs hu
    obtain ⟨f, hf, h⟩ := bind_some h
    obtain ⟨n, hn, h⟩ := bind_some h
    obtain ⟨h0, h⟩ := cond_none h
    have hn0 : n ≠ 0 := by simpa using h0
    obtain ⟨a, rfl, hr⟩ := addA_sound h hx
    exact ⟨_, by simp [Instr.fieldAt, und_run hu, hf, Instr.sureAddr, fieldPlace, run_szA hn, hn0], hr⟩
  · cases h
theorem elemAtA_sound {e : TypeId} {i : Int} {len : Nat} {x v : AV} {u : Value} (h : elemAtA P e i len x = some v) (hx : RV Γ H x u) :
    ∃ a n, u = .pointer (some a) ∧ 0 ≤ i ∧ i < len ∧ szA P e = some n ∧ RV Γ H v (.pointer (some (a.add (i.toNat * n)))) := by
  unfold elemAtA at h
  obtain ⟨h1, h⟩ := cond_some h
  simp only [Bool.and_eq_true, decide_eq_true_eq] at h1
  obtain ⟨n, hn, h⟩ := bind_some h
  obtain ⟨a, rfl, hr⟩ := addA_sound h hx
  exact ⟨a, n, rfl, h1.1, h1.2, hn, hr⟩
theorem asInt_sound {x : AV} {n : Int} {u : Value} (h : asInt x = some n) (hx : RV Γ H x u) : ∃ k, x = .int k n ∧ u = .int k n := by
  unfold asInt at h
  split at h
  · obtain rfl := Option.some.inj h; simp only [RV] at hx; exact ⟨_, rfl, hx⟩
  · cases h
theorem indexAddrA_sound {t : TypeId} {x ix v : AV} {u z : Value} (h : indexAddrA P t x ix = some v) (hx : RV Γ H x u) (hi : RV Γ H ix z) : Fine P Γ H w v (Instr.indexAt t u z) := by
  unfold indexAddrA at h
  obtain ⟨i, hii, h⟩ := bind_some h
  obtain ⟨k, rfl, rfl⟩ := asInt_sound hii hi
  split at h
  · rename_i len e hu
    obtain ⟨a, n, rfl, h0, h1, hn, hr⟩ := elemAtA_sound h hx
    exact ⟨_, by simp [Instr.indexAt, asIntOf, und_run hu, Instr.sureAddr, h0, h1, run_szA hn], hr⟩
  · rename_i e hu
    split at h
    · obtain ⟨g1, g2, p, c', rfl, _, _, g3⟩ := hx
      obtain ⟨a, n, ha, h0, h1, hn, hr⟩ := elemAtA_sound (Γ := Γ) (H := H) (u := .pointer (some p)) h ⟨g1, g2, ⟨_, rfl⟩, fun e => by
        obtain ⟨b, hb, hp, _⟩ := g3 e
        exact ⟨b, hb, by rw [hp]⟩⟩
      cases ha
      exact ⟨_, by simp [Instr.indexAt, asIntOf, und_run hu, h0, h1, run_szA hn], hr⟩
    · simp only [RV] at hx; subst hx
      obtain ⟨a, n, ha, h0, h1, hn, hr⟩ := elemAtA_sound h (Γ := Γ) (H := H) (u := .pointer (some _)) rfl
      cases ha
      exact ⟨_, by simp [Instr.indexAt, asIntOf, und_run hu, h0, h1, run_szA hn], hr⟩
    · cases h
  · cases h

theorem indexA_sound {t : TypeId} {x ix v : AV} {u z : Value} (h : indexA P t x ix = some v) (hx : RV Γ H x u) (hi : RV Γ H ix z) : Fine P Γ H w v (Instr.index t u z) := by
  unfold indexA at h
  obtain ⟨i, hii, h⟩ := bind_some h
  obtain ⟨k, rfl, rfl⟩ := asInt_sound hii hi
  split at h
  · rename_i len e hu
    split at h
    · obtain ⟨vs, rfl, hvs⟩ := hx
      obtain ⟨h1, h⟩ := cond_some h
      simp only [Bool.and_eq_true, decide_eq_true_eq] at h1
      obtain ⟨n, hn, h⟩ := bind_some h
      obtain ⟨r, hr, hv⟩ := RV.part (P := P) (w := w) hvs h
      exact ⟨r, by simp [Instr.index, asIntOf, und_run hu, h1.1, h1.2, run_szA hn, hr], hv⟩
    · cases h
  · rename_i hu
    split at h
    · simp only [RV] at hx; subst hx
      obtain ⟨h1, h⟩ := cond_some h
      have h0 : 0 ≤ i := of_decide_eq_true h1
      obtain ⟨b, hb, rfl⟩ := map_some h
      exact ⟨.int .u8 b.toNat, by simp [Instr.index, asIntOf, und_run hu, h0, hb], rfl⟩
    · cases h
  · cases h

theorem boundA_sound {x : AV} {y n c : Nat} {u : Value} {code : BoundsCode} (h : boundA x y = some n) (hc : y ≤ c) (hx : RV Γ H x u) : (Instr.sliceBound u c code).run P w = .ok n w ∧ n ≤ y := by
  unfold boundA at h
  obtain ⟨i, hi, h⟩ := bind_some h
  obtain ⟨k, rfl, rfl⟩ := asInt_sound hi hx
  obtain ⟨h1, h⟩ := cond_some h
  simp only [Bool.and_eq_true, decide_eq_true_eq] at h1
  obtain rfl := Option.some.inj h
  have : i ≤ c := by omega
  exact ⟨by simp [Instr.sliceBound, asIntOf, h1.1, this], by omega⟩
def RO (Γ : Gh) (H : Heap) : Option AV → Option Value → Prop
  | none, none => True
  | some a, some v => RV Γ H a v
  | _, _ => False
theorem RS.opt {s : Slots} {a : Act} (h : RS Γ H s a) (x : Option Operand) : RO Γ H (x.map (oprA s)) (x.map a.eval) := by
  cases x with
  | none => exact trivial
  | some x => exact RS.opr h x
/-- The bounds, where the true capacity may be more than what is known of it. -/
theorem boundsA_sound {isS : Bool} {len cap c l hi m : Nat} {lo hh mx : Option AV} {ulo uhi umx : Option Value} (h : boundsA len cap lo hh mx = some (l, hi, m)) (hlc : len ≤ cap) (hc : cap ≤ c)
    (hlo : RO Γ H lo ulo) (hhi : RO Γ H hh uhi) (hmx : RO Γ H mx umx) :
    (Instr.sliceBounds isS len c ulo uhi umx).run P w = .ok (l, hi, if umx.isSome then m else c) w ∧ l ≤ hi ∧ hi ≤ m ∧ m ≤ cap ∧ (mx = none → m = cap) := by
  unfold boundsA at h
  obtain ⟨m', hm, h⟩ := bind_some h
  obtain ⟨h', hh', h⟩ := bind_some h
  obtain ⟨l', hl, h⟩ := bind_some h
  simp only [Option.some.injEq, Prod.mk.injEq] at h
  obtain ⟨rfl, rfl, rfl⟩ := h
  have mlow : ∀ (n : Nat), h' ≤ n → ∃ (_ : l' ≤ h'), (∀ code, (match ulo with | some v => Instr.sliceBound v h' code | none => pure 0).run P w = .ok l' w) := by
    intro n _
    cases lo with
    | none =>
      cases ulo with
      | none => obtain rfl := Option.some.inj hl; exact ⟨Nat.zero_le _, fun _ => rfl⟩
      | some v => exact hlo.elim
    | some a =>
      cases ulo with
      | none => exact hlo.elim
      | some v =>
        have := fun code => boundA_sound (P := P) (w := w) (code := code) hl (Nat.le_refl _) hlo
        exact ⟨(this .sliceB).2, fun code => (this code).1⟩
  cases mx with
  | none =>
    cases umx with
    | some v => exact hmx.elim
    | none =>
      obtain rfl := Option.some.inj hm
      cases hh with
      | none =>
        cases uhi with
        | some v => exact hhi.elim
        | none =>
          obtain rfl := Option.some.inj hh'
          obtain ⟨k1, k2⟩ := mlow _ (Nat.le_refl _)
          refine ⟨?_, k1, hlc, Nat.le_refl _, fun _ => rfl⟩
          have := k2 (if (none : Option Value).isSome then .slice3C else .sliceB)
          cases ulo <;> simp_all [Instr.sliceBounds]
      | some a =>
        cases uhi with
        | none => exact hhi.elim
        | some v =>
          have hb := fun code => boundA_sound (P := P) (w := w) (code := code) hh' hc hhi
          obtain ⟨k1, k2⟩ := mlow _ (Nat.le_refl _)
          refine ⟨?_, k1, (hb .sliceB).2, Nat.le_refl _, fun _ => rfl⟩
          have k3 := k2 (if (none : Option Value).isSome then .slice3C else .sliceB)
          have k4 := (hb (if isS then .sliceAcap else .sliceAlen)).1
          cases ulo <;> simp_all [Instr.sliceBounds]
  | some mv =>
    cases umx with
    | none => exact hmx.elim
    | some z =>
      have hbm := fun code => boundA_sound (P := P) (w := w) (code := code) hm hc hmx
      cases hh with
      | none => cases hh'
      | some a =>
        cases uhi with
        | none => exact hhi.elim
        | some v =>
          have hb := fun code => boundA_sound (P := P) (w := w) (code := code) hh' (Nat.le_refl _) hhi
          obtain ⟨k1, k2⟩ := mlow _ (Nat.le_refl _)
          refine ⟨?_, k1, (hb .sliceB).2, (hbm .sliceB).2, fun h => by cases h⟩
          have k3 := k2 (if (some z).isSome then .slice3C else .sliceB)
          have k4 := (hb .slice3B).1
          have k5 := (hbm (if isS then .slice3Acap else .slice3Alen)).1
          cases ulo <;> simp_all [Instr.sliceBounds]

theorem sliceSl_sound {t e : TypeId} {n l v o len cap : Nat} {m : Bool} {x : AV} {u : Value} {lo hh mx : Option AV} {ulo uhi umx : Option Value} (hu : P.underlying t = some (.slice e)) (hn : szA P e = some n)
    (h : sliceSl n l v o len cap m lo hh mx = some x) (hx : RV Γ H (.sl l v o len cap m) u) (hlo : RO Γ H lo ulo) (hhi : RO Γ H hh uhi) (hmx : RO Γ H mx umx) : Fine P Γ H w x (Instr.sliceAt t u ulo uhi umx) := by
  unfold sliceSl at h
  obtain ⟨hlc, h⟩ := cond_none h
  have hlc : len ≤ cap := by simpa using hlc
  obtain ⟨⟨bl, bh, bm⟩, hb, h⟩ := bind_some h
  obtain ⟨g1, g2, p, c', rfl, gc, gm, g3⟩ := hx
  obtain ⟨hr, h1, h2, h3, h4⟩ := boundsA_sound (P := P) (w := w) (isS := true) (c := c') hb hlc gc hlo hhi hmx
  have hrun : ∀ q, (Instr.sliceBounds true len c' ulo uhi umx).run P w = .ok (bl, bh, q) w → (Instr.sliceAt t (.slice (some p) len c') ulo uhi umx).run P w = .ok (.slice (some (if q = bl then p else p.add (bl * n))) (bh - bl) (q - bl)) w := fun q hq => by
    simp [Instr.sliceAt, Instr.slice, und_run hu, hq, run_szA hn]
    split <;> rfl
  have exact_case : ∀ q, q = bm → (m = false ∨ umx.isSome = true) → (if umx.isSome then bm else c') = q → x = .sl l v (bif bm == bl then o else o + bl * n) (bh - bl) (bm - bl) false → Fine P Γ H w x (Instr.sliceAt t (.slice (some p) len c') ulo uhi umx) := by
    intro q hq _ he hx
    subst hq; subst hx
    rw [he] at hr
    refine ⟨_, hrun _ hr, g1, g2, _, _, rfl, Nat.le_refl _, fun _ => rfl, fun e => ?_⟩
    obtain ⟨b, hb', hp, _⟩ := g3 e
    refine ⟨b, hb', ?_, by simp⟩
    by_cases hq : q = bl
    · subst hq; simp [hp]
    · have hq' : (q == bl) = false := by simpa using hq
      simp [hq, hq', hp, add_own]
  cases m with
  | true =>
    cases mx with
    | none =>
      cases umx with
      | some _ => exact hmx.elim
      | none =>
        have hm : bm = cap := h4 rfl
        simp only [Option.isSome_none, Bool.false_eq_true, if_false] at hr
        obtain rfl := Option.some.inj h
        cases hq : (bl == cap) with
        | true => exact ⟨_, hrun _ hr, by simp only [cond_true, RV]; exact ⟨_, _, rfl⟩⟩
        | false =>
          have hq : bl ≠ cap := by simpa using hq
          refine ⟨_, hrun _ hr, g1, g2, _, _, rfl, by simp only; omega, (fun h => by cases h), fun e => ?_⟩
          obtain ⟨b, hb', hp, hc'⟩ := g3 e
          refine ⟨b, hb', ?_, ?_⟩
          · rw [if_neg (by omega), hp, add_own]
          · simp only [if_true] at hc' ⊢; omega
    | some mv =>
      cases umx with
      | none => exact hmx.elim
      | some z => exact exact_case bm rfl (.inr rfl) rfl (Option.some.inj h).symm
  | false =>
    have hc : c' = cap := gm rfl
    cases mx with
    | none =>
      cases umx with
      | some _ => exact hmx.elim
      | none => exact exact_case bm rfl (.inl rfl) (by rw [h4 rfl]; simp [hc]) (Option.some.inj h).symm
    | some mv =>
      cases umx with
      | none => exact hmx.elim
      | some z => exact exact_case bm rfl (.inr rfl) rfl (Option.some.inj h).symm
theorem sliceXs_sound {t e : TypeId} {n len cap : Nat} {a : Addr} {x : AV} {u : Value} {lo hh mx : Option AV} {ulo uhi umx : Option Value} (hu : P.underlying t = some (.slice e)) (hn : szA P e = some n)
    (h : (bif !Nat.ble len cap then none else (boundsA len cap lo hh mx).map fun b => AV.xs (if b.2.2 = b.1 then a else a.add (b.1 * n)) (b.2.1 - b.1) (b.2.2 - b.1)) = some x)
    (hx : RV Γ H (.xs a len cap) u) (hlo : RO Γ H lo ulo) (hhi : RO Γ H hh uhi) (hmx : RO Γ H mx umx) : Fine P Γ H w x (Instr.sliceAt t u ulo uhi umx) := by
  obtain ⟨hlc, h⟩ := cond_none h
  have hlc : len ≤ cap := by simpa using hlc
  simp only [RV] at hx; subst hx
  obtain ⟨⟨l, hi, m⟩, hb, rfl⟩ := map_some h
  obtain ⟨hr, h1, h2, h3, h4⟩ := boundsA_sound (P := P) (w := w) (isS := true) hb hlc (Nat.le_refl _) hlo hhi hmx
  have hm : (if umx.isSome then m else cap) = m := by
    cases umx with
    | some _ => rfl
    | none => cases mx with
      | none => exact (h4 rfl).symm
      | some _ => exact hmx.elim
  rw [hm] at hr
  refine ⟨.slice (some (if m = l then a else a.add (l * n))) (hi - l) (m - l), ?_, rfl⟩
  simp [Instr.sliceAt, Instr.slice, und_run hu, hr, run_szA hn]
  split <;> rfl
theorem sliceA_sound {t : TypeId} {x v : AV} {u : Value} {lo hh mx : Option AV} {ulo uhi umx : Option Value} (h : sliceA P t x lo hh mx = some v) (hx : RV Γ H x u)
    (hlo : RO Γ H lo ulo) (hhi : RO Γ H hh uhi) (hmx : RO Γ H mx umx) : Fine P Γ H w v (Instr.sliceAt t u ulo uhi umx) := by
  unfold sliceA at h
  split at h
  · rename_i hu
    split at h
    · simp only [RV] at hx; subst hx
      obtain ⟨⟨l, hi, m⟩, hb, rfl⟩ := map_some h
      cases umx with
      | some _ => exact hmx.elim
      | none =>
        obtain ⟨hr, _⟩ := boundsA_sound (P := P) (w := w) (isS := false) hb (Nat.le_refl _) (Nat.le_refl _) hlo hhi (mx := none) (umx := none) trivial
        exact ⟨.string _, by simp [Instr.sliceAt, Instr.slice, und_run hu, hr], rfl⟩
    · cases h
  · rename_i e hu
    obtain ⟨n, hn, h⟩ := bind_some h
    split at h
    · simp only [RV] at hx; subst hx
      obtain ⟨⟨l, hi, m⟩, hb, rfl⟩ := map_some h
      obtain ⟨hr, h1, h2, h3, _⟩ := boundsA_sound (P := P) (w := w) (isS := true) hb (Nat.le_refl _) (Nat.le_refl _) hlo hhi hmx
      have e1 : l = 0 := by omega
      have e2 : hi = 0 := by omega
      have e3 : m = 0 := by omega
      subst e1; subst e2; subst e3
      refine ⟨.slice none 0 0, ?_, rfl⟩
      simp [Instr.sliceAt, Instr.slice, und_run hu, hr, run_szA hn]
    · exact sliceSl_sound hu hn h hx hlo hhi hmx
    · exact sliceXs_sound hu hn h hx hlo hhi hmx
    · cases h
  · rename_i len e hu
    obtain ⟨n, hn, h⟩ := bind_some h
    split at h
    · rename_i l v o
      obtain ⟨⟨bl, bh, bm⟩, hb, rfl⟩ := map_some h
      obtain ⟨g1, g2, ⟨p, rfl⟩, g3⟩ := hx
      obtain ⟨hr, h1, h2, h3, h4⟩ := boundsA_sound (P := P) (w := w) (isS := false) hb (Nat.le_refl _) (Nat.le_refl _) hlo hhi hmx
      have hm : (if umx.isSome then bm else len) = bm := by
        cases umx with
        | some _ => rfl
        | none => cases mx with
          | none => exact (h4 rfl).symm
          | some _ => exact hmx.elim
      rw [hm] at hr
      refine ⟨.slice (some (if bm = bl then p else p.add (bl * n))) (bh - bl) (bm - bl), by simp [Instr.sliceAt, und_run hu, Instr.sureAddr, hr, run_szA hn], g1, g2, _, _, rfl, Nat.le_refl _, fun _ => rfl, fun e => ?_⟩
      obtain ⟨b, hb', hp⟩ := g3 e
      cases hp
      refine ⟨b, hb', ?_, by simp⟩
      by_cases hq : bm = bl
      · subst hq; simp
      · have hq' : (bm == bl) = false := by simpa using hq
        simp [hq, hq', add_own]
    · cases h
  · cases h
end
end Go.Ev
