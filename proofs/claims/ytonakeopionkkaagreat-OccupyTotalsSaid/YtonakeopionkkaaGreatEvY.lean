/- EvY: maps are written, gone through; slices grow. -/
import Derived.Test.YtonakeopionkkaaGreatEvX
set_option linter.unusedVariables false
set_option linter.unusedSimpArgs false
namespace Go.Ev
open Go.RowKit

section
variable {C : Ctx} {P : Program} {w0 : World} {Γ : Gh} {H : Heap} {w : World} {lim : Nat}

theorem sameCell_sound {a b : AV} {x y : Value} (n : Nat) (h : sameCell a b = true) (ha : RV Γ H a x) (hb : RV Γ H b y) : Instr.sameBits n x y = true := by
  cases a <;> cases b <;> simp only [sameCell, Bool.false_eq_true] at h
  all_goals
    simp only [RV] at ha hb
    subst ha; subst hb
    try simp only [Bool.and_eq_true, decide_eq_true_eq] at h
    cases n <;> simp [Instr.sameBits, h]
theorem sameCells_sound (n : Nat) : ∀ {a b : List AV} {x y : List Value}, sameCells a b = true → RVs Γ H a x → RVs Γ H b y → x.length = y.length ∧ (x.zip y).all (fun (p, q) => Instr.sameBits n p q) = true
  | [], [], _, _, _, ha, hb => by rw [ha, hb]; exact ⟨rfl, rfl⟩
  | [], _ :: _, _, _, h, _, _ => by cases h
  | _ :: _, [], _, _, h, _, _ => by cases h
  | a :: r, b :: s, _, _, h, ⟨x, y, hx, h1, h2⟩, ⟨z, t, hz, h3, h4⟩ => by
    subst hx; subst hz
    simp only [sameCells, Bool.and_eq_true] at h
    obtain ⟨e1, e2⟩ := sameCells_sound n h.2 h2 h4
    exact ⟨by simp [e1], by simp only [List.zip_cons_cons, List.all_cons, Bool.and_eq_true]; exact ⟨sameCell_sound n h.1 h1 h3, e2⟩⟩
theorem sameA_sound {a b : AV} {x y : Value} (h : sameA a b = true) (ha : RV Γ H a x) (hb : RV Γ H b y) : Instr.sameBits 10000 x y = true := by
  unfold sameA at h
  split at h
  · obtain ⟨vs, rfl, hv⟩ := ha
    obtain ⟨us, rfl, hu⟩ := hb
    obtain ⟨e1, e2⟩ := sameCells_sound 9999 h hv hu
    simp only [Instr.sameBits, Bool.and_eq_true, beq_iff_eq]
    exact ⟨by simpa using e1, e2⟩
  · exact sameCell_sound 10000 h ha hb
theorem mapPutA_sound {t : TypeId} {x k v : AV} {u y z : Value} {f : Eff} (R : Rel C.P w0 Γ H w) (h : mapPutA C lim H t x k v = some f) (hx : RV Γ H x u) (hk : RV Γ H k y) (hv : RV Γ H v z) :
    ∃ w', (Instr.mapUpdate t u y z).run C.P w = .ok () w' ∧ Rel C.P w0 Γ (f.on H) w' ∧ Ext lim Γ H w Γ (f.on H) w' := by
  unfold mapPutA at h
  split at h
  · rename_i kt e hu
    cases x with
    | mp l =>
      simp only at h
      obtain ⟨h1, h⟩ := cond_some h
      simp only [Bool.and_eq_true] at h1
      have hlim := Nat.le_of_ble_eq_true h1.1
      split at h
      · rename_i es c hg
        obtain ⟨r, hr, h⟩ := bind_some h
        obtain ⟨b, fs, rfl, hb, hl, hw, hf⟩ := R.entries hg hx
        obtain ⟨q, hq, hrq⟩ := findA_sound (w := w) hk h1.2 hf hr
        have hchk := keyChk_sound (P := C.P) (w := w) false 20 10000 kt k y (by omega) h1.2 hk
        cases r with
        | none =>
          cases q with
          | some _ => exact hrq.elim
          | none =>
            obtain rfl := Option.some.inj h
            obtain ⟨g1, g2, g3⟩ := map_put (lim := lim) (es' := es ++ [(k, v, c)]) (c' := c + 1) (fs' := fs.push { key := y, val := z, born := c }) R hlim hl hb hg hw (by simpa using REnt.push hk hv hf)
            exact ⟨_, by simp [Instr.mapUpdate, run_underlying hu, getMap hw, hchk, hq, g1], g2, g3⟩
        | some p =>
          obtain ⟨i, p⟩ := p
          cases q with
          | none => exact hrq.elim
          | some q =>
            obtain ⟨j, q⟩ := q
            obtain ⟨rfl, hp⟩ := hrq
            obtain ⟨ent, hent, h⟩ := bind_some h
            obtain ⟨hsame, h⟩ := cond_some h
            obtain rfl := Option.some.inj h
            obtain ⟨me, hme, r1, r2, r3⟩ := REnt.get hf i ent hent
            have hme' : fs[i]? = some me := by simpa using hme
            have hbits := sameA_sound hsame r1 hk
            obtain ⟨g1, g2, g3⟩ := map_put (lim := lim) (es' := es.modify i fun e => (k, v, e.2.2)) (c' := c) (fs' := fs.modify i fun e => { e with key := y, val := z }) R hlim hl hb hg hw
              (by simpa using REnt.modify (e := fun e => (k, v, e.2.2)) (g := fun e => { e with key := y, val := z }) (fun _ _ _ _ h => ⟨hk, hv, h⟩) i hf)
            exact ⟨_, by simp [Instr.mapUpdate, run_underlying hu, getMap hw, hchk, hq, hme', Instr.keyThatStays, hbits, g1], g2, g3⟩
      · cases h
    | _ => simp at h
  · cases h
theorem mapEntryA_sound {t : TypeId} {x k : AV} {u y : Value} {r : AV × Eff} (R : Rel C.P w0 Γ H w) (h : mapEntryA C lim H t x k = some r) (hx : RV Γ H x u) (hk : RV Γ H k y) : Good C.P w0 lim Γ H w r.1 r.2 (Instr.mapEntry t u y) := by
  unfold mapEntryA at h
  split at h
  · rename_i kt e hu
    cases x with
    | mp l =>
      simp only at h
      obtain ⟨h1, h⟩ := cond_some h
      simp only [Bool.and_eq_true] at h1
      have hlim := Nat.le_of_ble_eq_true h1.1
      split at h
      · rename_i es c hg
        obtain ⟨r, hr, h⟩ := bind_some h
        obtain ⟨b, fs, rfl, hb, hl, hw, hf⟩ := R.entries hg hx
        obtain ⟨q, hq, hrq⟩ := findA_sound (w := w) hk h1.2 hf hr
        have hchk := keyChk_sound (P := C.P) (w := w) false 20 10000 kt k y (by omega) h1.2 hk
        cases r with
        | none =>
          cases q with
          | some _ => exact hrq.elim
          | none =>
            obtain ⟨zv, hz, rfl⟩ := map_some h
            obtain ⟨zz, hzr, hz1, _⟩ := zeroA_run (Γ := Γ) (H := H) hz
            obtain ⟨g1, g2, g3⟩ := map_put (lim := lim) (es' := es ++ [(k, zv, c)]) (c' := c + 1) (fs' := fs.push { key := y, val := zz, born := c }) R hlim hl hb hg hw (by simpa using REnt.push hk hz1 hf)
            refine ⟨.tuple #[zz, goInt c], _, Γ, by simp [Instr.mapEntry, run_underlying hu, getMap hw, hchk, hq, hzr, g1], ?_, g2, g3⟩
            exact ⟨_, rfl, _, _, rfl, RV.mono g3.le _ _ hz1, _, _, rfl, rfl, rfl⟩
        | some p =>
          obtain ⟨i, p⟩ := p
          cases q with
          | none => exact hrq.elim
          | some q =>
            obtain ⟨j, q⟩ := q
            obtain ⟨rfl, hp⟩ := hrq
            obtain ⟨ent, hent, h⟩ := bind_some h
            obtain ⟨hsame, h⟩ := cond_some h
            obtain rfl := Option.some.inj h
            obtain ⟨me, hme, r1, r2, r3⟩ := REnt.get hf i ent hent
            have hme' : fs[i]? = some me := by simpa using hme
            have hbits := sameA_sound hsame r1 hk
            obtain ⟨g1, g2, g3⟩ := map_put (lim := lim) (es' := es.modify i fun e => (k, e.2)) (c' := c) (fs' := fs.modify i fun e => { e with key := y }) R hlim hl hb hg hw
              (by simpa using REnt.modify (e := fun e => (k, e.2)) (g := fun e => { e with key := y }) (fun _ _ _ h2 h => ⟨hk, h2, h⟩) i hf)
            refine ⟨.tuple #[q, goInt me.born], _, Γ, by simp [Instr.mapEntry, run_underlying hu, getMap hw, hchk, hq, hme', Instr.keyThatStays, hbits, g1], ?_, g2, g3⟩
            exact ⟨_, rfl, _, _, rfl, RV.mono g3.le _ _ hp, _, _, rfl, by rw [r3]; rfl, rfl⟩
      · cases h
    | _ => simp at h
  · cases h
theorem REnt.find {born : Int} : ∀ {es : List (AV × AV × Nat)} {fs : List MapEntry}, REnt Γ H es fs → fs.findIdx? (fun e => (e.born : Int) == born) = es.findIdx? (fun e => (e.2.2 : Int) == born)
  | [], _, h => by rw [h]; rfl
  | x :: r, _, ⟨y, z, hx, ⟨_, _, h3⟩, h4⟩ => by
    subst hx
    simp only [List.findIdx?_cons, h3, REnt.find h4]
theorem entryStoreA_sound {x s v : AV} {u y z : Value} {f : Eff} (t : TypeId) (R : Rel P w0 Γ H w) (h : entryStoreA lim H x s v = some f) (hx : RV Γ H x u) (hs : RV Γ H s y) (hv : RV Γ H v z) :
    ∃ w', (Instr.entryStore t u y z).run P w = .ok () w' ∧ Rel P w0 Γ (f.on H) w' ∧ Ext lim Γ H w Γ (f.on H) w' := by
  unfold entryStoreA at h
  split at h
  · rename_i l k born
    simp only [RV] at hs; subst hs
    obtain ⟨hlim, h⟩ := cond_some h
    have hlim := Nat.le_of_ble_eq_true hlim
    split at h
    · rename_i es c hg
      obtain ⟨i, hi, rfl⟩ := map_some h
      obtain ⟨b, fs, rfl, hb, hl, hw, hf⟩ := R.entries hg hx
      have hi' : fs.findIdx? (fun e => (e.born : Int) == born) = some i := by
        have e : fs = fs.toList.toArray := by simp
        rw [e, List.findIdx?_toArray, REnt.find hf]; exact hi
      obtain ⟨g1, g2, g3⟩ := map_put (lim := lim) (es' := es.modify i fun e => (e.1, v, e.2.2)) (c' := c) (fs' := fs.modify i fun e => { e with val := z }) R hlim hl hb hg hw
        (by simpa using REnt.modify (e := fun e => (e.1, v, e.2.2)) (g := fun e => { e with val := z }) (fun _ _ h1 _ h => ⟨h1, hv, h⟩) i hf)
      exact ⟨_, by simp [Instr.entryStore, getMap hw, Go.asInt, asIntOf, hi', g1], g2, g3⟩
    · cases h
  · cases h
theorem deleteA_sound {t : TypeId} {x k : AV} {u y : Value} {f : Eff} (ts : Array TypeId) (ht : ts[0]? = some t) (ty : TypeId) (R : Rel C.P w0 Γ H w) (h : deleteA C lim H t x k = some f) (hx : RV Γ H x u) (hk : RV Γ H k y) :
    ∃ w', (Builtin.delete_ ts ty #[u, y]).run C.P w = .ok (.tuple #[]) w' ∧ Rel C.P w0 Γ (f.on H) w' ∧ Ext lim Γ H w Γ (f.on H) w' := by
  unfold deleteA at h
  split at h
  · rename_i kt e hu
    cases x with
    | mp l =>
      simp only at h
      obtain ⟨h1, h⟩ := cond_some h
      simp only [Bool.and_eq_true] at h1
      have hlim := Nat.le_of_ble_eq_true h1.1
      split at h
      · rename_i es c hg
        obtain ⟨r, hr, rfl⟩ := map_some h
        obtain ⟨b, fs, rfl, hb, hl, hw, hf⟩ := R.entries hg hx
        obtain ⟨q, hq, hrq⟩ := findA_sound (w := w) hk h1.2 hf hr
        have hchk := keyChk_sound (P := C.P) (w := w) fs.isEmpty 20 10000 kt k y (by omega) h1.2 hk
        cases r with
        | none =>
          cases q with
          | some _ => exact hrq.elim
          | none =>
            obtain ⟨g1, g2, g3⟩ := map_put (lim := lim) (es' := es) (c' := c) (fs' := fs) R hlim hl hb hg hw hf
            refine ⟨_, ?_, g2, g3⟩
            simp [Builtin.delete_, ht, run_underlying hu, getMap hw, hchk, hq, g1]
        | some p =>
          obtain ⟨i, p⟩ := p
          cases q with
          | none => exact hrq.elim
          | some q =>
            obtain ⟨j, q⟩ := q
            obtain ⟨rfl, hp⟩ := hrq
            obtain ⟨g1, g2, g3⟩ := map_put (lim := lim) (es' := es.eraseIdx i) (c' := c) (fs' := fs.eraseIdxIfInBounds i) R hlim hl hb hg hw (by
              have := REnt.erase i hf
              simpa [Array.toList_eraseIdxIfInBounds] using this)
            refine ⟨_, ?_, g2, g3⟩
            simp [Builtin.delete_, ht, run_underlying hu, getMap hw, hchk, hq, g1]
      · cases h
    | _ => simp at h
  · cases h
end
end Go.Ev
