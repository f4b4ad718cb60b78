/- EvX: operations that lay or change own places. -/
import Derived.Test.YtonakeopionkkaaGreatEvW
set_option linter.unusedVariables false
set_option linter.unusedSimpArgs false
namespace Go.Ev
open Go.RowKit

section
variable {C : Ctx} {P : Program} {w0 : World} {Γ : Gh} {H : Heap} {w : World} {lim : Nat}

/-- The run ends well: a value, a new state. -/
def Good (P : Program) (w0 : World) (lim : Nat) (Γ : Gh) (H : Heap) (w : World) (v : AV) (f : Eff) (m : Sem Value) : Prop :=
  ∃ x w' Γ', m.run P w = .ok x w' ∧ RV Γ' (f.on H) v x ∧ Rel P w0 Γ' (f.on H) w' ∧ Ext lim Γ H w Γ' (f.on H) w'
theorem Fine.good {v : AV} {m : Sem Value} (R : Rel P w0 Γ H w) (h : Fine P Γ H w v m) : Good P w0 lim Γ H w v .nothing m :=
  let ⟨x, h1, h2⟩ := h
  ⟨x, w, Γ, h1, h2, R, Ext.refl _ _ _ _⟩
theorem Le.new (b sp : Nat) (o : AObj) : Le Γ H (Γ.upd H.sz b sp) (H.new o) := by
  refine ⟨by rw [Heap.sz_new]; omega, fun l hl => ?_, fun l c hl _ hc => ?_⟩
  · simp [Heap.ver, Heap.get_new, show l ≠ H.sz from by omega]
  · simp [Gh.upd, show l ≠ H.sz from by omega, hc]
theorem new_cells {e : TypeId} {cs : List AV} {vs : Array Value} (g : Bool) (sp sz : Nat) (R : Rel P w0 Γ H w) (hs : vs.size = cs.length + sp * sz) (hg0 : g = false → sp = 0) (hg1 : g = true → szA P e = some sz) (hr : RVs Γ H cs (vs.toList.take cs.length)) :
    Rel P w0 (Γ.upd H.sz w.heap.size sp) (H.new (newCells e g cs)) (w.alloc (.cells vs e)) ∧ Ext lim Γ H w (Γ.upd H.sz w.heap.size sp) (H.new (newCells e g cs)) (w.alloc (.cells vs e)) := by
  refine Rel.new sp R (Chg.alloc w _) ?_
  refine ⟨vs, sz, (Chg.alloc w _).here, ?_, ?_, hg1, RVs.mono (Le.new _ _ _) _ _ hr⟩
  · simpa [Gh.upd] using hs
  · simpa [Gh.upd] using hg0
theorem new_whole {e : TypeId} {cs : List AV} {vs : Array Value} (R : Rel P w0 Γ H w) (hr : RVs Γ H cs vs.toList) :
    Rel P w0 (Γ.upd H.sz w.heap.size 0) (H.new (newCells e false cs)) (w.alloc (.cells vs e)) ∧ Ext lim Γ H w (Γ.upd H.sz w.heap.size 0) (H.new (newCells e false cs)) (w.alloc (.cells vs e)) := by
  have hl : cs.length = vs.size := by simpa using RVs.length hr
  exact new_cells false 0 0 R (by omega) (fun _ => rfl) (fun h => by cases h) (by rw [List.take_of_length_le (by simp; omega)]; exact hr)
theorem new_ver (o : AObj) : (H.new o).ver H.sz = o.ver := by simp [Heap.ver, Heap.get_new]
theorem RV.newPtr {b sp : Nat} {o : AObj} : RV (Γ.upd H.sz b sp) (H.new o) (.ptr H.sz 0 0) (.pointer (some ⟨b, 0, none⟩)) :=
  ⟨by rw [Heap.sz_new]; omega, Nat.zero_le _, ⟨_, rfl⟩, fun _ => ⟨b, by simp [Gh.upd], rfl⟩⟩
theorem RV.newSl {b sp n c : Nat} {m : Bool} {o : AObj} (h : m = false → sp = 0) : RV (Γ.upd H.sz b sp) (H.new o) (.sl H.sz 0 0 n c m) (.slice (some ⟨b, 0, none⟩) n (c + sp)) := by
  refine ⟨by rw [Heap.sz_new]; omega, Nat.zero_le _, _, _, rfl, by omega, fun hm => by rw [h hm]; rfl, fun _ => ⟨b, by simp [Gh.upd], rfl, ?_⟩⟩
  cases m with
  | true => simp [Gh.upd]
  | false => simp [h rfl]
theorem run_newVar (t : TypeId) (v : Value) : (newVar t v).run P w = .ok ⟨w.heap.size, 0, none⟩ (w.alloc (.cells v.cells t)) := rfl
theorem run_newRow (t : TypeId) (vs : Array Value) : (newRow t vs).run P w = .ok ⟨w.heap.size, 0, none⟩ (w.alloc (.cells vs t)) := rfl
theorem zeroA_run {t : TypeId} {z : AV} (h : zeroA P t = some z) : ∃ v, (∀ w, (zeroValue t).run P w = .ok v w) ∧ RV Γ H z v ∧ RVs Γ H z.cells v.cells.toList := by
  obtain ⟨i, v, hi, hz, h1, h2⟩ := zeroA_sound (Γ := Γ) (H := H) h
  exact ⟨v, fun w => by simp [zeroValue, typeInfo, hi, hz], h1, h2⟩
theorem allocA_sound {e : TypeId} {r : AV × Eff} (R : Rel C.P w0 Γ H w) (h : allocA C H e = some r) : Good C.P w0 lim Γ H w r.1 r.2 (Instr.alloc e true (.tuple #[])) := by
  obtain ⟨z, hz, rfl⟩ := map_some h
  obtain ⟨v, hv, _, hc⟩ := zeroA_run (Γ := Γ) (H := H) hz
  obtain ⟨h1, h2⟩ := new_whole (lim := lim) (e := e) R hc
  exact ⟨_, _, _, by simp [Instr.alloc, hv, run_newVar], RV.newPtr, h1, h2⟩
theorem boxA_sound {e : TypeId} {x : AV} {u : Value} {r : AV × Eff} (R : Rel P w0 Γ H w) (h : boxA H e x = some r) (hx : RV Γ H x u) : Good P w0 lim Γ H w r.1 r.2 (Instr.box e u) := by
  obtain ⟨hs, h⟩ := cond_some h
  obtain rfl := Option.some.inj h
  obtain ⟨h1, h2⟩ := new_whole (lim := lim) (e := e) R (RV.cells hs hx)
  exact ⟨_, _, _, by simp [Instr.box, run_newVar], RV.newPtr, h1, h2⟩
theorem repeatL_length (z : List AV) : ∀ n, (repeatL z n).length = n * z.length
  | 0 => by simp [repeatL]
  | n + 1 => by simp [repeatL, repeatL_length z n, Nat.succ_mul, Nat.add_comm]
theorem repeat_get {α : Type} [Inhabited α] (z : Array α) (n : Nat) (hz : 0 < z.size) : ((Array.range (n * z.size)).map fun i => z[i % z.size]!).toList = (List.replicate n z.toList).flatten := by
  induction n with
  | zero => simp
  | succ n ih =>
    rw [List.replicate_succ', List.flatten_append, ← ih]
    apply List.ext_getElem?
    intro i
    simp only [Array.toList_map, Array.toList_range, List.getElem?_map, List.flatten_cons, List.flatten_nil, List.append_nil]
    by_cases h1 : i < n * z.size
    · rw [List.getElem?_append_left (by simpa using h1)]
      have h2 : i < (n + 1) * z.size := by rw [Nat.succ_mul]; omega
      simp [h1, h2]
    · rw [List.getElem?_append_right (by simpa using Nat.le_of_not_lt h1)]
      simp only [List.length_map, List.length_range]
      by_cases h2 : i < (n + 1) * z.size
      · have h3 : i - n * z.size < z.size := by rw [Nat.succ_mul] at h2; omega
        have h4 : i % z.size = i - n * z.size := by
          obtain ⟨k, rfl⟩ : ∃ k, i = n * z.size + k := ⟨i - n * z.size, by omega⟩
          rw [Nat.mul_add_mod', Nat.mod_eq_of_lt (by omega)]; omega
        simp [h2, h3, h4]
      · have h3 : ¬ i - n * z.size < z.size := by rw [Nat.succ_mul] at h2; omega
        simp [h2, h3]
theorem RVs.repeatL {z : List AV} {y : List Value} (h : RVs Γ H z y) : ∀ n, RVs Γ H (Ev.repeatL z n) (List.replicate n y).flatten
  | 0 => rfl
  | n + 1 => by
    rw [List.replicate_succ, List.flatten_cons]
    exact RVs.append h (RVs.repeatL h n)
theorem range0 (f : Nat → Value) : (Array.range 0).map f = #[] := Array.ext (by simp) (fun i h _ => by simp at h)
theorem makeSliceA_sound {t : TypeId} {a b : AV} {u z : Value} {r : AV × Eff} (R : Rel C.P w0 Γ H w) (h : makeSliceA C H t a b = some r) (ha : RV Γ H a u) (hb : RV Γ H b z) : Good C.P w0 lim Γ H w r.1 r.2 (Instr.makeSlice t u z) := by
  unfold makeSliceA at h
  split at h
  · rename_i e k n k' c hu
    simp only [RV] at ha hb; subst ha; subst hb
    obtain ⟨sz, hsz, h⟩ := bind_some h
    obtain ⟨by_, hby, h⟩ := bind_some h
    obtain ⟨h1, h⟩ := cond_some h
    simp only [Bool.and_eq_true, decide_eq_true_eq, Bool.not_eq_true', beq_eq_false_iff_ne] at h1
    obtain ⟨⟨⟨⟨e1, e2⟩, e3⟩, e4⟩, e5⟩ := h1
    obtain ⟨y, hy, h⟩ := bind_some h
    obtain ⟨h2, h⟩ := cond_some h
    have h2 : y.cells.length = sz := by simpa using h2
    obtain rfl := Option.some.inj h
    obtain ⟨v, hv, _, hc⟩ := zeroA_run (Γ := Γ) (H := H) hy
    have hvl : v.cells.size = sz := by rw [← h2]; simpa using (RVs.length hc).symm
    obtain ⟨i, hi, hib⟩ := run_bytesA hby w
    have hrow : RVs Γ H (repeatL y.cells c.toNat) ((Array.range (c.toNat * sz)).map fun i => v.cells[i % v.cells.size]!).toList := by
      rw [← hvl, repeat_get v.cells c.toNat (by omega)]
      exact RVs.repeatL hc _
    obtain ⟨g1, g2⟩ := new_whole (lim := lim) (e := e) R hrow
    have w1 : IntKind.i64.wrap n = n := by rw [← wrapK_eq]; simp only [wrapK]; omega
    have w2 : IntKind.i64.wrap c = c := by rw [← wrapK_eq]; simp only [wrapK]; omega
    refine ⟨.slice (some ⟨w.heap.size, 0, none⟩) n.toNat c.toNat, _, _, ?_, ?_, g1, g2⟩
    · have hN : ¬ (((c < 0 ∨ 281474976710656 < (i.bytes : Int) * c) ∨ n < 0) ∨ c < n) := by
        rw [hib, Int.mul_comm]; omega
      by_cases hz0 : c.toNat * sz = 0
      · simp [Instr.makeSlice, run_underlying hu, Go.asInt, asIntOf, hi, w1, w2, run_szA hsz, hz0, run_newRow]
        rw [if_neg hN, range0, range0]
      · simp [Instr.makeSlice, run_underlying hu, Go.asInt, asIntOf, hi, w1, w2, run_szA hsz, hz0, run_newRow, hv]
        exact fun h => absurd h hN
    · exact RV.newSl (Γ := Γ) (H := H) (b := w.heap.size) (sp := 0) (n := n.toNat) (c := c.toNat) (m := false) (o := newCells e false (repeatL y.cells c.toNat)) (fun _ => rfl)
  · cases h
theorem buildSliceA_sound {t : TypeId} {len : Nat} {ps : List (Nat × AV)} {qs : Array (Nat × Value)} {r : AV × Eff} (R : Rel C.P w0 Γ H w) (h : buildSliceA C H t len ps = some r) (hp : RPs Γ H ps qs.toList) : Good C.P w0 lim Γ H w r.1 r.2 (Instr.buildSlice t len qs) := by
  unfold buildSliceA at h
  split at h
  · rename_i e hu
    obtain ⟨sz, hsz, h⟩ := bind_some h
    obtain ⟨h1, h⟩ := cond_some h
    simp only [Bool.and_eq_true, Bool.not_eq_true', beq_eq_false_iff_ne] at h1
    obtain ⟨e1, e2⟩ := h1
    have e1 := Nat.le_of_ble_eq_true e1
    obtain ⟨y, hy, h⟩ := bind_some h
    obtain ⟨h2, h⟩ := cond_some h
    have h2 : y.cells.length = sz := by simpa using h2
    obtain ⟨cs, hf, rfl⟩ := map_some h
    obtain ⟨v, hv, _, hc⟩ := zeroA_run (Γ := Γ) (H := H) hy
    have hvl : v.cells.size = sz := by rw [← h2]; simpa using (RVs.length hc).symm
    have hrow : RVs Γ H (repeatL y.cells len) ((Array.range (len * sz)).map fun i => v.cells[i % v.cells.size]!).toList := by
      rw [← hvl, repeat_get v.cells len (by omega)]
      exact RVs.repeatL hc _
    obtain ⟨us, hus, hr⟩ := fillA_sound ps qs.toList _ _ _ hp hrow hf
    obtain ⟨g1, g2⟩ := new_whole (lim := lim) (e := e) R hr
    refine ⟨.slice (some ⟨w.heap.size, 0, none⟩) len len, _, _, ?_, ?_, g1, g2⟩
    · have hN : ¬ (2 ^ 24 < len * sz) := by omega
      by_cases hz0 : len * sz = 0
      · have hus' : Instr.fill (fun i => some (i * sz, sz)) #[] qs.toList = some us := by
          have : ((Array.range (len * sz)).map fun i => v.cells[i % v.cells.size]!) = #[] := by rw [hz0]; exact range0 _
          rw [this] at hus; exact hus
        simp [Instr.buildSlice, run_underlying hu, run_szA hsz, hz0, run_newRow, range0, hus']
      · simp [Instr.buildSlice, run_underlying hu, run_szA hsz, hz0, run_newRow, hv, hus]
        omega
    · exact RV.newSl (Γ := Γ) (H := H) (b := w.heap.size) (sp := 0) (n := len) (c := len) (m := false) (o := newCells e false cs) (fun _ => rfl)
  · cases h
theorem makeMapA_sound {t : TypeId} (R : Rel P w0 Γ H w) : Good P w0 lim Γ H w (makeMapA H).1 (makeMapA H).2 (Instr.makeMap t none) := by
  obtain ⟨h1, h2⟩ := Rel.new (lim := lim) (o := .map [] 0) 0 R (Chg.alloc w (.map #[] 0)) ⟨#[], (Chg.alloc w _).here, rfl⟩
  refine ⟨.map (some w.heap.size), _, _, ?_, ?_, h1, h2⟩
  · simp only [Instr.makeMap]; rfl
  · exact ⟨by show H.sz < (H.new _).sz; rw [Heap.sz_new]; omega, ⟨_, rfl⟩, fun _ => ⟨w.heap.size, by simp [Gh.upd], rfl⟩⟩

-- writing
theorem setRow_chg {b : Nat} {cur vs : Array Value} {e : TypeId} {fr : Nat × Nat} (h : w.heap[b]? = some (.cells cur e fr)) : Chg w (w.setRow b vs) b (.cells vs e fr) := by
  have hlt : b < w.heap.size := (Array.getElem?_eq_some_iff.1 h).1
  refine ⟨rfl, rfl, rfl, Nat.le_of_lt hlt, ?_, ?_, fun k hk => ?_⟩
  · simp [World.setRow]
  · simp [World.setRow, Array.getElem?_modify, h]
  · simp [World.setRow, Array.getElem?_modify, Ne.symm hk]
theorem Le.put {l : Nat} {o : AObj} (b sp : Nat) (hv : H.ver l ≤ o.ver) (hs : o.ver = H.ver l → Γ.blk l = some b ∧ sp = Γ.spare l) : Le Γ H (Γ.upd l b sp) (H.put l o) := by
  refine ⟨Nat.le_refl _, fun k _ => ?_, fun k c _ hvk hc => ?_⟩
  · by_cases e : k = l
    · subst e; simpa [Heap.ver, Heap.get_put] using hv
    · simp [Heap.ver, Heap.get_put, e]
  · by_cases e : k = l
    · subst e
      obtain ⟨h1, h2⟩ := hs (by simpa [Heap.ver, Heap.get_put] using hvk)
      rw [h1] at hc
      obtain rfl := Option.some.inj hc
      simp [Gh.upd, h2]
    · simp [Gh.upd, e, hc]
theorem Gh.upd_self {l b : Nat} (h : Γ.blk l = some b) : Γ.upd l b (Γ.spare l) = Γ := by
  unfold Gh.upd
  congr 1
  · funext k; split
    · subst_vars; exact h.symm
    · rfl
  · funext k; split
    · subst_vars; rfl
    · rfl
theorem lay_take {α : Type} (L us : List α) (o n : Nat) (h : o + us.length ≤ n) (hn : n ≤ L.length) : (L.take o ++ us ++ L.drop (o + us.length)).take n = (L.take n).take o ++ us ++ (L.take n).drop (o + us.length) := by
  obtain ⟨m, rfl⟩ : ∃ m, n = o + us.length + m := ⟨n - (o + us.length), by omega⟩
  have hl : (L.take o ++ us).length = o + us.length := by simp; omega
  have h1 := List.take_length_add_append (l₁ := L.take o ++ us) (l₂ := L.drop (o + us.length)) m
  rw [hl] at h1
  rw [h1, List.take_take, Nat.min_eq_left (by omega), List.drop_take]
  congr 2
  omega
/-- Cells are written into an own place. -/
theorem storeN_sound {vs : List AV} {us : List Value} {a : AV} {u : Value} {f : Eff} (R : Rel P w0 Γ H w) (h : storeN lim H vs a = some f) (ha : RV Γ H a u) (hv : RVs Γ H vs us) :
    ∃ p w', u = .pointer (some p) ∧ (storeCells p us).run P w = .ok () w' ∧ Rel P w0 Γ (f.on H) w' ∧ Ext lim Γ H w Γ (f.on H) w' := by
  cases a with
  | ptr l v o =>
    simp only [storeN] at h
    obtain ⟨hlim, h⟩ := cond_some h
    have hlim := Nat.le_of_ble_eq_true hlim
    split at h
    · rename_i v' e fr g c hg
      obtain ⟨h1, h⟩ := cond_some h
      obtain rfl := Option.some.inj h
      simp only [Bool.and_eq_true, beq_iff_eq] at h1
      obtain ⟨⟨⟨⟨e1, e2⟩, e3⟩, e4⟩, e5⟩ := h1
      subst e1
      have e2 := Nat.le_of_ble_eq_true e2
      have e6 : fr = (0, 0) := Prod.ext (Nat.eq_of_beq_eq_true e4) (Nat.eq_of_beq_eq_true e5)
      subst e6
      have hca : H.cellsAt l v' = some c := by simp [Heap.cellsAt, hg]
      obtain ⟨b, c', e', fr', g', sz, rfl, hb, hl, hg', hw, hsz, hs0, hs1, hr⟩ := R.block hca ha
      rw [hg] at hg'
      cases hg'
      have hlen := RVs.length hv
      have hrl := RVs.length hr
      have hcl : c.length ≤ c'.size := by omega
      have hst := run_storeCells_at P b o e us 0 c' w hw (by omega) (RVs.oneCells e3 hv)
      simp only [Nat.add_zero] at hst
      have hup := Gh.upd_self hb
      have hver : H.ver l = v' := by simp [Heap.ver, hg, AObj.ver]
      have key := Rel.upd (lim := lim) (o := .cells v' e (0, 0) g (layA c o vs)) (Γ.spare l) R hl hb hlim (by rw [hg]; simp) (setRow_chg (vs := (c'.toList.take o ++ us ++ c'.toList.drop (o + us.length)).toArray) hw) (.inl rfl) (by rw [hver]; exact Nat.le_refl _) (fun _ => ⟨rfl, rfl⟩)
        (by
          have hle : Le Γ H (Γ.upd l b (Γ.spare l)) (H.put l (.cells v' e (0, 0) g (layA c o vs))) := Le.put b _ (by rw [hver]; exact Nat.le_refl _) (fun _ => ⟨hb, rfl⟩)
          have hll : (layA c o vs).length = c.length := by simp [layA]; omega
          refine ⟨_, sz, (setRow_chg hw).here, ?_, ?_, hs1, ?_⟩
          · rw [hup, hll]; simp; omega
          · rw [hup]; exact hs0
          · refine RVs.mono hle _ _ ?_
            rw [hll]
            have := RVs.lay o hr hv
            have e6 : ((c'.toList.take o ++ us ++ c'.toList.drop (o + us.length)).toArray.toList.take c.length) = (c'.toList.take c.length).take o ++ us ++ (c'.toList.take c.length).drop (o + us.length) := by
              exact lay_take c'.toList us o c.length (by omega) (by simpa using hcl)
            rw [e6]; exact this)
      rw [hup] at key
      exact ⟨_, _, rfl, hst, key.1, key.2⟩
    · cases h
  | _ => simp [storeN] at h
theorem storeA_sound {t : TypeId} {a x : AV} {u z : Value} {f : Eff} (R : Rel C.P w0 Γ H w) (h : storeA C lim H t a x = some f) (ha : RV Γ H a u) (hx : RV Γ H x z) :
    ∃ w', (Instr.storeAt t u z).run C.P w = .ok () w' ∧ Rel C.P w0 Γ (f.on H) w' ∧ Ext lim Γ H w Γ (f.on H) w' := by
  unfold storeA at h
  obtain ⟨n, hn, h⟩ := bind_some h
  obtain ⟨h1, h⟩ := cond_some h
  have h1 : x.cells.length = n := by simpa using h1
  have hs : x.cells.all AV.solid = true := by
    cases a with
    | ptr l v o =>
      simp only [storeN] at h
      obtain ⟨_, h⟩ := cond_some h
      split at h
      · obtain ⟨h2, _⟩ := cond_some h
        simp only [Bool.and_eq_true] at h2
        exact h2.1.1.2
      · cases h
    | _ => simp [storeN] at h
  have hc := RV.cells hs hx
  have hl : z.cells.size = n := by rw [← h1]; simpa using (RVs.length hc).symm
  obtain ⟨p, w', rfl, hrun, hR, hE⟩ := storeN_sound R h ha hc
  refine ⟨w', ?_, hR, hE⟩
  simp [Instr.storeAt, Instr.sureAddr, storeVar, run_szA hn, hl, hrun]
theorem setObj_chg {b : Nat} {o o' : Obj} (h : w.heap[b]? = some o) : Chg w { w with heap := w.heap.setIfInBounds b o' } b o' := by
  have hlt : b < w.heap.size := (Array.getElem?_eq_some_iff.1 h).1
  exact ⟨rfl, rfl, rfl, Nat.le_of_lt hlt, by simp, by simp [hlt], fun k hk => by simp [Ne.symm hk]⟩
theorem run_setObj {b : Nat} {o o' : Obj} (h : w.heap[b]? = some o) (hn : ∀ c e f, o ≠ .cells c e f) : (setObj b o').run P w = .ok () { w with heap := w.heap.setIfInBounds b o' } := by
  cases o <;> first | exact absurd rfl (hn _ _ _) | simp [setObj, Sem.run, h]
/-- A map's entries are others. -/
theorem map_put {l b : Nat} {es es' : List (AV × AV × Nat)} {c c' : Nat} {fs fs' : Array MapEntry} (R : Rel P w0 Γ H w) (hlim : lim ≤ l) (hl : l < H.sz) (hb : Γ.blk l = some b) (hg : H.get l = .map es c) (hw : w.heap[b]? = some (.map fs c)) (he : REnt Γ H es' fs'.toList) :
    (setObj b (.map fs' c')).run P w = .ok () { w with heap := w.heap.setIfInBounds b (.map fs' c') } ∧
    Rel P w0 Γ (H.put l (.map es' c')) { w with heap := w.heap.setIfInBounds b (.map fs' c') } ∧ Ext lim Γ H w Γ (H.put l (.map es' c')) { w with heap := w.heap.setIfInBounds b (.map fs' c') } := by
  refine ⟨run_setObj hw (fun _ _ _ h => by cases h), ?_⟩
  have hver : H.ver l = 0 := by simp [Heap.ver, hg, AObj.ver]
  have hup := Gh.upd_self hb
  have hle : Le Γ H (Γ.upd l b (Γ.spare l)) (H.put l (.map es' c')) := Le.put b _ (by rw [hver]; exact Nat.le_refl _) (fun _ => ⟨hb, rfl⟩)
  have key := Rel.upd (lim := lim) (o := .map es' c') (Γ.spare l) R hl hb hlim (by rw [hg]; simp) (setObj_chg (o' := .map fs' c') hw) (.inl rfl) (by rw [hver]; exact Nat.le_refl _) (fun _ => ⟨rfl, rfl⟩)
    ⟨fs', (setObj_chg hw).here, REnt.mono hle he⟩
  rw [hup] at key
  exact key
theorem REnt.modify {e : AV × AV × Nat → AV × AV × Nat} {g : MapEntry → MapEntry} (hm : ∀ x y, RV Γ H x.1 y.key → RV Γ H x.2.1 y.val → y.born = x.2.2 → RV Γ H (e x).1 (g y).key ∧ RV Γ H (e x).2.1 (g y).val ∧ (g y).born = (e x).2.2) :
    ∀ {es : List (AV × AV × Nat)} {fs : List MapEntry} (i : Nat), REnt Γ H es fs → REnt Γ H (es.modify i e) (fs.modify i g)
  | [], _, i, h => by rw [h]; cases i <;> simp [REnt]
  | x :: r, _, 0, ⟨y, z, hx, ⟨h1, h2, h3⟩, h4⟩ => by subst hx; exact ⟨g y, z, rfl, hm x y h1 h2 h3, h4⟩
  | x :: r, _, i + 1, ⟨y, z, hx, h1, h4⟩ => by subst hx; exact ⟨y, z.modify i g, rfl, h1, REnt.modify hm i h4⟩
theorem REnt.push {k v : AV} {y z : Value} {n : Nat} (hk : RV Γ H k y) (hv : RV Γ H v z) : ∀ {es : List (AV × AV × Nat)} {fs : List MapEntry}, REnt Γ H es fs → REnt Γ H (es ++ [(k, v, n)]) (fs ++ [{ key := y, val := z, born := n }])
  | [], _, h => by rw [h]; exact ⟨_, _, rfl, ⟨hk, hv, rfl⟩, rfl⟩
  | x :: r, _, ⟨a, b, hx, h1, h4⟩ => by subst hx; exact ⟨a, _, rfl, h1, REnt.push hk hv h4⟩
theorem REnt.erase : ∀ {es : List (AV × AV × Nat)} {fs : List MapEntry} (i : Nat), REnt Γ H es fs → REnt Γ H (es.eraseIdx i) (fs.eraseIdx i)
  | [], _, i, h => by rw [h]; simp [REnt]
  | x :: r, _, 0, ⟨y, z, hx, _, h4⟩ => by subst hx; exact h4
  | x :: r, _, i + 1, ⟨y, z, hx, h1, h4⟩ => by subst hx; exact ⟨y, z.eraseIdx i, rfl, h1, REnt.erase i h4⟩
end
end Go.Ev
