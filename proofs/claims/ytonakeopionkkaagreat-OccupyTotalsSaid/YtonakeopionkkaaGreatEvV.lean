/- EvV: building, converting, reading. -/
import Derived.Test.YtonakeopionkkaaGreatEvU
import Derived.Laws.Tables
set_option linter.unusedVariables false
set_option linter.unusedSimpArgs false
namespace Go.Ev
open Go.RowKit

theorem foldl_lay {α : Type} : ∀ (cs : List α) (k off : Nat) (cells : Array α), off + k + cs.length ≤ cells.size →
    ((cs.zipIdx k).foldl (fun (acc : Array α) (p : α × Nat) => acc.setIfInBounds (off + p.2) p.1) cells).toList = cells.toList.take (off + k) ++ cs ++ cells.toList.drop (off + k + cs.length)
  | [], k, off, cells, _ => by simp
  | c :: r, k, off, cells, h => by
    simp only [List.zipIdx_cons, List.foldl_cons]
    rw [foldl_lay r (k + 1) off _ (by simp at h ⊢; omega)]
    simp only [Array.toList_setIfInBounds, List.length_cons]
    have hlt : off + k < cells.toList.length := by simp at h ⊢; omega
    have e1 : (cells.toList.set (off + k) c).take (off + (k + 1)) = cells.toList.take (off + k) ++ [c] := by
      have hl : (cells.toList.take (off + k)).length = off + k := by rw [List.length_take]; omega
      rw [List.set_eq_take_append_cons_drop, if_pos hlt, show off + (k + 1) = (cells.toList.take (off + k)).length + 1 from by rw [hl]; omega, List.take_length_add_append]
      rfl
    have e2 : (cells.toList.set (off + k) c).drop (off + (k + 1) + r.length) = cells.toList.drop (off + k + (r.length + 1)) := by
      rw [List.drop_set_of_lt (by omega)]
      congr 1; omega
    rw [e1, e2]; simp

section
variable {C : Ctx} {P : Program} {w0 : World} {Γ : Gh} {H : Heap} {w : World}
theorem RVs.lay {cs vs : List AV} {xs ys : List Value} (off : Nat) (h : RVs Γ H cs xs) (k : RVs Γ H vs ys) : RVs Γ H (layA cs off vs) (xs.take off ++ ys ++ xs.drop (off + ys.length)) := by
  unfold layA
  rw [RVs.length k]
  exact RVs.append (RVs.append (RVs.take _ h) k) (RVs.drop _ h)
/-- Parts with their places. -/
def RPs (Γ : Gh) (H : Heap) : List (Nat × AV) → List (Nat × Value) → Prop
  | [], l => l = []
  | p :: r, l => ∃ x y, l = (p.1, x) :: y ∧ RV Γ H p.2 x ∧ RPs Γ H r y
theorem fillA_sound {place : Nat → Option (Nat × Nat)} : ∀ (ps : List (Nat × AV)) (qs : List (Nat × Value)) (cs : List AV) (vs : Array Value) (r : List AV), RPs Γ H ps qs → RVs Γ H cs vs.toList →
    fillA place cs ps = some r → ∃ us, Instr.fill place vs qs = some us ∧ RVs Γ H r us.toList
  | [], qs, cs, vs, r, hp, hc, h => by
    obtain rfl := hp
    obtain rfl := Option.some.inj h
    exact ⟨vs, rfl, hc⟩
  | (i, v) :: ps, _, cs, vs, r, ⟨x, y, hq, hx, hp⟩, hc, h => by
    subst hq
    unfold fillA at h
    obtain ⟨⟨off, size⟩, hpl, h⟩ := bind_some h
    obtain ⟨h1, h⟩ := cond_some h
    simp only [Bool.and_eq_true, beq_iff_eq, Nat.ble_eq] at h1
    obtain ⟨⟨e1, e2⟩, e3⟩ := h1
    have hcells := RV.cells e3 hx
    have hlen : v.cells.length = x.cells.size := by simpa using RVs.length hcells
    have hcl : cs.length = vs.size := by simpa using RVs.length hc
    have hfit : off + x.cells.size ≤ vs.size := by omega
    have hl := foldl_lay x.cells.toList 0 off vs (by simpa using hfit)
    have hz : x.cells.zipIdx.foldl (fun cs (c, j) => cs.setIfInBounds (off + j) c) vs = (x.cells.toList.zipIdx 0).foldl (fun (acc : Array Value) (p : Value × Nat) => acc.setIfInBounds (off + p.2) p.1) vs := by
      rw [← Array.foldl_toList]; simp [Array.toList_zipIdx]
    obtain ⟨us, hus, hr⟩ := fillA_sound (place := place) ps y (layA cs off v.cells) (x.cells.zipIdx.foldl (fun cs (c, j) => cs.setIfInBounds (off + j) c) vs) r hp
      (by rw [hz, hl]; simpa using RVs.lay off hc hcells) h
    refine ⟨us, ?_, hr⟩
    simp only [Instr.fill, hpl]
    have : ¬ ((x.cells.size ≠ size || off + x.cells.size > vs.size) = true) := by simp; omega
    rw [if_neg (by simpa using this)]
    exact hus
theorem ofCell_cells (v : Value) : (ofCell v).cells = [ofCell v] := by
  unfold ofCell
  split <;> first | rfl | (split <;> rfl)
theorem ofV_cells {v : Value} (h : ∀ vs, v ≠ .tuple vs) : RVs Γ H (ofV v).cells v.cells.toList := by
  by_cases ha : ∃ cs, v = .agg cs
  · obtain ⟨cs, rfl⟩ := ha
    exact RVs.ofCells _
  · have ha : ∀ cs, v ≠ .agg cs := fun cs e => ha ⟨cs, e⟩
    rw [ofV_cell ha h, ofCell_cells]
    have : v.cells = #[v] := by cases v <;> first | rfl | exact absurd rfl (ha _)
    rw [this]
    exact ⟨v, [], rfl, RV.ofCell v, rfl⟩
theorem zeroA_sound {t : TypeId} {z : AV} (h : zeroA P t = some z) : ∃ i v, P.info? t = some i ∧ i.zero = some v ∧ RV Γ H z v ∧ RVs Γ H z.cells v.cells.toList := by
  unfold zeroA at h
  obtain ⟨v, hv, h⟩ := bind_some h
  obtain ⟨i, hi, hz⟩ := bind_some hv
  have hn : ∀ vs, v ≠ .tuple vs := fun vs e => by subst e; cases h
  have : z = ofV v := by cases v <;> first | (exact (Option.some.inj h).symm) | exact absurd rfl (hn _)
  subst this
  exact ⟨i, v, hi, hz, RV.ofV v, ofV_cells hn⟩
theorem places_eq (fs : Array Field) : (fs.toList.mapM fun f => (szA P f.type).map fun n => (f.offset, n)) = fs.toList.mapM (fun f => (P.info? f.type).map fun i => (f.offset, i.size)) := by
  congr 1
  funext f
  unfold szA
  cases P.info? f.type <;> rfl
theorem buildA_sound {t : TypeId} {ps : List (Nat × AV)} {qs : Array (Nat × Value)} {v : AV} (h : buildA P t ps = some v) (hp : RPs Γ H ps qs.toList) : Fine P Γ H w v (Instr.build t qs) := by
  unfold buildA at h
  obtain ⟨z, hz, h⟩ := bind_some h
  obtain ⟨it, z', hi, hz', _, hcz⟩ := zeroA_sound (Γ := Γ) (H := H) hz
  split at h
  · rename_i fs hu
    obtain ⟨pl, hpl, h⟩ := bind_some h
    obtain ⟨cs, hf, rfl⟩ := map_some h
    obtain ⟨us, hus, hr⟩ := fillA_sound ps qs.toList _ z'.cells _ hp hcz hf
    refine ⟨.agg us, run_build w t qs us ?_, us, rfl, hr⟩
    rw [places_eq] at hpl
    unfold Program.built
    simp only [hi, hu, hz', hpl]
    simpa using hus
  · rename_i len e hu
    obtain ⟨n, hn, h⟩ := bind_some h
    obtain ⟨cs, hf, rfl⟩ := map_some h
    obtain ⟨us, hus, hr⟩ := fillA_sound ps qs.toList _ z'.cells _ hp hcz hf
    refine ⟨.agg us, run_build w t qs us ?_, us, rfl, hr⟩
    unfold szA at hn
    cases hie : P.info? e with
    | none => simp [hie] at hn
    | some ie =>
      simp [hie] at hn
      unfold Program.built
      simp only [hi, hu, hz', hie, hn]
      exact hus
  · cases h
theorem RS.parts {s : Slots} {a : Act} (h : RS Γ H s a) : ∀ ps : List (Nat × Operand), RPs Γ H (ps.map fun p => (p.1, oprA s p.2)) (ps.map fun (i, x) => (i, a.eval x))
  | [] => rfl
  | (_, x) :: r => ⟨a.eval x, _, rfl, RS.opr h x, RS.parts h r⟩
theorem RS.args {s : Slots} {a : Act} (h : RS Γ H s a) : ∀ xs : List Operand, RVs Γ H (xs.map (oprA s)) (xs.map a.eval)
  | [] => rfl
  | x :: r => ⟨a.eval x, _, rfl, RS.opr h x, RS.args h r⟩

theorem convA_sound {src dst : TypeId} {x v : AV} {u : Value} (h : convA P src dst x = some v) (hx : RV Γ H x u) : Fine P Γ H w v (convert src dst u) := by
  unfold convA at h
  split at h
  · rename_i d k k' n hs hd
    simp only [RV] at hx; subst hx
    obtain rfl := Option.some.inj h
    refine ⟨.int k (k.wrap n), ?_, by simp [RV, wrapK_eq]⟩
    cases d <;> simp [convert, und_run hs, und_run hd, Conv.intToInt]
  · rename_i d s hs hd
    simp only [RV] at hx; subst hx
    obtain rfl := Option.some.inj h
    refine ⟨.string s, ?_, rfl⟩
    cases d <;> simp [convert, und_run hs, und_run hd]
  · cases h

/-- What the run starts from: old memory tells what the reader says. -/
def Reads (C : Ctx) (w0 : World) : Prop := ∀ a v, C.ρ a = some v → a.block < w0.heap.size ∧ w0.cell? a = some v
theorem Reads.cell {a : Addr} {v : Value} (hρ : Reads C w0) (R : Rel C.P w0 Γ H w) (h : C.ρ a = some v) : w.cell? a = some v := by
  obtain ⟨h1, h2⟩ := hρ a v h
  rw [R.below.cell h1]; exact h2
/-- An own place's cells, as they lie. -/
theorem cellsAt_get {l v : Nat} {cs : List AV} (h : H.cellsAt l v = some cs) : v = H.ver l ∧ ∃ e fr g, H.get l = .cells v e fr g cs := by
  unfold Heap.cellsAt at h
  split at h
  · rename_i v' e fr g c hg
    obtain ⟨h1, h2⟩ := cond_some h
    have : v' = v := by simpa using h1
    subst this
    obtain rfl := Option.some.inj h2
    exact ⟨by simp [Heap.ver, hg, AObj.ver], e, fr, g, hg⟩
  · cases h
/-- The block of an own place. -/
theorem Rel.block {l v o : Nat} {cs : List AV} {u : Value} (R : Rel P w0 Γ H w) (h : H.cellsAt l v = some cs) (hx : RV Γ H (.ptr l v o) u) :
    ∃ b c' e fr g sz, u = .pointer (some ⟨b, o, none⟩) ∧ Γ.blk l = some b ∧ l < H.sz ∧ H.get l = .cells v e fr g cs ∧ w.heap[b]? = some (.cells c' e fr) ∧ c'.size = cs.length + Γ.spare l * sz ∧
      (g = false → Γ.spare l = 0) ∧ (g = true → szA P e = some sz) ∧ RVs Γ H cs (c'.toList.take cs.length) := by
  obtain ⟨hv, e, fr, g, hg⟩ := cellsAt_get h
  obtain ⟨h1, h2, _, h3⟩ := hx
  obtain ⟨b, hb, rfl⟩ := h3 hv
  obtain ⟨_, _, ho⟩ := R.obj l b h1 hb
  rw [hg] at ho
  obtain ⟨c', sz, k1, k2, k3, k4, k5⟩ := ho
  exact ⟨b, c', e, fr, g, sz, rfl, hb, h1, hg, k1, k2, k3, k4, k5⟩
theorem mapM_some {α β : Type} {f : α → Option β} : ∀ {l : List α} {r : List β}, l.mapM f = some r → r.length = l.length ∧ ∀ (i : Nat) (x : α), l[i]? = some x → ∃ y, f x = some y ∧ r[i]? = some y
  | [], r, h => by simp at h; subst h; simp
  | a :: l, r, h => by
    simp only [List.mapM_cons, Option.bind_eq_bind, Option.pure_def] at h
    obtain ⟨y, hy, h⟩ := bind_some h
    obtain ⟨s, hs, h⟩ := bind_some h
    obtain rfl := Option.some.inj h
    obtain ⟨h1, h2⟩ := mapM_some hs
    refine ⟨by simp [h1], fun i x hx => ?_⟩
    cases i with
    | zero => simp at hx; subst hx; exact ⟨y, hy, rfl⟩
    | succ i => simp at hx ⊢; exact h2 i x hx
theorem loadN_sound {n : Nat} {x : AV} {cs : List AV} {u : Value} (hρ : Reads C w0) (R : Rel C.P w0 Γ H w) (h : loadN C H n x = some cs) (hx : RV Γ H x u) :
    ∃ a vs, u = .pointer (some a) ∧ vs.length = n ∧ (∀ (j : Nat) (v : Value), vs[j]? = some v → w.cell? (a.add j) = some v) ∧ RVs Γ H cs vs := by
  cases x with
  | ptr l v o =>
    simp only [loadN] at h
    obtain ⟨c, hc, h⟩ := bind_some h
    obtain ⟨h1, h⟩ := cond_some h
    have h1 := Nat.le_of_ble_eq_true h1
    obtain rfl := Option.some.inj h
    obtain ⟨b, c', e, fr, g, sz, rfl, hb, hl, hg, hw, hsz, _, _, hr⟩ := R.block hc hx
    have hlen := RVs.length hr
    have hcs : c.length ≤ c'.size := by omega
    refine ⟨_, (((c'.toList.take c.length).drop o).take n), rfl, by simp; omega, fun j y hy => ?_, RVs.take n (RVs.drop o hr)⟩
    rw [add_own]
    simp only [List.getElem?_take, List.getElem?_drop] at hy
    split at hy
    · split at hy
      · have : c'[o + j]? = some y := by simpa using hy
        simp only [World.cell?, hw]; simpa using this
      · cases hy
    · cases hy
  | xp a =>
    simp only [loadN] at h
    obtain ⟨vs, hvs, rfl⟩ := map_some h
    simp only [RV] at hx; subst hx
    obtain ⟨k1, k2⟩ := mapM_some hvs
    refine ⟨a, vs, rfl, by simpa using k1, fun j y hy => ?_, RVs.ofCells vs⟩
    have hj : j < n := by
      rcases Nat.lt_or_ge j vs.length with q | q
      · simpa [k1] using q
      · simp [List.getElem?_eq_none q] at hy
    obtain ⟨y', h1, h2⟩ := k2 j j (by simp [hj])
    rw [hy] at h2
    obtain rfl := Option.some.inj h2
    exact hρ.cell R h1
  | _ => simp [loadN] at h
theorem loadA_sound {t : TypeId} {x v : AV} {u : Value} (hρ : Reads C w0) (R : Rel C.P w0 Γ H w) (h : loadA C H t x = some v) (hx : RV Γ H x u) : Fine C.P Γ H w v (Instr.loadAt t u) := by
  unfold loadA at h
  obtain ⟨g, hg, h⟩ := bind_some h
  cases g with
  | true =>
    obtain ⟨n, hn, h⟩ := bind_some (by simpa using h)
    obtain ⟨cs, hcs, rfl⟩ := map_some h
    obtain ⟨a, vs, rfl, hl, hc, hr⟩ := loadN_sound hρ R hcs hx
    have hrun := run_loadCells_list (P := C.P) w a vs hc
    rw [hl] at hrun
    exact ⟨.agg vs.toArray, by simp [Instr.loadAt, Instr.sureAddr, loadVar, run_aggA hg, run_szA hn, hrun], vs.toArray, rfl, by simpa using hr⟩
  | false =>
    cases x with
    | ptr l v' o =>
      simp only [cond_false] at h
      obtain ⟨c, hc, h⟩ := bind_some h
      obtain ⟨b, c', e, fr, g, sz, rfl, hb, hl, hg', hw, hsz, _, _, hr⟩ := R.block hc hx
      obtain ⟨y, hy, hry⟩ := RVs.get hr _ _ h
      have : w.cell? ⟨b, o, none⟩ = some y := by
        simp only [List.getElem?_take] at hy
        split at hy
        · simp only [World.cell?, hw]; simpa using hy
        · cases hy
      exact ⟨y, by simp [Instr.loadAt, Instr.sureAddr, loadVar, run_aggA hg, this], hry⟩
    | xp a =>
      simp only [cond_false] at h
      obtain ⟨y, hy, rfl⟩ := map_some h
      simp only [RV] at hx; subst hx
      have := hρ.cell R hy
      exact ⟨y, by simp [Instr.loadAt, Instr.sureAddr, loadVar, run_aggA hg, this], RV.ofCell y⟩
    | _ => simp at h
/-- len. -/
theorem lenA_sound {x : AV} {n : Nat} {u : Value} (h : lenA x = some n) (hx : RV Γ H x u) : (Builtin.lenOf u).run P w = .ok n w ∧ ((∃ p c, u = .slice p n c) ∨ ∃ s, u = .string s ∧ s.size = n ∧ x = .str s) := by
  unfold lenA at h
  split at h
  · obtain rfl := Option.some.inj h; obtain ⟨_, _, p, c, rfl, _⟩ := hx; exact ⟨by simp [Builtin.lenOf], .inl ⟨_, _, rfl⟩⟩
  · obtain rfl := Option.some.inj h; simp only [RV] at hx; subst hx; exact ⟨by simp [Builtin.lenOf], .inl ⟨_, _, rfl⟩⟩
  · obtain rfl := Option.some.inj h; obtain ⟨p, c, rfl⟩ := hx; exact ⟨by simp [Builtin.lenOf], .inl ⟨_, _, rfl⟩⟩
  · obtain rfl := Option.some.inj h; simp only [RV] at hx; subst hx; exact ⟨by simp [Builtin.lenOf], .inl ⟨_, _, rfl⟩⟩
  · obtain rfl := Option.some.inj h; simp only [RV] at hx; subst hx; exact ⟨by simp [Builtin.lenOf], .inr ⟨_, rfl, rfl, rfl⟩⟩
  · cases h
theorem bytes_cells (l : List UInt8) : RVs Γ H (l.map byteCell) (l.map fun b => Value.int .u8 b.toNat) := by
  induction l with
  | nil => rfl
  | cons b r ih => exact ⟨_, _, rfl, rfl, ih⟩
/-- The first elements of a slice or a text. -/
theorem firstA_sound {sz n : Nat} {x : AV} {cs : List AV} {u : Value} (hρ : Reads C w0) (R : Rel C.P w0 Γ H w) (h : firstA C H sz n x = some cs) (hx : RV Γ H x u) :
    ∃ vs, (Builtin.firstCells sz n u).run C.P w = .ok vs w ∧ RVs Γ H cs vs.toList := by
  unfold firstA at h
  have slice_case : ∀ (y : AV) (p : Addr) (q r : Nat), loadN C H (n * sz) y = some cs → RV Γ H y (.pointer (some p)) → ∃ vs, (Builtin.firstCells sz n (.slice (some p) q r)).run C.P w = .ok vs w ∧ RVs Γ H cs vs.toList := by
    intro y p q r hl hy
    obtain ⟨a, vs, ha, hlen, hc, hr⟩ := loadN_sound hρ R hl hy
    cases ha
    have hrun := run_loadCells_list (P := C.P) w p vs hc
    rw [hlen] at hrun
    exact ⟨vs.toArray, by simp [Builtin.firstCells, hrun], by simpa using hr⟩
  split at h
  · rename_i l v o _ _ _
    obtain ⟨g1, g2, p, c, rfl, _, _, g3⟩ := hx
    exact slice_case _ p _ _ h ⟨g1, g2, ⟨_, rfl⟩, fun e => by obtain ⟨b, hb, hp, _⟩ := g3 e; exact ⟨b, hb, by rw [hp]⟩⟩
  · simp only [RV] at hx; subst hx
    exact slice_case _ _ _ _ h rfl
  · obtain ⟨h1, h⟩ := cond_some h
    obtain rfl := Option.some.inj h
    simp only [RV] at hx; subst hx
    exact ⟨#[], by simp [Builtin.firstCells], rfl⟩
  · obtain ⟨h1, h⟩ := cond_some h
    obtain rfl := Option.some.inj h
    have h1 : n = 0 := by simpa using h1
    subst h1
    obtain ⟨p, c, rfl⟩ := hx
    exact ⟨#[], by simp [Builtin.firstCells, loadCells, loadCellsFrom], rfl⟩
  · rename_i s
    obtain rfl := Option.some.inj h
    simp only [RV] at hx; subst hx
    refine ⟨_, rfl, ?_⟩
    simpa using bytes_cells (Γ := Γ) (H := H) (s.extract 0 n).data.toList
  · cases h
end
end Go.Ev
