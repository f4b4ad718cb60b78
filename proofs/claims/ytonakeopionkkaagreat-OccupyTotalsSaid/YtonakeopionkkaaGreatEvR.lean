/- EvR: how abstract values and own places stand to the model's values and memory. -/
import Derived.Test.YtonakeopionkkaaGreatEvC
set_option linter.unusedVariables false
set_option linter.unusedSimpArgs false
namespace Go.Ev
open Go.RowKit

/-- Where an own place lies (none: not laid yet), and how many elements more it has room for. -/
structure Gh where
  blk : Nat → Option Nat
  spare : Nat → Nat

mutual
def RV (Γ : Gh) (H : Heap) : AV → Value → Prop
  | .any, _ => True
  | .int k n, x => x = .int k n
  | .bool b, x => x = .bool b
  | .str s, x => x = .string s
  | .nilp, x => x = .pointer none
  | .ptr l v o, x => l < H.sz ∧ v ≤ H.ver l ∧ (∃ p, x = .pointer (some p)) ∧ (v = H.ver l → ∃ b, Γ.blk l = some b ∧ x = .pointer (some ⟨b, o, none⟩))
  | .nils, x => x = .slice none 0 0
  | .sl l v o n c m, x => l < H.sz ∧ v ≤ H.ver l ∧ ∃ p c', x = .slice (some p) n c' ∧ c ≤ c' ∧ (m = false → c' = c) ∧ (v = H.ver l → ∃ b, Γ.blk l = some b ∧ p = ⟨b, o, none⟩ ∧ c' = c + if m then Γ.spare l else 0)
  | .sx n, x => ∃ p c, x = .slice (some p) n c
  | .xp a, x => x = .pointer (some a)
  | .xs a n c, x => x = .slice (some a) n c
  | .nilm, x => x = .map none
  | .mp l, x => l < H.sz ∧ (∃ p, x = .map (some p)) ∧ (H.ver l = 0 → ∃ b, Γ.blk l = some b ∧ x = .map (some b))
  | .nilf, x => x = .nilFunc
  | .fn f a c, x => ∃ va vc, x = .func f va vc ∧ RVs Γ H a va.toList ∧ RVs Γ H c vc.toList
  | .nili, x => x = .nilIface
  | .ifc t v, x => ∃ y, x = .iface t y ∧ RV Γ H v y
  | .agg cs, x => ∃ vs, x = .agg vs ∧ RVs Γ H cs vs.toList
  | .tup cs, x => ∃ vs, x = .tuple vs ∧ RVs Γ H cs vs.toList
  | .ext v, x => x = v
  | .yld l, x => l < H.sz ∧ (∃ p, x = .func (.yield p) #[] #[]) ∧ (H.ver l = 0 → ∃ b, Γ.blk l = some b ∧ x = .func (.yield b) #[] #[])
def RVs (Γ : Gh) (H : Heap) : List AV → List Value → Prop
  | [], l => l = []
  | a :: r, l => ∃ x y, l = x :: y ∧ RV Γ H a x ∧ RVs Γ H r y
end

/-- A later state: nothing that is named has gone; who has grown is of a later number. -/
structure Le (Γ : Gh) (H : Heap) (Γ' : Gh) (H' : Heap) : Prop where
  sz : H.sz ≤ H'.sz
  ver : ∀ l, l < H.sz → H.ver l ≤ H'.ver l
  same : ∀ l b, l < H.sz → H'.ver l = H.ver l → Γ.blk l = some b → Γ'.blk l = some b ∧ Γ'.spare l = Γ.spare l
theorem Le.refl (Γ : Gh) (H : Heap) : Le Γ H Γ H := ⟨Nat.le_refl _, fun _ _ => Nat.le_refl _, fun _ _ _ _ h => ⟨h, rfl⟩⟩
theorem Le.trans {Γ Γ' Γ'' : Gh} {H H' H'' : Heap} (h : Le Γ H Γ' H') (k : Le Γ' H' Γ'' H'') : Le Γ H Γ'' H'' := by
  refine ⟨Nat.le_trans h.sz k.sz, fun l hl => Nat.le_trans (h.ver l hl) (k.ver l (Nat.lt_of_lt_of_le hl h.sz)), fun l b hl hv hb => ?_⟩
  have hl' := Nat.lt_of_lt_of_le hl h.sz
  have h1 := h.ver l hl
  have h2 := k.ver l hl'
  obtain ⟨e1, e2⟩ := h.same l b hl (by omega) hb
  obtain ⟨e3, e4⟩ := k.same l b hl' (by omega) e1
  exact ⟨e3, e4.trans e2⟩

mutual
theorem RV.mono {Γ Γ' : Gh} {H H' : Heap} (h : Le Γ H Γ' H') : ∀ (a : AV) (x : Value), RV Γ H a x → RV Γ' H' a x
  | .any, _, _ => trivial
  | .int _ _, _, r => r
  | .bool _, _, r => r
  | .str _, _, r => r
  | .nilp, _, r => r
  | .ptr l v o, x, r => by
    obtain ⟨h1, h2, hp, h3⟩ := r
    have hv := h.ver l h1
    refine ⟨Nat.lt_of_lt_of_le h1 h.sz, Nat.le_trans h2 hv, hp, fun e => ?_⟩
    obtain ⟨b, hb, hx⟩ := h3 (by omega)
    exact ⟨b, (h.same l b h1 (by omega) hb).1, hx⟩
  | .nils, _, r => r
  | .sl l v o n c m, x, r => by
    obtain ⟨h1, h2, p, c', hp, hc, hm, h3⟩ := r
    have hv := h.ver l h1
    refine ⟨Nat.lt_of_lt_of_le h1 h.sz, Nat.le_trans h2 hv, p, c', hp, hc, hm, fun e => ?_⟩
    obtain ⟨b, hb, hx, hs⟩ := h3 (by omega)
    obtain ⟨e1, e2⟩ := h.same l b h1 (by omega) hb
    exact ⟨b, e1, hx, by rw [e2]; exact hs⟩
  | .sx _, _, r => r
  | .xp _, _, r => r
  | .xs _ _ _, _, r => r
  | .nilm, _, r => r
  | .mp l, x, r => by
    obtain ⟨h1, hp, h2⟩ := r
    have hv := h.ver l h1
    refine ⟨Nat.lt_of_lt_of_le h1 h.sz, hp, fun e => ?_⟩
    obtain ⟨b, hb, hx⟩ := h2 (by omega)
    exact ⟨b, (h.same l b h1 (by omega) hb).1, hx⟩
  | .nilf, _, r => r
  | .fn f a c, x, r => by
    obtain ⟨va, vc, hx, ha, hc⟩ := r
    exact ⟨va, vc, hx, RVs.mono h a _ ha, RVs.mono h c _ hc⟩
  | .nili, _, r => r
  | .ifc t v, x, r => by
    obtain ⟨y, hx, hy⟩ := r
    exact ⟨y, hx, RV.mono h v y hy⟩
  | .agg cs, x, r => by
    obtain ⟨vs, hx, hv⟩ := r
    exact ⟨vs, hx, RVs.mono h cs _ hv⟩
  | .tup cs, x, r => by
    obtain ⟨vs, hx, hv⟩ := r
    exact ⟨vs, hx, RVs.mono h cs _ hv⟩
  | .ext _, _, r => r
  | .yld l, x, r => by
    obtain ⟨h1, hp, h2⟩ := r
    have hv := h.ver l h1
    refine ⟨Nat.lt_of_lt_of_le h1 h.sz, hp, fun e => ?_⟩
    obtain ⟨b, hb, hx⟩ := h2 (by omega)
    exact ⟨b, (h.same l b h1 (by omega) hb).1, hx⟩
theorem RVs.mono {Γ Γ' : Gh} {H H' : Heap} (h : Le Γ H Γ' H') : ∀ (a : List AV) (x : List Value), RVs Γ H a x → RVs Γ' H' a x
  | [], _, r => r
  | a :: r, x, q => by
    obtain ⟨y, z, hx, h1, h2⟩ := q
    exact ⟨y, z, hx, RV.mono h a y h1, RVs.mono h r z h2⟩
end

section
variable {Γ : Gh} {H : Heap}
theorem RVs.length : ∀ {a : List AV} {x : List Value}, RVs Γ H a x → a.length = x.length
  | [], _, r => by rw [r]; rfl
  | a :: r, _, ⟨y, z, hx, _, h2⟩ => by rw [hx]; simp [RVs.length h2]
theorem RVs.get : ∀ {a : List AV} {x : List Value}, RVs Γ H a x → ∀ (i : Nat) (u : AV), a[i]? = some u → ∃ v, x[i]? = some v ∧ RV Γ H u v
  | [], _, _, i, u, h => by simp at h
  | a :: r, _, ⟨y, z, hx, h1, h2⟩, 0, u, h => by subst hx; simp at h; subst h; exact ⟨y, rfl, h1⟩
  | a :: r, _, ⟨y, z, hx, h1, h2⟩, i + 1, u, h => by subst hx; simp at h ⊢; exact RVs.get h2 i u h
theorem RVs.of_get : ∀ {a : List AV} {x : List Value}, a.length = x.length → (∀ (i : Nat) (u : AV), a[i]? = some u → ∃ v, x[i]? = some v ∧ RV Γ H u v) → RVs Γ H a x
  | [], x, hl, _ => by cases x with | nil => exact rfl | cons _ _ => simp at hl
  | a :: r, x, hl, h => by
    cases x with
    | nil => simp at hl
    | cons y z =>
      refine ⟨y, z, rfl, ?_, RVs.of_get (by simpa using hl) fun i u hu => ?_⟩
      · obtain ⟨v, hv, hr⟩ := h 0 a rfl; simp at hv; subst hv; exact hr
      · have := h (i + 1) u (by simpa using hu); simpa using this
theorem RVs.append : ∀ {a b : List AV} {x y : List Value}, RVs Γ H a x → RVs Γ H b y → RVs Γ H (a ++ b) (x ++ y)
  | [], b, x, y, h, k => by rw [h]; exact k
  | a :: r, b, _, y, ⟨u, v, hx, h1, h2⟩, k => by subst hx; exact ⟨u, v ++ y, rfl, h1, RVs.append h2 k⟩
theorem RVs.take : ∀ (n : Nat) {a : List AV} {x : List Value}, RVs Γ H a x → RVs Γ H (a.take n) (x.take n)
  | 0, _, _, _ => by simp [RVs]
  | n + 1, [], _, h => by rw [h]; simp [RVs]
  | n + 1, a :: r, _, ⟨u, v, hx, h1, h2⟩ => by subst hx; exact ⟨u, v.take n, rfl, h1, RVs.take n h2⟩
theorem RVs.drop : ∀ (n : Nat) {a : List AV} {x : List Value}, RVs Γ H a x → RVs Γ H (a.drop n) (x.drop n)
  | 0, _, _, h => by simpa using h
  | n + 1, [], _, h => by rw [h]; simp [RVs]
  | n + 1, a :: r, _, ⟨u, v, hx, h1, h2⟩ => by subst hx; simpa using RVs.drop n h2
end

/-- An entry of a map. -/
def REnt (Γ : Gh) (H : Heap) : List (AV × AV × Nat) → List MapEntry → Prop
  | [], l => l = []
  | e :: r, l => ∃ x y, l = x :: y ∧ (RV Γ H e.1 x.key ∧ RV Γ H e.2.1 x.val ∧ x.born = e.2.2) ∧ REnt Γ H r y
theorem REnt.mono {Γ Γ' : Gh} {H H' : Heap} (h : Le Γ H Γ' H') : ∀ {a : List (AV × AV × Nat)} {x : List MapEntry}, REnt Γ H a x → REnt Γ' H' a x
  | [], _, r => r
  | _ :: _, _, ⟨y, z, hx, ⟨h1, h2, h3⟩, h4⟩ => ⟨y, z, hx, ⟨RV.mono h _ _ h1, RV.mono h _ _ h2, h3⟩, REnt.mono h h4⟩

/-- How a loop over a function stands. -/
def LoopSt : Nat → LoopState → Option Code → Prop
  | 0, s, p => s = .ready ∧ p = none
  | 1, s, p => s = .busy ∧ p = none
  | 2, s, p => s = .done ∧ p = some .ret
  | n + 3, s, p => s = .done ∧ p = some (.exit n)
/-- What lies in a block. -/
def ROb (P : Program) (Γ : Gh) (H : Heap) (w : World) (l b : Nat) : AObj → Prop
  | .hole => True
  | .cells _ e fr g c => ∃ c' sz, w.heap[b]? = some (.cells c' e fr) ∧ c'.size = c.length + Γ.spare l * sz ∧ (g = false → Γ.spare l = 0) ∧ (g = true → szA P e = some sz) ∧ RVs Γ H c (c'.toList.take c.length)
  | .map es c => ∃ es', w.heap[b]? = some (.map es' c) ∧ REnt Γ H es es'.toList
  | .iter none s seen d => w.heap[b]? = some (.mapIter none s seen.toArray d)
  | .iter (some m) s seen d => ∃ r, RV Γ H (.mp m) (.map r) ∧ w.heap[b]? = some (.mapIter r s seen.toArray d)
  | .siter s p => w.heap[b]? = some (.stringIter s p)
  | .loop ps as bd s st => ∃ r : Loop, w.heap[b]? = some (.loop r) ∧ r.params = ps ∧ r.assign = as ∧ r.body = bd ∧ RVs Γ H s r.tmps.toList ∧ LoopSt st r.state r.pending

structure Rel (P : Program) (w0 : World) (Γ : Gh) (H : Heap) (w : World) : Prop where
  below : Below w0.heap.size w0 w
  obj : ∀ l b, l < H.sz → Γ.blk l = some b → w0.heap.size ≤ b ∧ b < w.heap.size ∧ ROb P Γ H w l b (H.get l)
  inj : ∀ l l' b, l < H.sz → l' < H.sz → Γ.blk l = some b → Γ.blk l' = some b → l = l'

structure Ext (lim : Nat) (Γ : Gh) (H : Heap) (w : World) (Γ' : Gh) (H' : Heap) (w' : World) : Prop where
  le : Le Γ H Γ' H'
  keep : ∀ l, l < H.sz → (l < lim ∨ H.get l = .hole ∨ Γ.blk l = none) → H'.get l = H.get l ∧ Γ'.blk l = Γ.blk l ∧ Γ'.spare l = Γ.spare l ∧ ∀ b, Γ.blk l = some b → w'.heap[b]? = w.heap[b]?
  frame : ∀ b, b < w.heap.size → (∀ l, l < H.sz → Γ.blk l ≠ some b) → w'.heap[b]? = w.heap[b]? ∧ ∀ l, l < H'.sz → Γ'.blk l ≠ some b
  size : w.heap.size ≤ w'.heap.size

theorem Ext.refl (lim : Nat) (Γ : Gh) (H : Heap) (w : World) : Ext lim Γ H w Γ H w :=
  ⟨Le.refl _ _, fun _ _ _ => ⟨rfl, rfl, rfl, fun _ _ => rfl⟩, fun _ _ h => ⟨rfl, h⟩, Nat.le_refl _⟩
theorem Ext.trans {lim : Nat} {Γ Γ' Γ'' : Gh} {H H' H'' : Heap} {w w' w'' : World} (h : Ext lim Γ H w Γ' H' w') (k : Ext lim Γ' H' w' Γ'' H'' w'') : Ext lim Γ H w Γ'' H'' w'' := by
  refine ⟨h.le.trans k.le, fun l hl hc => ?_, fun b hb hf => ?_, Nat.le_trans h.size k.size⟩
  · obtain ⟨e1, e2, e3, e4⟩ := h.keep l hl hc
    obtain ⟨f1, f2, f3, f4⟩ := k.keep l (Nat.lt_of_lt_of_le hl h.le.sz) (by rw [e1, e2]; exact hc)
    exact ⟨f1.trans e1, f2.trans e2, f3.trans e3, fun b hb => (f4 b (by rw [e2]; exact hb)).trans (e4 b hb)⟩
  · obtain ⟨e1, e2⟩ := h.frame b hb hf
    obtain ⟨f1, f2⟩ := k.frame b (Nat.lt_of_lt_of_le hb h.size) e2
    exact ⟨f1.trans e1, f2⟩

/-- One block is new, or is another one than it was; all else is as it was. -/
structure Chg (w w' : World) (b : Nat) (o : Obj) : Prop where
  os : w'.os = w.os
  tape : w'.tape = w.tape
  output : w'.output = w.output
  le : b ≤ w.heap.size
  size : w.heap.size ≤ w'.heap.size
  here : w'.heap[b]? = some o
  other : ∀ k, k ≠ b → w'.heap[k]? = w.heap[k]?
theorem Chg.alloc (w : World) (o : Obj) : Chg w (w.alloc o) w.heap.size o :=
  ⟨rfl, rfl, rfl, Nat.le_refl _, by show _ ≤ (w.heap.push o).size; simp, by show (w.heap.push o)[w.heap.size]? = _; simp, fun k hk => by
    show (w.heap.push o)[k]? = _
    rw [Array.getElem?_push, if_neg hk]⟩
theorem Chg.lt {w w' : World} {b : Nat} {o : Obj} (h : Chg w w' b o) : b < w'.heap.size := by
  have := h.here
  rcases Nat.lt_or_ge b w'.heap.size with h | h
  · exact h
  · simp [Array.getElem?_eq_none h] at this
theorem Chg.below {w0 w w' : World} {b B : Nat} {o : Obj} (h : Chg w w' b o) (hB : B ≤ b) (hb : Below B w0 w) : Below B w0 w' :=
  ⟨h.os.trans hb.os, h.tape.trans hb.tape, h.output.trans hb.output, Nat.le_trans hb.size h.size, fun k hk => (h.other k (by omega)).trans (hb.block k hk)⟩

def Gh.upd (Γ : Gh) (l b sp : Nat) : Gh := ⟨fun k => if k = l then some b else Γ.blk k, fun k => if k = l then sp else Γ.spare k⟩

theorem ROb.mono {P : Program} {Γ Γ' : Gh} {H H' : Heap} {w w' : World} {l b : Nat} {o : AObj} (h : Le Γ H Γ' H') (hb : w'.heap[b]? = w.heap[b]?) (hs : Γ'.spare l = Γ.spare l) : ROb P Γ H w l b o → ROb P Γ' H' w' l b o := by
  cases o with
  | hole => exact id
  | cells v e fr g c =>
    rintro ⟨c', sz, h1, h2, h3, h4, h5⟩
    exact ⟨c', sz, hb.trans h1, by rw [hs]; exact h2, by rw [hs]; exact h3, h4, RVs.mono h _ _ h5⟩
  | map es c =>
    rintro ⟨es', h1, h2⟩
    exact ⟨es', hb.trans h1, REnt.mono h h2⟩
  | iter m s seen d =>
    cases m with
    | none => exact fun h1 => hb.trans h1
    | some m =>
      rintro ⟨r, h1, h2⟩
      exact ⟨r, RV.mono h _ _ h1, hb.trans h2⟩
  | siter s p => exact fun h1 => hb.trans h1
  | loop ps as bd s st =>
    rintro ⟨r, h1, h2, h3, h4, h5, h6⟩
    exact ⟨r, hb.trans h1, h2, h3, h4, RVs.mono h _ _ h5, h6⟩

section
variable {P : Program} {w0 : World} {Γ : Gh} {H : Heap} {w w' : World} {lim : Nat}
/-- A new place. -/
theorem Rel.new {o : AObj} {ob : Obj} (sp : Nat) (R : Rel P w0 Γ H w) (hc : Chg w w' w.heap.size ob)
    (ho : ROb P (Γ.upd H.sz w.heap.size sp) (H.new o) w' H.sz w.heap.size o) :
    Rel P w0 (Γ.upd H.sz w.heap.size sp) (H.new o) w' ∧ Ext lim Γ H w (Γ.upd H.sz w.heap.size sp) (H.new o) w' := by
  have hg : ∀ l, l < H.sz → (H.new o).get l = H.get l := fun l hl => by rw [Heap.get_new, if_neg (by omega)]
  have hu : ∀ l, l < H.sz → (Γ.upd H.sz w.heap.size sp).blk l = Γ.blk l ∧ (Γ.upd H.sz w.heap.size sp).spare l = Γ.spare l := fun l hl => by
    simp [Gh.upd, show l ≠ H.sz from by omega]
  have le : Le Γ H (Γ.upd H.sz w.heap.size sp) (H.new o) := by
    refine ⟨by rw [Heap.sz_new]; omega, fun l hl => by simp [Heap.ver, hg l hl], fun l b hl _ hb => ⟨(hu l hl).1.trans hb, (hu l hl).2⟩⟩
  refine ⟨⟨hc.below R.below.size R.below, fun l b hl hb => ?_, fun l l' b hl hl' hb hb' => ?_⟩, le, fun l hl _ => ⟨hg l hl, (hu l hl).1, (hu l hl).2, fun b hb => ?_⟩, fun b hb hf => ⟨hc.other b (by omega), fun l hl => ?_⟩, hc.size⟩
  · rw [Heap.sz_new] at hl
    by_cases e : l = H.sz
    · subst e
      have : b = w.heap.size := by simpa [Gh.upd] using hb.symm
      subst this
      refine ⟨R.below.size, hc.lt, ?_⟩
      rw [Heap.get_new, if_pos rfl]; exact ho
    · have hl : l < H.sz := by omega
      rw [(hu l hl).1] at hb
      obtain ⟨h1, h2, h3⟩ := R.obj l b hl hb
      refine ⟨h1, Nat.lt_of_lt_of_le h2 hc.size, ?_⟩
      rw [hg l hl]; exact h3.mono le (hc.other b (by omega)) (hu l hl).2
  · rw [Heap.sz_new] at hl hl'
    by_cases e : l = H.sz <;> by_cases e' : l' = H.sz
    · omega
    · have hl' : l' < H.sz := by omega
      rw [(hu l' hl').1] at hb'
      have := (R.obj l' b hl' hb').2.1
      subst e
      have : b = w.heap.size := by simpa [Gh.upd] using hb.symm
      omega
    · have hl : l < H.sz := by omega
      rw [(hu l hl).1] at hb
      have := (R.obj l b hl hb).2.1
      subst e'
      have : b = w.heap.size := by simpa [Gh.upd] using hb'.symm
      omega
    · have hl : l < H.sz := by omega
      have hl' : l' < H.sz := by omega
      rw [(hu l hl).1] at hb
      rw [(hu l' hl').1] at hb'
      exact R.inj l l' b hl hl' hb hb'
  · have := (R.obj l b hl hb).2.1
    exact hc.other b (by omega)
  · rw [Heap.sz_new] at hl
    by_cases e : l = H.sz
    · subst e; simp [Gh.upd]; omega
    · have hl : l < H.sz := by omega
      rw [(hu l hl).1]; exact hf l hl

/-- A place is another one than it was: in its block, or in a new one (then of a later number). -/
theorem Rel.upd {l b b' : Nat} {o : AObj} {ob : Obj} (sp : Nat) (R : Rel P w0 Γ H w) (hl : l < H.sz) (hb : Γ.blk l = some b) (hlim : lim ≤ l) (hh : H.get l ≠ .hole)
    (hc : Chg w w' b' ob) (hb' : b' = b ∨ b' = w.heap.size) (hv : H.ver l ≤ o.ver) (hsame : o.ver = H.ver l → b' = b ∧ sp = Γ.spare l)
    (ho : ROb P (Γ.upd l b' sp) (H.put l o) w' l b' o) :
    Rel P w0 (Γ.upd l b' sp) (H.put l o) w' ∧ Ext lim Γ H w (Γ.upd l b' sp) (H.put l o) w' := by
  have hg : ∀ k, k ≠ l → (H.put l o).get k = H.get k := fun k hk => by rw [Heap.get_put, if_neg hk]
  have hgl : (H.put l o).get l = o := by rw [Heap.get_put, if_pos rfl]
  have hu : ∀ k, k ≠ l → (Γ.upd l b' sp).blk k = Γ.blk k ∧ (Γ.upd l b' sp).spare k = Γ.spare k := fun k hk => by simp [Gh.upd, hk]
  have hul : (Γ.upd l b' sp).blk l = some b' ∧ (Γ.upd l b' sp).spare l = sp := by simp [Gh.upd]
  obtain ⟨r1, r2, r3⟩ := R.obj l b hl hb
  have le : Le Γ H (Γ.upd l b' sp) (H.put l o) := by
    refine ⟨Nat.le_refl _, fun k _ => ?_, fun k c hk hvk hck => ?_⟩
    · by_cases e : k = l
      · subst e; simpa [Heap.ver, hgl] using hv
      · simp [Heap.ver, hg k e]
    · by_cases e : k = l
      · subst e
        have : o.ver = H.ver k := by simpa [Heap.ver, hgl] using hvk
        obtain ⟨e1, e2⟩ := hsame this
        rw [hb] at hck
        rw [hul.1, hul.2, e1, e2]; exact ⟨hck, rfl⟩
      · exact ⟨(hu k e).1.trans hck, (hu k e).2⟩
  have hbase : w0.heap.size ≤ b' := by
    rcases hb' with e | e
    · rw [e]; exact r1
    · rw [e]; exact R.below.size
  have hne : ∀ k c, k < H.sz → k ≠ l → Γ.blk k = some c → c ≠ b' := fun k c hk hkl hc' e => by
    subst e
    rcases hb' with e | e
    · subst e; exact hkl (R.inj k l _ hk hl hc' hb)
    · have := (R.obj k _ hk hc').2.1; omega
  refine ⟨⟨hc.below hbase R.below, fun k c hk hck => ?_, fun k k' c hk hk' hck hck' => ?_⟩, le, fun k hk hcase => ?_, fun c hcw hf => ?_, hc.size⟩
  · rw [Heap.sz_put] at hk
    by_cases e : k = l
    · subst e
      rw [hul.1] at hck
      obtain rfl := Option.some.inj hck
      refine ⟨hbase, hc.lt, ?_⟩
      rw [hgl]; exact ho
    · rw [(hu k e).1] at hck
      obtain ⟨h1, h2, h3⟩ := R.obj k c hk hck
      refine ⟨h1, Nat.lt_of_lt_of_le h2 hc.size, ?_⟩
      rw [hg k e]; exact h3.mono le (hc.other c (hne k c hk e hck)) (hu k e).2
  · rw [Heap.sz_put] at hk hk'
    by_cases e : k = l <;> by_cases e' : k' = l
    · omega
    · subst e
      rw [hul.1] at hck; rw [(hu k' e').1] at hck'
      exact absurd (Option.some.inj hck).symm (hne k' c hk' e' hck')
    · subst e'
      rw [hul.1] at hck'; rw [(hu k e).1] at hck
      exact absurd (Option.some.inj hck').symm (hne k c hk e hck)
    · rw [(hu k e).1] at hck; rw [(hu k' e').1] at hck'
      exact R.inj k k' c hk hk' hck hck'
  · have e : k ≠ l := by
      rintro rfl
      rcases hcase with h | h | h
      · omega
      · exact hh h
      · rw [hb] at h; cases h
    exact ⟨hg k e, (hu k e).1, (hu k e).2, fun c hck => hc.other c (hne k c hk e hck)⟩
  · have hcb : c ≠ b' := by
      rintro rfl
      rcases hb' with e | e
      · subst e; exact hf l hl hb
      · omega
    refine ⟨hc.other c hcb, fun k hk => ?_⟩
    rw [Heap.sz_put] at hk
    by_cases e : k = l
    · subst e; rw [hul.1]; intro h; exact hcb (Option.some.inj h).symm
    · rw [(hu k e).1]; exact hf k hk
/-- Draws change nothing. -/
theorem Rel.same (R : Rel P w0 Γ H w) (hh : w'.heap = w.heap) (h1 : w'.os = w.os) (h2 : w'.tape = w.tape) (h3 : w'.output = w.output) : Rel P w0 Γ H w' :=
  ⟨⟨h1.trans R.below.os, h2.trans R.below.tape, h3.trans R.below.output, by rw [hh]; exact R.below.size, fun k hk => by rw [hh]; exact R.below.block k hk⟩,
    fun l b hl hb => by
      obtain ⟨r1, r2, r3⟩ := R.obj l b hl hb
      exact ⟨r1, by rw [hh]; exact r2, r3.mono (Le.refl _ _) (by rw [hh]) rfl⟩, R.inj⟩
theorem Ext.same (hh : w'.heap = w.heap) : Ext lim Γ H w Γ H w' :=
  ⟨Le.refl _ _, fun _ _ _ => ⟨rfl, rfl, rfl, fun _ _ => by rw [hh]⟩, fun _ _ h => ⟨by rw [hh], h⟩, by rw [hh]; exact Nat.le_refl _⟩
end
end Go.Ev
