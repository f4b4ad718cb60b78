/- EvT: operations that leave memory alone. -/
import Derived.Test.YtonakeopionkkaaGreatEvS
import Derived.Laws.StructEq
import Derived.Laws.BitsAllLaws
set_option linter.unusedVariables false
set_option linter.unusedSimpArgs false
namespace Go.Ev
open Go.RowKit

/-- The run ends well, in the same world, with a value that the abstract one tells. -/
def Fine (P : Program) (Γ : Gh) (H : Heap) (w : World) (v : AV) (m : Sem Value) : Prop := ∃ x, m.run P w = .ok x w ∧ RV Γ H v x

theorem wrapK_eq (k : IntKind) (n : Int) : wrapK k n = k.wrap n := by
  cases k <;> simp only [wrapK, IntKind.wrap, IntKind.bits, IntKind.signed]
  all_goals
    simp
    try (split <;> omega)

theorem bind_some {α β : Type} {x : Option α} {f : α → Option β} {b : β} (h : x.bind f = some b) : ∃ a, x = some a ∧ f a = some b := by
  cases x with
  | none => simp at h
  | some a => exact ⟨a, rfl, by simpa using h⟩
theorem map_some {α β : Type} {x : Option α} {f : α → β} {b : β} (h : x.map f = some b) : ∃ a, x = some a ∧ f a = b := by
  cases x with
  | none => simp at h
  | some a => exact ⟨a, rfl, by simpa using h⟩
theorem cond_some {α : Type} {c : Bool} {x : Option α} {b : α} (h : (bif c then x else none) = some b) : c = true ∧ x = some b := by
  cases c with
  | false => simp at h
  | true => exact ⟨rfl, by simpa using h⟩
theorem cond_none {α : Type} {c : Bool} {x : Option α} {b : α} (h : (bif c then none else x) = some b) : c = false ∧ x = some b := by
  cases c with
  | true => simp at h
  | false => exact ⟨rfl, by simpa using h⟩

section
variable {P : Program} {Γ : Gh} {H : Heap} {w : World}

theorem fine_int {op : BinOp} {k : IntKind} {a b : Int} {v : AV} (h : intA op k a b = some v) (t : TypeId) : Fine P Γ H w v (binOp op t (.int k a) (.int k b)) := by
  cases op <;> simp only [intA] at h
  case quo =>
    obtain ⟨h1, h2⟩ := cond_none h
    have hb : b ≠ 0 := by simpa using h1
    obtain rfl := Option.some.inj h2
    exact ⟨.int k (k.wrap (a.tdiv b)), by simp [binOp, Op.intDiv, hb], by simp [RV, wrapK_eq]⟩
  case rem =>
    obtain ⟨h1, h2⟩ := cond_none h
    have hb : b ≠ 0 := by simpa using h1
    obtain rfl := Option.some.inj h2
    exact ⟨.int k (a.tmod b), by simp [binOp, Op.intDiv, hb], by simp [RV]⟩
  case shl => cases h
  case shr => cases h
  case and => obtain rfl := Option.some.inj h; exact ⟨.int k (Go.bits .and k a b), by simp only [binOp, ne_eq, not_true, if_false, intBits_and]; rfl, by simp [RV]⟩
  case or => obtain rfl := Option.some.inj h; exact ⟨.int k (Go.bits .or k a b), by simp only [binOp, ne_eq, not_true, if_false, intBits_or]; rfl, by simp [RV]⟩
  case xor => obtain rfl := Option.some.inj h; exact ⟨.int k (Go.bits .xor k a b), by simp only [binOp, ne_eq, not_true, if_false, intBits_xor]; rfl, by simp [RV]⟩
  case andNot => obtain rfl := Option.some.inj h; exact ⟨.int k (Go.bits .andNot k a b), by simp only [binOp, ne_eq, not_true, if_false, intBits_andNot]; rfl, by simp [RV]⟩
  all_goals
    obtain rfl := Option.some.inj h
    first
      | exact ⟨_, by simp [binOp, Op.intArith]; rfl, by simp [RV, wrapK_eq]⟩
      | exact ⟨_, by simp [binOp, Op.intCmp]; rfl, by simp [RV]⟩
theorem fine_shift {op : BinOp} {k k' : IntKind} {a b : Int} {v : AV} (ho : op = .shl ∨ op = .shr) (h : shiftA op k a b = some v) (t : TypeId) : Fine P Γ H w v (binOp op t (.int k a) (.int k' b)) := by
  unfold shiftA at h
  obtain ⟨h1, h2⟩ := cond_none h
  have hb : ¬ b < 0 := by simpa using h1
  rcases ho with rfl | rfl
  · obtain rfl := Option.some.inj h2
    exact ⟨_, by simp [binOp, Op.shift, hb]; rfl, by simp [RV, wrapK_eq]⟩
  · obtain rfl := Option.some.inj h2
    exact ⟨_, by simp [binOp, Op.shift, hb]; rfl, by simp [RV]⟩
theorem fine_str {op : BinOp} {a b : ByteArray} {v : AV} (h : strA op a b = some v) (t : TypeId) : Fine P Γ H w v (binOp op t (.string a) (.string b)) := by
  cases op <;> simp only [strA] at h
  case add =>
    obtain ⟨h1, h2⟩ := cond_some h
    have h1 : a.size + b.size ≤ 9223372036854775807 := by simpa using h1
    obtain rfl := Option.some.inj h2
    have hm : ¬ (((a.size + b.size : Nat) : Int) > IntKind.i64.max) := by
      have : IntKind.i64.max = 9223372036854775807 := by simp [IntKind.max, IntKind.signed, IntKind.bits]
      rw [this]; omega
    exact ⟨.string (a ++ b), by simp only [binOp, Op.stringOp]; rw [if_neg hm]; rfl, rfl⟩
  all_goals first
    | (cases h; done)
    | (obtain rfl := Option.some.inj h; exact ⟨_, rfl, rfl⟩)
theorem RV.part {t : TypeId} {cs : List AV} {vs : Array Value} {off : Nat} {v : AV} (hr : RVs Γ H cs vs.toList) (h : partA P t cs off = some v) : Fine P Γ H w v (part t vs off) := by
  unfold partA at h
  obtain ⟨g, hg, h⟩ := bind_some h
  cases g with
  | true =>
    obtain ⟨n, hn, h⟩ := bind_some (by simpa using h)
    obtain ⟨hb, h⟩ := cond_some h
    obtain rfl := Option.some.inj h
    refine ⟨.agg (vs.extract off (off + n)), by simp [Go.part, run_aggA hg, run_szA hn], vs.extract off (off + n), rfl, ?_⟩
    have := RVs.take n (RVs.drop off hr)
    simpa [Array.toList_extract, List.extract_eq_take_drop] using this
  | false =>
    have h : cs[off]? = some v := by simpa using h
    obtain ⟨x, hx, hr⟩ := RVs.get hr off v h
    have hx : vs[off]? = some x := by simpa using hx
    exact ⟨x, by simp [Go.part, run_aggA hg, hx], hr⟩

/-- Told equal or not, as Go tells it. -/
theorem eqFs_sound {d D : Nat} {xs ys : List AV} {vs us : Array Value} (ih : ∀ (t : TypeId) (x y : AV) (b : Bool) (u v : Value), eqIn P H d t x y = some b → RV Γ H x u → RV Γ H y v → (Op.equalIn D t u v).run P w = .ok b w)
    (hx : RVs Γ H xs vs.toList) (hy : RVs Γ H ys us.toList) : ∀ (fs : List Field) (b : Bool), eqFs (eqIn P H d) P xs ys fs = some b → (Op.eqFields D vs us fs).run P w = .ok b w
  | [], b, h => by obtain rfl := Option.some.inj h; rfl
  | f :: r, b, h => by
    have IH := eqFs_sound ih hx hy r
    unfold eqFs at h
    cases hn : f.name != "_" with
    | false =>
      rw [hn] at h
      have : ¬ (f.name ≠ "_") := by simpa using hn
      simp only [Op.eqFields, if_neg this]
      exact IH b (by simpa using h)
    | true =>
      rw [hn] at h
      have : f.name ≠ "_" := by simpa using hn
      obtain ⟨a, ha, h⟩ := bind_some (by simpa using h)
      obtain ⟨c, hc, h⟩ := bind_some h
      obtain ⟨e, he, h⟩ := bind_some h
      obtain ⟨u, hu, ru⟩ := RV.part (P := P) (w := w) hx ha
      obtain ⟨v, hv, rv⟩ := RV.part (P := P) (w := w) hy hc
      have hq := ih f.type a c e u v he ru rv
      simp only [Op.eqFields, if_pos this, Sem.run_bind, hu, hv, Result.andThen_ok, hq, Sem.run_ite]
      cases e with
      | true => simp at h; simpa using IH b h
      | false => simp at h; subst h; simp
set_option maxHeartbeats 1000000 in
theorem eqIn_sound : ∀ (d D : Nat) (t : TypeId) (x y : AV) (b : Bool) (u v : Value), d ≤ D → eqIn P H d t x y = some b → RV Γ H x u → RV Γ H y v → (Op.equalIn D t u v).run P w = .ok b w := by
  intro d
  induction d with
  | zero => intro D t x y b u v _ h; simp [eqIn] at h
  | succ d ih =>
    intro D t x y b u v hD h hx hy
    obtain ⟨D, rfl⟩ : ∃ k, D = k + 1 := ⟨D - 1, by omega⟩
    unfold eqIn at h
    split at h
    case h_1 hu =>
      split at h
      · obtain rfl := Option.some.inj h
        simp only [RV] at hx hy; subst hx; subst hy
        simp [Op.equalIn, und_run hu]
      · cases h
    case h_2 kk hu =>
      split at h
      · obtain ⟨h1, h2⟩ := cond_some h
        obtain rfl := Option.some.inj h2
        simp only [RV] at hx hy; subst hx; subst hy
        have : _ = _ := of_decide_eq_true h1
        simp [Op.equalIn, und_run hu, this]
      · cases h
    case h_3 hu =>
      split at h
      · obtain rfl := Option.some.inj h
        simp only [RV] at hx hy; subst hx; subst hy
        simp [Op.equalIn, und_run hu]
      · cases h
    case h_4 e hu =>
      split at h
      · obtain rfl := Option.some.inj h
        simp only [RV] at hx hy; subst hx; subst hy
        simp [Op.equalIn, und_run hu]
      · obtain rfl := Option.some.inj h
        simp only [RV] at hx hy; subst hx; obtain ⟨_, _, ⟨p, rfl⟩, _⟩ := hy
        simp [Op.equalIn, und_run hu]
      · obtain rfl := Option.some.inj h
        simp only [RV] at hx hy; subst hy; obtain ⟨_, _, ⟨p, rfl⟩, _⟩ := hx
        simp [Op.equalIn, und_run hu]
      · obtain rfl := Option.some.inj h
        simp only [RV] at hx hy; subst hx; subst hy
        simp [Op.equalIn, und_run hu]
      · obtain rfl := Option.some.inj h
        simp only [RV] at hx hy; subst hx; subst hy
        simp [Op.equalIn, und_run hu]
      · obtain ⟨h1, h2⟩ := cond_some h
        simp only [Bool.and_eq_true, Nat.beq_eq] at h1
        obtain ⟨⟨⟨e1, e2⟩, e3⟩, e4⟩ := h1
        subst e1; subst e2
        obtain rfl := Option.some.inj h2
        cases hn : szA P e with
        | none => simp [hn] at e4
        | some n =>
          simp [hn] at e4
          have hn0 : n ≠ 0 := fun h => by subst h; simp at e4
          simp only [RV] at hx hy
          obtain ⟨_, _, _, hx⟩ := hx
          obtain ⟨_, _, _, hy⟩ := hy
          obtain ⟨b1, hb1, rfl⟩ := hx e3.symm
          obtain ⟨b2, hb2, rfl⟩ := hy e3.symm
          rw [hb1] at hb2
          obtain rfl := Option.some.inj hb2
          simp [Op.equalIn, und_run hu, run_szA hn, hn0, sameAddr]
          rw [Bool.eq_iff_iff]; simp
      · cases h
    case h_5 e hu =>
      split at h
      · obtain rfl := Option.some.inj h
        simp only [RV] at hx hy; subst hx; subst hy
        simp [Op.equalIn, und_run hu]
      · obtain rfl := Option.some.inj h
        simp only [RV] at hx hy; subst hx; obtain ⟨_, _, p, c, rfl, _⟩ := hy
        simp [Op.equalIn, und_run hu]
      · obtain rfl := Option.some.inj h
        simp only [RV] at hx hy; subst hy; obtain ⟨_, _, p, c, rfl, _⟩ := hx
        simp [Op.equalIn, und_run hu]
      · obtain rfl := Option.some.inj h
        simp only [RV] at hx hy; subst hx; subst hy
        simp [Op.equalIn, und_run hu]
      · obtain rfl := Option.some.inj h
        simp only [RV] at hx hy; subst hx; subst hy
        simp [Op.equalIn, und_run hu]
      · obtain rfl := Option.some.inj h
        simp only [RV] at hx hy; subst hx; obtain ⟨p, c, rfl⟩ := hy
        simp [Op.equalIn, und_run hu]
      · obtain rfl := Option.some.inj h
        simp only [RV] at hx hy; subst hy; obtain ⟨p, c, rfl⟩ := hx
        simp [Op.equalIn, und_run hu]
      · cases h
    case h_6 e hu =>
      split at h
      · obtain rfl := Option.some.inj h
        simp only [RV] at hx hy; subst hx; subst hy
        simp [Op.equalIn, und_run hu]
      · obtain rfl := Option.some.inj h
        simp only [RV] at hx hy; subst hx; obtain ⟨_, ⟨p, rfl⟩, _⟩ := hy
        simp [Op.equalIn, und_run hu]
      · obtain rfl := Option.some.inj h
        simp only [RV] at hx hy; subst hy; obtain ⟨_, ⟨p, rfl⟩, _⟩ := hx
        simp [Op.equalIn, und_run hu]
      · cases h
    case h_7 e hu =>
      split at h
      · obtain rfl := Option.some.inj h
        simp only [RV] at hx hy; subst hx; subst hy
        simp [Op.equalIn, und_run hu]
      · obtain rfl := Option.some.inj h
        simp only [RV] at hx hy; subst hx; obtain ⟨va, vc, rfl, _⟩ := hy
        simp [Op.equalIn, und_run hu]
      · obtain rfl := Option.some.inj h
        simp only [RV] at hx hy; subst hy; obtain ⟨va, vc, rfl, _⟩ := hx
        simp [Op.equalIn, und_run hu]
      · cases h
    case h_8 fs hu =>
      split at h
      · obtain ⟨h1, h2⟩ := cond_none h
        obtain ⟨vs, rfl, hvs⟩ := hx
        obtain ⟨us, rfl, hus⟩ := hy
        have hf : P.fieldsOf t = fs := by simp [Program.fieldsOf, hu]
        rw [run_equalIn_struct w D t vs us (by rw [hf]; exact hu) h1, hf]
        exact eqFs_sound (fun t x y b u v he hx hy => ih D t x y b u v (by omega) he hx hy) hvs hus fs.toList b h2
      · cases h
    case h_9 => cases h
theorem eqA_sound {t : TypeId} {x y : AV} {b : Bool} {u v : Value} (h : eqA P H t x y = some b) (hx : RV Γ H x u) (hy : RV Γ H y v) : (Op.equal t u v).run P w = .ok b w := by
  unfold Op.equal
  unfold eqA at h
  split at h
  · obtain ⟨_, h⟩ := cond_none h
    exact eqIn_sound 20 10000 t _ y b u v (by omega) h hx hy
  · exact eqIn_sound 20 10000 t _ y b u v (by omega) h hx hy

/-- Neither a number nor a text. -/
def Plainish : Value → Prop
  | .bool _ | .pointer _ | .slice _ _ _ | .map _ | .func _ _ _ | .nilFunc | .agg _ => True
  | _ => False
theorem binOp_eql {u v : Value} (t : TypeId) (h : Plainish u) : binOp .eql t u v = (do pure (.bool (← Op.equal t u v))) := by
  cases u <;> first | exact h.elim | (cases v <;> rfl)
theorem binOp_neq {u v : Value} (t : TypeId) (h : Plainish u) : binOp .neq t u v = (do pure (.bool (!(← Op.equal t u v)))) := by
  cases u <;> first | exact h.elim | (cases v <;> rfl)
theorem okEq_plain {x : AV} {u : Value} (h : okEq x = true) (hx : RV Γ H x u) : Plainish u := by
  cases x <;> first | (cases h; done) | (simp only [RV] at hx)
  case ptr => obtain ⟨_, _, ⟨p, rfl⟩, _⟩ := hx; exact trivial
  case sl => obtain ⟨_, _, p, c, rfl, _⟩ := hx; exact trivial
  case sx => obtain ⟨p, c, rfl⟩ := hx; exact trivial
  case mp => obtain ⟨_, ⟨p, rfl⟩, _⟩ := hx; exact trivial
  case fn => obtain ⟨va, vc, rfl, _⟩ := hx; exact trivial
  case agg => obtain ⟨vs, rfl, _⟩ := hx; exact trivial
  all_goals (subst hx; exact trivial)
theorem guard_off {op : BinOp} (h1 : op ≠ .eql) (h2 : op ≠ .neq) (t : TypeId) (a b : Operand) (u v : Value) : (eqGuard op t a b u v).run P w = .ok () w := by
  unfold eqGuard
  cases op <;> first | exact absurd rfl h1 | exact absurd rfl h2 | rfl
theorem guard_other {op : BinOp} (t : TypeId) (a b : Operand) {u v : Value} (h : ∀ xs, u ≠ .agg xs) (h' : u ≠ .nilIface) : (eqGuard op t a b u v).run P w = .ok () w := by
  unfold eqGuard
  cases u <;> first | exact absurd rfl (h _) | exact absurd rfl h' | (cases op <;> cases v <;> rfl)
theorem guard_eq {op : BinOp} {t : TypeId} {x y : AV} {b : Bool} {u v : Value} (p q : Operand) (hk : okEq x = true) (h : eqA P H t x y = some b) (hx : RV Γ H x u) (hy : RV Γ H y v) : (eqGuard op t p q u v).run P w = .ok () w := by
  have hp := okEq_plain hk hx
  by_cases ha : ∃ xs, u = .agg xs
  · obtain ⟨xs, rfl⟩ := ha
    cases x <;> first | (cases hk; done) | skip
    case agg cs =>
      unfold eqA at h
      obtain ⟨hg, h⟩ := cond_none h
      cases v
      case agg ys => exact run_eqGuard_agg w op t p q xs ys hg
      all_goals (unfold eqGuard; cases op <;> rfl)
    all_goals
      simp only [RV] at hx
      first
        | (obtain ⟨_, _, ⟨_, h⟩, _⟩ := hx; cases h; done)
        | (obtain ⟨_, _, _, _, h, _⟩ := hx; cases h; done)
        | (obtain ⟨_, _, h⟩ := hx; cases h; done)
        | (obtain ⟨_, ⟨_, h⟩, _⟩ := hx; cases h; done)
        | (obtain ⟨_, _, h, _⟩ := hx; cases h; done)
        | (cases hx; done)
  · exact guard_other t p q (fun xs e => ha ⟨xs, e⟩) (fun e => by subst e; exact hp)
theorem binA_sound {op : BinOp} {t : TypeId} {x y v : AV} {u z : Value} (p q : Operand) (h : binA P H op t x y = some v) (hx : RV Γ H x u) (hy : RV Γ H y z) :
    Fine P Γ H w v (do eqGuard op t p q u z; binOp op t u z) := by
  have key : ∀ m : Sem Value, (eqGuard op t p q u z).run P w = .ok () w → binOp op t u z = m → Fine P Γ H w v m → Fine P Γ H w v (do eqGuard op t p q u z; binOp op t u z) := by
    intro m h1 h2 ⟨r, hr, hv⟩
    exact ⟨r, by rw [Sem.run_bind, h1, Result.andThen_ok, h2]; exact hr, hv⟩
  unfold binA at h
  split at h
  · rename_i k a k' b
    simp only [RV] at hx hy; subst hx; subst hy
    have hg : (eqGuard op t p q (.int k a) (.int k' b)).run P w = .ok () w := guard_other t p q (fun _ h => by cases h) (fun h => by cases h)
    split at h
    · exact key _ hg rfl (fine_shift (.inl rfl) h t)
    · exact key _ hg rfl (fine_shift (.inr rfl) h t)
    · obtain ⟨h1, h2⟩ := cond_some h
      obtain rfl : k = k' := of_decide_eq_true h1
      exact key _ hg rfl (fine_int h2 t)
  · rename_i a b
    simp only [RV] at hx hy; subst hx; subst hy
    exact key _ (guard_other t p q (fun _ h => by cases h) (fun h => by cases h)) rfl (fine_str h t)
  · split at h
    · obtain ⟨h1, h2⟩ := cond_some h
      obtain ⟨b, hb, rfl⟩ := map_some h2
      exact key _ (guard_eq p q h1 hb hx hy) (binOp_eql t (okEq_plain h1 hx)) ⟨.bool b, by simp [eqA_sound hb hx hy], rfl⟩
    · obtain ⟨h1, h2⟩ := cond_some h
      obtain ⟨b, hb, rfl⟩ := map_some h2
      exact key _ (guard_eq p q h1 hb hx hy) (binOp_neq t (okEq_plain h1 hx)) ⟨.bool !b, by simp [eqA_sound hb hx hy], rfl⟩
    · cases h
theorem unA_sound {op : UnOp} {x v : AV} {u : Value} (h : unA op x = some v) (hx : RV Γ H x u) : Fine P Γ H w v (Op.unary op u) := by
  unfold unA at h
  split at h
  · simp only [RV] at hx; subst hx
    split at h
    · obtain rfl := Option.some.inj h
      exact ⟨_, by simp only [Op.unary, Op.intArith]; rfl, by simp [RV, wrapK_eq]⟩
    · obtain rfl := Option.some.inj h
      exact ⟨_, by simp only [Op.unary, intBits_xor]; rfl, by simp [RV]⟩
    · cases h
  · simp only [RV] at hx; subst hx
    split at h
    · obtain rfl := Option.some.inj h
      exact ⟨_, rfl, rfl⟩
    · cases h
  · cases h
end
end Go.Ev
