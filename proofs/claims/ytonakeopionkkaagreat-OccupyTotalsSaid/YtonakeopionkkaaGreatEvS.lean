/- EvS: each operation of the program does in the model what the evaluator says of it. -/
import Derived.Test.YtonakeopionkkaaGreatEvR
import Derived.Laws.CopyRow
import Derived.Laws.Cells
set_option linter.unusedVariables false
set_option linter.unusedSimpArgs false
namespace Go.Ev
open Go.RowKit

section basics
variable {P : Program} {Γ : Gh} {H : Heap} {w : World}
theorem run_szA {t : TypeId} {n : Nat} (h : szA P t = some n) (w : World) : (sizeOf t).run P w = .ok n w := by
  unfold szA at h
  cases hi : P.info? t with
  | none => simp [hi] at h
  | some i => simp [hi] at h; simp [sizeOf, typeInfo, hi, h]
theorem run_bytesA {t : TypeId} {n : Nat} (h : bytesA P t = some n) (w : World) : ∃ i, (typeInfo t).run P w = .ok i w ∧ i.bytes = n := by
  unfold bytesA at h
  cases hi : P.info? t with
  | none => simp [hi] at h
  | some i => simp [hi] at h; exact ⟨i, by simp [typeInfo, hi], h⟩
theorem run_aggA {t : TypeId} {g : Bool} (h : aggA P t = some g) (w : World) : (isAgg t).run P w = .ok g w := by
  unfold aggA at h
  cases hu : P.underlying t with
  | none => simp [hu] at h
  | some d => simp [hu] at h; subst h; cases d <;> simp [isAgg, run_underlying hu]
theorem und_run {t : TypeId} {d : TypeDesc} (h : P.underlying t = some d) (w : World) : (underlying t).run P w = .ok d w := run_underlying h w

theorem RV.ofCell (v : Value) : RV Γ H (Ev.ofCell v) v := by
  cases v with
  | pointer a => cases a <;> simp [Ev.ofCell, RV]
  | slice a n c =>
    cases a with
    | some a => simp [Ev.ofCell, RV]
    | none =>
      cases n with
      | zero => cases c <;> simp [Ev.ofCell, RV]
      | succ n => simp [Ev.ofCell, RV]
  | map r => cases r <;> simp [Ev.ofCell, RV]
  | func f first cap =>
    show RV Γ H (if first.size = 0 ∧ cap.size = 0 then .fn f [] [] else .ext (.func f first cap)) _
    by_cases h : first.size = 0 ∧ cap.size = 0
    · rw [if_pos h]
      refine ⟨first, cap, rfl, ?_, ?_⟩
      · simp [RVs, Array.eq_empty_of_size_eq_zero h.1]
      · simp [RVs, Array.eq_empty_of_size_eq_zero h.2]
    · rw [if_neg h]; simp [RV]
  | _ => simp [Ev.ofCell, RV]
theorem RVs.ofCells : ∀ l : List Value, RVs Γ H (l.map Ev.ofCell) l
  | [] => rfl
  | v :: r => ⟨v, r, rfl, RV.ofCell v, RVs.ofCells r⟩
theorem ofV_cell {v : Value} (h : ∀ cs, v ≠ .agg cs) (k : ∀ cs, v ≠ .tuple cs) : Ev.ofV v = Ev.ofCell v := by
  cases v <;> first | rfl | exact absurd rfl (h _) | exact absurd rfl (k _)
theorem RV.ofV (v : Value) : RV Γ H (Ev.ofV v) v := by
  cases v with
  | agg cs => exact ⟨cs, rfl, RVs.ofCells _⟩
  | tuple vs =>
    show RV Γ H (if vs.size = 0 then .tup [] else .ext (.tuple vs)) _
    by_cases h : vs.size = 0
    · rw [if_pos h]; exact ⟨vs, rfl, by simp [RVs, Array.eq_empty_of_size_eq_zero h]⟩
    · rw [if_neg h]; simp [RV]
  | _ =>
    rw [ofV_cell (fun _ h => by cases h) (fun _ h => by cases h)]
    exact RV.ofCell _
theorem RV.undef : RV Γ H (.tup []) undef := ⟨#[], rfl, rfl⟩

/-- The slots. -/
def RS (Γ : Gh) (H : Heap) (s : Slots) (a : Act) : Prop := RVs Γ H s a.tmps.toList
theorem RS.opr {s : Slots} {a : Act} (h : RS Γ H s a) (x : Operand) : RV Γ H (oprA s x) (a.eval x) := by
  cases x with
  | tmp t =>
    show RV Γ H (s.getD t (.tup [])) (a.tmps.getD t undef)
    by_cases ht : t < s.length
    · obtain ⟨v, hv, hr⟩ := RVs.get h t s[t] (by simp [ht])
      have e1 : s.getD t (.tup []) = s[t] := by simp [List.getD, ht]
      have e2 : a.tmps.getD t undef = v := by simp at hv; simp [hv]
      rw [e1, e2]; exact hr
    · have hl : s.length = a.tmps.size := by simpa using RVs.length h
      have e1 : s.getD t (.tup []) = .tup [] := by simp [List.getD, List.getElem?_eq_none (Nat.le_of_not_lt ht)]
      have e2 : a.tmps.getD t undef = undef := by
        have : a.tmps.size ≤ t := hl ▸ Nat.le_of_not_lt ht
        simp [Array.getElem?_eq_none this]
      rw [e1, e2]; exact RV.undef
  | const v => exact RV.ofV v
  | global g => exact rfl
  | func f => exact ⟨#[], #[], rfl, rfl, rfl⟩
theorem RVs.set : ∀ {s : Slots} {l : List Value} (_ : RVs Γ H s l) (d : Nat) {u : AV} {v : Value} (_ : RV Γ H u v), RVs Γ H (s.set d u) (l.set d v)
  | [], _, h, d, u, v, _ => by rw [h]; simp [RVs]
  | x :: r, _, ⟨y, z, hx, h1, h2⟩, 0, u, v, hu => by subst hx; exact ⟨v, z, rfl, hu, h2⟩
  | x :: r, _, ⟨y, z, hx, h1, h2⟩, d + 1, u, v, hu => by subst hx; exact ⟨y, z.set d v, rfl, h1, RVs.set h2 d hu⟩
theorem RS.put {s : Slots} {a : Act} (h : RS Γ H s a) (d : Option Tmp) {u : AV} {v : Value} (hu : RV Γ H u v) : RS Γ H (s.put d u) (a.put d v) := by
  cases d with
  | none => exact h
  | some d =>
    show RVs Γ H (s.set d u) (a.tmps.setIfInBounds d v).toList
    rw [Array.toList_setIfInBounds]
    exact RVs.set h d hu
theorem RVs.keep (L : List Nat) : ∀ {s : Slots} {l : List Value} (i : Nat), RVs Γ H s l → RVs Γ H (Ev.keep L i s) l
  | [], _, _, h => h
  | x :: r, _, i, ⟨y, z, hx, h1, h2⟩ => by
    subst hx
    refine ⟨y, z, rfl, ?_, RVs.keep L (i + 1) h2⟩
    cases memN i L
    · exact trivial
    · exact h1
theorem RS.norm {s : Slots} {a : Act} (l : Option (List Nat)) (h : RS Γ H s a) : RS Γ H (Ev.norm l s) a := by
  cases l with
  | none => exact h
  | some L => exact RVs.keep L 0 h
theorem RS.mono {Γ' : Gh} {H' : Heap} {s : Slots} {a : Act} (h : Le Γ H Γ' H') (r : RS Γ H s a) : RS Γ' H' s a := RVs.mono h _ _ r

-- what a value is
theorem RV.int {k : IntKind} {n : Int} {x : Value} (h : RV Γ H (.int k n) x) : x = .int k n := h
theorem RV.bool {b : Bool} {x : Value} (h : RV Γ H (.bool b) x) : x = .bool b := h
theorem RV.oneCell {a : AV} {x : Value} (hs : a.solid = true) (h : RV Γ H a x) : x.oneCell' = true := by
  cases a <;> simp only [RV] at h
  case any => simp [AV.solid] at hs
  case agg => simp [AV.solid] at hs
  case tup => simp [AV.solid] at hs
  case ptr => obtain ⟨_, _, ⟨p, rfl⟩, _⟩ := h; rfl
  case sl => obtain ⟨_, _, p, c', rfl, _⟩ := h; rfl
  case sx => obtain ⟨p, c, rfl⟩ := h; rfl
  case mp => obtain ⟨_, ⟨p, rfl⟩, _⟩ := h; rfl
  case fn => obtain ⟨va, vc, rfl, _⟩ := h; rfl
  case ifc => obtain ⟨y, rfl, _⟩ := h; rfl
  case yld => obtain ⟨_, ⟨p, rfl⟩, _⟩ := h; rfl
  case ext => subst h; cases x <;> first | rfl | (simp [AV.solid] at hs)
  all_goals (subst h; rfl)
theorem RVs.oneCells {a : List AV} {x : List Value} (hs : a.all AV.solid = true) (h : RVs Γ H a x) : ∀ v ∈ x, v.oneCell' = true := by
  induction a generalizing x with
  | nil => rw [h]; intro v hv; cases hv
  | cons u r ih =>
    obtain ⟨y, z, hx, h1, h2⟩ := h
    subst hx
    simp only [List.all_cons, Bool.and_eq_true] at hs
    intro v hv
    rcases List.mem_cons.1 hv with e | e
    · subst e; exact RV.oneCell hs.1 h1
    · exact ih hs.2 h2 v e
/-- The cells of a value, both ways. -/
theorem RV.cells {a : AV} {x : Value} (hs : a.cells.all AV.solid = true) (h : RV Γ H a x) : RVs Γ H a.cells x.cells.toList := by
  cases a
  case agg cs =>
    obtain ⟨vs, rfl, hv⟩ := h
    exact hv
  all_goals
    simp only [AV.cells, List.all_cons, List.all_nil, Bool.and_true] at hs
    have h1 := RV.oneCell hs h
    have : x.cells = #[x] := by cases x <;> first | rfl | (simp [Value.oneCell'] at h1)
    rw [this]
    exact ⟨x, [], rfl, h, rfl⟩
end basics
end Go.Ev
