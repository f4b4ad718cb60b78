/- EvH: what is asked of a region that draws its order: operands, masks, the same value. -/
import Derived.Test.YtonakeopionkkaaGreatEvE
set_option linter.unusedVariables false
set_option linter.unusedSimpArgs false
namespace Go.Ev
open Go.RowKit
section
variable {C : Ctx} {lim : Nat} {ops : Array Oper}
mutual
theorem AV.eqv_eq : ∀ (u v : AV), AV.eqv u v = true → u = v := by
  intro u v h
  cases u <;> cases v <;> simp only [AV.eqv, Bool.false_eq_true] at h <;> (try simp only [Bool.and_eq_true, decide_eq_true_eq, beq_iff_eq, Nat.beq_eq] at h)
  case any.any => rfl
  case int.int => obtain ⟨rfl, rfl⟩ := h; rfl
  case bool.bool => subst h; rfl
  case str.str a b => rw [show a = b from by cases a; cases b; exact congrArg ByteArray.mk (eq_of_beq (α := Array UInt8) h)]
  case nilp.nilp => rfl
  case ptr.ptr => obtain ⟨⟨rfl, rfl⟩, rfl⟩ := h; rfl
  case nils.nils => rfl
  case sl.sl => obtain ⟨⟨⟨⟨⟨rfl, rfl⟩, rfl⟩, rfl⟩, rfl⟩, rfl⟩ := h; rfl
  case sx.sx => subst h; rfl
  case xp.xp => subst h; rfl
  case xs.xs => obtain ⟨⟨rfl, rfl⟩, rfl⟩ := h; rfl
  case nilm.nilm => rfl
  case mp.mp => subst h; rfl
  case nilf.nilf => rfl
  case fn.fn => obtain ⟨⟨rfl, h1⟩, h2⟩ := h; rw [AV.eqvs_eq _ _ h1, AV.eqvs_eq _ _ h2]
  case nili.nili => rfl
  case ifc.ifc => obtain ⟨rfl, h1⟩ := h; rw [AV.eqv_eq _ _ h1]
  case agg.agg => rw [AV.eqvs_eq _ _ h]
  case tup.tup => rw [AV.eqvs_eq _ _ h]
theorem AV.eqvs_eq : ∀ (u v : List AV), AV.eqvs u v = true → u = v := by
  intro u v h
  cases u <;> cases v <;> simp only [AV.eqvs, Bool.false_eq_true] at h
  · rfl
  · simp only [Bool.and_eq_true] at h
    rw [AV.eqv_eq _ _ h.1, AV.eqvs_eq _ _ h.2]
end

theorem opA_congr {s s' : Slots} (H : Heap) (op : Op) (h : ∀ x ∈ op.operands, oprA s x = oprA s' x) : opA C lim s H op = opA C lim s' H op := by
  have pairs : ∀ ps : Array (Nat × Operand), (∀ x ∈ ps.map (·.2), oprA s x = oprA s' x) →
      (ps.toList.map fun p => (p.1, oprA s p.2)) = (ps.toList.map fun p => (p.1, oprA s' p.2)) := fun ps hp =>
    List.map_congr_left fun p hm => by
      obtain ⟨i, x⟩ := p
      simp only [hp x (Array.mem_map.2 ⟨(i, x), by simpa using hm, rfl⟩)]
  have args : ∀ ps : Array Operand, (∀ x ∈ ps, oprA s x = oprA s' x) → ps.toList.map (oprA s) = ps.toList.map (oprA s') := fun ps hp =>
    List.map_congr_left fun x hx => hp x (by simpa using hx)
  cases op <;> simp only [Op.operands] at h
  case build t ps => simp only [opA]; rw [pairs ps fun x hx => h x (by simpa using hx)]
  case buildSlice t n ps => simp only [opA]; rw [pairs ps fun x hx => h x (by simpa using hx)]
  case makeFunc fn first captured =>
    simp only [opA]
    rw [args first fun x hx => h x (by simp [hx]), args captured fun x hx => h x (by simp [hx])]
  case call c =>
    obtain ⟨f, as, ts⟩ := c
    cases f with
    | builtin b => simp only [opA]; rw [args as fun x hx => h x (by simp [Call.operands, hx])]
    | _ => rfl
  case slice t x lo hi mx => cases lo <;> cases hi <;> cases mx <;> simp_all [opA]
  case makeMap t r => cases r <;> simp_all [opA]
  all_goals (first | rfl | (simp_all [opA]; done))
theorem wantA_congr {s s' : Slots} {o : Oper} (h : ∀ j w d, o.guard = some (j, w) → (ops[j]?).bind (·.dst) = some d → s[d]? = s'[d]?) : wantA ops s o = wantA ops s' o := by
  unfold wantA
  cases hg : o.guard with
  | none => rfl
  | some q =>
    obtain ⟨j, w⟩ := q
    simp only
    cases hd : (ops[j]?).bind (·.dst) with
    | none => rfl
    | some d => simp only; rw [h j w d hg hd]
/-- The two agree on all that the operation looks at. -/
def Agree (ops : Array Oper) (o : Oper) (s s' : Slots) : Prop := ∀ d ∈ o.looksAt ops, s[d]? = s'[d]?
theorem Agree.opr {o : Oper} {s s' : Slots} (h : Agree ops o s s') : ∀ x ∈ o.op.operands, oprA s x = oprA s' x := by
  intro x hx
  cases x with
  | tmp t =>
    have := h t (List.mem_append_left _ (List.mem_filterMap.2 ⟨.tmp t, by simpa using hx, rfl⟩))
    simp only [oprA, List.getD, this]
  | _ => rfl
theorem Agree.want {o : Oper} {s s' : Slots} (h : Agree ops o s s') : wantA ops s o = wantA ops s' o :=
  wantA_congr fun j w d hg hd => h d (List.mem_append_right _ (by rw [hg]; simp [hd]))
theorem Agree.op {o : Oper} {s s' : Slots} (h : Agree ops o s s') (H : Heap) : opA C lim s H o.op = opA C lim s' H o.op := opA_congr H _ h.opr
theorem Agree.evOp {call : CallF} {yc : YieldF} {o : Oper} {s s' : Slots} (h : Agree ops o s s') (H : Heap) (K : AV → Heap → Res) : evOp C call yc lim o s H K = evOp C call yc lim o s' H K := by
  have h1 := h.opr
  have h2 := h.op (C := C) (lim := lim) H
  obtain ⟨dst, op, type, pos, after, guard⟩ := o
  unfold Ev.evOp
  cases op <;> simp only <;> (try (simp only at h2; rw [h2]; done))
  case call c =>
    obtain ⟨f, as, ts⟩ := c
    cases f with
    | value f =>
      simp only
      have ha : as.toList.map (oprA s) = as.toList.map (oprA s') := List.map_congr_left fun x hx => h1 x (by simp only [Op.operands, Call.operands]; simp at hx; simp [hx])
      rw [ha, h1 f (by simp [Op.operands, Call.operands])]
    | _ => simp only at h2; simp only [h2]
theorem Agree.put {o : Oper} {s : Slots} {d : Option Tmp} {v : AV} (h : ∀ t, d = some t → t ∉ o.looksAt ops) : Agree ops o (s.put d v) s := by
  intro t ht
  cases d with
  | none => rfl
  | some d =>
    have : d ≠ t := fun e => h d rfl (e ▸ ht)
    simp [Slots.put, this]
theorem Agree.keep {o : Oper} {s : Slots} : Agree ops o (Ev.keep (o.looksAt ops) 0 s) s := by
  have mem : ∀ (i : Nat) (L : List Nat), i ∈ L → memN i L = true := by
    intro i L
    induction L with
    | nil => intro h; cases h
    | cons x r ih =>
      intro h
      simp only [memN]
      rcases List.mem_cons.1 h with rfl | h
      · simp
      · cases Nat.beq x i <;> simp [ih h]
  have key : ∀ (L : List Nat) (s : Slots) (i d : Nat), (i + d) ∈ L → (Ev.keep L i s)[d]? = s[d]? := by
    intro L s
    induction s with
    | nil => intro i d _; rfl
    | cons x r ih =>
      intro i d hd
      cases d with
      | zero => simp [Ev.keep, mem i L (by simpa using hd)]
      | succ d => simpa [Ev.keep] using ih (i + 1) d (by rw [Nat.add_right_comm]; exact hd)
  intro d hd
  exact key _ s 0 d (by simpa using hd)
theorem opA_pure {s : Slots} {op : Op} (h : isPure op = true) (H H' : Heap) (lim' : Nat) : opA C lim s H op = opA C lim' s H' op := by
  cases op <;> simp only [isPure, Bool.false_eq_true] at h <;> (first | rfl | (rename_i c; obtain ⟨f, as, ts⟩ := c; cases f <;> cases h))
def AV.at (l : Nat) : AV → AV
  | .ptr _ v o => .ptr l v o
  | .sl _ v o n c m => .sl l v o n c m
  | v => v
theorem opA_mk {s : Slots} {op : Op} {H : Heap} {v : AV} {f : Eff} (h : isMk op = true) (hv : opA C lim s H op = some (v, f)) :
    ∃ ob, f = .new ob ∧ ob.ver = 0 ∧ (v = .ptr H.sz 0 0 ∨ ∃ n, v = .sl H.sz 0 0 n n false) ∧ ∀ lim' H', opA C lim' s H' op = some (v.at H'.sz, .new ob) := by
  cases op <;> simp only [isMk, Bool.false_eq_true] at h
  case alloc e =>
    simp only [opA, allocA] at hv ⊢
    cases hz : zeroA C.P e with
    | none => rw [hz] at hv; cases hv
    | some z =>
      rw [hz] at hv
      simp only [Option.map_some, Option.some.injEq, Prod.mk.injEq] at hv
      obtain ⟨rfl, rfl⟩ := hv
      exact ⟨_, rfl, rfl, .inl rfl, fun _ _ => rfl⟩
  case buildSlice t n ps =>
    simp only [opA, buildSliceA] at hv ⊢
    split at hv
    · rename_i e he
      cases hs : szA C.P e with
      | none => rw [hs] at hv; cases hv
      | some sz =>
        rw [hs] at hv
        simp only [Option.bind_some] at hv ⊢
        cases hb : (Nat.ble (n * sz) 16777216 && !(sz == 0)) with
        | false => rw [hb] at hv; cases hv
        | true =>
          rw [hb] at hv
          simp only [cond_true] at hv ⊢
          cases hz : zeroA C.P e with
          | none => rw [hz] at hv; cases hv
          | some z =>
            rw [hz] at hv
            simp only [Option.bind_some] at hv ⊢
            cases hl : (z.cells.length == sz) with
            | false => rw [hl] at hv; cases hv
            | true =>
              rw [hl] at hv
              simp only [cond_true] at hv ⊢
              cases hf : fillA (fun i => some (i * sz, sz)) (repeatL z.cells n) (ps.toList.map fun p => (p.1, oprA s p.2)) with
              | none => rw [hf] at hv; cases hv
              | some cs =>
                rw [hf] at hv
                simp only [Option.map_some, Option.some.injEq, Prod.mk.injEq] at hv
                obtain ⟨rfl, rfl⟩ := hv
                exact ⟨_, rfl, rfl, .inr ⟨n, rfl⟩, fun _ _ => rfl⟩
    · cases hv
-- masks
def Ahead (ops : List Oper) (ms : List Nat) (i j : Nat) : Prop := ∃ o e, ops[i]? = some o ∧ e ∈ o.after.toList ∧ Region.binds .any e = true ∧ (e.on = j ∨ (ms.getD e.on 0).testBit j = true)
theorem masks_spec (i j : Nat) (h : ((masks ops).getD i 0).testBit j = true) : Ahead ops.toList (masks ops) i j := by
  have inner : ∀ (acc : List Nat) (es : List Edge) (m : Nat) (j : Nat), (es.foldl (fun m e => bif Region.binds .any e then m ||| 2 ^ e.on ||| acc.getD e.on 0 else m) m).testBit j = true →
      m.testBit j = true ∨ ∃ e ∈ es, Region.binds .any e = true ∧ (e.on = j ∨ (acc.getD e.on 0).testBit j = true) := by
    intro acc es
    induction es with
    | nil => intro m j h; exact .inl h
    | cons e es ih =>
      intro m j h
      rw [List.foldl_cons] at h
      rcases ih _ j h with h | ⟨e', he', hb⟩
      · cases hb : Region.binds .any e with
        | false => rw [hb] at h; exact .inl h
        | true =>
          rw [hb] at h
          simp only [cond_true, Nat.testBit_or, Bool.or_eq_true, Nat.testBit_two_pow, decide_eq_true_eq] at h
          rcases h with (h | h) | h
          · exact .inl h
          · exact .inr ⟨e, by simp, hb, .inl h⟩
          · exact .inr ⟨e, by simp, hb, .inr h⟩
      · exact .inr ⟨e', by simp [he'], hb⟩
  have outer : ∀ (l pre : List Oper) (acc : List Nat), acc.length = pre.length → (∀ i j, (acc.getD i 0).testBit j = true → Ahead pre acc i j) →
      ∀ i j, ((l.foldl (fun acc o => acc ++ [o.after.toList.foldl (fun m e => bif Region.binds .any e then m ||| 2 ^ e.on ||| acc.getD e.on 0 else m) 0]) acc).getD i 0).testBit j = true →
        Ahead (pre ++ l) (l.foldl (fun acc o => acc ++ [o.after.toList.foldl (fun m e => bif Region.binds .any e then m ||| 2 ^ e.on ||| acc.getD e.on 0 else m) 0]) acc) i j := by
    intro l
    induction l with
    | nil => intro pre acc _ h i j hb; simpa using h i j hb
    | cons o l ih =>
      intro pre acc hl h i j hb
      rw [List.foldl_cons] at hb ⊢
      have := ih (pre ++ [o]) _ (by simp [hl]) (fun i j hb => ?_) i j hb
      · simpa using this
      · have grow : ∀ k m, (acc.getD k 0).testBit m = true → ((acc ++ [o.after.toList.foldl (fun m e => bif Region.binds .any e then m ||| 2 ^ e.on ||| acc.getD e.on 0 else m) 0]).getD k 0).testBit m = true := by
          intro k m hk
          by_cases hlt : k < acc.length
          · simp only [List.getD, List.getElem?_append_left hlt]; exact hk
          · simp [List.getD, List.getElem?_eq_none (Nat.le_of_not_lt hlt)] at hk
        rcases Nat.lt_trichotomy i acc.length with hlt | heq | hgt
        · have hb' : (acc.getD i 0).testBit j = true := by simpa only [List.getD, List.getElem?_append_left hlt] using hb
          obtain ⟨o', e, h1, h2, h3, h4⟩ := h i j hb'
          exact ⟨o', e, by rw [List.getElem?_append_left (by omega)]; exact h1, h2, h3, h4.imp id (grow _ _)⟩
        · subst heq
          have hb' : (o.after.toList.foldl (fun m e => bif Region.binds .any e then m ||| 2 ^ e.on ||| acc.getD e.on 0 else m) 0).testBit j = true := by
            simpa [List.getD] using hb
          rcases inner acc _ _ j hb' with h0 | ⟨e, he, hbd, hq⟩
          · simp at h0
          · exact ⟨o, e, by rw [hl]; simp, he, hbd, hq.imp id (grow _ _)⟩
        · simp [List.getD, List.getElem?_eq_none (show (acc ++ [_]).length ≤ i by simp; omega)] at hb
  exact outer ops.toList [] [] rfl (fun i j h => by simp at h) i j h
end
end Go.Ev
