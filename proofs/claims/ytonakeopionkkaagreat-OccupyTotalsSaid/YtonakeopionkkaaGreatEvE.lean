/- EvE: the evaluator is right: operations, regions, code. -/
import Derived.Test.YtonakeopionkkaaGreatEvZB
import Derived.LoopN
import Derived.Tactics
import Derived.TacticsIn
import Derived.LoopNIn
import Derived.RangeFuncLeaves
import Derived.RangeFuncRecord
import Derived.RangeFuncSeq
set_option linter.unusedVariables false
set_option linter.unusedSimpArgs false
namespace Go.Ev
open Go.RowKit
section
variable {C : Ctx} {w0 : World} {lim : Nat}
/-- What is asked of a call: a value at once, or a function that returns it. -/
def CallOK (P : Program) (w0 : World) (lim : Nat) (Γ : Gh) (H : Heap) (w : World) (f : FuncId) (args : Array Value) (v : AV) (H1 : Heap) : Prop :=
  (∃ x w' Γ', hasBody P f = false ∧ (callFunc f args).run P w = .ok (.value x) w' ∧ RV Γ' H1 v x ∧ Rel P w0 Γ' H1 w' ∧ Ext lim Γ H w Γ' H1 w') ∨
  ((callFunc f args).run P w = .ok (.enter f args) w ∧ Calls P f args w fun e w' => ∃ x Γ', e = .returned x ∧ RV Γ' H1 v x ∧ Rel P w0 Γ' H1 w' ∧ Ext lim Γ H w Γ' H1 w')
def CallsOK (C : Ctx) (w0 : World) (call : CallF) : Prop := ∀ lim f args H v H1, call lim f args H = some (v, H1) →
  ∀ Γ w vs, Rel C.P w0 Γ H w → RVs Γ H args vs → CallOK C.P w0 lim Γ H w f vs.toArray v H1

theorem wantA_sound {Γ : Gh} {H : Heap} {ops : Array Oper} {s : Slots} {a : Act} {o : Oper} {b : Bool} (hS : RS Γ H s a) (h : wantA ops s o = some b) : Region.wanted o (yielded ops a.tmps) = b := by
  unfold wantA at h
  unfold Region.wanted
  cases hg : o.guard with
  | none => rw [hg] at h; obtain rfl := Option.some.inj h; rfl
  | some jw =>
    obtain ⟨j, want⟩ := jw
    rw [hg] at h
    simp only at h ⊢
    unfold yielded
    cases hd : (ops[j]?).bind (·.dst) with
    | none => rw [hd] at h; obtain rfl := Option.some.inj h; simp
    | some d =>
      rw [hd] at h
      simp only at h
      simp only [Option.bind_some]
      split at h
      · rename_i x hc
        unfold wantV at h
        split at h
        · rename_i c
          obtain rfl := Option.some.inj h
          obtain ⟨x, hx, hr⟩ := RVs.get hS d _ hc
          simp only [RV] at hr
          subst hr
          have : a.tmps[d]? = some (.bool c) := by simpa using hx
          simp [this]
        · obtain rfl := Option.some.inj h
          obtain ⟨x, hx, hr⟩ := RVs.get hS d _ hc
          obtain ⟨vs, rfl, _⟩ := hr
          have : a.tmps[d]? = some (.tuple vs) := by simpa using hx
          simp [this]
        · cases h
      · rename_i hc
        obtain rfl := Option.some.inj h
        have hl := RVs.length hS
        have : a.tmps[d]? = none := by
          have := List.getElem?_eq_none_iff.1 hc
          apply Array.getElem?_eq_none
          rw [← Array.length_toList, ← hl]; exact this
        simp [this]
/-- Frames of a function, or of a round. -/
def FR (rd : Option Nat) : Fence := { Fence.wide with round := rd }
theorem FR.none : FR none = Fence.wide := rfl
theorem FR.calls {rd : Option Nat} {n : Nat} {P : Program} {f : FuncId} {args : Array Value} {w : World} {R : Ending → World → Prop} (h : Calls P f args w R) : CallsIn (FR rd) n P f args w R := callsIn_wide.2 h
/-- What is asked of a call of yield. -/
def YieldsOK (C : Ctx) (w0 : World) (yc : YieldF) : Prop := ∀ lim l args H v H1, yc lim l args H = some (v, H1) →
  ∀ Γ w vs u n, Rel C.P w0 Γ H w → RVs Γ H args vs → RV Γ H (.yld l) u →
    ∃ b, u = .func (.yield b) #[] #[] ∧ YieldAt Fence.wide n C.P b vs.toArray w fun e w' => ∃ x Γ', e = .returned x ∧ RV Γ' H1 v x ∧ Rel C.P w0 Γ' H1 w' ∧ Ext lim Γ H w Γ' H1 w'
theorem YieldsOK.none : YieldsOK C w0 noY := fun _ _ _ _ _ _ h => by cases h
theorem evOp_sound {call : CallF} {o : Oper} {s : Slots} {H : Heap} {K : AV → Heap → Res} {r : AV × Heap} {Γ : Gh} {a : Act} {w : World} {next : Act → World → Prop} {Q : Exit → Act → World → Prop} (hρ : Reads C w0) (hcall : CallsOK C w0 call)
    (h : evOp C call noY lim o s H K = some r) (R : Rel C.P w0 Γ H w) (hS : RS Γ H s a)
    (hn : ∀ v H' x w' Γ', K v H' = some r → RV Γ' H' v x → Rel C.P w0 Γ' H' w' → Ext lim Γ H w Γ' H' w' → next (a.put o.dst x) w') : o.wp C.P a w next Q := by
  have basic : ∀ {q : AV × Eff}, opA C lim s H o.op = some q → K q.1 (q.2.on H) = some r → o.wp C.P a w next Q := by
    intro q hq hK
    obtain ⟨nx, w', Γ', hrun, hv, hR, hE⟩ := opA_sound (o := o) hρ R hS hq
    unfold Oper.wp
    rw [hrun]
    rcases hv with ⟨x, rfl, hx⟩ | ⟨rfl, hv⟩
    · exact hn _ _ x w' Γ' hK hx hR hE
    · exact hn _ _ undef w' Γ' hK (by rw [hv]; exact RV.undef) hR hE
  unfold evOp at h
  split at h
  · rename_i f args ts ho
    split at h
    · obtain ⟨_, h, _⟩ := bind_some h; cases h
    obtain ⟨c, hc, h⟩ := bind_some h
    obtain ⟨⟨v, H1⟩, hcl, hK⟩ := bind_some h
    have hf := hS.opr f
    cases hq : oprA s f with
    | fn g first cap =>
      rw [hq] at hc hf
      cases g with
      | func g =>
        obtain rfl := Option.some.inj hc
        obtain ⟨va, vc, hfv, ha, hcp⟩ := hf
        have hargs := RVs.append (RVs.append ha (hS.args args.toList)) hcp
        have hok := hcall _ _ _ _ _ _ hcl Γ w _ R hargs
        have hexec : execOp a.eval o = callFunc g (va.toList ++ args.toList.map a.eval ++ vc.toList).toArray := by
          unfold execOp
          rw [ho]
          simp only [resolve, hfv, Deferred.ofValue]
          show callFunc g (va ++ args.map a.eval ++ vc) = _
          congr 1
          apply Array.toList_inj.1
          simp
        unfold Oper.wp
        rw [hexec]
        rcases hok with ⟨x, w', Γ', _, hrun, hx, hR, hE⟩ | ⟨hrun, hC⟩
        · rw [hrun]; exact hn _ _ x w' Γ' hK hx hR hE
        · rw [hrun]
          show Calls _ _ _ _ _
          refine Calls.mono hC fun e w' ⟨x, Γ', he, hx, hR, hE⟩ => ?_
          subst he
          exact hn _ _ x w' Γ' hK hx hR hE
      | _ => cases hc
    | _ => rw [hq] at hc; cases hc
  · obtain ⟨q, hq, hK⟩ := bind_some h
    rw [strA?_eq, applyK_eq] at hK
    exact basic hq hK
theorem evOpIn_sound {call : CallF} {yc : YieldF} {o : Oper} {s : Slots} {H : Heap} {K : AV → Heap → Res} {r : AV × Heap} {Γ : Gh} {a : Act} {w : World} {next : Act → World → Prop} {Q : Exit → Act → World → Prop} {rd : Option Nat} {n : Nat} (hρ : Reads C w0) (hcall : CallsOK C w0 call) (hy : YieldsOK C w0 yc)
    (h : evOp C call yc lim o s H K = some r) (R : Rel C.P w0 Γ H w) (hS : RS Γ H s a)
    (hn : ∀ v H' x w' Γ', K v H' = some r → RV Γ' H' v x → Rel C.P w0 Γ' H' w' → Ext lim Γ H w Γ' H' w' → next (a.put o.dst x) w') : o.wpIn (FR rd) n C.P a w next Q := by
  refine ⟨fun _ _ => trivial, ?_⟩
  have basic : ∀ {q : AV × Eff}, opA C lim s H o.op = some q → K q.1 (q.2.on H) = some r → o.uponIn (FR rd) n C.P a next Q ((o.semAt (FR rd).round a.eval).run C.P w) := by
    intro q hq hK
    rw [Oper.semAt_eq _ _ _ (fun c hc => by rw [hc] at hq; cases hq)]
    obtain ⟨nx, w', Γ', hrun, hv, hR, hE⟩ := opA_sound (o := o) hρ R hS hq
    rw [hrun]
    rcases hv with ⟨x, rfl, hx⟩ | ⟨rfl, hv⟩
    · exact hn _ _ x w' Γ' hK hx hR hE
    · exact hn _ _ undef w' Γ' hK (by rw [hv]; exact RV.undef) hR hE
  unfold evOp at h
  split at h
  · rename_i f args ts ho
    rw [Oper.semAt_eq _ _ _ (fun c hc => by rw [ho] at hc; cases hc)]
    have hf := hS.opr f
    split at h
    · rename_i l hq
      obtain ⟨⟨v, H1⟩, hyl, hK⟩ := bind_some h
      rw [hq] at hf
      obtain ⟨b, hfv, fn, tmps, as, bd, hrun, hR⟩ := hy _ _ _ _ _ _ hyl Γ w _ _ (n - 1) R (hS.args args.toList) hf
      have hexec : execOp a.eval o = Instr.yield b (args.toList.map a.eval).toArray := by
        unfold execOp
        rw [ho]
        simp only [resolve, hfv, Deferred.ofValue]
        show Instr.yield b (#[] ++ args.map a.eval) = _
        congr 1
        apply Array.toList_inj.1
        simp
      rw [hexec, hrun]
      refine ⟨fun h => (by cases h), ?_⟩
      refine RoundIn.mono (F := FR rd) hR fun e w' ⟨x, Γ', he, hx, hR, hE⟩ => ?_
      subst he
      exact hn _ _ x w' Γ' hK hx hR hE
    obtain ⟨c, hc, h⟩ := bind_some h
    obtain ⟨⟨v, H1⟩, hcl, hK⟩ := bind_some h
    cases hq : oprA s f with
    | fn g first cap =>
      rw [hq] at hc hf
      cases g with
      | func g =>
        obtain rfl := Option.some.inj hc
        obtain ⟨va, vc, hfv, ha, hcp⟩ := hf
        have hargs := RVs.append (RVs.append ha (hS.args args.toList)) hcp
        have hok := hcall _ _ _ _ _ _ hcl Γ w _ R hargs
        have hexec : execOp a.eval o = callFunc g (va.toList ++ args.toList.map a.eval ++ vc.toList).toArray := by
          unfold execOp
          rw [ho]
          simp only [resolve, hfv, Deferred.ofValue]
          show callFunc g (va ++ args.map a.eval ++ vc) = _
          congr 1
          apply Array.toList_inj.1
          simp
        rw [hexec]
        rcases hok with ⟨x, w', Γ', _, hrun, hx, hR, hE⟩ | ⟨hrun, hC⟩
        · rw [hrun]; exact hn _ _ x w' Γ' hK hx hR hE
        · rw [hrun]
          refine ⟨fun h => (by cases h), FR.calls (Calls.mono hC fun e w' ⟨x, Γ', he, hx, hR, hE⟩ => ?_)⟩
          subst he
          exact hn _ _ x w' Γ' hK hx hR hE
      | _ => cases hc
    | _ => rw [hq] at hc; cases hc
  · obtain ⟨q, hq, hK⟩ := bind_some h
    rw [strA?_eq, applyK_eq] at hK
    exact basic hq hK
theorem evOps_sound {call : CallF} {yc : YieldF} {rd : Option Nat} {n : Nat} {ops : Array Oper} {r : AV × Heap} {Q : Exit → Act → World → Prop} {K : Slots → Heap → Res} (hρ : Reads C w0) (hcall : CallsOK C w0 call) (hy : YieldsOK C w0 yc) : ∀ (l : List Oper) (s : Slots) (H : Heap) (Γ : Gh) (a : Act) (w : World),
    evOps C call yc lim ops l s H K = some r → Rel C.P w0 Γ H w → RS Γ H s a →
    (∀ s' H' Γ' a' w', K s' H' = some r → Ext lim Γ H w Γ' H' w' → Rel C.P w0 Γ' H' w' → RS Γ' H' s' a' → a'.defers = a.defers → Q .normal a' w') → wpListIn (FR rd) n C.P ops Q l a w := by
  intro l
  induction l with
  | nil => intro s H Γ a w h R hS hQ; exact hQ s H Γ a w h (Ext.refl _ _ _ _) R hS rfl
  | cons o l ih =>
    intro s H Γ a w h R hS hQ
    unfold evOps at h
    obtain ⟨b, hb, h⟩ := bind_some h
    have hw := wantA_sound hS hb
    have hput : ∀ (d : Option Tmp) (x : Value), (a.put d x).defers = a.defers := fun d x => by cases d <;> rfl
    unfold wpListIn
    cases b with
    | true =>
      rw [if_pos hw]
      refine evOpIn_sound hρ hcall hy (by simpa using h) R hS fun v H' x w' Γ' hK hx hR hE => ?_
      rw [putA_eq] at hK
      exact ih _ _ Γ' _ _ hK hR ((hS.mono hE.le).put o.dst hx) fun s' H'' Γ'' a' w'' hk hE' hR' hS' hd => hQ s' H'' Γ'' a' w'' hk (hE.trans hE') hR' hS' (hd.trans (hput _ _))
    | false =>
      rw [if_neg (by rw [hw]; simp)]
      simp only [cond_false] at h
      rw [putA_eq] at h
      refine ⟨fun _ _ => trivial, ?_⟩
      exact ih _ _ Γ _ _ h R (hS.put o.dst RV.undef) fun s' H'' Γ'' a' w'' hk hE' hR' hS' hd => hQ s' H'' Γ'' a' w'' hk hE' hR' hS' (hd.trans (hput _ _))
end
end Go.Ev
