/- Part 2: EvE EvH EvG EvI EvJ EvFA EvF EvK EvKR EvO EvL EvM EvN EvP EvSl EvBits EvBd EvGe EvWp EvSt. -/
import Derived.Test.YtkmohjddojpdjabBnA
import Derived.LoopN
import Derived.Tactics
import Derived.TacticsIn
import Derived.LoopNIn
import Derived.RangeFuncLeaves
import Derived.RangeFuncRecord
import Derived.RangeFuncSeq
import Derived.Laws.Externs
import Derived.Laws.LoneSync
import Derived.Lib.Bytealg
import Derived.ProofKit
import Derived.OpenShut
import Derived.ShutString
import Derived.ChangeOld
import Derived.Carry
import Derived.Laws.Strings
import Derived.DataElems
import Derived.Laws.BitsAllLaws
-- part EvE
/- EvE: the evaluator is right: operations, regions, code. -/
set_option linter.unusedVariables false
set_option linter.unusedSimpArgs false
namespace Go.Ev
open Go.RowKit
section
variable {C : Ctx} {w0 : World} {lim : Nat}
/-- What is asked of a call: a value at once, or a function that returns it. -/
def CallOK (P : Program) (w0 : World) (lim : Nat) (Γ : Gh) (H : Heap) (w : World) (f : FuncId) (args : Array Value) (g : AV × Heap → Prop) : Prop :=
  (∃ x w' Γ' v H1,g (v,H1) ∧ hasBody P f = false ∧ (callFunc f args).run P w = .ok (.value x) w' ∧ RV Γ' H1 v x ∧ Rel P w0 Γ' H1 w' ∧ Ext lim Γ H w Γ' H1 w') ∨
  ((callFunc f args).run P w = .ok (.enter f args) w ∧ Calls P f args w fun e w' => ∃ x Γ' v H1,g (v,H1) ∧ e = .returned x ∧ RV Γ' H1 v x ∧ Rel P w0 Γ' H1 w' ∧ Ext lim Γ H w Γ' H1 w')
def CallsOK (C : Ctx) (w0 : World) (call : CallF) : Prop := ∀ lim f args H g,(call lim f args H).Ok g →
  ∀ Γ w vs,Rel C.P w0 Γ H w → RVs Γ H args vs → CallOK C.P w0 lim Γ H w f vs.toArray g

theorem wantA_sound {Γ : Gh} {H : Heap} {ops : Array Oper} {s : Slots} {a : Act} {o : Oper} {b : Bool} (hS : RS Γ H s a) (h : wantA ops s o = some b) : Region.wanted o (yielded ops a.tmps) = b := by
  unfold wantA at h
  unfold Region.wanted
  cases hg : o.guard with
  | none => rw [hg] at h; obtain rfl := Option.some.inj h; rfl
  | some jw =>
    obtain ⟨j,want⟩ := jw
    rw [hg] at h
    simp only at h ⊢
    unfold yielded
    cases hd : (ops[j]?).bind (·.dst) with
    | none => rw [hd] at h; obtain rfl := Option.some.inj h; simp
    | some d =>
      rw [hd] at h
      simp only at h
      simp only [Option.bind_some]
      split at h
      · rename_i x hc
        unfold wantV at h
        split at h
        · rename_i c
          obtain rfl := Option.some.inj h
          obtain ⟨x,hx,hr⟩ := RVs.get hS d _ hc
          simp only [RV] at hr
          subst hr
          have : a.tmps[d]? = some (.bool c) := by simpa using hx
          simp [this]
        · obtain rfl := Option.some.inj h
          obtain ⟨x,hx,hr⟩ := RVs.get hS d _ hc
          obtain ⟨vs,rfl,_⟩ := hr
          have : a.tmps[d]? = some (.tuple vs) := by simpa using hx
          simp [this]
        · cases h
      · rename_i hc
        obtain rfl := Option.some.inj h
        have hl := RVs.length hS
        have : a.tmps[d]? = none := by
          have := List.getElem?_eq_none_iff.1 hc
          apply Array.getElem?_eq_none
          rw [← Array.length_toList,← hl]; exact this
        simp [this]
/-- Frames of a function, or of a round. -/
def FR (rd : Option Nat) : Fence := { Fence.wide with round := rd }
theorem FR.none : FR none = Fence.wide := rfl
theorem FR.calls {rd : Option Nat} {n : Nat} {P : Program} {f : FuncId} {args : Array Value} {w : World} {R : Ending → World → Prop} (h : Calls P f args w R) : CallsIn (FR rd) n P f args w R := callsIn_wide.2 h
/-- What is asked of a call of yield. -/
def YieldsOK (C : Ctx) (w0 : World) (yc : YieldF) : Prop := ∀ lim l args H g,(yc lim l args H).Ok g →
  ∀ Γ w vs u n,Rel C.P w0 Γ H w → RVs Γ H args vs → RV Γ H (.yld l) u →
    ∃ b,u = .func (.yield b) #[] #[] ∧ YieldAt Fence.wide n C.P b vs.toArray w fun e w' => ∃ x Γ' v H1,g (v,H1) ∧ e = .returned x ∧ RV Γ' H1 v x ∧ Rel C.P w0 Γ' H1 w' ∧ Ext lim Γ H w Γ' H1 w'
theorem YieldsOK.none : YieldsOK C w0 noY := fun _ _ _ _ _ h => h.elim
/-- One of these. -/
theorem anyF_sound {b : Bool} {it : AV} {u : Value} {s : Bool} {ty : TypeId} {H : Heap} {K : AV → Heap → Res} {g : AV × Heap → Prop} {Γ : Gh} {w : World} (R : Rel C.P w0 Γ H w) (hx : RV Γ H it u) (h : (anyF b H (outsA lim H it s) K).Ok g) :
    ∃ v f,(K v (f.on H)).Ok g ∧ Good C.P w0 lim Γ H w v f (Instr.next u s ty) := by
  unfold outsA at h
  cases hn : nextA lim H it s with
  | some r =>
    rw [hn] at h
    simp only [anyF,strA?_eq,applyK_eq] at h
    exact ⟨_,_,h,nextA_sound ty R hn hx⟩
  | none =>
    rw [hn] at h
    simp only at h
    cases s with
    | true => exact h.elim
    | false =>
      simp only [cond_false] at h
      cases hl : nextsA lim H it with
      | none => rw [hl] at h; exact h.elim
      | some l =>
        rw [hl] at h
        obtain ⟨i,r,hi,hr,hg⟩ := nextsA_sound ty R hl hx
        unfold anyF at h
        split at h
        · cases ‹_ = _›
        · rename_i q e
          obtain rfl := Option.some.inj e
          have : i = 0 := by simpa using hi
          subst this
          obtain rfl : q = r := by simpa using hr
          simp only [strA?_eq,applyK_eq] at h
          exact ⟨_,_,h,hg⟩
        · rename_i l' _ e
          obtain rfl := Option.some.inj e
          have := h i hi
          simp only [hr,bindR_some,strA?_eq,applyK_eq] at this
          exact ⟨_,_,this,hg⟩
theorem evOp_sound {call : CallF} {o : Oper} {s : Slots} {H : Heap} {K : AV → Heap → Res} {g : AV × Heap → Prop} {Γ : Gh} {a : Act} {w : World} {next : Act → World → Prop} {Q : Exit → Act → World → Prop} (hρ : Reads C w0) (hcall : CallsOK C w0 call)
    (h : (evOp C call noY lim o s H K).Ok g) (R : Rel C.P w0 Γ H w) (hS : RS Γ H s a)
    (hn : ∀ v H' x w' Γ',(K v H').Ok g → RV Γ' H' v x → Rel C.P w0 Γ' H' w' → Ext lim Γ H w Γ' H' w' → next (a.put o.dst x) w') : o.wp C.P a w next Q := by
  have basic : ∀ {q : AV × Eff},opA C lim s H o.op = some q → (K q.1 (q.2.on H)).Ok g → o.wp C.P a w next Q := by
    intro q hq hK
    obtain ⟨nx,w',Γ',hrun,hv,hR,hE⟩ := opA_sound (o := o) hρ R hS hq
    unfold Oper.wp
    rw [hrun]
    rcases hv with ⟨x,rfl,hx⟩ | ⟨rfl,hv⟩
    · exact hn _ _ x w' Γ' hK hx hR hE
    · exact hn _ _ undef w' Γ' hK (by rw [hv]; exact RV.undef) hR hE
  have next : ∀ {it : Operand} {b : Bool} {x : Value} {w' : World} {v : AV} {f : Eff} {Γ' : Gh},o.op = .next it b → (Instr.next (a.eval it) b o.type).run C.P w = .ok x w' → (K v (f.on H)).Ok g → RV Γ' (f.on H) v x → Rel C.P w0 Γ' (f.on H) w' → Ext lim Γ H w Γ' (f.on H) w' → o.wp C.P a w next Q := by
    intro it b x w' v f Γ' ho hrun hK hx hR hE
    have hexec : execOp a.eval o = (Instr.next (a.eval it) b o.type).bind fun x => Sem.pure (.value x) := by unfold execOp; rw [ho]; rfl
    unfold Oper.wp
    rw [hexec]
    have : ((Instr.next (a.eval it) b o.type).bind fun x => Sem.pure (Next.value x)).run C.P w = .ok (.value x) w' := by
      show (Instr.next (a.eval it) b o.type >>= fun x => Sem.pure (Next.value x)).run C.P w = _
      rw [Sem.run_bind,hrun]; rfl
    rw [this]
    exact hn _ _ x w' Γ' hK hx hR hE
  unfold evOp at h
  split at h
  · rename_i f args ts ho
    split at h
    · exact (ok_bind.1 h).elim
    obtain ⟨c,hc,h⟩ := ok_bindR h
    have hcl := ok_bind.1 h
    have hf := hS.opr f
    cases hq : oprA s f with
    | fn q first cap =>
      rw [hq] at hc hf
      cases q with
      | func q =>
        obtain rfl := Option.some.inj hc
        obtain ⟨va,vc,hfv,ha,hcp⟩ := hf
        have hargs := RVs.append (RVs.append ha (hS.args args.toList)) hcp
        have hok := hcall _ _ _ _ _ hcl Γ w _ R hargs
        have hexec : execOp a.eval o = callFunc q (va.toList ++ args.toList.map a.eval ++ vc.toList).toArray := by
          unfold execOp
          rw [ho]
          simp only [resolve,hfv,Deferred.ofValue]
          show callFunc q (va ++ args.map a.eval ++ vc) = _
          congr 1
          apply Array.toList_inj.1
          simp
        unfold Oper.wp
        rw [hexec]
        rcases hok with ⟨x,w',Γ',v,H1,hK,_,hrun,hx,hR,hE⟩ | ⟨hrun,hC⟩
        · rw [hrun]; exact hn _ _ x w' Γ' hK hx hR hE
        · rw [hrun]
          show Calls _ _ _ _ _
          refine Calls.mono hC fun e w' ⟨x,Γ',v,H1,hK,he,hx,hR,hE⟩ => ?_
          subst he
          exact hn _ _ x w' Γ' hK hx hR hE
      | _ => cases hc
    | _ => rw [hq] at hc; cases hc
  · rename_i it b ho
    obtain ⟨v,f,hK,x,w',Γ',hrun,hx,hR,hE⟩ := anyF_sound (ty := o.type) R (hS.opr it) h
    exact next ho hrun hK hx hR hE
  · obtain ⟨q,hq,hK⟩ := ok_bindR h
    rw [strA?_eq,applyK_eq] at hK
    exact basic hq hK
theorem evOpIn_sound {call : CallF} {yc : YieldF} {o : Oper} {s : Slots} {H : Heap} {K : AV → Heap → Res} {g : AV × Heap → Prop} {Γ : Gh} {a : Act} {w : World} {next : Act → World → Prop} {Q : Exit → Act → World → Prop} {rd : Option Nat} {n : Nat} (hρ : Reads C w0) (hcall : CallsOK C w0 call) (hy : YieldsOK C w0 yc)
    (h : (evOp C call yc lim o s H K).Ok g) (R : Rel C.P w0 Γ H w) (hS : RS Γ H s a)
    (hn : ∀ v H' x w' Γ',(K v H').Ok g → RV Γ' H' v x → Rel C.P w0 Γ' H' w' → Ext lim Γ H w Γ' H' w' → next (a.put o.dst x) w') : o.wpIn (FR rd) n C.P a w next Q := by
  refine ⟨fun _ _ => trivial,?_⟩
  have basic : ∀ {q : AV × Eff},opA C lim s H o.op = some q → (K q.1 (q.2.on H)).Ok g → o.uponIn (FR rd) n C.P a next Q ((o.semAt (FR rd).round a.eval).run C.P w) := by
    intro q hq hK
    rw [Oper.semAt_eq _ _ _ (fun c hc => by rw [hc] at hq; cases hq)]
    obtain ⟨nx,w',Γ',hrun,hv,hR,hE⟩ := opA_sound (o := o) hρ R hS hq
    rw [hrun]
    rcases hv with ⟨x,rfl,hx⟩ | ⟨rfl,hv⟩
    · exact hn _ _ x w' Γ' hK hx hR hE
    · exact hn _ _ undef w' Γ' hK (by rw [hv]; exact RV.undef) hR hE
  have next : ∀ {it : Operand} {b : Bool} {x : Value} {w' : World} {v : AV} {f : Eff} {Γ' : Gh},o.op = .next it b → (Instr.next (a.eval it) b o.type).run C.P w = .ok x w' → (K v (f.on H)).Ok g → RV Γ' (f.on H) v x → Rel C.P w0 Γ' (f.on H) w' → Ext lim Γ H w Γ' (f.on H) w' → o.uponIn (FR rd) n C.P a next Q ((o.semAt (FR rd).round a.eval).run C.P w) := by
    intro it b x w' v f Γ' ho hrun hK hx hR hE
    rw [Oper.semAt_eq _ _ _ (fun c hc => by rw [hc] at ho; cases ho)]
    have hexec : execOp a.eval o = (Instr.next (a.eval it) b o.type).bind fun x => Sem.pure (.value x) := by unfold execOp; rw [ho]; rfl
    rw [hexec]
    have : ((Instr.next (a.eval it) b o.type).bind fun x => Sem.pure (Next.value x)).run C.P w = .ok (.value x) w' := by
      show (Instr.next (a.eval it) b o.type >>= fun x => Sem.pure (Next.value x)).run C.P w = _
      rw [Sem.run_bind,hrun]; rfl
    rw [this]
    exact hn _ _ x w' Γ' hK hx hR hE
  unfold evOp at h
  split at h
  · rename_i f args ts ho
    rw [Oper.semAt_eq _ _ _ (fun c hc => by rw [ho] at hc; cases hc)]
    have hf := hS.opr f
    split at h
    · rename_i l hq
      have hyl := ok_bind.1 h
      rw [hq] at hf
      obtain ⟨b,hfv,fn,tmps,as,bd,hrun,hR⟩ := hy _ _ _ _ _ hyl Γ w _ _ (n - 1) R (hS.args args.toList) hf
      have hexec : execOp a.eval o = Instr.yield b (args.toList.map a.eval).toArray := by
        unfold execOp
        rw [ho]
        simp only [resolve,hfv,Deferred.ofValue]
        show Instr.yield b (#[] ++ args.map a.eval) = _
        congr 1
        apply Array.toList_inj.1
        simp
      rw [hexec,hrun]
      refine ⟨fun h => (by cases h),?_⟩
      refine RoundIn.mono (F := FR rd) hR fun e w' ⟨x,Γ',v,H1,hK,he,hx,hR,hE⟩ => ?_
      subst he
      exact hn _ _ x w' Γ' hK hx hR hE
    obtain ⟨c,hc,h⟩ := ok_bindR h
    have hcl := ok_bind.1 h
    cases hq : oprA s f with
    | fn q first cap =>
      rw [hq] at hc hf
      cases q with
      | func q =>
        obtain rfl := Option.some.inj hc
        obtain ⟨va,vc,hfv,ha,hcp⟩ := hf
        have hargs := RVs.append (RVs.append ha (hS.args args.toList)) hcp
        have hok := hcall _ _ _ _ _ hcl Γ w _ R hargs
        have hexec : execOp a.eval o = callFunc q (va.toList ++ args.toList.map a.eval ++ vc.toList).toArray := by
          unfold execOp
          rw [ho]
          simp only [resolve,hfv,Deferred.ofValue]
          show callFunc q (va ++ args.map a.eval ++ vc) = _
          congr 1
          apply Array.toList_inj.1
          simp
        rw [hexec]
        rcases hok with ⟨x,w',Γ',v,H1,hK,_,hrun,hx,hR,hE⟩ | ⟨hrun,hC⟩
        · rw [hrun]; exact hn _ _ x w' Γ' hK hx hR hE
        · rw [hrun]
          refine ⟨fun h => (by cases h),FR.calls (Calls.mono hC fun e w' ⟨x,Γ',v,H1,hK,he,hx,hR,hE⟩ => ?_)⟩
          subst he
          exact hn _ _ x w' Γ' hK hx hR hE
      | _ => cases hc
    | _ => rw [hq] at hc; cases hc
  · rename_i it b ho
    obtain ⟨v,f,hK,x,w',Γ',hrun,hx,hR,hE⟩ := anyF_sound (ty := o.type) R (hS.opr it) h
    exact next ho hrun hK hx hR hE
  · obtain ⟨q,hq,hK⟩ := ok_bindR h
    rw [strA?_eq,applyK_eq] at hK
    exact basic hq hK
theorem evOps_sound {call : CallF} {yc : YieldF} {rd : Option Nat} {n : Nat} {ops : Array Oper} {g : AV × Heap → Prop} {Q : Exit → Act → World → Prop} {K : Slots → Heap → Res} (hρ : Reads C w0) (hcall : CallsOK C w0 call) (hy : YieldsOK C w0 yc) : ∀ (l : List Oper) (s : Slots) (H : Heap) (Γ : Gh) (a : Act) (w : World),
    (evOps C call yc lim ops l s H K).Ok g → Rel C.P w0 Γ H w → RS Γ H s a →
    (∀ s' H' Γ' a' w',(K s' H').Ok g → Ext lim Γ H w Γ' H' w' → Rel C.P w0 Γ' H' w' → RS Γ' H' s' a' → a'.defers = a.defers → Q .normal a' w') → wpListIn (FR rd) n C.P ops Q l a w := by
  intro l
  induction l with
  | nil => intro s H Γ a w h R hS hQ; exact hQ s H Γ a w h (Ext.refl _ _ _ _) R hS rfl
  | cons o l ih =>
    intro s H Γ a w h R hS hQ
    unfold evOps at h
    obtain ⟨b,hb,h⟩ := ok_bindR h
    have hw := wantA_sound hS hb
    have hput : ∀ (d : Option Tmp) (x : Value),(a.put d x).defers = a.defers := fun d x => by cases d <;> rfl
    unfold wpListIn
    cases b with
    | true =>
      rw [if_pos hw]
      refine evOpIn_sound hρ hcall hy (by simpa using h) R hS fun v H' x w' Γ' hK hx hR hE => ?_
      rw [putA_eq] at hK
      exact ih _ _ Γ' _ _ hK hR ((hS.mono hE.le).put o.dst hx) fun s' H'' Γ'' a' w'' hk hE' hR' hS' hd => hQ s' H'' Γ'' a' w'' hk (hE.trans hE') hR' hS' (hd.trans (hput _ _))
    | false =>
      rw [if_neg (by rw [hw]; simp)]
      simp only [cond_false] at h
      rw [putA_eq] at h
      refine ⟨fun _ _ => trivial,?_⟩
      exact ih _ _ Γ _ _ h R (hS.put o.dst RV.undef) fun s' H'' Γ'' a' w'' hk hE' hR' hS' hd => hQ s' H'' Γ'' a' w'' hk hE' hR' hS' (hd.trans (hput _ _))
end
end Go.Ev

-- part EvH
/- EvH: what is asked of a region that draws its order: operands, masks, the same value. -/
set_option linter.unusedVariables false
set_option linter.unusedSimpArgs false
namespace Go.Ev
open Go.RowKit
section
variable {C : Ctx} {lim : Nat} {ops : Array Oper}
theorem eqX_eq {u v : Value} (h : eqX u v = true) : u = v := by
  unfold eqX at h
  split at h
  · simp only [Bool.and_eq_true,decide_eq_true_eq,Nat.beq_eq] at h
    obtain ⟨rfl,rfl⟩ := h; rfl
  · cases h
mutual
theorem AV.eqv_eq : ∀ (u v : AV),AV.eqv u v = true → u = v := by
  intro u v h
  cases u <;> cases v <;> simp only [AV.eqv,Bool.false_eq_true] at h <;> (try simp only [Bool.and_eq_true,decide_eq_true_eq,beq_iff_eq,Nat.beq_eq] at h)
  case any.any => rfl
  case int.int => obtain ⟨rfl,rfl⟩ := h; rfl
  case bool.bool => subst h; rfl
  case str.str a b => rw [show a = b from by cases a; cases b; exact congrArg ByteArray.mk (eq_of_beq (α := Array UInt8) h)]
  case nilp.nilp => rfl
  case ptr.ptr => obtain ⟨⟨rfl,rfl⟩,rfl⟩ := h; rfl
  case nils.nils => rfl
  case sl.sl => obtain ⟨⟨⟨⟨⟨rfl,rfl⟩,rfl⟩,rfl⟩,rfl⟩,rfl⟩ := h; rfl
  case sx.sx => subst h; rfl
  case xp.xp => subst h; rfl
  case xs.xs => obtain ⟨⟨rfl,rfl⟩,rfl⟩ := h; rfl
  case nilm.nilm => rfl
  case mp.mp => subst h; rfl
  case nilf.nilf => rfl
  case fn.fn => obtain ⟨⟨rfl,h1⟩,h2⟩ := h; rw [AV.eqvs_eq _ _ h1,AV.eqvs_eq _ _ h2]
  case nili.nili => rfl
  case ext.ext => rw [eqX_eq h]
  case ifc.ifc => obtain ⟨rfl,h1⟩ := h; rw [AV.eqv_eq _ _ h1]
  case agg.agg => rw [AV.eqvs_eq _ _ h]
  case tup.tup => rw [AV.eqvs_eq _ _ h]
theorem AV.eqvs_eq : ∀ (u v : List AV),AV.eqvs u v = true → u = v := by
  intro u v h
  cases u <;> cases v <;> simp only [AV.eqvs,Bool.false_eq_true] at h
  · rfl
  · simp only [Bool.and_eq_true] at h
    rw [AV.eqv_eq _ _ h.1,AV.eqvs_eq _ _ h.2]
end

theorem opA_congr {s s' : Slots} (H : Heap) (op : Op) (h : ∀ x ∈ op.operands,oprA s x = oprA s' x) : opA C lim s H op = opA C lim s' H op := by
  have pairs : ∀ ps : Array (Nat × Operand),(∀ x ∈ ps.map (·.2),oprA s x = oprA s' x) →
      (ps.toList.map fun p => (p.1,oprA s p.2)) = (ps.toList.map fun p => (p.1,oprA s' p.2)) := fun ps hp =>
    List.map_congr_left fun p hm => by
      obtain ⟨i,x⟩ := p
      simp only [hp x (Array.mem_map.2 ⟨(i,x),by simpa using hm,rfl⟩)]
  have args : ∀ ps : Array Operand,(∀ x ∈ ps,oprA s x = oprA s' x) → ps.toList.map (oprA s) = ps.toList.map (oprA s') := fun ps hp =>
    List.map_congr_left fun x hx => hp x (by simpa using hx)
  cases op <;> simp only [Op.operands] at h
  case build t ps => simp only [opA]; rw [pairs ps fun x hx => h x (by simpa using hx)]
  case buildSlice t n ps => simp only [opA]; rw [pairs ps fun x hx => h x (by simpa using hx)]
  case makeFunc fn first captured =>
    simp only [opA]
    rw [args first fun x hx => h x (by simp [hx]),args captured fun x hx => h x (by simp [hx])]
  case call c =>
    obtain ⟨f,as,ts⟩ := c
    cases f with
    | builtin b => simp only [opA]; rw [args as fun x hx => h x (by simp [Call.operands,hx])]
    | _ => rfl
  case slice t x lo hi mx => cases lo <;> cases hi <;> cases mx <;> simp_all [opA]
  case makeMap t r => cases r <;> simp_all [opA]
  all_goals (first | rfl | (simp_all [opA]; done))
theorem wantA_congr {s s' : Slots} {o : Oper} (h : ∀ j w d,o.guard = some (j,w) → (ops[j]?).bind (·.dst) = some d → s[d]? = s'[d]?) : wantA ops s o = wantA ops s' o := by
  unfold wantA
  cases hg : o.guard with
  | none => rfl
  | some q =>
    obtain ⟨j,w⟩ := q
    simp only
    cases hd : (ops[j]?).bind (·.dst) with
    | none => rfl
    | some d => simp only; rw [h j w d hg hd]
/-- The two agree on all that the operation looks at. -/
def Agree (ops : Array Oper) (o : Oper) (s s' : Slots) : Prop := ∀ d ∈ o.looksAt ops,s[d]? = s'[d]?
theorem Agree.opr {o : Oper} {s s' : Slots} (h : Agree ops o s s') : ∀ x ∈ o.op.operands,oprA s x = oprA s' x := by
  intro x hx
  cases x with
  | tmp t =>
    have := h t (List.mem_append_left _ (List.mem_filterMap.2 ⟨.tmp t,by simpa using hx,rfl⟩))
    simp only [oprA,List.getD,this]
  | _ => rfl
theorem Agree.want {o : Oper} {s s' : Slots} (h : Agree ops o s s') : wantA ops s o = wantA ops s' o :=
  wantA_congr fun j w d hg hd => h d (List.mem_append_right _ (by rw [hg]; simp [hd]))
theorem Agree.op {o : Oper} {s s' : Slots} (h : Agree ops o s s') (H : Heap) : opA C lim s H o.op = opA C lim s' H o.op := opA_congr H _ h.opr
theorem Agree.evOp {call : CallF} {yc : YieldF} {o : Oper} {s s' : Slots} (h : Agree ops o s s') (H : Heap) (K : AV → Heap → Res) : evOp C call yc lim o s H K = evOp C call yc lim o s' H K := by
  have h1 := h.opr
  have h2 := h.op (C := C) (lim := lim) H
  obtain ⟨dst,op,type,pos,after,guard⟩ := o
  unfold Ev.evOp
  cases op <;> simp only <;> (try (simp only at h2; rw [h2]; done))
  case call c =>
    obtain ⟨f,as,ts⟩ := c
    cases f with
    | value f =>
      simp only
      have ha : as.toList.map (oprA s) = as.toList.map (oprA s') := List.map_congr_left fun x hx => h1 x (by simp only [Op.operands,Call.operands]; simp at hx; simp [hx])
      rw [ha,h1 f (by simp [Op.operands,Call.operands])]
    | _ => simp only at h2; simp only [h2]
  case next it b => rw [h1 it (by simp [Op.operands])]
theorem Agree.put {o : Oper} {s : Slots} {d : Option Tmp} {v : AV} (h : ∀ t,d = some t → t ∉ o.looksAt ops) : Agree ops o (s.put d v) s := by
  intro t ht
  cases d with
  | none => rfl
  | some d =>
    have : d ≠ t := fun e => h d rfl (e ▸ ht)
    simp [Slots.put,this]
theorem Agree.keep {o : Oper} {s : Slots} : Agree ops o (Ev.keep (o.looksAt ops) 0 s) s := by
  have mem : ∀ (i : Nat) (L : List Nat),i ∈ L → memN i L = true := by
    intro i L
    induction L with
    | nil => intro h; cases h
    | cons x r ih =>
      intro h
      simp only [memN]
      rcases List.mem_cons.1 h with rfl | h
      · simp
      · cases Nat.beq x i <;> simp [ih h]
  have key : ∀ (L : List Nat) (s : Slots) (i d : Nat),(i + d) ∈ L → (Ev.keep L i s)[d]? = s[d]? := by
    intro L s
    induction s with
    | nil => intro i d _; rfl
    | cons x r ih =>
      intro i d hd
      cases d with
      | zero => simp [Ev.keep,mem i L (by simpa using hd)]
      | succ d => simpa [Ev.keep] using ih (i + 1) d (by rw [Nat.add_right_comm]; exact hd)
  intro d hd
  exact key _ s 0 d (by simpa using hd)
theorem opA_pure {s : Slots} {op : Op} (h : isPure op = true) (H H' : Heap) (lim' : Nat) : opA C lim s H op = opA C lim' s H' op := by
  cases op <;> simp only [isPure,Bool.false_eq_true] at h <;> (first | rfl | (rename_i c; obtain ⟨f,as,ts⟩ := c; cases f <;> cases h))
def AV.at (l : Nat) : AV → AV
  | .ptr _ v o => .ptr l v o
  | .sl _ v o n c m => .sl l v o n c m
  | v => v
theorem opA_mk {s : Slots} {op : Op} {H : Heap} {v : AV} {f : Eff} (h : isMk op = true) (hv : opA C lim s H op = some (v,f)) :
    ∃ ob,f = .new ob ∧ ob.ver = 0 ∧ (v = .ptr H.sz 0 0 ∨ ∃ n,v = .sl H.sz 0 0 n n false) ∧ ∀ lim' H',opA C lim' s H' op = some (v.at H'.sz,.new ob) := by
  cases op <;> simp only [isMk,Bool.false_eq_true] at h
  case alloc e =>
    simp only [opA,allocA] at hv ⊢
    cases hz : zeroA C.P e with
    | none => rw [hz] at hv; cases hv
    | some z =>
      rw [hz] at hv
      simp only [Option.map_some,Option.some.injEq,Prod.mk.injEq] at hv
      obtain ⟨rfl,rfl⟩ := hv
      exact ⟨_,rfl,rfl,.inl rfl,fun _ _ => rfl⟩
  case buildSlice t n ps =>
    simp only [opA,buildSliceA] at hv ⊢
    split at hv
    · rename_i e he
      cases hs : szA C.P e with
      | none => rw [hs] at hv; cases hv
      | some sz =>
        rw [hs] at hv
        simp only [Option.bind_some] at hv ⊢
        cases hb : (Nat.ble (n * sz) 16777216 && !(sz == 0)) with
        | false => rw [hb] at hv; cases hv
        | true =>
          rw [hb] at hv
          simp only [cond_true] at hv ⊢
          cases hz : zeroA C.P e with
          | none => rw [hz] at hv; cases hv
          | some z =>
            rw [hz] at hv
            simp only [Option.bind_some] at hv ⊢
            cases hl : (z.cells.length == sz) with
            | false => rw [hl] at hv; cases hv
            | true =>
              rw [hl] at hv
              simp only [cond_true] at hv ⊢
              cases hf : fillA (fun i => some (i * sz,sz)) (repeatL z.cells n) (ps.toList.map fun p => (p.1,oprA s p.2)) with
              | none => rw [hf] at hv; cases hv
              | some cs =>
                rw [hf] at hv
                simp only [Option.map_some,Option.some.injEq,Prod.mk.injEq] at hv
                obtain ⟨rfl,rfl⟩ := hv
                exact ⟨_,rfl,rfl,.inr ⟨n,rfl⟩,fun _ _ => rfl⟩
    · cases hv
-- masks
def Ahead (ops : List Oper) (ms : List Nat) (i j : Nat) : Prop := ∃ o e,ops[i]? = some o ∧ e ∈ o.after.toList ∧ Region.binds .any e = true ∧ (e.on = j ∨ (ms.getD e.on 0).testBit j = true)
theorem masks_spec (i j : Nat) (h : ((masks ops).getD i 0).testBit j = true) : Ahead ops.toList (masks ops) i j := by
  have inner : ∀ (acc : List Nat) (es : List Edge) (m : Nat) (j : Nat),(es.foldl (fun m e => bif Region.binds .any e then m ||| 2 ^ e.on ||| acc.getD e.on 0 else m) m).testBit j = true →
      m.testBit j = true ∨ ∃ e ∈ es,Region.binds .any e = true ∧ (e.on = j ∨ (acc.getD e.on 0).testBit j = true) := by
    intro acc es
    induction es with
    | nil => intro m j h; exact .inl h
    | cons e es ih =>
      intro m j h
      rw [List.foldl_cons] at h
      rcases ih _ j h with h | ⟨e',he',hb⟩
      · cases hb : Region.binds .any e with
        | false => rw [hb] at h; exact .inl h
        | true =>
          rw [hb] at h
          simp only [cond_true,Nat.testBit_or,Bool.or_eq_true,Nat.testBit_two_pow,decide_eq_true_eq] at h
          rcases h with (h | h) | h
          · exact .inl h
          · exact .inr ⟨e,by simp,hb,.inl h⟩
          · exact .inr ⟨e,by simp,hb,.inr h⟩
      · exact .inr ⟨e',by simp [he'],hb⟩
  have outer : ∀ (l pre : List Oper) (acc : List Nat),acc.length = pre.length → (∀ i j,(acc.getD i 0).testBit j = true → Ahead pre acc i j) →
      ∀ i j,((l.foldl (fun acc o => acc ++ [o.after.toList.foldl (fun m e => bif Region.binds .any e then m ||| 2 ^ e.on ||| acc.getD e.on 0 else m) 0]) acc).getD i 0).testBit j = true →
        Ahead (pre ++ l) (l.foldl (fun acc o => acc ++ [o.after.toList.foldl (fun m e => bif Region.binds .any e then m ||| 2 ^ e.on ||| acc.getD e.on 0 else m) 0]) acc) i j := by
    intro l
    induction l with
    | nil => intro pre acc _ h i j hb; simpa using h i j hb
    | cons o l ih =>
      intro pre acc hl h i j hb
      rw [List.foldl_cons] at hb ⊢
      have := ih (pre ++ [o]) _ (by simp [hl]) (fun i j hb => ?_) i j hb
      · simpa using this
      · have grow : ∀ k m,(acc.getD k 0).testBit m = true → ((acc ++ [o.after.toList.foldl (fun m e => bif Region.binds .any e then m ||| 2 ^ e.on ||| acc.getD e.on 0 else m) 0]).getD k 0).testBit m = true := by
          intro k m hk
          by_cases hlt : k < acc.length
          · simp only [List.getD,List.getElem?_append_left hlt]; exact hk
          · simp [List.getD,List.getElem?_eq_none (Nat.le_of_not_lt hlt)] at hk
        rcases Nat.lt_trichotomy i acc.length with hlt | heq | hgt
        · have hb' : (acc.getD i 0).testBit j = true := by simpa only [List.getD,List.getElem?_append_left hlt] using hb
          obtain ⟨o',e,h1,h2,h3,h4⟩ := h i j hb'
          exact ⟨o',e,by rw [List.getElem?_append_left (by omega)]; exact h1,h2,h3,h4.imp id (grow _ _)⟩
        · subst heq
          have hb' : (o.after.toList.foldl (fun m e => bif Region.binds .any e then m ||| 2 ^ e.on ||| acc.getD e.on 0 else m) 0).testBit j = true := by
            simpa [List.getD] using hb
          rcases inner acc _ _ j hb' with h0 | ⟨e,he,hbd,hq⟩
          · simp at h0
          · exact ⟨o,e,by rw [hl]; simp,he,hbd,hq.imp id (grow _ _)⟩
        · simp [List.getD,List.getElem?_eq_none (show (acc ++ [_]).length ≤ i by simp; omega)] at hb
  exact outer ops.toList [] [] rfl (fun i j h => by simp at h) i j h
end
end Go.Ev

-- part EvG
/- EvG: a region that draws its order. -/
set_option linter.unusedVariables false
set_option linter.unusedSimpArgs false
namespace Go.Ev
open Go.RowKit
section
variable {C : Ctx} {w0 : World} {lim : Nat} {ops : Array Oper}
mutual
theorem RV.under {Γ Γ' : Gh} {H H' : Heap} {N : Nat} (hN : N ≤ H.sz) (h1 : ∀ l,l < N → H'.ver l = H.ver l ∧ Γ'.blk l = Γ.blk l ∧ Γ'.spare l = Γ.spare l) : ∀ (v : AV) (x : Value),v.under N = true → RV Γ' H' v x → RV Γ H v x
  | .any,_,_,_ => trivial
  | .int _ _,_,_,r => r
  | .bool _,_,_,r => r
  | .str _,_,_,r => r
  | .nilp,_,_,r => r
  | .ptr l v o,x,hu,r => by
    have hl : l < N := by simpa [AV.under,Nat.blt_eq] using hu
    obtain ⟨e1,e2,e3⟩ := h1 l hl
    obtain ⟨g1,g2,g3,g4⟩ := r
    rw [e1] at g2 g4
    rw [e2] at g4
    exact ⟨Nat.lt_of_lt_of_le hl hN,g2,g3,g4⟩
  | .nils,_,_,r => r
  | .sl l v o n c m,x,hu,r => by
    have hl : l < N := by simpa [AV.under,Nat.blt_eq] using hu
    obtain ⟨e1,e2,e3⟩ := h1 l hl
    obtain ⟨g1,g2,p,c',g3,g4,g5,g6⟩ := r
    rw [e1] at g2 g6
    rw [e2,e3] at g6
    exact ⟨Nat.lt_of_lt_of_le hl hN,g2,p,c',g3,g4,g5,g6⟩
  | .sx _,_,_,r => r
  | .xp _,_,_,r => r
  | .xs _ _ _,_,_,r => r
  | .nilm,_,_,r => r
  | .mp l,x,hu,r => by
    have hl : l < N := by simpa [AV.under,Nat.blt_eq] using hu
    obtain ⟨e1,e2,e3⟩ := h1 l hl
    obtain ⟨g1,g2,g3⟩ := r
    rw [e1,e2] at g3
    exact ⟨Nat.lt_of_lt_of_le hl hN,g2,g3⟩
  | .yld l,x,hu,r => by
    have hl : l < N := by simpa [AV.under,Nat.blt_eq] using hu
    obtain ⟨e1,e2,e3⟩ := h1 l hl
    obtain ⟨g1,g2,g3⟩ := r
    rw [e1,e2] at g3
    exact ⟨Nat.lt_of_lt_of_le hl hN,g2,g3⟩
  | .nilf,_,_,r => r
  | .fn f a c,x,hu,r => by
    simp only [AV.under,Bool.and_eq_true] at hu
    obtain ⟨va,vc,hx,ha,hc⟩ := r
    exact ⟨va,vc,hx,RVs.under hN h1 a _ hu.1 ha,RVs.under hN h1 c _ hu.2 hc⟩
  | .nili,_,_,r => r
  | .ifc t v,x,hu,r => by
    simp only [AV.under] at hu
    obtain ⟨y,hx,hy⟩ := r
    exact ⟨y,hx,RV.under hN h1 v y hu hy⟩
  | .agg cs,x,hu,r => by
    simp only [AV.under] at hu
    obtain ⟨vs,hx,hv⟩ := r
    exact ⟨vs,hx,RVs.under hN h1 cs _ hu hv⟩
  | .tup cs,x,hu,r => by
    simp only [AV.under] at hu
    obtain ⟨vs,hx,hv⟩ := r
    exact ⟨vs,hx,RVs.under hN h1 cs _ hu hv⟩
  | .ext _,_,_,r => r
theorem RVs.under {Γ Γ' : Gh} {H H' : Heap} {N : Nat} (hN : N ≤ H.sz) (h1 : ∀ l,l < N → H'.ver l = H.ver l ∧ Γ'.blk l = Γ.blk l ∧ Γ'.spare l = Γ.spare l) : ∀ (v : List AV) (x : List Value),AV.unders N v = true → RVs Γ' H' v x → RVs Γ H v x
  | [],_,_,r => r
  | a :: r,x,hu,q => by
    simp only [AV.unders,Bool.and_eq_true] at hu
    obtain ⟨y,z,hx,k1,k2⟩ := q
    exact ⟨y,z,hx,RV.under hN h1 a y hu.1 k1,RVs.under hN h1 r z hu.2 k2⟩
end

/-- A place that is reckoned, and not laid yet. -/
def Gh.gap (Γ : Gh) (l : Nat) : Gh := ⟨fun k => if k = l then none else Γ.blk k,Γ.spare⟩
theorem Rel.gap {P : Program} {Γ : Gh} {H : Heap} {w : World} (ob : AObj) (R : Rel P w0 Γ H w) : Rel P w0 (Γ.gap H.sz) (H.new ob) w ∧ Ext lim Γ H w (Γ.gap H.sz) (H.new ob) w := by
  have hg : ∀ l,l < H.sz → (H.new ob).get l = H.get l := fun l hl => by rw [Heap.get_new,if_neg (by omega)]
  have hb : ∀ l,l < H.sz → (Γ.gap H.sz).blk l = Γ.blk l := fun l hl => by simp [Gh.gap,show l ≠ H.sz from by omega]
  have le : Le Γ H (Γ.gap H.sz) (H.new ob) := ⟨by rw [Heap.sz_new]; omega,fun l hl => by simp [Heap.ver,hg l hl],fun l b hl _ h => ⟨(hb l hl).trans h,rfl⟩⟩
  have lt : ∀ l b,l < (H.new ob).sz → (Γ.gap H.sz).blk l = some b → l < H.sz ∧ Γ.blk l = some b := fun l b hl h => by
    rw [Heap.sz_new] at hl
    have hne : l ≠ H.sz := fun e => by simp [Gh.gap,e] at h
    exact ⟨by omega,by simpa [Gh.gap,hne] using h⟩
  refine ⟨⟨R.below,fun l b hl h => ?_,fun l l' b hl hl' h h' => ?_⟩,le,fun l hl _ => ⟨hg l hl,hb l hl,rfl,fun _ _ => rfl⟩,fun b hlt hf => ⟨rfl,fun l hl h => ?_⟩,Nat.le_refl _⟩
  · obtain ⟨h1,h2⟩ := lt l b hl h
    obtain ⟨g1,g2,g3⟩ := R.obj l b h1 h2
    exact ⟨g1,g2,by rw [hg l h1]; exact g3.mono le rfl rfl⟩
  · obtain ⟨h1,h2⟩ := lt l b hl h
    obtain ⟨h3,h4⟩ := lt l' b hl' h'
    exact R.inj l l' b h1 h3 h2 h4
  · obtain ⟨h1,h2⟩ := lt l b hl h
    exact hf l h1 h2
/-- The place is laid at last. -/
theorem Rel.fill {Γ : Gh} {H : Heap} {w : World} {s : Slots} {a : Act} {o : Oper} {v : AV} {ob : AObj} {l : Nat} (hρ : Reads C w0) (R : Rel C.P w0 Γ H w) (hS : RS Γ H s a) (hk : isMk o.op = true) (ho : opA C lim s H o.op = some (v,.new ob))
    (hl : l < H.sz) (hb : Γ.blk l = none) (hg : H.get l = ob) (hu : ob.under l = true) :
    ∃ x w' Γ',(execOp a.eval o).run C.P w = .ok (.value x) w' ∧ RV Γ' H (v.at l) x ∧ Rel C.P w0 Γ' H w' ∧ Le Γ H Γ' H ∧ (∀ k,k ≠ l → Γ'.blk k = Γ.blk k) ∧
      ∀ lim Γ0 H0 w1,Ext lim Γ0 H0 w1 Γ H w → H0.sz ≤ l → Ext lim Γ0 H0 w1 Γ' H w' := by
  obtain ⟨ob',hob,hver,hv,hany⟩ := opA_mk hk ho
  cases hob
  obtain ⟨nx,w',Γ1,hrun,hx,R1,E⟩ := opA_sound (lim := H.sz) hρ R hS (hany H.sz H)
  have hvv : v.at H.sz = v := by rcases hv with rfl | ⟨n,rfl⟩ <;> rfl
  have E : Ext H.sz Γ H w Γ1 (H.new ob) w' := E
  have R1 : Rel C.P w0 Γ1 (H.new ob) w' := R1
  obtain ⟨x,hnx,hq⟩ : ∃ x,nx = .value x ∧ RV Γ1 (H.new ob) v x := by
    rcases hx with ⟨x,h1,h2⟩ | ⟨_,h2⟩
    · exact ⟨x,h1,by rw [hvv] at h2; exact h2⟩
    · rcases hv with rfl | ⟨n,rfl⟩ <;> cases h2
  clear hx
  subst hnx
  have hkeep := fun k (h : k < H.sz) => E.keep k h (.inl h)
  have hnew : (H.new ob).get H.sz = ob := by rw [Heap.get_new,if_pos rfl]
  have hnv : (H.new ob).ver H.sz = 0 := by simp [Heap.ver,hnew,hver]
  have hlv : H.ver l = 0 := by simp [Heap.ver,hg,hver]
  obtain ⟨b,hb1⟩ : ∃ b,Γ1.blk H.sz = some b := by
    rcases hv with rfl | ⟨n,rfl⟩
    · obtain ⟨_,_,_,h4⟩ := hq
      obtain ⟨b,h,_⟩ := h4 hnv.symm
      exact ⟨b,h⟩
    · obtain ⟨_,_,p,c',_,_,_,h4⟩ := hq
      obtain ⟨b,h,_⟩ := h4 hnv.symm
      exact ⟨b,h⟩
  have hsz : H.sz < (H.new ob).sz := by rw [Heap.sz_new]; omega
  obtain ⟨g1,g2,g3⟩ := R1.obj H.sz b hsz hb1
  rw [hnew] at g3
  have le : Le Γ H (Γ.upd l b (Γ1.spare H.sz)) H := ⟨Nat.le_refl _,fun _ _ => Nat.le_refl _,fun k c hk _ h => by
    have hne : k ≠ l := fun e => by rw [e,hb] at h; cases h
    simp [Gh.upd,hne,h]⟩
  have hne : ∀ k c,k < H.sz → Γ.blk k = some c → c ≠ b := fun k c hk h e => by
    subst e
    have := R1.inj k H.sz c (by omega) hsz ((hkeep k hk).2.1.trans h) hb1
    omega
  refine ⟨x,w',Γ.upd l b (Γ1.spare H.sz),hrun,?_,⟨R1.below,fun k c hk h => ?_,fun k k' c hk hk' h h' => ?_⟩,le,fun k hk => by simp [Gh.upd,hk],fun lim Γ0 H0 w1 E0 hle => ?_⟩
  · rcases hv with rfl | ⟨n,rfl⟩
    · obtain ⟨_,_,h3,h4⟩ := hq
      refine ⟨hl,Nat.zero_le _,h3,fun _ => ?_⟩
      obtain ⟨b',e1,e2⟩ := h4 hnv.symm
      rw [hb1] at e1
      cases e1
      exact ⟨b,by simp [Gh.upd],e2⟩
    · obtain ⟨_,_,p,c',h1,h2,h3,h4⟩ := hq
      refine ⟨hl,Nat.zero_le _,p,c',h1,h2,h3,fun _ => ?_⟩
      obtain ⟨b',e1,e2,e3⟩ := h4 hnv.symm
      rw [hb1] at e1
      cases e1
      exact ⟨b,by simp [Gh.upd],e2,by simpa using e3⟩
  · by_cases e : k = l
    · subst e
      have : c = b := by simpa [Gh.upd] using h.symm
      subst this
      refine ⟨g1,g2,?_⟩
      rw [hg]
      cases ob with
      | cells vv e fr g cs =>
        obtain ⟨c',sz,q1,q2,q3,q4,q5⟩ := g3
        have hsp : (Γ.upd k c (Γ1.spare H.sz)).spare k = Γ1.spare H.sz := by simp [Gh.upd]
        refine ⟨c',sz,q1,by rw [hsp]; exact q2,by rw [hsp]; exact q3,q4,RVs.mono le _ _ (RVs.under (N := k) (Nat.le_of_lt hl) (fun m hm => ?_) _ _ (by simpa [AObj.under] using hu) q5)⟩
        obtain ⟨e1,e2,e3,_⟩ := hkeep m (by omega)
        exact ⟨by simp [Heap.ver,e1],e2,e3⟩
      | _ => simp [AObj.under] at hu
    · have h : Γ.blk k = some c := by simpa [Gh.upd,e] using h
      obtain ⟨q1,q2,q3⟩ := R.obj k c hk h
      exact ⟨q1,Nat.lt_of_lt_of_le q2 E.size,q3.mono le ((hkeep k hk).2.2.2 c h) (by simp [Gh.upd,e])⟩
  · by_cases e : k = l <;> by_cases e' : k' = l
    · rw [e,e']
    · have h1 : b = c := by simpa [Gh.upd,e] using h
      have h2 : Γ.blk k' = some c := by simpa [Gh.upd,e'] using h'
      exact absurd h1.symm (hne k' c hk' h2)
    · have h1 : b = c := by simpa [Gh.upd,e'] using h'
      have h2 : Γ.blk k = some c := by simpa [Gh.upd,e] using h
      exact absurd h1.symm (hne k c hk h2)
    · exact R.inj k k' c hk hk' (by simpa [Gh.upd,e] using h) (by simpa [Gh.upd,e'] using h')
  · refine ⟨E0.le.trans le,fun k hk hc => ?_,fun c hc hf => ?_,Nat.le_trans E0.size E.size⟩
    · obtain ⟨e1,e2,e3,e4⟩ := E0.keep k hk hc
      have hkl : k ≠ l := by omega
      exact ⟨e1,by simp [Gh.upd,hkl,e2],by simp [Gh.upd,hkl,e3],fun c h => ((hkeep k (Nat.lt_of_lt_of_le hk E0.le.sz)).2.2.2 c (e2.trans h)).trans (e4 c h)⟩
    · obtain ⟨e1,e2⟩ := E0.frame c hc hf
      obtain ⟨e3,e4⟩ := E.frame c (Nat.lt_of_lt_of_le hc E0.size) e2
      refine ⟨e3.trans e1,fun k hk h => ?_⟩
      by_cases e : k = l
      · have : b = c := by simpa [Gh.upd,e] using h
        subst this
        exact e4 H.sz hsz hb1
      · exact e2 k hk (by simpa [Gh.upd,e] using h)
end
end Go.Ev

-- part EvI
/- EvI: a region that draws its order: the proof. -/
set_option linter.unusedVariables false
set_option linter.unusedSimpArgs false
namespace Go.Ev
open Go.RowKit
section
variable {C : Ctx} {w0 : World} {lim : Nat} {ops : Array Oper}
-- slots
theorem Slots.length_put (s : Slots) (d : Option Tmp) (v : AV) : (s.put d v).length = s.length := by cases d <;> simp [Slots.put]
theorem Slots.put_put (s : Slots) (d : Option Tmp) (v u : AV) : (s.put d v).put d u = s.put d u := by cases d <;> simp [Slots.put]
theorem Slots.put_comm (s : Slots) {d e : Option Tmp} (v u : AV) (h : ∀ t,d = some t → e ≠ some t) : (s.put d v).put e u = (s.put e u).put d v := by
  cases d with
  | none => rfl
  | some d =>
    cases e with
    | none => rfl
    | some e =>
      have hne : d ≠ e := fun he => h d rfl (he ▸ rfl)
      simp only [Slots.put]
      exact List.set_comm _ _ hne
theorem Slots.get_put_ne (s : Slots) {d : Option Tmp} {t : Nat} (v : AV) (h : d ≠ some t) : (s.put d v)[t]? = s[t]? := by
  cases d with
  | none => rfl
  | some d =>
    have hne : d ≠ t := fun he => h (he ▸ rfl)
    simp [Slots.put,hne]
/-- The slots stand to the temps, but those that wait. -/
def RX (Γ : Gh) (H : Heap) (bad : Nat → Prop) (s : Slots) (a : Act) : Prop := s.length = a.tmps.size ∧ ∀ d u,s[d]? = some u → ¬ bad d → ∃ v,a.tmps[d]? = some v ∧ RV Γ H u v
theorem RX.mono {Γ Γ' : Gh} {H H' : Heap} {bad : Nat → Prop} {s : Slots} {a : Act} (h : Le Γ H Γ' H') (r : RX Γ H bad s a) : RX Γ' H' bad s a :=
  ⟨r.1,fun d u hd hb => let ⟨v,h1,h2⟩ := r.2 d u hd hb; ⟨v,h1,RV.mono h _ _ h2⟩⟩
theorem RX.of {Γ : Gh} {H : Heap} {bad : Nat → Prop} {s : Slots} {a : Act} (h : RS Γ H s a) : RX Γ H bad s a :=
  ⟨by simpa using RVs.length h,fun d u hd _ => let ⟨v,h1,h2⟩ := RVs.get h d u hd; ⟨v,by simpa using h1,h2⟩⟩
theorem RX.all {Γ : Gh} {H : Heap} {bad : Nat → Prop} {s : Slots} {a : Act} (h : RX Γ H bad s a) (hb : ∀ d,¬ bad d) : RS Γ H s a :=
  RVs.of_get (by simpa using h.1) fun d u hd => let ⟨v,h1,h2⟩ := h.2 d u hd (hb d); ⟨v,by simpa using h1,h2⟩
theorem RX.keep {Γ : Gh} {H : Heap} {bad : Nat → Prop} {s : Slots} {a : Act} {o : Oper} (h : RX Γ H bad s a) (hb : ∀ d ∈ o.looksAt ops,¬ bad d) : RS Γ H (Ev.keep (o.looksAt ops) 0 s) a := by
  have mem : ∀ (i : Nat) (L : List Nat),memN i L = true → i ∈ L := by
    intro i L
    induction L with
    | nil => intro h; cases h
    | cons x r ih =>
      intro h
      simp only [memN] at h
      cases hx : Nat.beq x i with
      | true => rw [Nat.eq_of_beq_eq_true hx]; simp
      | false => rw [hx] at h; exact List.mem_cons_of_mem _ (ih h)
  have len : ∀ (L : List Nat) (s : Slots) (i : Nat),(Ev.keep L i s).length = s.length := by
    intro L s
    induction s with
    | nil => intro i; rfl
    | cons x r ih => intro i; simp [Ev.keep,ih]
  have get : ∀ (L : List Nat) (s : Slots) (i d : Nat),(Ev.keep L i s)[d]? = (s[d]?).map fun x => bif memN (i + d) L then x else .any := by
    intro L s
    induction s with
    | nil => intro i d; rfl
    | cons x r ih =>
      intro i d
      cases d with
      | zero => simp [Ev.keep]
      | succ d => simp only [Ev.keep,List.getElem?_cons_succ,ih]; rw [show i + 1 + d = i + (d + 1) from by omega]
  refine RVs.of_get (by rw [len]; simpa using h.1) fun d u hd => ?_
  rw [get] at hd
  obtain ⟨x,hx,hu⟩ := map_some hd
  rw [Nat.zero_add] at hu
  cases hm : memN d (o.looksAt ops) with
  | true =>
    rw [hm] at hu
    obtain rfl : x = u := hu
    obtain ⟨v,h1,h2⟩ := h.2 d x hx (hb d (mem _ _ hm))
    exact ⟨v,by simpa using h1,h2⟩
  | false =>
    rw [hm] at hu
    obtain rfl : AV.any = u := hu
    have hlt : d < a.tmps.size := by
      rw [← h.1]
      exact (List.getElem?_eq_some_iff.1 hx).1
    exact ⟨a.tmps[d],by simp [hlt],trivial⟩
theorem RX.put {Γ : Gh} {H : Heap} {bad bad' : Nat → Prop} {s : Slots} {a : Act} {d : Option Tmp} {u : AV} {v : Value} (h : RX Γ H bad s a) (hu : RV Γ H u v) (hb : ∀ e,¬ bad' e → d ≠ some e → ¬ bad e) : RX Γ H bad' (s.put d u) (a.put d v) := by
  cases d with
  | none => exact ⟨h.1,fun e x he hn => h.2 e x he (hb e hn nofun)⟩
  | some d =>
    refine ⟨by simpa [Slots.put,Act.put] using h.1,fun e x he hn => ?_⟩
    by_cases hd : d = e
    · subst hd
      have hlt : d < s.length := by
        have := (List.getElem?_eq_some_iff.1 he).1
        simpa [Slots.put] using this
      have hx : u = x := by simpa [Slots.put,hlt] using he
      subst hx
      exact ⟨v,by simp [Act.put,← h.1,hlt],hu⟩
    · obtain ⟨y,h1,h2⟩ := h.2 e x (by simpa [Slots.put,hd] using he) (hb e hn (by simpa using hd))
      exact ⟨y,by simpa [Act.put,Array.getElem?_setIfInBounds_ne hd] using h1,h2⟩
theorem RX.wait {Γ : Gh} {H : Heap} {bad bad' : Nat → Prop} {s : Slots} {a : Act} {d : Option Tmp} {u : AV} (h : RX Γ H bad s a) (hb : ∀ e,¬ bad' e → ¬ bad e ∧ d ≠ some e) : RX Γ H bad' (s.put d u) a :=
  ⟨by rw [Slots.length_put]; exact h.1,fun e x he hn => h.2 e x (by rw [Slots.get_put_ne _ _ (hb e hn).2] at he; exact he) (hb e hn).1⟩

-- what waits
def MkOn (ops : Array Oper) (s : Slots) (x : DOp) : Prop := isMk x.2.2.op = true ∧ wantA ops s x.2.2 = some true
def Pend (C : Ctx) (lim : Nat) (ops : Array Oper) (N : Nat) (loc : Nat → Nat) (rs : List (Nat × Op × AV)) (Γ : Gh) (H : Heap) (s : Slots) (x : DOp) : Prop :=
  x.2.1 = true ∧
  ((wantA ops s x.2.2 = some false ∧ s.put x.2.2.dst (.tup []) = s) ∨
   (wantA ops s x.2.2 = some true ∧ isMk x.2.2.op = false ∧ ∃ v,s.put x.2.2.dst v = s ∧ opA C lim s H x.2.2.op = some (v,.nothing) ∧ (isPure x.2.2.op = true ∨ (x.1,x.2.2.op,v) ∈ rs)) ∨
   (wantA ops s x.2.2 = some true ∧ isMk x.2.2.op = true ∧ ∃ v ob,s.put x.2.2.dst (v.at (loc x.1)) = s ∧ opA C lim s H x.2.2.op = some (v,.new ob) ∧ N ≤ loc x.1 ∧ loc x.1 < H.sz ∧ Γ.blk (loc x.1) = none ∧ H.get (loc x.1) = ob ∧ ob.under (loc x.1) = true))
theorem AV.at_at (v : AV) (k l : Nat) : (v.at k).at l = v.at l := by cases v <;> rfl
theorem Pend.step {N : Nat} {loc loc' : Nat → Nat} {rs rs' : List (Nat × Op × AV)} {Γ Γ' : Gh} {H H' : Heap} {s : Slots} {d : Option Tmp} {u : AV} {x : DOp} (h : Pend C lim ops N loc rs Γ H s x)
    (h1 : ∀ t,d = some t → t ∉ x.2.2.looksAt ops) (h2 : ∀ t,d = some t → x.2.2.dst ≠ some t)
    (hre : isPure x.2.2.op = false → ∀ v,(x.1,x.2.2.op,v) ∈ rs → opA C lim s H x.2.2.op = some (v,.nothing) → opA C lim (s.put d u) H' x.2.2.op = some (v,.nothing))
    (hrs : ∀ q ∈ rs,q ∈ rs') (hloc : loc' x.1 = loc x.1)
    (hmk : ∀ l,l < H.sz → N ≤ l → Γ.blk l = none → (MkOn ops s x → l = loc x.1) → H'.get l = H.get l ∧ Γ'.blk l = none) (hsz : H.sz ≤ H'.sz) : Pend C lim ops N loc' rs' Γ' H' (s.put d u) x := by
  have ag : Agree ops x.2.2 (s.put d u) s := Agree.put h1
  have st : ∀ v,s.put x.2.2.dst v = s → (s.put d u).put x.2.2.dst v = s.put d u := fun v e => by rw [Slots.put_comm s u v h2,e]
  refine ⟨h.1,?_⟩
  rcases h.2 with ⟨e1,e2⟩ | ⟨e1,e2,v,e3,e4,e5⟩ | ⟨e1,e2,v,ob,e3,e4,e5,e6,e7,e8,e9⟩
  · exact .inl ⟨ag.want.trans e1,st _ e2⟩
  · refine .inr (.inl ⟨ag.want.trans e1,e2,v,st _ e3,?_,e5.imp id (hrs _)⟩)
    cases hp : isPure x.2.2.op with
    | true => rw [ag.op,opA_pure hp H' H lim]; exact e4
    | false =>
      rcases e5 with e5 | e5
      · rw [hp] at e5; cases e5
      · exact hre hp v e5 e4
  · obtain ⟨ob',hob,_,_,hany⟩ := opA_mk e2 e4
    cases hob
    obtain ⟨g1,g2⟩ := hmk _ e6 e5 e7 fun _ => rfl
    exact .inr (.inr ⟨ag.want.trans e1,e2,v.at H'.sz,ob,by rw [AV.at_at,hloc]; exact st _ e3,by rw [ag.op]; exact hany lim H',by rw [hloc]; exact e5,by rw [hloc]; omega,by rw [hloc]; exact g2,by rw [hloc,g1]; exact e8,by rw [hloc]; exact e9⟩)

theorem freshD_spec {x y : Oper} (h : freshD ops x y = true) : ∀ t,y.dst = some t → t ∉ x.looksAt ops ∧ x.dst ≠ some t := by
  intro t ht
  simp only [freshD,ht,Bool.and_eq_true,Bool.not_eq_true',bne_iff_ne,List.contains_eq_mem,decide_eq_false_iff_not] at h
  exact h
theorem selfD_spec {x : Oper} (h : selfD ops x = true) : ∀ t,x.dst = some t → t ∉ x.looksAt ops := by
  intro t ht
  simp only [selfD,ht,Bool.not_eq_true',List.contains_eq_mem,decide_eq_false_iff_not] at h
  exact h
theorem pairD_spec {ms : List Nat} {x y : DOp} (h : pairD ops ms x y = true) : x.1 ≠ y.1 ∧ ((ms.getD y.1 0).testBit x.1 = true ∨ (x.2.1 = true ∧ x.2.2.apart ops y.2.2 = true)) ∧ (y.2.1 = true → freshD ops x.2.2 y.2.2 = true) := by
  simp only [pairD,Bool.and_eq_true,Bool.or_eq_true,Bool.not_eq_true'] at h
  obtain ⟨⟨h1,h2⟩,h3⟩ := h
  exact ⟨Nat.ne_of_beq_eq_false h1,h2,fun hy => h3.resolve_left (by simp [hy])⟩

def bad (pend : List DOp) (d : Nat) : Prop := ∃ x ∈ pend,x.2.2.dst = some d
structure Inv (C : Ctx) (lim : Nat) (ops : Array Oper) (w0 : World) (Γ0 : Gh) (H0 : Heap) (w1 : World) (ds : List Deferred) (pend rem : List DOp) (rs : List (Nat × Op × AV)) (loc : Nat → Nat) (listed : Array Bool) (s : Slots) (H : Heap) (Γ : Gh) (a : Act) (w : World) : Prop where
  here : ∀ x ∈ pend ++ rem,ops[x.1]? = some x.2.2
  self : ∀ x ∈ pend ++ rem,x.2.1 = true → selfD ops x.2.2 = true
  pw : (pend ++ rem).Pairwise fun x y => pairD ops (masks ops) x y = true
  un : ∀ i,i < ops.size → (listed.getD i true = false ↔ ∃ x ∈ pend ++ rem,x.1 = i)
  sz : listed.size = ops.size
  closed : ∀ i o,ops[i]? = some o → listed.getD i false = true → ∀ e ∈ o.after,Region.binds .any e = true → listed.getD e.on false = true
  wait : ∀ x ∈ pend,Pend C lim ops H0.sz loc rs Γ H s x
  loc : ∀ x ∈ pend,∀ y ∈ pend,x.1 ≠ y.1 → MkOn ops s x → MkOn ops s y → loc x.1 ≠ loc y.1
  rel : Rel C.P w0 Γ H w
  ext : Ext lim Γ0 H0 w1 Γ H w
  rx : RX Γ H (bad pend) s a
  defers : a.defers = ds
def Low (ops : Array Oper) : Prop := ∀ i o,ops[i]? = some o → ∀ e ∈ o.after,Region.binds .any e = true → e.on < i
theorem unlisted {listed : Array Bool} {j : Nat} (h1 : listed.getD j true = false) (h2 : listed.getD j false = true) : False := by
  by_cases h : j < listed.size
  · simp [Array.getD,h] at h1 h2; rw [h1] at h2; cases h2
  · simp [Array.getD,h] at h1
theorem bit_listed {listed : Array Bool} (hlow : Low ops) (hcl : ∀ i o,ops[i]? = some o → listed.getD i false = true → ∀ e ∈ o.after,Region.binds .any e = true → listed.getD e.on false = true) :
    ∀ n i,i < n → (∀ o,ops[i]? = some o → ∀ e ∈ o.after,Region.binds .any e = true → listed.getD e.on false = true) → ∀ j,((masks ops).getD i 0).testBit j = true → listed.getD j false = true := by
  intro n
  induction n with
  | zero => intro i hi; omega
  | succ n ih =>
    intro i hi hr j hj
    obtain ⟨o,e,h1,h2,h3,h4⟩ := masks_spec i j hj
    have h1 : ops[i]? = some o := by simpa using h1
    have h2 : e ∈ o.after := by simpa using h2
    have he := hr o h1 e h2 h3
    rcases h4 with rfl | h4
    · exact he
    · exact ih e.on (by have := hlow i o h1 e h2 h3; omega) (fun o' ho' => hcl e.on o' ho' he) j h4

variable {call : CallF} {K : Slots → Heap → Res} {g : AV × Heap → Prop} {Γ0 : Gh} {H0 : Heap} {w1 : World} {ds : List Deferred}
theorem Inv.advance {pend rem : List DOp} {y : DOp} {rs : List (Nat × Op × AV)} {loc : Nat → Nat} {listed : Array Bool} {s : Slots} {H : Heap} {Γ : Gh} {a : Act} {w : World}
    (I : Inv C lim ops w0 Γ0 H0 w1 ds pend (y :: rem) rs loc listed s H Γ a w) (h : (evDraw C call lim ops (masks ops) (y :: rem) rs s H K).Ok g) (hf : y.2.1 = true) :
    ∃ rs' loc' s' H' Γ',Inv C lim ops w0 Γ0 H0 w1 ds (pend ++ [y]) rem rs' loc' listed s' H' Γ' a w ∧ (evDraw C call lim ops (masks ops) rem rs' s' H' K).Ok g := by
  obtain ⟨j,fl,o⟩ := y
  simp only at hf
  subst hf
  have hmem : ∀ x,x ∈ (pend ++ [(j,true,o)]) ++ rem ↔ x ∈ pend ++ (j,true,o) :: rem := fun x => by simp
  have heq : (pend ++ [(j,true,o)]) ++ rem = pend ++ (j,true,o) :: rem := by simp
  have hpy : ∀ x ∈ pend,x.1 ≠ j ∧ (∀ t,o.dst = some t → t ∉ x.2.2.looksAt ops) ∧ (∀ t,o.dst = some t → x.2.2.dst ≠ some t) := fun x hx => by
    have := pairD_spec ((List.pairwise_append.1 I.pw).2.2 x hx (j,true,o) (by simp))
    exact ⟨this.1,fun t ht => (freshD_spec (this.2.2 rfl) t ht).1,fun t ht => (freshD_spec (this.2.2 rfl) t ht).2⟩
  have hself := selfD_spec (I.self (j,true,o) (by simp) rfl)
  have ag : ∀ v,Agree ops o (s.put o.dst v) s := fun v => Agree.put hself
  have hbad : ∀ e,¬ bad (pend ++ [(j,true,o)]) e → ¬ bad pend e ∧ o.dst ≠ some e := fun e he =>
    ⟨fun ⟨x,hx,hd⟩ => he ⟨x,by simp [hx],hd⟩,fun hd => he ⟨(j,true,o),by simp,hd⟩⟩
  have mk : ∀ v x,x ∈ pend → (MkOn ops (s.put o.dst v) x ↔ MkOn ops s x) := fun v x hx => by
    simp only [MkOn,(Agree.put (ops := ops) (s := s) (v := v) (hpy x hx).2.1).want]
  have build : ∀ (rs' : List (Nat × Op × AV)) (loc' : Nat → Nat) (v : AV) (H' : Heap) (Γ' : Gh),(∀ x ∈ pend,loc' x.1 = loc x.1) → Rel C.P w0 Γ' H' w → Ext lim Γ H w Γ' H' w →
      (∀ x ∈ pend,Pend C lim ops H0.sz loc' rs' Γ' H' (s.put o.dst v) x) → Pend C lim ops H0.sz loc' rs' Γ' H' (s.put o.dst v) (j,true,o) →
      (∀ x ∈ pend,MkOn ops s x → MkOn ops s (j,true,o) → loc x.1 ≠ loc' j) →
      Inv C lim ops w0 Γ0 H0 w1 ds (pend ++ [(j,true,o)]) rem rs' loc' listed (s.put o.dst v) H' Γ' a w := by
    intro rs' loc' v H' Γ' hl hR hE hp hy hd
    refine ⟨fun x hx => I.here x ((hmem x).1 hx),fun x hx => I.self x ((hmem x).1 hx),heq ▸ I.pw,fun i hi => by rw [heq]; exact I.un i hi,I.sz,I.closed,fun x hx => ?_,fun x hx z hz hne hmx hmz => ?_,hR,I.ext.trans hE,(I.rx.mono hE.le).wait hbad,I.defers⟩
    · rcases List.mem_append.1 hx with hx | hx
      · exact hp x hx
      · obtain rfl := List.mem_singleton.1 hx; exact hy
    · have yy : MkOn ops (s.put o.dst v) (j,true,o) → MkOn ops s (j,true,o) := fun h => ⟨h.1,(ag v).want.symm.trans h.2⟩
      rcases List.mem_append.1 hx with hx | hx <;> rcases List.mem_append.1 hz with hz | hz
      · rw [hl x hx,hl z hz]; exact I.loc x hx z hz hne ((mk v x hx).1 hmx) ((mk v z hz).1 hmz)
      · obtain rfl := List.mem_singleton.1 hz
        rw [hl x hx]; exact hd x hx ((mk v x hx).1 hmx) (yy hmz)
      · obtain rfl := List.mem_singleton.1 hx
        rw [hl z hz]; exact (hd z hz ((mk v z hz).1 hmz) (yy hmx)).symm
      · obtain rfl := List.mem_singleton.1 hx
        obtain rfl := List.mem_singleton.1 hz
        exact absurd rfl hne
  have same : ∀ (rs' : List (Nat × Op × AV)) (v : AV) x,(∀ q ∈ rs,q ∈ rs') → x ∈ pend → Pend C lim ops H0.sz loc rs' Γ H (s.put o.dst v) x := fun rs' v x hrs hx =>
    (I.wait x hx).step (hpy x hx).2.1 (hpy x hx).2.2 (fun _ u _ hu => by rw [(Agree.put (ops := ops) (hpy x hx).2.1).op]; exact hu) hrs rfl (fun l _ _ hb _ => ⟨rfl,hb⟩) (Nat.le_refl _)
  unfold evDraw at h
  obtain ⟨b,hb,h⟩ := ok_bindR h
  cases b with
  | false =>
    simp only [Bool.not_false,cond_true,putA_eq] at h
    refine ⟨rs,loc,_,H,Γ,build rs loc _ H Γ (fun _ _ => rfl) I.rel (Ext.refl _ _ _ _) (fun x hx => same rs _ x (fun _ h => h) hx) ?_ (fun x hx h1 h2 => ?_),h⟩
    · exact ⟨rfl,.inl ⟨(ag _).want.trans hb,Slots.put_put _ _ _ _⟩⟩
    · exact absurd (hb.symm.trans h2.2) (by simp)
  | true =>
    simp only [Bool.not_true,cond_false,cond_true] at h
    obtain ⟨q,hq,h⟩ := ok_bindR h
    obtain ⟨v,f⟩ := q
    cases f with
    | nothing =>
      simp only [strA?_eq,putA_eq] at h
      have hnm : isMk o.op = false := by
        cases hm : isMk o.op with
        | false => rfl
        | true => obtain ⟨ob,h1,_⟩ := opA_mk hm hq; cases h1
      refine ⟨_,loc,_,H,Γ,build _ loc _ H Γ (fun _ _ => rfl) I.rel (Ext.refl _ _ _ _) (fun x hx => same _ _ x (fun q hq => ?_) hx) ?_ (fun x hx h1 h2 => ?_),h⟩
      · cases isPure o.op <;> simp [hq]
      · refine ⟨rfl,.inr (.inl ⟨(ag _).want.trans hb,hnm,v,Slots.put_put _ _ _ _,by rw [(ag v).op]; exact hq,?_⟩)⟩
        cases isPure o.op <;> simp
      · exact absurd (hnm.symm.trans h2.1) (by simp)
    | new ob =>
      simp only at h
      obtain ⟨hc,h⟩ := ok_cond h
      simp only [strA?_eq,applyK_eq,putA_eq] at h
      obtain ⟨hag,h⟩ := ok_cond h
      simp only [Bool.and_eq_true] at hc
      obtain ⟨hm,hu⟩ := hc
      obtain ⟨ob',hob,hver,hv,hany⟩ := opA_mk hm hq
      cases hob
      obtain ⟨hR,hE⟩ := I.rel.gap (lim := lim) ob
      have hloc : ∀ x ∈ pend,(fun k => if k = j then H.sz else loc k) x.1 = loc x.1 := fun x hx => by simp [(hpy x hx).1]
      have hsz : H.sz < (H.new ob).sz := by rw [Heap.sz_new]; omega
      have hvs : v.at H.sz = v := by rcases hv with rfl | ⟨n,rfl⟩ <;> rfl
      refine ⟨rs,_,_,H.new ob,Γ.gap H.sz,build rs (fun k => if k = j then H.sz else loc k) v _ _ hloc hR hE (fun x hx => ?_) ?_ (fun x hx h1 h2 => ?_),h⟩
      · refine (I.wait x hx).step (hpy x hx).2.1 (hpy x hx).2.2 (fun _ u hu' _ => ?_) (fun _ h => h) (hloc x hx) (fun l hl _ hb _ => ⟨by rw [Heap.get_new,if_neg (by omega)],by simp [Gh.gap,show l ≠ H.sz from by omega,hb]⟩) (Nat.le_of_lt hsz)
        have := List.all_eq_true.1 hag _ hu'
        unfold again at this
        split at this
        · rename_i u' he
          rw [AV.eqv_eq _ _ this] at he
          exact he
        · cases this
      · refine ⟨rfl,.inr (.inr ⟨(ag _).want.trans hb,hm,v.at (H.new ob).sz,ob,?_,by rw [(ag v).op]; exact hany lim _,?_,?_,?_,?_,?_⟩)⟩
        · simp only [if_true,AV.at_at,hvs]; exact Slots.put_put _ _ _ _
        · simp only [if_true]; exact I.ext.le.sz
        · simp only [if_true]; exact hsz
        · simp [Gh.gap]
        · simp only [if_true]; rw [Heap.get_new,if_pos rfl]
        · simp only [if_true]; exact hu
      · simp only [if_true]
        rcases (I.wait x hx).2 with ⟨e1,_⟩ | ⟨_,e2,_⟩ | ⟨_,_,v,ob,_,_,_,e6,_⟩
        · exact absurd (e1.symm.trans h1.2) (by simp)
        · exact absurd (e2.symm.trans h1.1) (by simp)
        · omega
    | put l ob => exact h.elim
end
end Go.Ev

-- part EvJ
/- EvJ: a region that draws its order: the end of the proof. -/
set_option linter.unusedVariables false
set_option linter.unusedSimpArgs false
namespace Go.Ev
open Go.RowKit
section
variable {C : Ctx} {w0 : World} {lim : Nat} {ops : Array Oper}
variable {call : CallF} {K : Slots → Heap → Res} {g : AV × Heap → Prop} {Γ0 : Gh} {H0 : Heap} {w1 : World} {ds : List Deferred}
theorem set_true {listed : Array Bool} {i : Nat} (h : i < listed.size) : (listed.setIfInBounds i true).getD i true = true := by
  simp [Array.getD,h]
/-- What is listed, once i is. -/
theorem Inv.lists {pend rem p1 p2 : List DOp} {x : DOp} {rs : List (Nat × Op × AV)} {loc : Nat → Nat} {listed : Array Bool} {s : Slots} {H : Heap} {Γ : Gh} {a : Act} {w : World}
    (I : Inv C lim ops w0 Γ0 H0 w1 ds pend rem rs loc listed s H Γ a w) (hr : x.1 ∈ Region.ready .any ops listed) (hl : pend ++ rem = p1 ++ x :: p2) :
    (∀ i,i < ops.size → ((listed.setIfInBounds x.1 true).getD i true = false ↔ ∃ y ∈ p1 ++ p2,y.1 = i)) ∧ (listed.setIfInBounds x.1 true).size = ops.size ∧
    (∀ i o,ops[i]? = some o → (listed.setIfInBounds x.1 true).getD i false = true → ∀ e ∈ o.after,Region.binds .any e = true → (listed.setIfInBounds x.1 true).getD e.on false = true) ∧
    (∀ y ∈ p1 ++ p2,y.1 ≠ x.1) := by
  obtain ⟨h1,o,h2,h3⟩ := mem_ready.1 hr
  have hx : ops[x.1]? = some x.2.2 := I.here x (by rw [hl]; simp)
  have hlt : x.1 < ops.size := (Array.getElem?_eq_some_iff.1 hx).1
  have hpw := I.pw
  rw [hl,List.pairwise_append] at hpw
  obtain ⟨_,hp2,hp3⟩ := hpw
  have hne : ∀ y ∈ p1 ++ p2,y.1 ≠ x.1 := fun y hy => by
    rcases List.mem_append.1 hy with hy | hy
    · exact (pairD_spec (hp3 y hy x (by simp))).1
    · exact fun e => (pairD_spec ((List.pairwise_cons.1 hp2).1 y hy)).1 e.symm
  refine ⟨fun i hi => ?_,by simp [I.sz],fun i o' ho' hli e he hb => ?_,hne⟩
  · by_cases hxi : x.1 = i
    · subst hxi
      rw [set_true (by rw [I.sz]; exact hi)]
      exact ⟨fun h => (by cases h),fun ⟨y,hy,e⟩ => absurd e (hne y hy)⟩
    · rw [getD_set_ne true hxi,I.un i hi,hl]
      constructor
      · rintro ⟨y,hy,rfl⟩
        refine ⟨y,?_,rfl⟩
        rcases List.mem_append.1 hy with hy | hy
        · exact List.mem_append_left _ hy
        · rcases List.mem_cons.1 hy with rfl | hy
          · exact absurd rfl hxi
          · exact List.mem_append_right _ hy
      · rintro ⟨y,hy,rfl⟩
        refine ⟨y,?_,rfl⟩
        rcases List.mem_append.1 hy with hy | hy
        · exact List.mem_append_left _ hy
        · exact List.mem_append_right _ (List.mem_cons_of_mem _ hy)
  · refine getD_set_true ?_
    by_cases hxi : x.1 = i
    · subst hxi
      rw [h2] at ho'
      cases ho'
      exact h3 e he hb
    · rw [getD_set_ne false hxi] at hli
      exact I.closed i o' ho' hli e he hb
/-- Of one that may run now and one that still waits: they stand apart. -/
theorem Inv.apart {pend rem p1 p2 : List DOp} {x : DOp} {rs : List (Nat × Op × AV)} {loc : Nat → Nat} {listed : Array Bool} {s : Slots} {H : Heap} {Γ : Gh} {a : Act} {w : World} (hlow : Low ops)
    (I : Inv C lim ops w0 Γ0 H0 w1 ds pend rem rs loc listed s H Γ a w) (hr : x.1 ∈ Region.ready .any ops listed) (hl : pend ++ rem = p1 ++ x :: p2) :
    (∀ y ∈ p1,y.2.1 = true ∧ y.2.2.apart ops x.2.2 = true ∧ ¬ ((masks ops).getD x.1 0).testBit y.1 = true) ∧ (∀ y ∈ p2,y.2.1 = true → freshD ops x.2.2 y.2.2 = true) := by
  obtain ⟨h1,o,h2,h3⟩ := mem_ready.1 hr
  have hpw := I.pw
  rw [hl,List.pairwise_append] at hpw
  obtain ⟨_,hp2,hp3⟩ := hpw
  refine ⟨fun y hy => ?_,fun y hy => (pairD_spec ((List.pairwise_cons.1 hp2).1 y hy)).2.2⟩
  have hnb : ¬ ((masks ops).getD x.1 0).testBit y.1 = true := fun hb => by
    have := bit_listed hlow I.closed (x.1 + 1) x.1 (by omega) (fun o' ho' => by rw [h2] at ho'; cases ho'; exact h3) y.1 hb
    have hy' : ops[y.1]? = some y.2.2 := I.here y (by rw [hl]; simp [hy])
    exact unlisted ((I.un y.1 (Array.getElem?_eq_some_iff.1 hy').1).2 ⟨y,by rw [hl]; simp [hy],rfl⟩) this
  obtain ⟨e1,e2,e3⟩ := pairD_spec (hp3 y hy x (by simp))
  obtain ⟨f1,f2⟩ := e2.resolve_left hnb
  exact ⟨f1,f2,hnb⟩
theorem Inv.looks {pend rem p1 p2 : List DOp} {x : DOp} {rs : List (Nat × Op × AV)} {loc : Nat → Nat} {listed : Array Bool} {s : Slots} {H : Heap} {Γ : Gh} {a : Act} {w : World} (hlow : Low ops)
    (I : Inv C lim ops w0 Γ0 H0 w1 ds pend rem rs loc listed s H Γ a w) (hr : x.1 ∈ Region.ready .any ops listed) (hl : pend ++ rem = p1 ++ x :: p2) (hx : x ∈ pend → selfD ops x.2.2 = true) :
    ∀ d ∈ x.2.2.looksAt ops,¬ bad pend d := by
  obtain ⟨g1,g2⟩ := I.apart hlow hr hl
  rintro d hd ⟨y,hy,hyd⟩
  have hmem : y ∈ p1 ++ x :: p2 := by rw [← hl]; exact List.mem_append_left _ hy
  rcases List.mem_append.1 hmem with hm | hm
  · exact (Oper.apart_spec (g1 y hm).2.1).1 d hyd hd
  · rcases List.mem_cons.1 hm with rfl | hm
    · exact selfD_spec (hx hy) d hyd hd
    · exact (freshD_spec (g2 y hm (I.wait y hy).1) d hyd).1 hd
/-- One that waits is run. -/
theorem Inv.runs {p1 p2 rem : List DOp} {x : DOp} {rs : List (Nat × Op × AV)} {loc : Nat → Nat} {listed : Array Bool} {s : Slots} {H : Heap} {Γ : Gh} {a : Act} {w : World} {Q : Exit → Act → World → Prop} (hρ : Reads C w0) (hlow : Low ops)
    (I : Inv C lim ops w0 Γ0 H0 w1 ds (p1 ++ x :: p2) rem rs loc listed s H Γ a w) (hr : x.1 ∈ Region.ready .any ops listed) :
    wpOp C.P ops Q x.1 (fun a' w' => ∃ Γ',Inv C lim ops w0 Γ0 H0 w1 ds (p1 ++ p2) rem rs loc (listed.setIfInBounds x.1 true) s H Γ' a' w') a w := by
  have hl : (p1 ++ x :: p2) ++ rem = p1 ++ x :: (p2 ++ rem) := by simp
  have hl' : (p1 ++ p2) ++ rem = p1 ++ (p2 ++ rem) := by simp
  have hself := I.self x (by simp) (I.wait x (by simp)).1
  have hlook := I.looks hlow hr hl fun _ => hself
  obtain ⟨u1,u2,u3,u4⟩ := I.lists hr hl
  have hx : ops[x.1]? = some x.2.2 := I.here x (by simp)
  have sub : ∀ y,y ∈ p1 ++ p2 → y ∈ p1 ++ x :: p2 := fun y hy => by
    rcases List.mem_append.1 hy with hy | hy
    · exact List.mem_append_left _ hy
    · exact List.mem_append_right _ (List.mem_cons_of_mem _ hy)
  have sub' : ∀ y,y ∈ (p1 ++ p2) ++ rem → y ∈ (p1 ++ x :: p2) ++ rem := fun y hy => by
    rcases List.mem_append.1 hy with hy | hy
    · exact List.mem_append_left _ (sub y hy)
    · exact List.mem_append_right _ hy
  have hS := I.rx.keep (ops := ops) (o := x.2.2) hlook
  have hA := Agree.keep (ops := ops) (o := x.2.2) (s := s)
  have done : ∀ (v : AV) (u : Value) (Γ' : Gh) (w' : World),s.put x.2.2.dst v = s → RV Γ' H v u → Rel C.P w0 Γ' H w' → Le Γ H Γ' H → Ext lim Γ0 H0 w1 Γ' H w' →
      (∀ y ∈ p1 ++ p2,MkOn ops s y → Γ.blk (loc y.1) = none → Γ'.blk (loc y.1) = none) →
      Inv C lim ops w0 Γ0 H0 w1 ds (p1 ++ p2) rem rs loc (listed.setIfInBounds x.1 true) s H Γ' (a.put x.2.2.dst u) w' := by
    intro v u Γ' w' hv hu hR hL hE hb
    refine ⟨fun y hy => I.here y (sub' y hy),fun y hy => I.self y (sub' y hy),?_,by rw [hl']; exact u1,u2,u3,fun y hy => ?_,fun y hy z hz => I.loc y (sub y hy) z (sub z hz),hR,hE,?_,?_⟩
    · rw [hl']
      have := I.pw
      rw [hl,List.pairwise_append] at this
      rw [List.pairwise_append]
      exact ⟨this.1,(List.pairwise_cons.1 this.2.1).2,fun y hy z hz => this.2.2 y hy z (List.mem_cons_of_mem _ hz)⟩
    · have := (I.wait y (sub y hy)).step (d := none) (u := .any) (rs' := rs) (loc' := loc) (Γ' := Γ') (H' := H) nofun nofun (fun _ _ _ h => h) (fun _ h => h) rfl
      by_cases hm : MkOn ops s y
      · exact this (fun l _ _ hbl he => ⟨rfl,by rw [he hm] at hbl ⊢; exact hb y hy hm hbl⟩) (Nat.le_refl _)
      · obtain ⟨g1,g2⟩ := I.wait y (sub y hy)
        refine ⟨g1,?_⟩
        rcases g2 with g2 | g2 | ⟨e1,e2,_⟩
        · exact .inl g2
        · exact .inr (.inl g2)
        · exact absurd ⟨e2,e1⟩ hm
    · have := (I.rx.mono hL).put (d := x.2.2.dst) (bad' := bad (p1 ++ p2)) hu fun e he hd => ?_
      · rw [hv] at this; exact this
      · rintro ⟨y,hy,hyd⟩
        rcases List.mem_append.1 hy with hy | hy
        · exact he ⟨y,by simp [hy],hyd⟩
        · rcases List.mem_cons.1 hy with rfl | hy
          · exact hd hyd
          · exact he ⟨y,by simp [hy],hyd⟩
    · rw [← I.defers]; cases x.2.2.dst <;> rfl
  unfold wpOp
  rw [hx]
  have hwant : ∀ b,wantA ops s x.2.2 = some b → Region.wanted x.2.2 (yielded ops a.tmps) = b := fun b hb => wantA_sound hS (hA.want.trans hb)
  simp only
  rcases (I.wait x (by simp)).2 with ⟨e1,e2⟩ | ⟨e1,e2,v,e3,e4,e5⟩ | ⟨e1,e2,v,ob,e3,e4,e5,e6,e7,e8,e9⟩
  · rw [hwant _ e1,if_neg (by simp)]
    exact ⟨Γ,done _ undef Γ w e2 RV.undef I.rel (Le.refl _ _) I.ext fun _ _ _ h => h⟩
  · rw [hwant _ e1,if_pos rfl]
    refine .inl ?_
    obtain ⟨nx,w',Γ',hrun,hv,hR,hE⟩ := opA_sound (o := x.2.2) hρ I.rel hS ((hA.op H).trans e4)
    have hR : Rel C.P w0 Γ' H w' := hR
    have hE : Ext lim Γ H w Γ' H w' := hE
    have hb : ∀ y ∈ p1 ++ p2,MkOn ops s y → Γ.blk (loc y.1) = none → Γ'.blk (loc y.1) = none := fun y hy hm hb => by
      rcases (I.wait y (sub y hy)).2 with ⟨q1,_⟩ | ⟨_,q2,_⟩ | ⟨_,_,_,_,_,_,_,q6,_⟩
      · exact absurd (q1.symm.trans hm.2) (by simp)
      · exact absurd (q2.symm.trans hm.1) (by simp)
      · exact (hE.keep _ q6 (.inr (.inr hb))).2.1.trans hb
    unfold Oper.wp
    rw [hrun]
    rcases hv with ⟨u,rfl,hu⟩ | ⟨rfl,hv⟩
    · exact ⟨Γ',done v u Γ' w' e3 hu hR hE.le (I.ext.trans hE) hb⟩
    · exact ⟨Γ',done v undef Γ' w' e3 (by rw [show v = .tup [] from hv]; exact RV.undef) hR hE.le (I.ext.trans hE) hb⟩
  · rw [hwant _ e1,if_pos rfl]
    refine .inl ?_
    obtain ⟨u,w',Γ',hrun,hu,hR,hL,hk,hE⟩ := I.rel.fill hρ hS e2 ((hA.op H).trans e4) e6 e7 e8 e9
    unfold Oper.wp
    rw [hrun]
    refine ⟨Γ',done _ u Γ' w' e3 hu hR hL (hE _ _ _ _ I.ext e5) fun y hy hm hb => ?_⟩
    rw [hk _ (I.loc y (sub y hy) x (by simp) (u4 y (by rw [← List.append_assoc]; exact List.mem_append_left _ hy)) hm ⟨e2,e1⟩)]
    exact hb
/-- The next one, that may not wait, is run. -/
theorem Inv.next {pend rem : List DOp} {x : DOp} {rs : List (Nat × Op × AV)} {loc : Nat → Nat} {listed : Array Bool} {s : Slots} {H : Heap} {Γ : Gh} {a : Act} {w : World} {Q : Exit → Act → World → Prop} (hρ : Reads C w0) (hcall : CallsOK C w0 call) (hlow : Low ops)
    (I : Inv C lim ops w0 Γ0 H0 w1 ds pend (x :: rem) rs loc listed s H Γ a w) (h : (evDraw C call lim ops (masks ops) (x :: rem) rs s H K).Ok g) (hf : x.2.1 = false) (hr : x.1 ∈ Region.ready .any ops listed) :
    wpOp C.P ops Q x.1 (fun a' w' => ∃ s' H' Γ',Inv C lim ops w0 Γ0 H0 w1 ds pend rem rs loc (listed.setIfInBounds x.1 true) s' H' Γ' a' w' ∧ (evDraw C call lim ops (masks ops) rem rs s' H' K).Ok g) a w := by
  obtain ⟨j,fl,o⟩ := x
  simp only at hf
  subst hf
  have hpend : (j,false,o) ∉ pend := fun h => by have := (I.wait _ h).1; cases this
  have hlook := I.looks hlow hr rfl fun h => absurd h hpend
  obtain ⟨g1,_⟩ := I.apart hlow hr rfl
  obtain ⟨u1,u2,u3,u4⟩ := I.lists hr rfl
  have hx : ops[j]? = some o := I.here (j,false,o) (by simp)
  have sub : ∀ y,y ∈ pend ++ rem → y ∈ pend ++ (j,false,o) :: rem := fun y hy => by
    rcases List.mem_append.1 hy with hy | hy
    · exact List.mem_append_left _ hy
    · exact List.mem_append_right _ (List.mem_cons_of_mem _ hy)
  have hS := I.rx.keep (ops := ops) (o := o) hlook
  have hA := Agree.keep (ops := ops) (o := o) (s := s)
  have hap : ∀ y ∈ pend,(∀ t,o.dst = some t → t ∉ y.2.2.looksAt ops) ∧ (∀ t,o.dst = some t → y.2.2.dst ≠ some t) := fun y hy => by
    obtain ⟨e1,e2,e3⟩ := Oper.apart_spec (g1 y hy).2.1
    exact ⟨e3,fun t ht e => e2 t e ht⟩
  have done : ∀ (v : AV) (u : Value) (H' : Heap) (Γ' : Gh) (w' : World),RV Γ' H' v u → Rel C.P w0 Γ' H' w' → Ext lim Γ H w Γ' H' w' → (rs.all (fun x => ((masks ops).getD j 0).testBit x.1 || again C lim (s.put o.dst v) H' x) = true ∨ H' = H) →
      Inv C lim ops w0 Γ0 H0 w1 ds pend rem rs loc (listed.setIfInBounds j true) (s.put o.dst v) H' Γ' (a.put o.dst u) w' := by
    intro v u H' Γ' w' hu hR hE hag
    have mk : ∀ y,y ∈ pend → (MkOn ops (s.put o.dst v) y ↔ MkOn ops s y) := fun y hy => by
      simp only [MkOn,(Agree.put (ops := ops) (s := s) (v := v) (hap y hy).1).want]
    refine ⟨fun y hy => I.here y (sub y hy),fun y hy => I.self y (sub y hy),?_,u1,u2,u3,fun y hy => ?_,fun y hy z hz hne h1 h2 => I.loc y hy z hz hne ((mk y hy).1 h1) ((mk z hz).1 h2),hR,I.ext.trans hE,?_,?_⟩
    · have := I.pw
      rw [List.pairwise_append] at this
      rw [List.pairwise_append]
      exact ⟨this.1,(List.pairwise_cons.1 this.2.1).2,fun y hy z hz => this.2.2 y hy z (List.mem_cons_of_mem _ hz)⟩
    · refine (I.wait y hy).step (hap y hy).1 (hap y hy).2 (fun _ q hq hv => ?_) (fun _ h => h) rfl (fun l hl _ hb _ => ?_) hE.le.sz
      · rcases hag with hag | hag
        · have := List.all_eq_true.1 hag _ hq
          simp only [Bool.or_eq_true] at this
          have := this.resolve_left (g1 y hy).2.2
          unfold again at this
          split at this
          · rename_i u' he
            rw [AV.eqv_eq _ _ this] at he
            exact he
          · cases this
        · subst hag
          rw [(Agree.put (ops := ops) (hap y hy).1).op]; exact hv
      · obtain ⟨q1,q2,_⟩ := hE.keep l hl (.inr (.inr hb))
        exact ⟨q1,q2.trans hb⟩
    · exact (I.rx.mono hE.le).put hu fun e he _ => he
    · rw [← I.defers]; cases o.dst <;> rfl
  unfold wpOp
  simp only [hx]
  unfold evDraw at h
  obtain ⟨b,hb,h⟩ := ok_bindR h
  have hw : Region.wanted o (yielded ops a.tmps) = b := wantA_sound hS (hA.want.trans hb)
  rw [hw]
  cases b with
  | false =>
    simp only [Bool.not_false,cond_true,putA_eq] at h
    rw [if_neg (by simp)]
    exact ⟨_,H,Γ,done _ undef H Γ w RV.undef I.rel (Ext.refl _ _ _ _) (.inr rfl),h⟩
  | true =>
    simp only [Bool.not_true,cond_false] at h
    rw [if_pos rfl]
    rw [← hA.evOp] at h
    refine .inl (evOp_sound hρ hcall h I.rel hS fun v H' u w' Γ' hK hu hR hE => ?_)
    rw [putA_eq] at hK
    obtain ⟨hag,hK⟩ := ok_cond hK
    exact ⟨_,H',Γ',done v u H' Γ' w' hu hR hE (.inl hag),hK⟩
/-- All that stands ahead of what is run now is let wait. -/
theorem Inv.advances {x : DOp} {post : List DOp} {listed : Array Bool} {a : Act} {w : World} : ∀ (pre pend : List DOp) (rs : List (Nat × Op × AV)) (loc : Nat → Nat) (s : Slots) (H : Heap) (Γ : Gh),
    Inv C lim ops w0 Γ0 H0 w1 ds pend (pre ++ x :: post) rs loc listed s H Γ a w → (evDraw C call lim ops (masks ops) (pre ++ x :: post) rs s H K).Ok g → (∀ y ∈ pre,y.2.1 = true) →
    ∃ rs' loc' s' H' Γ',Inv C lim ops w0 Γ0 H0 w1 ds (pend ++ pre) (x :: post) rs' loc' listed s' H' Γ' a w ∧ (evDraw C call lim ops (masks ops) (x :: post) rs' s' H' K).Ok g
  | [],pend,rs,loc,s,H,Γ,I,h,_ => ⟨rs,loc,s,H,Γ,by simpa using I,h⟩
  | y :: pre,pend,rs,loc,s,H,Γ,I,h,hf => by
    obtain ⟨rs',loc',s',H',Γ',I',h'⟩ := I.advance h (hf y (by simp))
    obtain ⟨rs2,loc2,s2,H2,Γ2,I2,h2⟩ := Inv.advances pre _ rs' loc' s' H' Γ' I' h' fun z hz => hf z (by simp [hz])
    exact ⟨rs2,loc2,s2,H2,Γ2,by simpa using I2,h2⟩
theorem Inv.ends {pend rem : List DOp} {rs : List (Nat × Op × AV)} {loc : Nat → Nat} {listed : Array Bool} {s : Slots} {H : Heap} {Γ : Gh} {a : Act} {w : World} (hlow : Low ops)
    (I : Inv C lim ops w0 Γ0 H0 w1 ds pend rem rs loc listed s H Γ a w) (hr : Region.ready .any ops listed = []) : pend = [] ∧ rem = [] := by
  have key : ∀ n i,i < n → i < ops.size → listed.getD i true = true := by
    intro n
    induction n with
    | zero => intro i hi; omega
    | succ n ih =>
      intro i hi hlt
      cases hli : listed.getD i true with
      | true => rfl
      | false =>
        exfalso
        have : i ∈ Region.ready .any ops listed := mem_ready.2 ⟨hli,ops[i],by simp [hlt],fun e he hb => by
          have hlo := hlow i ops[i] (by simp [hlt]) e he hb
          have := ih e.on (by omega) (by omega)
          have hs : e.on < listed.size := by rw [I.sz]; omega
          simpa [Array.getD,hs] using this⟩
        rw [hr] at this
        cases this
  have none : ∀ x,x ∉ pend ++ rem := fun x hx => by
    have hx' := I.here x hx
    have hlt := (Array.getElem?_eq_some_iff.1 hx').1
    have := (I.un x.1 hlt).2 ⟨x,hx,rfl⟩
    rw [key (x.1 + 1) x.1 (by omega) hlt] at this
    cases this
  have : pend ++ rem = [] := List.eq_nil_iff_forall_not_mem.2 none
  simpa using this
theorem draw_any {Q : Exit → Act → World → Prop} (hρ : Reads C w0) (hcall : CallsOK C w0 call) (hlow : Low ops)
    (hQ : ∀ s' H' Γ' a' w',(K s' H').Ok g → Ext lim Γ0 H0 w1 Γ' H' w' → Rel C.P w0 Γ' H' w' → RS Γ' H' s' a' → a'.defers = ds → Q .normal a' w') :
    ∀ (fuel : Nat) (pend rem : List DOp) (rs : List (Nat × Op × AV)) (loc : Nat → Nat) (listed : Array Bool) (s : Slots) (H : Heap) (Γ : Gh) (a : Act) (w : World),Inv C lim ops w0 Γ0 H0 w1 ds pend rem rs loc listed s H Γ a w → pend.length + rem.length ≤ fuel →
      (evDraw C call lim ops (masks ops) rem rs s H K).Ok g → wpAny C.P .any ops Q fuel listed a w := by
  intro fuel
  have fin : ∀ (pend rem : List DOp) (rs : List (Nat × Op × AV)) (loc : Nat → Nat) (listed : Array Bool) (s : Slots) (H : Heap) (Γ : Gh) (a : Act) (w : World),Inv C lim ops w0 Γ0 H0 w1 ds pend rem rs loc listed s H Γ a w →
      (evDraw C call lim ops (masks ops) rem rs s H K).Ok g → pend = [] ∧ rem = [] → Q .normal a w := by
    rintro pend rem rs loc listed s H Γ a w I h ⟨rfl,rfl⟩
    exact hQ s H Γ a w h I.ext I.rel (I.rx.all fun d ⟨x,hx,_⟩ => by cases hx) I.defers
  induction fuel with
  | zero =>
    intro pend rem rs loc listed s H Γ a w I hlen h
    have hnil : pend = [] ∧ rem = [] := ⟨List.eq_nil_of_length_eq_zero (by omega),List.eq_nil_of_length_eq_zero (by omega)⟩
    refine ⟨?_,fin _ _ _ _ _ _ _ _ _ _ I h hnil⟩
    obtain ⟨rfl,rfl⟩ := hnil
    refine List.eq_nil_iff_forall_not_mem.2 fun i hi => ?_
    obtain ⟨h1,o,h2,_⟩ := mem_ready.1 hi
    obtain ⟨x,hx,_⟩ := (I.un i (Array.getElem?_eq_some_iff.1 h2).1).1 h1
    cases hx
  | succ fuel ih =>
    intro pend rem rs loc listed s H Γ a w I hlen h
    refine ⟨fun hr => fin _ _ _ _ _ _ _ _ _ _ I h (I.ends hlow hr),fun i hi => ?_⟩
    have run : ∀ (p1 p2 rem : List DOp) (x : DOp) (rs : List (Nat × Op × AV)) (loc : Nat → Nat) (s : Slots) (H : Heap) (Γ : Gh),Inv C lim ops w0 Γ0 H0 w1 ds (p1 ++ x :: p2) rem rs loc listed s H Γ a w → (evDraw C call lim ops (masks ops) rem rs s H K).Ok g → x.1 = i →
        (p1 ++ x :: p2).length + rem.length ≤ fuel + 1 → wpOp C.P ops Q i (wpAny C.P .any ops Q fuel (listed.setIfInBounds i true)) a w := by
      intro p1 p2 rem x rs loc s H Γ I h hx hl
      subst hx
      refine wpOp_mono (fun a' w' ⟨Γ',I'⟩ => ?_) (I.runs hρ hlow hi)
      exact ih _ _ _ _ _ _ _ _ _ _ I' (by simp at hl ⊢; omega) h
    obtain ⟨h1,o,h2,_⟩ := mem_ready.1 hi
    obtain ⟨x,hx,hxi⟩ := (I.un i (Array.getElem?_eq_some_iff.1 h2).1).1 h1
    subst hxi
    rcases List.mem_append.1 hx with hx | hx
    · obtain ⟨p1,p2,rfl⟩ := List.append_of_mem hx
      exact run p1 p2 rem x rs loc s H Γ I h rfl hlen
    · obtain ⟨pre,post,rfl⟩ := List.append_of_mem hx
      have hfl := (I.apart (x := x) (p1 := pend ++ pre) (p2 := post) hlow hi (by simp)).1
      obtain ⟨rs',loc',s',H',Γ',I',h'⟩ := I.advances (x := x) pre pend rs loc s H Γ h fun y hy => (hfl y (by simp [hy])).1
      cases hf : x.2.1 with
      | true =>
        obtain ⟨rs2,loc2,s2,H2,Γ2,I2,h2⟩ := I'.advance h' hf
        exact run (pend ++ pre) [] post x rs2 loc2 s2 H2 Γ2 I2 h2 rfl (by simp at hlen ⊢; omega)
      | false =>
        refine wpOp_mono (fun a' w' ⟨s2,H2,Γ2,I2,h2⟩ => ?_) (I'.next hρ hcall hlow h' hf hi)
        exact ih _ _ _ _ _ _ _ _ _ _ I2 (by simp at hlen ⊢; omega) h2
theorem pairsD_spec {ms : List Nat} : ∀ {l : List DOp},pairsD ops ms l = true → l.Pairwise fun x y => pairD ops ms x y = true
  | [],_ => .nil
  | x :: r,h => by
    simp only [pairsD,Bool.and_eq_true] at h
    exact .cons (fun y hy => List.all_eq_true.1 h.1 y hy) (pairsD_spec h.2)
theorem orderD_here {ord : Option (List (Nat × Bool))} : ∀ x ∈ orderD ops ord,ops[x.1]? = some x.2.2 := by
  intro x hx
  cases ord with
  | none =>
    obtain ⟨⟨o,i⟩,h,rfl⟩ := List.mem_map.1 hx
    have := List.mem_zipIdx_iff_getElem?.1 h
    simpa using this
  | some l =>
    obtain ⟨⟨i,b⟩,_,h⟩ := List.mem_filterMap.1 hx
    obtain ⟨o,ho,rfl⟩ := map_some h
    exact ho
theorem region_draw {id : Nat} {ord : Option (List (Nat × Bool))} {s : Slots} {H : Heap} {Γ : Gh} {a : Act} {w : World} {Q : Exit → Act → World → Prop} (hρ : Reads C w0) (hm : C.P.follows .mixedOrders = true) (hcall : CallsOK C w0 call)
    (h : (drawK C call lim ops ord s H K).Ok g) (R : Rel C.P w0 Γ H w) (hS : RS Γ H s a)
    (hQ : ∀ s' H' Γ' a' w',(K s' H').Ok g → Ext lim Γ H w Γ' H' w' → Rel C.P w0 Γ' H' w' → RS Γ' H' s' a' → a'.defers = a.defers → Q .normal a' w') : (Code.region id ops true).wp C.P Q a w := by
  unfold drawK at h
  rw [forceNats_eq] at h
  obtain ⟨hok,h⟩ := ok_cond h
  simp only [okD,Bool.and_eq_true] at hok
  obtain ⟨⟨⟨k1,k2⟩,k3⟩,k4⟩ := hok
  have k1 := Nat.eq_of_beq_eq_true k1
  have hhere := orderD_here (ops := ops) (ord := ord)
  have hcov : ∀ i,i < ops.size → ∃ x ∈ orderD ops ord,x.1 = i := fun i hi => by
    have := List.all_eq_true.1 k2 i (List.mem_range.2 hi)
    obtain ⟨x,hx,he⟩ := List.any_eq_true.1 this
    exact ⟨x,hx,Nat.eq_of_beq_eq_true he⟩
  have hone : ∀ x ∈ orderD ops ord,(∀ e ∈ x.2.2.after,Region.binds .any e = true → e.on < x.1) ∧ (x.2.1 = true → selfD ops x.2.2 = true) := fun x hx => by
    have := List.all_eq_true.1 k3 x hx
    simp only [Bool.and_eq_true,Bool.or_eq_true,Bool.not_eq_true',List.all_eq_true] at this
    refine ⟨fun e he hb => ?_,fun hf => this.2.resolve_left (by simp [hf])⟩
    have := (this.1 e (by simpa using he)).resolve_left (by simp [hb])
    simpa [Nat.blt_eq] using this
  have hlow : Low ops := fun i o ho e he hb => by
    obtain ⟨x,hx,rfl⟩ := hcov i (Array.getElem?_eq_some_iff.1 ho).1
    have := hhere x hx
    rw [ho] at this
    obtain rfl := Option.some.inj this
    exact (hone x hx).1 e he hb
  have hRw : Rel C.P w0 Γ H { w with drawn := w.drawn + 1 } := R.same rfl rfl rfl rfl
  have hE0 : Ext lim Γ H w Γ H { w with drawn := w.drawn + 1 } := Ext.same rfl
  refine wp_region_any hm ?_
  refine draw_any (Γ0 := Γ) (H0 := H) (w1 := { w with drawn := w.drawn + 1 }) (ds := a.defers) hρ hcall hlow (fun s' H' Γ' a' w' hk hE => hQ s' H' Γ' a' w' hk (hE0.trans hE)) ops.size [] (orderD ops ord) [] (fun _ => 0) _ s H Γ a _ ?_ (by simp [k1]) h
  have hrep : ∀ i (d : Bool),i < ops.size → (Array.replicate ops.size false).getD i d = false := fun i d hi => by simp [Array.getD,hi]
  refine ⟨fun x hx => hhere x (by simpa using hx),fun x hx => (hone x (by simpa using hx)).2,by simpa using pairsD_spec k4,fun i hi => ⟨fun _ => by simpa using hcov i hi,fun _ => hrep i true hi⟩,by simp,fun i o ho hli => ?_,by simp,by simp,hRw,Ext.refl _ _ _ _,RX.of hS,rfl⟩
  rw [hrep i false (Array.getElem?_eq_some_iff.1 ho).1] at hli
  cases hli
end
end Go.Ev

-- part EvFA
/- EvFA: the evaluator is right: code. -/
set_option linter.unusedVariables false
set_option linter.unusedSimpArgs false
namespace Go.Ev
open Go.RowKit
section
variable {C : Ctx} {w0 : World} {lim : Nat}
def Ex.to : Ex → Exit
  | .normal => .normal
  | .exit id => .exit id
  | .ret => .ret
/-- Blocks for deferred calls that no round fills. -/
def Marks (base : Nat) (Γ : Gh) (H : Heap) (w : World) : List Deferred → Prop
  | [] => True
  | d :: ds => (∃ r,d = { target := .collected r,args := #[] } ∧ base ≤ r ∧ r < w.heap.size ∧ w.heap[r]? = some (.deferred (some [])) ∧ (∀ l,l < H.sz → Γ.blk l ≠ some r) ∧ ∀ d' ∈ ds,d'.target ≠ .collected r) ∧ Marks base Γ H w ds
theorem Marks.ext {base : Nat} {Γ Γ' : Gh} {H H' : Heap} {w w' : World} (E : Ext lim Γ H w Γ' H' w') : ∀ {ds : List Deferred},Marks base Γ H w ds → Marks base Γ' H' w' ds
  | [],_ => trivial
  | _ :: _,⟨⟨r,h1,h2,h3,h4,h5,h6⟩,h⟩ => by
    obtain ⟨e1,e2⟩ := E.frame r h3 h5
    exact ⟨⟨r,h1,h2,Nat.lt_of_lt_of_le h3 E.size,e1.trans h4,e2,h6⟩,h.ext E⟩
theorem Marks.lt {base : Nat} {Γ : Gh} {H : Heap} {w : World} : ∀ {ds : List Deferred},Marks base Γ H w ds → ∀ d ∈ ds,∀ r,d.target = .collected r → r < w.heap.size
  | _ :: _,⟨⟨r,h1,_,h3,_⟩,h⟩,d,hd,r',hr => by
    rcases List.mem_cons.1 hd with rfl | hd
    · subst h1
      cases hr
      exact h3
    · exact h.lt d hd r' hr
/-- A block that is nobody's own. -/
theorem Rel.other {P : Program} {Γ : Gh} {H : Heap} {w w' : World} {r : Nat} {o : Obj} (R : Rel P w0 Γ H w) (hc : Chg w w' r o) (hr : w0.heap.size ≤ r) (hf : ∀ l,l < H.sz → Γ.blk l ≠ some r) : Rel P w0 Γ H w' :=
  ⟨hc.below hr R.below,fun l b hl hb => by
    obtain ⟨h1,h2,h3⟩ := R.obj l b hl hb
    exact ⟨h1,Nat.lt_of_lt_of_le h2 hc.size,h3.mono (Le.refl _ _) (hc.other b fun e => hf l hl (e ▸ hb)) rfl⟩,R.inj⟩
theorem Ext.other {P : Program} {Γ Γ' : Gh} {H H' : Heap} {w w' w'' : World} {r : Nat} {o : Obj} (R : Rel P w0 Γ H w) (E : Ext lim Γ H w Γ' H' w') (hc : Chg w' w'' r o) (hr : w.heap.size ≤ r) : Ext lim Γ H w Γ' H' w'' :=
  ⟨E.le,fun l hl hk => by
    obtain ⟨h1,h2,h3,h4⟩ := E.keep l hl hk
    refine ⟨h1,h2,h3,fun b hb => (hc.other b ?_).trans (h4 b hb)⟩
    have := (R.obj l b hl hb).2.1
    omega,fun b hb hf => by
    obtain ⟨h1,h2⟩ := E.frame b hb hf
    exact ⟨(hc.other b (by omega)).trans h1,h2⟩,Nat.le_trans E.size hc.size⟩
theorem putObj_chg {w : World} {b : Nat} {o o' : Obj} (h : w.heap[b]? = some o) : Chg w (w.putObj b o') b o' := setObj_chg h
/-- The record of a loop. -/
theorem Rel.loop {P : Program} {Γ : Gh} {H : Heap} {w : World} {l b : Nat} {ps : Array Tmp} {as bd : Code} {s : List AV} {st : Nat} (R : Rel P w0 Γ H w) (hl : l < H.sz) (hb : Γ.blk l = some b) (hg : H.get l = .loop ps as bd s st) :
    ∃ r : Loop,w.heap[b]? = some (.loop r) ∧ r.params = ps ∧ r.assign = as ∧ r.body = bd ∧ RVs Γ H s r.tmps.toList ∧ LoopSt st r.state r.pending := by
  obtain ⟨_,_,h⟩ := R.obj l b hl hb
  rw [hg] at h
  exact h
theorem Rel.loopPut {P : Program} {Γ : Gh} {H : Heap} {w : World} {l b : Nat} {ps : Array Tmp} {as bd : Code} {s : List AV} {st st' : Nat} {r r' : Loop} (R : Rel P w0 Γ H w) (hlim : lim ≤ l) (hl : l < H.sz) (hb : Γ.blk l = some b) (hg : H.get l = .loop ps as bd s st)
    (hw : w.heap[b]? = some (.loop r)) (h1 : r'.params = ps) (h2 : r'.assign = as) (h3 : r'.body = bd) (h4 : RVs Γ H s r'.tmps.toList) (h5 : LoopSt st' r'.state r'.pending) :
    Rel P w0 Γ (H.put l (.loop ps as bd s st')) (w.putObj b (.loop r')) ∧ Ext lim Γ H w Γ (H.put l (.loop ps as bd s st')) (w.putObj b (.loop r')) := by
  have hver : H.ver l = 0 := by simp [Heap.ver,hg,AObj.ver]
  have hup := Gh.upd_self hb
  have hle : Le Γ H (Γ.upd l b (Γ.spare l)) (H.put l (.loop ps as bd s st')) := Le.put b _ (by rw [hver]; exact Nat.le_refl _) (fun _ => ⟨hb,rfl⟩)
  have key := Rel.upd (lim := lim) (o := .loop ps as bd s st') (Γ.spare l) R hl hb hlim (by rw [hg]; simp) (putObj_chg (o' := .loop r') hw) (.inl rfl) (by rw [hver]; exact Nat.le_refl _) (fun _ => ⟨rfl,rfl⟩)
    ⟨r',(putObj_chg hw).here,h1,h2,h3,RVs.mono hle _ _ h4,h5⟩
  rw [hup] at key
  exact key
theorem Rel.loopGone {P : Program} {Γ : Gh} {H : Heap} {w : World} {l b : Nat} {ps : Array Tmp} {as bd : Code} {s : List AV} {st : Nat} {r : Loop} {o : Obj} (R : Rel P w0 Γ H w) (hlim : lim ≤ l) (hl : l < H.sz) (hb : Γ.blk l = some b) (hg : H.get l = .loop ps as bd s st)
    (hw : w.heap[b]? = some (.loop r)) : Rel P w0 Γ (H.put l .hole) (w.putObj b o) ∧ Ext lim Γ H w Γ (H.put l .hole) (w.putObj b o) := by
  have hver : H.ver l = 0 := by simp [Heap.ver,hg,AObj.ver]
  have hup := Gh.upd_self hb
  have key := Rel.upd (lim := lim) (o := .hole) (Γ.spare l) R hl hb hlim (by rw [hg]; simp) (putObj_chg (o' := o) hw) (.inl rfl) (by rw [hver]; exact Nat.le_refl _) (fun _ => ⟨rfl,rfl⟩) trivial
  rw [hup] at key
  exact key
theorem calleeA_some {v : AV} {xs : List AV} {c : FuncId × List AV} (h : calleeA v xs = some c) : ∃ first cap,v = .fn (.func c.1) first cap ∧ c.2 = first ++ xs ++ cap := by
  unfold calleeA at h
  split at h
  · obtain rfl := Option.some.inj h
    exact ⟨_,_,rfl,rfl⟩
  · cases h
set_option maxHeartbeats 2000000 in
theorem ev_sound {call : CallF} {yc : YieldF} {rb : Bool} {rd : Option Nat} {m base : Nat} {f : FuncId} {n : Nat} (hρ : Reads C w0) (hm : C.P.follows .mixedOrders = true) (hcall : CallsOK C w0 call) (hy : YieldsOK C w0 yc) (hrd : rb = false → rd = none) (hB : w0.heap.size ≤ base) : ∀ (c : Code) (s : Slots) (H : Heap) (κ : Ex → Slots → Heap → Res) (g : AV × Heap → Prop),(ev C call yc rb f lim n c s H κ).Ok g →
    ∀ (Γ : Gh) (a : Act) (w : World) (Q : Exit → Act → World → Prop),Rel C.P w0 Γ H w → RS Γ H s a → Marks base Γ H w a.defers → base ≤ w.heap.size →
    (∀ e s' H' Γ' a' w',(κ e s' H').Ok g → Ext lim Γ H w Γ' H' w' → Rel C.P w0 Γ' H' w' → RS Γ' H' s' a' → Marks base Γ' H' w' a'.defers → Q (Ex.to e) a' w') → c.wpIn (FR rd) m C.P Q a w := by
  intro c
  induction c with
  | skip => intro s H κ g h Γ a w Q R hS hM hb hQ; exact wpIn_skip (hQ .normal s H Γ a w h (Ext.refl _ _ _ _) R hS hM)
  | label l => intro s H κ g h Γ a w Q R hS hM hb hQ; exact wpIn_label (hQ .normal s H Γ a w h (Ext.refl _ _ _ _) R hS hM)
  | exit id => intro s H κ g h Γ a w Q R hS hM hb hQ; exact wpIn_exit (hQ (.exit id) s H Γ a w h (Ext.refl _ _ _ _) R hS hM)
  | ret => intro s H κ g h Γ a w Q R hS hM hb hQ; exact wpIn_ret (hQ .ret s H Γ a w h (Ext.refl _ _ _ _) R hS hM)
  | region id ops draw =>
    intro s H κ g h Γ a w Q R hS hM hb hQ
    unfold ev at h
    cases draw with
    | false =>
      exact wpIn_region_list (evOps_sound hρ hcall hy _ _ _ Γ a w h R hS fun s' H' Γ' a' w' hk hE hR hS' hd => hQ .normal s' H' Γ' a' w' hk hE hR hS' (hd ▸ hM.ext hE))
    | true =>
      obtain ⟨h1,h⟩ := ok_cond_no (by simpa only [cond_true] using h)
      obtain rfl := hrd h1
      exact wpIn_wide.2 (region_draw hρ hm hcall h R hS fun s' H' Γ' a' w' hk hE hR hS' hd => hQ .normal s' H' Γ' a' w' hk hE hR hS' (hd ▸ hM.ext hE))
  | seq x y ihx ihy =>
    intro s H κ g h Γ a w Q R hS hM hb hQ
    unfold ev at h
    refine wpIn_seq (ihx s H _ g h Γ a w _ R hS hM hb fun e s' H' Γ' a' w' hk hE hR hS' hM' => ?_)
    cases e with
    | normal =>
      simp only [normK_eq] at hk
      exact ihy _ H' κ g hk Γ' a' w' Q hR (hS'.norm _) hM' (Nat.le_trans hb hE.size) fun e s'' H'' Γ'' a'' w'' hk' hE' hR' hS'' hM'' => hQ e s'' H'' Γ'' a'' w'' hk' (hE.trans hE') hR' hS'' hM''
    | exit id => exact hQ (.exit id) s' H' Γ' a' w' hk hE hR hS' hM'
    | ret => exact hQ .ret s' H' Γ' a' w' hk hE hR hS' hM'
  | cond x p q ihp ihq =>
    intro s H κ g h Γ a w Q R hS hM hb hQ
    unfold ev at h
    obtain ⟨t,ht,h⟩ := ok_bindR h
    have hx := hS.opr x
    cases hq : oprA s x with
    | bool b =>
      rw [hq] at ht hx
      obtain rfl := Option.some.inj ht
      simp only [RV] at hx
      cases b with
      | true => exact wpIn_cond_true hx (ihp s H κ g h Γ a w Q R hS hM hb hQ)
      | false => exact wpIn_cond_false hx (ihq s H κ g h Γ a w Q R hS hM hb hQ)
    | _ => rw [hq] at ht; cases ht
  | block id b ih =>
    intro s H κ g h Γ a w Q R hS hM hb hQ
    unfold ev at h
    refine wpIn_block (ih s H _ g h Γ a w _ R hS hM hb fun e s' H' Γ' a' w' hk hE hR hS' hM' => ?_)
    cases e with
    | normal => exact hQ .normal s' H' Γ' a' w' hk hE hR hS' hM'
    | exit j =>
      show (if j = id then Q .normal a' w' else Q (.exit j) a' w')
      cases hj : Nat.beq j id with
      | true =>
        simp only [hj,cond_true] at hk
        rw [if_pos (Nat.eq_of_beq_eq_true hj)]
        exact hQ .normal s' H' Γ' a' w' hk hE hR hS' hM'
      | false =>
        simp only [hj,cond_false] at hk
        rw [if_neg (Nat.ne_of_beq_eq_false hj)]
        exact hQ (.exit j) s' H' Γ' a' w' hk hE hR hS' hM'
    | ret => exact hQ .ret s' H' Γ' a' w' hk hE hR hS' hM'
  | loop b ih =>
    intro s H κ g h Γ a w Q R hS hM hb hQ
    unfold ev at h
    refine wpIn_loop_rounds n ?_
    have key : ∀ (k : Nat) (s : Slots) (H : Heap) (Γ : Gh) (a : Act) (w : World),(loopK (headL C f b) (fun s H κ => ev C call yc rb f lim n b s H κ) k s H κ).Ok g → Rel C.P w0 Γ H w → RS Γ H s a → Marks base Γ H w a.defers → base ≤ w.heap.size →
        (∀ e s' H' Γ' a' w',(κ e s' H').Ok g → Ext lim Γ H w Γ' H' w' → Rel C.P w0 Γ' H' w' → RS Γ' H' s' a' → Marks base Γ' H' w' a'.defers → Q (Ex.to e) a' w') → Code.roundsIn (FR rd) m C.P b Q k a w := by
      intro k
      induction k with
      | zero => intro s H Γ a w h; exact h.elim
      | succ k ihm =>
        intro s H Γ a w h R hS hM hb hQ
        rw [roundsIn_succ]
        unfold loopK at h
        rw [normK_eq] at h
        refine ih _ H _ g h Γ a w _ R (hS.norm _) hM hb fun e s' H' Γ' a' w' hk hE hR hS' hM' => ?_
        cases e with
        | normal => exact ihm s' H' Γ' a' w' hk hR hS' hM' (Nat.le_trans hb hE.size) fun e s'' H'' Γ'' a'' w'' hk' hE' hR' hS'' hM'' => hQ e s'' H'' Γ'' a'' w'' hk' (hE.trans hE') hR' hS'' hM''
        | exit id => exact hQ (.exit id) s' H' Γ' a' w' hk hE hR hS' hM'
        | ret => exact hQ .ret s' H' Γ' a' w' hk hE hR hS' hM'
    exact key n s H Γ a w h R hS hM hb hQ
  | rangeFunc x ps as b _ _ =>
    intro s H κ g h Γ a w Q R hS hM hb hQ
    unfold ev at h
    obtain ⟨h1,h⟩ := ok_cond_no h
    simp only [Bool.or_eq_false_iff,Bool.not_eq_false'] at h1
    obtain ⟨hrb,hlim⟩ := h1
    have hlim := Nat.le_of_ble_eq_true hlim
    obtain rfl := hrd hrb
    obtain ⟨⟨q,gs⟩,hc,h⟩ := ok_bindR h
    obtain ⟨hbody,h⟩ := ok_cond h
    rw [applyK_eq] at h
    have hcl := ok_bind.1 h
    clear h
    obtain ⟨first,cap,hfx,hgs⟩ := calleeA_some hc
    have hx := hS.opr x
    rw [hfx] at hx
    obtain ⟨va,vc,hfv,ha,hcp⟩ := hx
    simp only at hgs hcl hbody hfv
    refine wpIn_rangeFunc fun fn _ => ?_
    obtain ⟨rc,hrc⟩ : ∃ rc : Loop,rc = { state := .ready,pending := none,fn,tmps := a.tmps,params := ps,assign := as,body := b,defers := w.heap.size } := ⟨_,rfl⟩
    have hc0 : Chg w (w.alloc (.deferred (some []))) w.heap.size (.deferred (some [])) := Chg.alloc w _
    have hfr0 : ∀ l,l < H.sz → Γ.blk l ≠ some w.heap.size := fun l hl e => by
      have := (R.obj l _ hl e).2.1
      omega
    have R0 := R.other hc0 R.below.size hfr0
    have E0 : Ext lim Γ H w Γ H (w.alloc (.deferred (some []))) := Ext.other R (Ext.refl _ _ _ _) hc0 (Nat.le_refl _)
    have hs0 : (w.alloc (.deferred (some []))).heap.size = w.heap.size + 1 := by simp
    obtain ⟨R1,E1⟩ := Rel.new (lim := lim) (o := .loop ps as b s 0) 0 R0 (Chg.alloc _ (.loop rc)) ⟨rc,(Chg.alloc _ _).here,by rw [hrc],by rw [hrc],by rw [hrc],RVs.mono (Le.new _ _ _) _ _ (by rw [hrc]; exact hS),by rw [hrc]; exact ⟨rfl,rfl⟩⟩
    rw [hs0] at R1 E1
    have hnew : (Γ.upd H.sz (w.heap.size + 1) 0).blk H.sz = some (w.heap.size + 1) := by simp [Gh.upd]
    have hsz : H.sz < (H.new (.loop ps as b s 0)).sz := by rw [Heap.sz_new]; omega
    have hgn : (H.new (.loop ps as b s 0)).get H.sz = .loop ps as b s 0 := by rw [Heap.get_new,if_pos rfl]
    have hvn : (H.new (.loop ps as b s 0)).ver H.sz = 0 := by simp [Heap.ver,hgn,AObj.ver]
    have hE01 := E0.trans E1
    have hargs : RVs (Γ.upd H.sz (w.heap.size + 1) 0) (H.new (.loop ps as b s 0)) (first ++ [.yld H.sz] ++ cap) (va.toList ++ [Value.func (.yield (w.heap.size + 1)) #[] #[]] ++ vc.toList) :=
      RVs.append (RVs.append (RVs.mono hE01.le _ _ ha) ⟨_,[],rfl,⟨hsz,⟨_,rfl⟩,fun _ => ⟨_,hnew,rfl⟩⟩,rfl⟩) (RVs.mono hE01.le _ _ hcp)
    rw [hgs] at hcl
    rcases hcall _ _ _ _ _ hcl _ _ _ R1 hargs with ⟨_,_,_,_,_,_,hno,_⟩ | ⟨hrun,hC⟩
    · rw [hbody] at hno; cases hno
    refine ⟨w.heap.size + 1,[{ target := .collected w.heap.size,args := #[] }],(w.alloc (.deferred (some []))).alloc (.loop rc),{ target := .fn (.func q) vc,args := va ++ #[Value.func (.yield (w.heap.size + 1)) #[] #[]] },(w.alloc (.deferred (some []))).alloc (.loop rc),q,
      (va.toList ++ [Value.func (.yield (w.heap.size + 1)) #[] #[]] ++ vc.toList).toArray,(w.alloc (.deferred (some []))).alloc (.loop rc),by rw [hrc]; exact run_enterLoop_outer _ _ _ _ _,?_,fun _ _ => trivial,?_,fun h => (by cases h),FR.calls (rd := none) (Calls.mono hC ?_)⟩
    · simp only [resolve,hfv,Deferred.ofValue]
      simp [Act.eval]
    · have : (va ++ #[Value.func (.yield (w.heap.size + 1)) #[] #[]] ++ vc) = (va.toList ++ [Value.func (.yield (w.heap.size + 1)) #[] #[]] ++ vc.toList).toArray := by
        apply Array.toList_inj.1
        simp
      show (callFunc q (va ++ #[Value.func (.yield (w.heap.size + 1)) #[] #[]] ++ vc)).run C.P _ = _
      rw [this]
      exact hrun
    · rintro e w3 ⟨z,Γ2,v,H2,h,rfl,hz,R2,E2⟩
      have hbk := E2.le.same H.sz (w.heap.size + 1) hsz
      unfold loopEnd at h
      simp only at h
      split at h
      · rename_i ps' as' bd' s' st hg2
        rw [applyK_eq] at h
        have hv2 : H2.ver H.sz = 0 := by simp [Heap.ver,hg2,AObj.ver]
        have hb2 := (hbk (hv2.trans hvn.symm) hnew).1
        have hsz2 : H.sz < H2.sz := Nat.lt_of_lt_of_le hsz E2.le.sz
        obtain ⟨r2,hw2,_,_,_,_,hst⟩ := R2.loop hsz2 hb2 hg2
        have hnb : r2.state ≠ .busy := by
          match st,hst with
          | 0,q => rw [q.1]; simp
          | 1,_ => exact h.elim
          | 2,q => rw [q.1]; simp
          | n + 3,q => rw [q.1]; simp
        have hend := run_endLoop (P := C.P) hw2 hnb
        obtain ⟨R3,E3⟩ := R2.loopGone (lim := lim) (o := .loop { r2 with state := .exhausted }) hlim hsz2 hb2 hg2 hw2
        obtain ⟨W4,hW4⟩ : ∃ W4,w3.putObj (w.heap.size + 1) (.loop { r2 with state := .exhausted }) = W4 := ⟨_,rfl⟩
        rw [hW4] at hend R3 E3
        have Eall := hE01.trans (E2.trans E3)
        have hMm : Marks base (Γ.upd H.sz (w.heap.size + 1) 0) (H.new (.loop ps as b s 0)) ((w.alloc (.deferred (some []))).alloc (.loop rc)) ([{ target := .collected w.heap.size,args := #[] }] ++ a.defers) := by
          refine ⟨⟨w.heap.size,rfl,hb,by simp; omega,?_,fun l hl e => ?_,fun d hd e => ?_⟩,hM.ext hE01⟩
          · exact ((Chg.alloc _ (.loop rc)).other _ (by simp)).trans hc0.here
          · rw [Heap.sz_new] at hl
            by_cases e' : l = H.sz
            · rw [e',hnew] at e
              have := Option.some.inj e
              omega
            · exact hfr0 l (by omega) (by simpa [Gh.upd,e'] using e)
          · have := hM.lt d hd _ e
            omega
        have hM3 := hMm.ext (E2.trans E3)
        refine ⟨r2.pending,W4,hend,?_⟩
        match st,hst,h with
        | 0,q,h => rw [q.2]; exact hQ .normal s _ Γ2 _ _ h Eall R3 (hS.mono Eall.le) hM3
        | 1,_,h => exact h.elim
        | 2,q,h => rw [q.2]; exact wpIn_ret (hQ .ret s _ Γ2 _ _ h Eall R3 (hS.mono Eall.le) hM3)
        | n + 3,q,h => rw [q.2]; exact wpIn_exit (hQ (.exit n) s _ Γ2 _ _ h Eall R3 (hS.mono Eall.le) hM3)
      · exact h.elim
  | scope b _ => intro s H κ r h; exact h.elim
  | goto l => intro s H κ r h; exact h.elim
  | refuse y => intro s H κ r h; exact h.elim

end
end Go.Ev

-- part EvF
/- EvF: the evaluator is right: calls. -/
set_option linter.unusedVariables false
set_option linter.unusedSimpArgs false
namespace Go.Ev
open Go.RowKit
section
variable {C : Ctx} {w0 : World} {lim : Nat}
/-- The results. -/
def resSem (tmps : Array Value) : ResultVar → Sem Value
  | .tmp t => pure (tmps.getD t undef)
  | .cell a t => do loadVar t (← asAddr (tmps.getD a undef))
theorem results_eq (fn : Func) (tmps : Array Value) : results fn tmps = (do
    let vs ← fn.results.mapM (resSem tmps)
    pure (if h : vs.size = 1 then vs[0] else .tuple vs)) := by
  unfold results
  have e : resSem tmps = fun x => (match x with
      | .tmp t => pure (tmps.getD t undef)
      | .cell a t => do loadVar t (← asAddr (tmps.getD a undef))) := by
    funext x
    cases x <;> rfl
  rw [e]
  rfl
theorem resA_list {Γ : Gh} {H : Heap} {w : World} {s : Slots} {a : Act} (hρ : Reads C w0) (R : Rel C.P w0 Γ H w) (hS : RS Γ H s a) : ∀ (l : List ResultVar) (vs : List AV),l.mapM (resA1 C s H) = some vs →
    ∃ us,(l.mapM (resSem a.tmps)).run C.P w = .ok us w ∧ RVs Γ H vs us
  | [],vs,h => by simp at h; subst h; exact ⟨[],by simp,rfl⟩
  | v :: l,vs,h => by
    simp only [List.mapM_cons,Option.bind_eq_bind,Option.pure_def] at h
    obtain ⟨y,hy,h⟩ := bind_some h
    obtain ⟨ys,hys,h⟩ := bind_some h
    obtain rfl := Option.some.inj h
    obtain ⟨us,hus,hr⟩ := resA_list hρ R hS l ys hys
    have one : ∀ z,(resSem a.tmps v).run C.P w = .ok z w → ((v :: l).mapM (resSem a.tmps)).run C.P w = .ok (z :: us) w := fun z hz => by
      simp only [List.mapM_cons,Sem.run_bind,hz,Result.andThen_ok,hus,Sem.run_pure]
    cases v with
    | tmp t =>
      obtain rfl := Option.some.inj hy
      exact ⟨a.tmps.getD t undef :: us,one _ rfl,_,_,rfl,hS.opr (.tmp t),hr⟩
    | cell x t =>
      obtain ⟨z,hz,hrz⟩ := loadA_sound hρ R hy (hS.opr (.tmp x))
      refine ⟨z :: us,one _ ?_,_,_,rfl,hrz,hr⟩
      have e : a.eval (.tmp x) = a.tmps.getD x undef := rfl
      rw [e] at hz
      simp only [Instr.loadAt] at hz
      simp only [resSem]
      generalize a.tmps.getD x undef = q at hz
      cases q with
      | pointer p =>
        cases p with
        | some p => exact hz
        | none => simp [Instr.sureAddr,Result.andThen] at hz
      | _ => simp [Instr.sureAddr,Result.andThen] at hz
theorem resA_sound {Γ : Gh} {H : Heap} {w : World} {s : Slots} {a : Act} {fn : Func} {v : AV} (hρ : Reads C w0) (R : Rel C.P w0 Γ H w) (hS : RS Γ H s a) (h : resA C fn s H = some v) : Fine C.P Γ H w v (results fn a.tmps) := by
  unfold resA at h
  obtain ⟨vs,hvs,hv⟩ := map_some h
  obtain ⟨us,hus,hr⟩ := resA_list hρ R hS _ _ hvs
  have hrun : (fn.results.mapM (resSem a.tmps)).run C.P w = .ok us.toArray w := by
    rw [Array.mapM_eq_mapM_toList]
    simp only [Sem.run_map,hus,Result.andThen_ok]
  have hl := RVs.length hr
  refine ⟨if h : us.toArray.size = 1 then us.toArray[0] else .tuple us.toArray,?_,?_⟩
  · rw [results_eq]
    simp only [Sem.run_bind,hrun,Result.andThen_ok,Sem.run_pure]
  · rw [← hv]
    split
    · rename_i y
      obtain ⟨x,z,rfl,h1,h2⟩ := hr
      obtain rfl := h2
      simpa using h1
    · rename_i hne
      have : ¬ us.toArray.size = 1 := by
        intro e
        simp at e
        rw [e] at hl
        cases vs with
        | nil => simp at hl
        | cons y ys =>
          cases ys with
          | nil => exact hne y rfl
          | cons _ _ => simp at hl
      rw [dif_neg this]
      exact ⟨us.toArray,rfl,by simpa using hr⟩

/-- What a call made may be forgotten, where it changed nothing that was there. -/
theorem forget {Γ Γ' : Gh} {H H' : Heap} {w w' : World} {v : AV} {x : Value} (R : Rel C.P w0 Γ H w) (R' : Rel C.P w0 Γ' H' w') (E : Ext H.sz Γ H w Γ' H' w') (hu : v.under H.sz = true) (hv : RV Γ' H' v x) (lim : Nat) :
    RV Γ H v x ∧ Rel C.P w0 Γ H w' ∧ Ext lim Γ H w Γ H w' := by
  have hk : ∀ l,l < H.sz → H'.get l = H.get l ∧ Γ'.blk l = Γ.blk l ∧ Γ'.spare l = Γ.spare l ∧ ∀ b,Γ.blk l = some b → w'.heap[b]? = w.heap[b]? := fun l hl => E.keep l hl (.inl hl)
  refine ⟨RV.under (Nat.le_refl _) (fun l hl => ?_) v x hu hv,⟨R'.below,fun l b hl hb => ?_,R.inj⟩,Le.refl _ _,fun l hl _ => ⟨rfl,rfl,rfl,(hk l hl).2.2.2⟩,fun b hb hf => ⟨(E.frame b hb hf).1,hf⟩,E.size⟩
  · obtain ⟨e1,e2,e3,_⟩ := hk l hl
    exact ⟨by simp [Heap.ver,e1],e2,e3⟩
  · obtain ⟨h1,h2,h3⟩ := R.obj l b hl hb
    exact ⟨h1,Nat.lt_of_lt_of_le h2 E.size,h3.mono (Le.refl _ _) ((hk l hl).2.2.2 b hb) rfl⟩

/-- What the program's functions without a body are. -/
def XK.sem : XK → Array Value → Sem Value
  | .load k => Extern.Atomic.loadT (.int k)
  | .store => Extern.Atomic.storeT
  | .cas k => Extern.Atomic.casT (.int k)
  | .add k => Extern.Atomic.update (Op.intArith .add) k true
  | .same => Extern.AbiNoEscape.same
  | .nozero ps t => Extern.BytealgMakeNoZero.makeNoZero ps #[t]
  | .idxB => Extern.BytealgIndexByte.indexByte
  | .cntB => Extern.BytealgCount.count
theorem idxF_eq : ∀ (l : List UInt8) (c : UInt8) (n : Nat),idxF l c n = if Lib.indexByte l c = -1 then -1 else Lib.indexByte l c + n
  | [],c,n => rfl
  | b :: l,c,n => by
    rw [idxF,Lib.indexByte,idxF_eq l c (n + 1)]
    have hge := Lib.indexByte_ge l c
    by_cases h : b = c
    · subst h
      simp
    · have h1 : Nat.beq b.toNat c.toNat = false := by
        cases hb : Nat.beq b.toNat c.toNat with
        | false => rfl
        | true => exact absurd (UInt8.toNat_inj.1 (Nat.eq_of_beq_eq_true hb)) h
      have h2 : (b == c) = false := by simpa using h
      rw [h1,h2]
      simp only [cond_false,Bool.false_eq_true,if_false,beq_iff_eq]
      by_cases h3 : Lib.indexByte l c = -1
      · simp [h3]
      · rw [if_neg h3,if_neg h3,if_neg (by omega)]
        omega
theorem idxF_zero (l : List UInt8) (c : UInt8) : idxF l c 0 = Lib.indexByte l c := by
  rw [idxF_eq]; split
  · rename_i h; rw [h]
  · simp
theorem cntF_eq : ∀ (l : List UInt8) (c : UInt8) (n : Nat),cntF l c n = (n + l.count c : Nat)
  | [],c,n => by simp [cntF]
  | b :: l,c,n => by
    rw [cntF,List.count_cons]
    by_cases h : b = c
    · subst h
      simp [cntF_eq l b (n + 1)]; omega
    · have h1 : Nat.beq b.toNat c.toNat = false := by
        cases hb : Nat.beq b.toNat c.toNat with
        | false => rfl
        | true => exact absurd (UInt8.toNat_inj.1 (Nat.eq_of_beq_eq_true hb)) h
      have h2 : (b == c) = false := by simpa using h
      rw [h1,h2]
      simp [cntF_eq l c n]
def ExtOK (C : Ctx) : Prop := ∀ f k, C.ext f = some k → ∃ fn, C.P.funcs[f]? = some fn ∧ (fn.name == "runtime.NumGoroutine") = false ∧ fn.body.isNone = true ∧ Extern.findNext fn = none ∧ Extern.find fn = some k.sem
/-- The cell of an own place that may be written. -/
theorem cell_there {P : Program} {Γ : Gh} {H : Heap} {w : World} {l v o : Nat} {x : AV} {u : Value} {f : Eff} (R : Rel P w0 Γ H w) (h : storeN lim H [x] (.ptr l v o) = some f) (ha : RV Γ H (.ptr l v o) u) :
    ∃ a,u = .pointer (some a) ∧ w.frozen? a = false ∧ x.solid = true ∧ ∀ c y,H.cellsAt l v = some c → c[o]? = some y → ∃ z,w.cell? a = some z ∧ RV Γ H y z := by
  simp only [storeN] at h
  obtain ⟨_,h⟩ := cond_some h
  split at h
  · rename_i v' e fr g c hg
    obtain ⟨h1,_⟩ := cond_some h
    simp only [Bool.and_eq_true,beq_iff_eq] at h1
    obtain ⟨⟨⟨⟨e1,e2⟩,e3⟩,e4⟩,e5⟩ := h1
    have e6 : fr.2 ≤ o := frozen_ahead e5
    have hca : H.cellsAt l v = some c := by simp [Heap.cellsAt,hg,e1]
    obtain ⟨b,c',e',fr',g',sz,rfl,hb,hl,hg',hw,hsz,_,_,hr⟩ := R.block hca ha
    rw [hg] at hg'
    cases hg'
    have e2' : o + 1 ≤ c.length := by simpa using Nat.le_of_ble_eq_true e2
    have q := frOf_ok (fr := fr) (n := c'.size) e6
    refine ⟨_,rfl,by simp [World.frozen?,hw]; omega,by simpa using e3,fun d y hd hy => ?_⟩
    rw [hca] at hd
    obtain rfl := Option.some.inj hd
    obtain ⟨z,hz,hrz⟩ := RVs.get hr _ _ hy
    refine ⟨z,?_,hrz⟩
    simp only [List.getElem?_take] at hz
    split at hz
    · simp only [World.cell?,hw]; simpa using hz
    · cases hz
  · cases h
theorem store_again {P : Program} {w w' : World} {a : Addr} {v z : Value} {m : Mode} (h : (storeCells a [v]).run P w = .ok () w') (h1 : v.oneCell' = true) (hc : w.cell? a = some z) (hf : w.frozen? a = false) : (store a v m).run P w = .ok () w' := by
  have ha : a.add 0 = a := by simp [Addr.add]
  simp only [storeCells,ha,Sem.run_bind,run_store P w a v _ h1,hc,hf,Bool.false_eq_true,if_false,Result.andThen_ok,Sem.run_pure] at h ⊢
  exact h
theorem cells_one {H : Heap} {l v o : Nat} {x : AV} {f : Eff} (h : storeN lim H [x] (.ptr l v o) = some f) : ∃ c y,H.cellsAt l v = some c ∧ c[o]? = some y := by
  simp only [storeN] at h
  obtain ⟨_,h⟩ := cond_some h
  split at h
  · rename_i v' e fr g c hg
    obtain ⟨h1,_⟩ := cond_some h
    simp only [Bool.and_eq_true,beq_iff_eq] at h1
    have hle := Nat.le_of_ble_eq_true h1.1.1.1.2
    have hlt : o < c.length := by
      have : o + 1 ≤ c.length := by simpa using hle
      omega
    exact ⟨c,c[o],by simp [Heap.cellsAt,hg,h1.1.1.1.1],by simp [hlt]⟩
  · cases h
theorem lit31 {α : Type} {n : Nat} (a b c : α) (h1 : #[a,b,c].size = n) (h2 : 1 < n) : #[a,b,c].getLit 1 h1 h2 = b := rfl
theorem lit32 {α : Type} {n : Nat} (a b c : α) (h1 : #[a,b,c].size = n) (h2 : 2 < n) : #[a,b,c].getLit 2 h1 h2 = c := rfl
theorem lit21 {α : Type} {n : Nat} (a b : α) (h1 : #[a,b].size = n) (h2 : 1 < n) : #[a,b].getLit 1 h1 h2 = b := rfl
theorem externA_sound {k : XK} {args : List AV} {vs : List Value} {Γ : Gh} {H : Heap} {w : World} {r : AV × Eff} (R : Rel C.P w0 Γ H w) (hv : RVs Γ H args vs) (h : externA C.P lim H k args = some r) : Good C.P w0 lim Γ H w r.1 r.2 (k.sem vs.toArray) := by
  have num : ∀ {l v o : Nat} {u : Value} {c : List AV} {k' : IntKind} {n : Int},RV Γ H (.ptr l v o) u → H.cellsAt l v = some c → c[o]? = some (.int k' n) → ∃ a,u = .pointer (some a) ∧ w.cell? a = some (.int k' n) := by
    intro l v o u c k' n hu hc hy
    obtain ⟨b,c',e,fr,g,sz,rfl,hb,hl,hg,hw,hsz,_,_,hr⟩ := R.block hc hu
    obtain ⟨z,hz,hrz⟩ := RVs.get hr _ _ hy
    simp only [RV] at hrz; subst hrz
    refine ⟨_,rfl,?_⟩
    simp only [List.getElem?_take] at hz
    split at hz
    · simp only [World.cell?,hw]; simpa using hz
    · cases hz
  unfold externA at h
  split at h
  · rename_i k l v o
    obtain ⟨u,_,rfl,h1,rfl⟩ := hv
    obtain ⟨c,hc,h⟩ := bind_some h
    split at h
    · rename_i k' n hy
      obtain ⟨hk,h⟩ := cond_some h
      have hk : k' = k := of_decide_eq_true hk
      obtain rfl := Option.some.inj h
      obtain ⟨a,rfl,hcell⟩ := num h1 hc hy
      refine ⟨.int k' n,w,Γ,?_,rfl,R,Ext.refl _ _ _ _⟩
      subst hk
      show (do Extern.Atomic.read (.int k') (← asAddr (.pointer (some a))) : Sem Value).run C.P w = _
      simp [Extern.Atomic.read,asAddr,hcell]
    · cases h
  · rename_i l v o x
    obtain ⟨u,_,rfl,h1,y,_,rfl,h2,rfl⟩ := hv
    obtain ⟨f,hf,rfl⟩ := map_some h
    obtain ⟨a,ha,hfz,hsol,hcell⟩ := cell_there R hf h1
    obtain ⟨c,z,hc,hz⟩ := cells_one hf
    obtain ⟨q,hq,_⟩ := hcell c z hc hz
    obtain ⟨p,w',hp,hst,hR,hE⟩ := storeN_sound (us := [y]) R hf h1 ⟨y,[],rfl,h2,rfl⟩
    subst ha
    cases hp
    have hst := store_again (m := .atomic) hst (RV.oneCell hsol h2) hq hfz
    refine ⟨.tuple #[],w',Γ,?_,⟨#[],rfl,rfl⟩,hR,hE⟩
    show (do
      store (← asAddr (.pointer (some a))) y .atomic
      pure Extern.Atomic.none_ : Sem Value).run C.P w = _
    simp only [asAddr,Sem.run_bind,Sem.run_pure,Result.andThen_ok,hst]
    rfl
  · rename_i k l v o ka x kb y
    obtain ⟨u,_,rfl,h1,p1,_,rfl,h2,p2,_,rfl,h3,rfl⟩ := hv
    simp only [RV] at h2 h3
    subst h2; subst h3
    obtain ⟨c,hc,h⟩ := bind_some h
    split at h
    · rename_i k' n hy
      obtain ⟨hk,h⟩ := cond_some h
      simp only [Bool.and_eq_true,decide_eq_true_eq] at hk
      obtain ⟨⟨e1,e2⟩,e3⟩ := hk
      obtain ⟨f,hf,hz⟩ := bind_some h
      clear h
      obtain ⟨a,rfl,hcell⟩ := num h1 hc hy
      obtain ⟨a',ha',hfz,_,_⟩ := cell_there R hf h1
      cases ha'
      subst e1; subst e2; subst e3
      have hnv : (Extern.Atomic.touchesFrozen a).run C.P w = .ok false w := by
        simp [Extern.Atomic.touchesFrozen,viewAt,World.shape?_isSome_of_cell? hcell,hfz]
      cases hn : (n == x) with
      | true =>
        simp only [hn,cond_true] at hz
        have hn : n = x := by simpa using hn
        subst hn
        obtain rfl := Option.some.inj hz
        obtain ⟨p,w',hp,hst,hR,hE⟩ := storeN_sound (us := [.int _ y]) R hf h1 ⟨_,[],rfl,rfl,rfl⟩
        cases hp
        have hst := store_again (m := .atomic) hst rfl hcell hfz
        refine ⟨.bool true,w',Γ,?_,rfl,hR,hE⟩
        show Sem.run C.P (bind (asAddr (.pointer (some a))) _) w = _
        simp [lit31,lit32,hnv,Extern.Atomic.read,asAddr,hcell,hst]
      | false =>
        simp only [hn,cond_false] at hz
        obtain rfl := Option.some.inj hz
        have hn : ¬ n = x := by simpa using hn
        refine ⟨.bool false,w,Γ,?_,rfl,R,Ext.refl _ _ _ _⟩
        show Sem.run C.P (bind (asAddr (.pointer (some a))) _) w = _
        simp [lit31,lit32,hnv,Extern.Atomic.read,asAddr,hcell,hn]
    · cases h
  · rename_i k l v o ky y
    obtain ⟨u,_,rfl,h1,p1,_,rfl,h2,rfl⟩ := hv
    simp only [RV] at h2
    subst h2
    obtain ⟨c,hc,h⟩ := bind_some h
    split at h
    · rename_i k' n hy
      obtain ⟨hk,h⟩ := cond_some h
      simp only [Bool.and_eq_true,decide_eq_true_eq] at hk
      obtain ⟨e1,e2⟩ := hk
      obtain ⟨f,hf,rfl⟩ := map_some h
      obtain ⟨a,rfl,hcell⟩ := num h1 hc hy
      obtain ⟨a',ha',hfz,_,_⟩ := cell_there R hf h1
      cases ha'
      subst e1; subst e2
      obtain ⟨p,w',hp,hst,hR,hE⟩ := storeN_sound (us := [.int _ (wrapK _ (n + y))]) R hf h1 ⟨_,[],rfl,rfl,rfl⟩
      cases hp
      have hst := store_again (m := .atomic) hst rfl hcell hfz
      refine ⟨.int _ (wrapK _ (n + y)),w',Γ,?_,rfl,hR,hE⟩
      rw [wrapK_eq] at hst ⊢
      show Sem.run C.P (bind (asAddr (.pointer (some a))) _) w = _
      simp [lit21,Extern.Atomic.read,asAddr,hcell,Go.asInt,asIntOf,Op.intArith,hst]
    · cases h
  · rename_i x
    obtain ⟨u,_,rfl,h1,rfl⟩ := hv
    obtain rfl := Option.some.inj h
    exact ⟨u,w,Γ,rfl,h1,R,Ext.refl _ _ _ _⟩
  · rename_i ps t n
    obtain ⟨u,_,rfl,h1,rfl⟩ := hv
    simp only [RV] at h1
    subst h1
    exact noZeroA_sound (ps := ps) R h
  · rename_i s c
    obtain ⟨u,_,rfl,h1,u2,_,rfl,h2,rfl⟩ := hv
    simp only [RV] at h1 h2
    subst h1; subst h2
    obtain rfl := Option.some.inj h
    refine ⟨_,w,Γ,Lib.run_indexByteString s c w,?_,R,Ext.refl _ _ _ _⟩
    simp only [RV,idxF_zero]
  · rename_i s c
    obtain ⟨u,_,rfl,h1,u2,_,rfl,h2,rfl⟩ := hv
    simp only [RV] at h1 h2
    subst h1; subst h2
    obtain rfl := Option.some.inj h
    refine ⟨_,w,Γ,Lib.run_countString s c w,?_,R,Ext.refl _ _ _ _⟩
    simp only [RV,cntF_eq,Lib.countByte,Nat.zero_add]
  · cases h
/-- A function's marks are shut one by one. -/
theorem marks_leave {P : Program} {Γ0 Γ : Gh} {H0 H : Heap} {w1 : World} {fn : Func} {tmps : Array Value} {Q : Ending → World → Prop} {m : Nat} (R0 : Rel P w0 Γ0 H0 w1) (hQ : ∀ w,Rel P w0 Γ H w → Ext lim Γ0 H0 w1 Γ H w → ∃ v,(results fn tmps).run P w = .ok v w ∧ Q (.returned v) w) :
    ∀ (ds : List Deferred) (w : World),Rel P w0 Γ H w → Ext lim Γ0 H0 w1 Γ H w → Marks w1.heap.size Γ H w ds → LeavesInM Fence.wide m P fn tmps Q ds .returning w
  | [],w,R,E,_ => hQ w R E
  | d :: ds,w,R,E,⟨⟨r,h1,h2,h3,h4,h5,h6⟩,hM⟩ => by
    subst h1
    have hc : Chg w (w.putObj r (.deferred none)) r (.deferred none) := putObj_chg h4
    have R' := R.other hc (Nat.le_trans R0.below.size h2) h5
    have E' := Ext.other R0 E hc h2
    refine ⟨by simp,.inl ⟨r,_,rfl,run_takeDeferred h4,marks_leave R0 hQ ds _ R' E' ?_⟩⟩
    have keep : ∀ ds : List Deferred,(∀ d' ∈ ds,d'.target ≠ .collected r) → Marks w1.heap.size Γ H w ds → Marks w1.heap.size Γ H (w.putObj r (.deferred none)) ds := by
      intro ds
      induction ds with
      | nil => intro _ _; trivial
      | cons d ds ih =>
        rintro hd ⟨⟨q,g1,g2,g3,g4,g5,g6⟩,g⟩
        have hne : q ≠ r := fun e => hd d (by simp) (by rw [g1,e])
        exact ⟨⟨q,g1,g2,Nat.lt_of_lt_of_le g3 hc.size,(hc.other q hne).trans g4,g5,g6⟩,ih (fun d' hd' => hd d' (by simp [hd'])) g⟩
    exact keep ds h6 hM
theorem setArgs_sound {Γ : Gh} {H : Heap} : ∀ (ps : List Tmp) (as : List AV) (vs : List Value) (s : Slots) (t : Array Value),RVs Γ H as vs → RVs Γ H s t.toList → RVs Γ H (setArgs ps as s) ((ps.zip vs).foldl (fun tmps (t,a) => tmps.setIfInBounds t a) t).toList
  | [],as,vs,s,t,_,hs => by simpa [setArgs] using hs
  | p :: ps,[],vs,s,t,ha,hs => by
    obtain rfl := ha
    simpa [setArgs] using hs
  | p :: ps,a :: as,vs,s,t,ha,hs => by
    obtain ⟨v,vs',rfl,h1,h2⟩ := ha
    simp only [setArgs,List.zip_cons_cons,List.foldl_cons]
    exact setArgs_sound ps as vs' _ _ h2 (RS.put (a := { tmps := t,defers := [] }) hs (some p) h1)
theorem evCall1_sound {call : CallF} {yc : YieldF} {k : Nat} (hρ : Reads C w0) (hm : C.P.follows .mixedOrders = true) (hx : ExtOK C) (ih : CallsOK C w0 call) (ihy : YieldsOK C w0 yc) {lim : Nat} {f : FuncId} {args : List AV} {H : Heap} {g : AV × Heap → Prop}
    (h : (bindR C.P.funcs[f]? fun fn => bif fn.name == "runtime.NumGoroutine" then .stop else match fn.body with
      | none => bindR (C.ext f) fun x => bindR (externA C.P lim H x args) fun r => applyK C.strict H r.2 fun H => .done (r.1,H)
      | some c => bif C.pur f then
          ((ev C call yc false f H.sz k c (args ++ List.replicate (fn.ntmps - args.length) (.tup [])) H (finish C fn)).bind fun r => bif AV.under H.sz r.1 then .done (r.1,H) else .stop)
        else ev C call yc false f lim k c (args ++ List.replicate (fn.ntmps - args.length) (.tup [])) H (finish C fn)).Ok g)
    {Γ : Gh} {w : World} {vs : List Value} (R : Rel C.P w0 Γ H w) (hv : RVs Γ H args vs) : CallOK C.P w0 lim Γ H w f vs.toArray g := by
  obtain ⟨fn,hfn,h⟩ := ok_bindR h
  obtain ⟨hname,h⟩ := ok_cond_no h
  have hname' : fn.name ≠ "runtime.NumGoroutine" := by simpa using hname
  split at h
  · rename_i hb
    obtain ⟨x,hxf,h⟩ := ok_bindR h
    obtain ⟨q,hq,h⟩ := ok_bindR h
    rw [applyK_eq] at h
    obtain ⟨fn',hfn',h1,h2,h3,h4⟩ := hx f x hxf
    rw [hfn] at hfn'
    obtain rfl := Option.some.inj hfn'
    obtain ⟨y,w',Γ',hrun,hy,hR,hE⟩ := externA_sound (lim := lim) R hv hq
    exact .inl ⟨y,w',Γ',_,_,h,by simp [hasBody,hfn,hb],by rw [run_callFunc_extern hfn h1 h2 h3 h4]; simp [hrun],hy,hR,hE⟩
  · rename_i c hb
    refine .inr ⟨by simp [callFunc,hfn,hname',hb],?_⟩
    have body : ∀ (lim : Nat) (g : AV × Heap → Prop),(ev C call yc false f lim k c (args ++ List.replicate (fn.ntmps - args.length) (.tup [])) H (finish C fn)).Ok g →
        Calls C.P f vs.toArray w fun e w' => ∃ x Γ' v H1,g (v,H1) ∧ e = .returned x ∧ RV Γ' H1 v x ∧ Rel C.P w0 Γ' H1 w' ∧ Ext lim Γ H w Γ' H1 w' := by
      intro lim g h
      refine (callsIn_wide (n := 0)).1 (callsIn_of_wp_marks hfn hb trivial ?_)
      have hl := RVs.length hv
      refine ev_sound (rd := none) (base := w.heap.size) hρ hm ih ihy (fun _ => rfl) R.below.size c _ H _ g h Γ _ w _ R ?_ trivial (Nat.le_refl _) fun e s' H' Γ' a' w' hk hE hR hS hM => ?_
      · show RVs Γ H _ (vs.toArray ++ Array.replicate (fn.ntmps - vs.toArray.size) undef).toList
        rw [Array.toList_append]
        refine RVs.append (by simpa using hv) ?_
        have : args.length = vs.toArray.size := by simpa using hl
        rw [this,Array.toList_replicate]
        generalize fn.ntmps - vs.toArray.size = m
        induction m with
        | zero => exact rfl
        | succ m ihm => exact ⟨undef,_,rfl,RV.undef,ihm⟩
      · have leave : ∀ v',resA C fn s' H' = some v' → g (v',H') → LeavesInM Fence.wide 0 C.P fn a'.tmps (fun e w' => ∃ x Γ' v H1,g (v,H1) ∧ e = .returned x ∧ RV Γ' H1 v x ∧ Rel C.P w0 Γ' H1 w' ∧ Ext lim Γ H w Γ' H1 w') a'.defers .returning w' := by
          intro v' hv' hg'
          exact marks_leave (lim := lim) R (fun w2 R2 E2 => by
            obtain ⟨z,hz,hr⟩ := resA_sound hρ R2 hS hv'
            exact ⟨z,hz,z,Γ',v',H',hg',rfl,hr,R2,E2⟩) _ _ hR hE hM
        cases e with
        | exit id => exact hk.elim
        | normal =>
          obtain ⟨v',hv',hk⟩ := ok_bindR hk
          rw [strA?_eq] at hk
          exact leave v' hv' hk
        | ret =>
          obtain ⟨v',hv',hk⟩ := ok_bindR hk
          rw [strA?_eq] at hk
          exact leave v' hv' hk
    cases hp : C.pur f with
    | true =>
      rw [hp] at h
      have hr := ok_bind.1 (by simpa using h)
      refine Calls.mono (body H.sz _ hr) fun e w' ⟨x,Γ',v,H1,hg,he,hx,hR,hE⟩ => ?_
      obtain ⟨hu,hg⟩ := ok_cond hg
      obtain ⟨g1,g2,g3⟩ := forget R hR hE hu hx lim
      exact ⟨x,Γ,v,H,hg,he,g1,g2,g3⟩
    | false =>
      rw [hp] at h
      exact body lim g (by simpa using h)
theorem evYield_sound {call : CallF} {yc : YieldF} {k : Nat} (hρ : Reads C w0) (hm : C.P.follows .mixedOrders = true) (ih : CallsOK C w0 call) (ihy : YieldsOK C w0 yc) : YieldsOK C w0 (evYield C call yc k) := by
  intro lim l args H g h Γ w vs u n R hv hu
  unfold evYield at h
  split at h
  · rename_i ps as bd s hg
    obtain ⟨h1,h⟩ := ok_cond h
    simp only [Bool.and_eq_true] at h1
    have hlim := Nat.le_of_ble_eq_true h1.1
    have hlen := Nat.eq_of_beq_eq_true h1.2
    obtain ⟨hl,_,hq⟩ := hu
    have hver : ∀ {G : Heap} {ps : Array Tmp} {as bd : Code} {s : List AV} {st : Nat},G.get l = .loop ps as bd s st → G.ver l = 0 := fun e => by simp [Heap.ver,e,AObj.ver]
    obtain ⟨b,hb,rfl⟩ := hq (hver hg)
    obtain ⟨rc,hw,e1,e2,e3,hrs,hst⟩ := R.loop hl hb hg
    have hvl := RVs.length hv
    have hsize : vs.toArray.size = rc.params.size := by rw [e1,← hlen]; simpa using hvl.symm
    refine ⟨b,rfl,rc.fn,_,rc.assign,rc.body,run_yield hw hsize,?_⟩
    refine roundIn_of_wpIn (F := Fence.wide) trivial ?_
    rw [e2]
    have hS : RS Γ H (setArgs ps.toList args s) { tmps := (rc.params.zip vs.toArray).foldl (fun tmps (t,a) => tmps.setIfInBounds t a) rc.tmps,defers := [] } := by
      have := setArgs_sound ps.toList args vs s rc.tmps hv hrs
      show RVs Γ H _ (Array.toList _)
      rw [e1,← Array.foldl_toList,Array.toList_zip]
      simpa using this
    refine ev_sound (rb := true) (rd := some b) (base := w.heap.size) hρ hm ih ihy (fun e => by cases e) R.below.size as _ H _ g h Γ _ w _ R hS trivial (Nat.le_refl _) fun e s' H' Γ' a' w' hk hE hR hS' hM' => ?_
    cases e with
    | exit id => exact hk.elim
    | ret => exact hk.elim
    | normal =>
      simp only at hk
      split at hk
      · rename_i ps2 as2 bd2 s2 hg2
        rw [applyK_eq] at hk
        have hl2 : l < H'.sz := Nat.lt_of_lt_of_le hl hE.le.sz
        have hb2 := (hE.le.same l b hl (by rw [hver hg2,hver hg]) hb).1
        obtain ⟨r2,hw2,f1,f2,f3,f4,f5⟩ := hR.loop hl2 hb2 hg2
        obtain ⟨R3,E3⟩ := hR.loopPut (lim := lim) (st' := 1) (r' := { r2 with state := .busy }) hlim hl2 hb2 hg2 hw2 f1 f2 f3 f4 ⟨rfl,f5.2⟩
        refine ⟨_,run_beginRound hw2 f5.1,?_⟩
        rw [e3]
        refine ev_sound (rb := true) (rd := some b) (base := w.heap.size) hρ hm ih ihy (fun e => by cases e) R.below.size bd _ _ _ g hk Γ' _ _ _ R3 (hS'.mono E3.le) (hM'.ext E3) (Nat.le_trans hE.size E3.size) fun e s'' H'' Γ'' a'' w'' hk2 hE2 hR2 _ _ => ?_
        unfold roundEnd at hk2
        split at hk2
        · rename_i ps3 as3 bd3 s3 hg3
          have hl3 : l < H''.sz := Nat.lt_of_lt_of_le hl2 (E3.trans hE2).le.sz
          have hb3 := ((E3.trans hE2).le.same l b hl2 (by rw [hver hg3,hver hg2]) hb2).1
          obtain ⟨r3,hw3,q1,q2,q3,q4,q5⟩ := hR2.loop hl3 hb3 hg3
          have fin : ∀ (jump : Option Code) (st : Nat),LoopSt st (if jump.isNone then .ready else .done) jump → g (AV.bool jump.isNone,H''.put l (.loop ps3 as3 bd3 s3 st)) →
              ∃ v1 w4,(Instr.endRound b jump).run C.P w'' = .ok v1 w4 ∧ ∃ x Γ' v H1,g (v,H1) ∧ Ending.returned v1 = .returned x ∧ RV Γ' H1 v x ∧ Rel C.P w0 Γ' H1 w4 ∧ Ext lim Γ H w Γ' H1 w4 := by
            intro jump st hst hv
            obtain ⟨R4,E4⟩ := hR2.loopPut (lim := lim) (st' := st) (r' := { r3 with state := if jump.isNone then .ready else .done,pending := jump }) hlim hl3 hb3 hg3 hw3 q1 q2 q3 q4 hst
            exact ⟨_,_,run_endRound jump hw3,_,_,_,_,hv,rfl,rfl,R4,hE.trans (E3.trans (hE2.trans E4))⟩
          cases e with
          | normal => exact fin none 0 ⟨rfl,rfl⟩ (by simp only [applyK_eq] at hk2; exact hk2)
          | ret => exact fin (some .ret) 2 ⟨rfl,rfl⟩ (by simp only [applyK_eq] at hk2; exact hk2)
          | exit id => exact fin (some (.exit id)) (id + 3) ⟨rfl,rfl⟩ (by simp only [applyK_eq] at hk2; exact hk2)
        · exact hk2.elim
      · exact hk.elim
  · exact h.elim
theorem evCY_sound (hρ : Reads C w0) (hm : C.P.follows .mixedOrders = true) (hx : ExtOK C) : ∀ k,CallsOK C w0 (evCY C k).1 ∧ YieldsOK C w0 (evCY C k).2
  | 0 => ⟨fun _ _ _ _ _ h => h.elim,YieldsOK.none⟩
  | k + 1 => ⟨fun _ _ _ _ _ h _ _ _ R hv => evCall1_sound hρ hm hx (evCY_sound hρ hm hx k).1 (evCY_sound hρ hm hx k).2 h R hv,evYield_sound hρ hm (evCY_sound hρ hm hx k).1 (evCY_sound hρ hm hx k).2⟩
theorem evCall_sound (hρ : Reads C w0) (hm : C.P.follows .mixedOrders = true) (hx : ExtOK C) (k : Nat) : CallsOK C w0 (evCall C k) := (evCY_sound hρ hm hx k).1
end
end Go.Ev

-- part EvK
/- EvK: a run of the evaluator from nothing is a call of the program. -/
set_option linter.unusedVariables false
set_option linter.unusedSimpArgs false
namespace Go.Ev
open Go.RowKit
def Gh.nil : Gh := ⟨fun _ => none,fun _ => 0⟩
theorem Rel.nil (P : Program) (w : World) : Rel P w Gh.nil Heap.nil w :=
  ⟨Below.refl _ w,fun l b hl => absurd hl (Nat.not_lt_zero _),fun l l' b hl => absurd hl (Nat.not_lt_zero _)⟩
/-- A run from nothing that returns true: the call returns true, whatever the world; what was there stays. -/
theorem calls_of_run {C : Ctx} {k : Nat} {f : FuncId} {fn : Func} {c : Code} {args : List AV} {vs : List Value} {w : World} (hρ : ∀ a,C.ρ a = none) (hm : C.P.follows .mixedOrders = true) (hx : ExtOK C) (hf : C.P.funcs[f]? = some fn) (hb : fn.body = some c)
    (h : (evCall C k 0 f args Heap.nil).Ok fun r => r.1 = .bool true) (hv : RVs Gh.nil Heap.nil args vs) :
    Calls C.P f vs.toArray w fun e w' => e = .returned (.bool true) ∧ Below w.heap.size w w' := by
  have hρ' : Reads C w := fun a v e => by rw [hρ a] at e; cases e
  rcases evCall_sound hρ' hm hx k 0 f args Heap.nil _ h Gh.nil w vs (Rel.nil _ _) hv with ⟨x,w',Γ',v,H1,_,hrun,_⟩ | ⟨_,hC⟩
  · simp [hasBody,hf,hb] at hrun
  · refine Calls.mono hC fun e w' ⟨x,Γ',v,H1,hg,he,hx,hR,_⟩ => ?_
    obtain rfl : v = .bool true := hg
    simp only [RV] at hx
    subst hx
    exact ⟨he,hR.below⟩
end Go.Ev

-- part EvKR
/- EvKR: a run over what is in memory already is a call of the program. -/
set_option linter.unusedVariables false
namespace Go.Ev
open Go.RowKit
theorem calls_of_run_reads {C : Ctx} {k : Nat} {f : FuncId} {fn : Func} {c : Code} {args : List AV} {vs : List Value} {w : World} (hρ : Reads C w) (hm : C.P.follows .mixedOrders = true) (hx : ExtOK C) (hf : C.P.funcs[f]? = some fn) (hb : fn.body = some c)
    (h : (evCall C k 0 f args Heap.nil).Ok fun r => r.1 = .bool true) (hv : RVs Gh.nil Heap.nil args vs) :
    Calls C.P f vs.toArray w fun e w' => e = .returned (.bool true) ∧ Below w.heap.size w w' := by
  rcases evCall_sound hρ hm hx k 0 f args Heap.nil _ h Gh.nil w vs (Rel.nil _ _) hv with ⟨x,w',Γ',v,H1,_,hrun,_⟩ | ⟨_,hC⟩
  · simp [hasBody,hf,hb] at hrun
  · refine Calls.mono hC fun e w' ⟨x,Γ',v,H1,hg,he,hx,hR,_⟩ => ?_
    obtain rfl : v = .bool true := hg
    simp only [RV] at hx
    subst hx
    exact ⟨he,hR.below⟩
end Go.Ev

-- part EvO
/- EvO: arguments: what their cells are; that they read behind a call as before. -/
set_option linter.unusedVariables false
set_option linter.unusedSimpArgs false
namespace Go.Ev
open Go.RowKit Go.ChangeShapes Go.WideShapes Go.ChangeAt
inductive CK where
  | int (k : IntKind) | bool | str | sl
def CK.fits : CK → Value → Prop
  | .int k,v => ∃ n,v = .int k n ∧ (Lit.int k n).wf = true
  | .bool,v => ∃ b,v = .bool b
  | .str,v => ∃ s,v = .string s ∧ s.size ≤ maxLen
  | .sl,v => ∃ a n c,v = .slice a n c
def Fits : List CK → List Value → Prop
  | [],vs => vs = []
  | k :: ks,vs => ∃ v r,vs = v :: r ∧ k.fits v ∧ Fits ks r
theorem Fits.length : ∀ {ks : List CK} {vs : List Value},Fits ks vs → vs.length = ks.length
  | [],_,h => by rw [h]; rfl
  | _ :: _,_,⟨v,r,h,_,h2⟩ => by rw [h]; simp [h2.length]
theorem Fits.append : ∀ {ks ks' : List CK} {vs vs' : List Value},Fits ks vs → Fits ks' vs' → Fits (ks ++ ks') (vs ++ vs')
  | [],_,_,_,h,h' => by rw [h]; exact h'
  | _ :: _,_,_,_,⟨v,r,h,h1,h2⟩,h' => by rw [h]; exact ⟨v,r ++ _,rfl,h1,h2.append h'⟩
def kindsF (P : Program) (rec : TypeId → Option (List CK)) : Nat → List Field → Option (List CK)
  | _,[] => some []
  | off,f :: r => bif Nat.beq f.offset off then (rec f.type).bind fun ks => bif Nat.beq ks.length (P.cellsOf f.type) then (kindsF P rec (off + ks.length) r).map (ks ++ ·) else none else none
def repKinds (ks : List CK) : Nat → List CK
  | 0 => []
  | n + 1 => ks ++ repKinds ks n
def kinds (P : Program) : Nat → TypeId → Option (List CK)
  | 0,_ => none
  | d + 1,t => match P.underlying t with
    | some .bool => some [.bool]
    | some (.int k) => some [.int k]
    | some .string => some [.str]
    | some (.slice _) => some [.sl]
    | some (.struct fs) => (kindsF P (kinds P d) 0 fs.toList).bind fun ks => bif Nat.beq ks.length (P.cellsOf t) then some ks else none
    | some (.array n e) => (kinds P d e).bind fun ks => bif Nat.beq ks.length (P.cellsOf e) && Nat.beq (n * ks.length) (P.cellsOf t) then some (repKinds ks n) else none
    | _ => none
theorem mapM_some_mem {α β : Type} {f : α → Option β} : ∀ {l : List α} {xs : List β},l.mapM f = some xs → ∀ a ∈ l,∃ b,f a = some b
  | [],_,_,_,h => by cases h
  | x :: r,xs,h,a,ha => by
    rw [List.mapM_cons] at h
    cases hx : f x with
    | none => rw [hx] at h; cases h
    | some b =>
      rw [hx] at h
      cases hr : r.mapM f with
      | none => rw [hr] at h; cases h
      | some q =>
        rcases List.mem_cons.1 ha with rfl | ha
        · exact ⟨b,hx⟩
        · exact mapM_some_mem hr a ha
theorem kindsF_fits {P : Program} {rec : TypeId → Option (List CK)} {cs : List Value} : ∀ (fs : List Field) (off : Nat) (ks : List CK),kindsF P rec off fs = some ks → (∀ f ∈ fs,∀ kf,rec f.type = some kf → Fits kf ((cs.drop f.offset).take (P.cellsOf f.type))) → cs.length = off + ks.length → Fits ks (cs.drop off)
  | [],off,ks,h,_,hl => by
    obtain rfl := Option.some.inj h
    simp only [List.length_nil,Nat.add_zero] at hl
    simp [Fits,List.drop_eq_nil_iff,hl]
  | f :: r,off,ks,h,hf,hl => by
    unfold kindsF at h
    cases h1 : Nat.beq f.offset off with
    | false => rw [h1] at h; cases h
    | true =>
      rw [h1] at h
      simp only [cond_true] at h
      obtain ⟨kf,hk,h⟩ := Option.bind_eq_some_iff.1 h
      cases h2 : Nat.beq kf.length (P.cellsOf f.type) with
      | false => rw [h2] at h; cases h
      | true =>
        rw [h2] at h
        simp only [cond_true,Option.map_eq_some_iff] at h
        obtain ⟨kr,hr,rfl⟩ := h
        have e1 := Nat.eq_of_beq_eq_true h1
        have e2 := Nat.eq_of_beq_eq_true h2
        have a := hf f (by simp) kf hk
        rw [e1,← e2] at a
        have b := kindsF_fits r (off + kf.length) kr hr (fun g hg => hf g (by simp [hg])) (by simp at hl; omega)
        have := a.append b
        rwa [← List.drop_drop,List.take_append_drop] at this
theorem rep_fits {ks : List CK} {cs : List Value} : ∀ (n off : Nat),(∀ i,i < n → Fits ks ((cs.drop (off + i * ks.length)).take ks.length)) → cs.length = off + n * ks.length → Fits (repKinds ks n) (cs.drop off)
  | 0,off,_,hl => by simp only [Nat.zero_mul,Nat.add_zero] at hl; simp [Fits,repKinds,List.drop_eq_nil_iff,hl]
  | n + 1,off,h,hl => by
    have a := h 0 (by omega)
    simp only [Nat.zero_mul,Nat.add_zero] at a
    have b := rep_fits n (off + ks.length) (fun i hi => by have := h (i + 1) (by omega); rwa [Nat.succ_mul,Nat.add_comm (i * ks.length),← Nat.add_assoc] at this) (by rw [hl,Nat.succ_mul]; omega)
    have := a.append b
    rwa [← List.drop_drop,List.take_append_drop] at this
section
variable {H : Type} {enc : TypeId × Value → H} {P : Program} {w : World} {base : Nat} {spare : Nat → Bool} {held : Bool}
theorem kinds_fits : ∀ (d fuel : Nat) (t : TypeId) (cs : List Value) (r : DataW H × List MemPlace) (ks : List CK),DataW.trod enc P w base spare held fuel t cs = some r → kinds P d t = some ks → Fits ks cs := by
  intro d
  induction d with
  | zero => intro fuel t cs r ks _ h; cases h
  | succ d ih =>
    intro fuel t cs r ks h hk
    cases fuel with
    | zero => cases h
    | succ fuel =>
      unfold kinds at hk
      unfold DataW.trod at h
      cases hu : P.underlying t with
      | none => rw [hu] at hk; cases hk
      | some u =>
        rw [hu] at hk h
        cases u with
        | bool =>
          obtain rfl := Option.some.inj hk
          rcases cs with _ | ⟨v,_ | ⟨v2,r2⟩⟩
          · simp at h
          · cases v with
            | bool b =>
              exact ⟨_,[],rfl,⟨_,rfl⟩,rfl⟩
            | _ => simp at h
          · cases v <;> simp at h
        | int k =>
          obtain rfl := Option.some.inj hk
          rcases cs with _ | ⟨v,_ | ⟨v2,r2⟩⟩
          · simp at h
          · cases v with
            | int k2 n =>
              simp only at h
              split at h
              · rename_i hc
                obtain ⟨rfl,hc⟩ := hc
                exact ⟨_,[],rfl,⟨_,rfl,hc⟩,rfl⟩
              · cases h
            | _ => simp at h
          · cases v <;> simp at h
        | string =>
          obtain rfl := Option.some.inj hk
          rcases cs with _ | ⟨v,_ | ⟨v2,r2⟩⟩
          · simp at h
          · cases v with
            | string s =>
              simp only at h
              split at h
              · rename_i hc
                exact ⟨_,[],rfl,⟨_,rfl,hc⟩,rfl⟩
              · cases h
            | _ => simp at h
          · cases v <;> simp at h
        | slice e =>
          obtain rfl := Option.some.inj hk
          rcases cs with _ | ⟨v,_ | ⟨v2,r2⟩⟩
          · simp at h
          · cases v with
            | slice p n c =>
              exact ⟨_,[],rfl,⟨_,_,_,rfl⟩,rfl⟩
            | _ => simp at h
          · cases v <;> simp at h
        | struct fs =>
          simp only at hk
          obtain ⟨kf,hkf,hk⟩ := Option.bind_eq_some_iff.1 hk
          cases hb : Nat.beq kf.length (P.cellsOf t) with
          | false => rw [hb] at hk; cases hk
          | true =>
            rw [hb] at hk
            obtain rfl := Option.some.inj hk
            have hl := Nat.eq_of_beq_eq_true hb
            simp only at h
            split at h
            · rename_i hc
              simp only [Option.map_eq_some_iff] at h
              obtain ⟨xs,hx,_⟩ := h
              have := kindsF_fits (cs := cs) fs.toList 0 kf hkf (fun f hf kf' hkf' => by
                obtain ⟨b,hb⟩ := mapM_some_mem hx f hf
                exact ih fuel _ _ b kf' hb hkf') (by omega)
              simpa using this
            · cases h
        | array n e =>
          simp only at hk
          obtain ⟨kf,hkf,hk⟩ := Option.bind_eq_some_iff.1 hk
          cases hb : (Nat.beq kf.length (P.cellsOf e) && Nat.beq (n * kf.length) (P.cellsOf t)) with
          | false => rw [hb] at hk; cases hk
          | true =>
            rw [hb] at hk
            obtain rfl := Option.some.inj hk
            simp only [Bool.and_eq_true] at hb
            have hl := Nat.eq_of_beq_eq_true hb.1
            have hl2 := Nat.eq_of_beq_eq_true hb.2
            simp only at h
            split at h
            · rename_i hc
              simp only [Option.map_eq_some_iff] at h
              obtain ⟨xs,hx,_⟩ := h
              have := rep_fits (ks := kf) (cs := cs) n 0 (fun i hi => by
                obtain ⟨b,hb⟩ := mapM_some_mem hx i (List.mem_range.2 hi)
                have := ih fuel _ _ b kf hb hkf
                rwa [← hl,show i * kf.length = 0 + i * kf.length from by omega] at this) (by omega)
              simpa using this
            · cases h
        | _ => cases hk
theorem trod_fits {t : TypeId} {v : Value} {dd : DataW H} {ps : List MemPlace} {ks : List CK} (d : Nat) (h : DataW.Trod enc P w base spare held t v dd ps) (hk : kinds P d t = some ks) : Fits ks v.cells.toList := by
  obtain ⟨fuel,h⟩ := h
  exact kinds_fits d fuel t _ _ ks h hk
/-- All arguments read as before where nothing that was has turned. -/
theorem trodAll_below (hl : laidOutB P = true) {W W' : World} (hb : Below W.heap.size W W') : ∀ (ts : List TypeId) (vs : List Value) (ds : List (DataW H)) (ps : List MemPlace),(ts.all fun t => P.readableRec t && decide (t < P.types.size)) = true →
    DataW.TrodAll enc P W 0 (fun _ => true) true ts vs ds ps → (∀ x ∈ ps,x.block < W.heap.size) → DataW.TrodAll enc P W' 0 (fun b => decide (b < W.heap.size)) true ts vs ds ps
  | [],[],[],_,_,h,_ => h
  | t :: ts,v :: vs,d :: ds,ps,hr,⟨p,q,h1,h2,e⟩,hlt => by
    simp only [List.all_cons,Bool.and_eq_true,decide_eq_true_eq] at hr
    refine ⟨p,q,Below.trod hl hr.1.1 hr.1.2 h1 hb (fun x hx => hlt x (by rw [e]; simp [hx])),trodAll_below hl hb ts vs ds q hr.2 h2 (fun x hx => hlt x (by rw [e]; simp [hx])),e⟩
  | [],_ :: _,_,_,_,h,_ => h.elim
  | [],[],_ :: _,_,_,h,_ => h.elim
  | _ :: _,[],_,_,_,h,_ => h.elim
  | _ :: _,_ :: _,[],_,_,h,_ => h.elim
end
end Go.Ev

-- part EvL
/- EvL: the evaluator once more, in a form whose stuck terms read well; it is the same function. -/
set_option linter.unusedVariables false
set_option linter.unusedSimpArgs false
namespace Go.Ev
open Go.RowKit

/-- A value, then. -/
def purK (o : Option AV) (K : AV → Res) : Res := bindR o fun v => forceAV v K
/-- A value and what is done to the places, then. -/
def effK (H : Heap) (o : Option (AV × Eff)) (K : AV → Heap → Res) : Res := bindR o fun r => forceAV r.1 fun v => applyK true H r.2 fun H => K v H
theorem purK_eq (o : Option AV) (K : AV → Res) : purK o K = bindR o K := by simp only [purK,forceAV_eq]
theorem effK_eq (H : Heap) (o : Option (AV × Eff)) (K : AV → Heap → Res) : effK H o K = bindR o fun r => K r.1 (r.2.on H) := by simp only [effK,forceAV_eq,applyK_eq]
/-- A call's result, then. -/
def resK (o : Res) (K : AV → Heap → Res) : Res := o.bind fun r => K r.1 r.2
def boolK (o : Option Bool) (K : Bool → Res) : Res := bindR o K
/-- Which way. -/
def condK (x : AV) (a b : Res) : Res := bindR (asBool x) fun t => bif t then a else b
/-- The next one, then. -/
def nextK (lim : Nat) (H : Heap) (it : AV) (s : Bool) (K : AV → Heap → Res) : Res := anyF true H (outsA lim H it s) K
theorem anyF_b (b b' : Bool) (H : Heap) (o : Option (List (AV × Eff))) (K : AV → Heap → Res) : anyF b H o K = anyF b' H o K := by
  unfold anyF
  split
  · rfl
  · simp only [strA?_eq,applyK_eq]
  · simp only [strA?_eq,applyK_eq]

def pickA (c x y : AV) : Option AV := (asBool c).map fun t => bif t then x else y
def nilChkA : AV → Option AV
  | .ptr l v o => some (.ptr l v o)
  | .xp a => some (.xp a)
  | .fn (.func f) a b => some (.fn (.func f) a b)
  | _ => none
def convXA (C : Ctx) (H : Heap) (src dst : TypeId) (x : AV) : Option AV := match C.P.underlying src,C.P.underlying dst with
  | some (.slice e),some .string => (match C.P.underlying e with | some (.int .u8) => bytesToStrA C H x | _ => none)
  | some (.pointer _),some .unsafePointer | some .unsafePointer,some (.pointer _) => unsafeA C H src dst x
  | _,_ => convA C.P src dst x
def mkIfcA (C : Ctx) (t : TypeId) (x : AV) : Option AV := match C.P.underlying t with
  | some (.interface _) => none
  | some _ => some (.ifc t x)
  | none => none
def extA (i : Nat) : AV → Option AV
  | .tup vs => vs[i]?
  | _ => none
def foldsA (f : AV → AV → Option AV) : List AV → Option AV
  | x :: r => foldA f x r
  | [] => none
/-- Operations that look, and do nothing. -/
def isRd (C : Ctx) : Op → Bool
  | .move _ | .assign _ | .pick .. | .build .. | .load .. | .nilCheck _ | .binOp .. | .unOp .. | .makeInterface .. | .makeFunc .. | .slice .. | .fieldAddr .. | .field .. | .indexAddr .. | .index .. | .lookup .. | .entry _ | .extract .. => true
  | .convert src dst _ => !isS2b C.P src dst
  | .call ⟨.builtin .len,args,ts⟩ => Nat.beq args.size 1 && Nat.blt 0 ts.size
  | .call ⟨.builtin .cap,args,ts⟩ => Nat.beq args.size 1 && Nat.blt 0 ts.size
  | .call ⟨.builtin .min,args,ts⟩ => Nat.blt 0 args.size && Nat.blt 0 ts.size
  | .call ⟨.builtin .max,args,ts⟩ => Nat.blt 0 args.size && Nat.blt 0 ts.size
  | _ => false
def rdA (C : Ctx) (s : Slots) (H : Heap) : Op → Option AV
  | .move x | .assign x => some (oprA s x)
  | .pick c a b => pickA (oprA s c) (oprA s a) (oprA s b)
  | .build t ps => buildA C.P t (ps.toList.map fun p => (p.1,oprA s p.2))
  | .load t a => loadA C H t (oprA s a)
  | .nilCheck x => nilChkA (oprA s x)
  | .binOp op t x y _ => binKA C.P H op t (isK x || isK y) (oprA s x) (oprA s y)
  | .unOp op _ x => unA op (oprA s x)
  | .convert src dst x => convXA C H src dst (oprA s x)
  | .makeInterface t x => mkIfcA C t (oprA s x)
  | .makeFunc f a b => some (.fn f (a.toList.map (oprA s)) (b.toList.map (oprA s)))
  | .slice t x lo hi mx => sliceA C.P t (oprA s x) (lo.map (oprA s)) (hi.map (oprA s)) (mx.map (oprA s))
  | .fieldAddr t x i => fieldAddrA C.P t (oprA s x) i
  | .field t x i => fieldA C.P t (oprA s x) i
  | .indexAddr t x i => indexAddrA C.P t (oprA s x) (oprA s i)
  | .index t x i => indexA C.P t (oprA s x) (oprA s i)
  | .lookup t x i ok => lookupA C H t (oprA s x) (oprA s i) ok
  | .entry it => entryA H (oprA s it)
  | .extract t i => extA i (oprA s t)
  | .call ⟨.builtin .len,args,ts⟩ => lenBA C H (ts.getD 0 0) (oprA s (args.getD 0 (.tmp 0)))
  | .call ⟨.builtin .cap,args,ts⟩ => capBA C.P (ts.getD 0 0) (oprA s (args.getD 0 (.tmp 0)))
  | .call ⟨.builtin .min,args,ts⟩ => foldsA minA (args.toList.map (oprA s))
  | .call ⟨.builtin .max,args,ts⟩ => foldsA maxA (args.toList.map (oprA s))
  | _ => none
theorem opA_rd (C : Ctx) (lim : Nat) (s : Slots) (H : Heap) (op : Op) (h : isRd C op = true) : opA C lim s H op = (rdA C s H op).map nothing := by
  cases op with
  | move x => rfl
  | assign x => rfl
  | pick c a b => simp only [opA,rdA,pickA,nothing,Option.map_map]; rfl
  | build t ps => rfl
  | load t a => rfl
  | nilCheck x =>
    simp only [opA,rdA,nilChkA]
    split
    · rename_i h; simp [h,nothing]
    · rename_i h; simp [h,nothing]
    · rename_i h; simp [h,nothing]
    · rename_i h1 h2 h3
      split
      · rename_i h; exact absurd h (h1 _ _ _)
      · rename_i h; exact absurd h (h2 _)
      · rename_i h; exact absurd h (h3 _ _ _)
      · rfl
  | binOp op t x y z => rfl
  | unOp op t x => rfl
  | convert src dst x =>
    have hn : isS2b C.P src dst = false := by simpa [isRd] using h
    unfold isS2b at hn
    simp only [opA,rdA,convXA]
    split
    · rename_i h1 h2; simp only [h1,h2] <;> first | done | rfl
    · rename_i h1 h2; simp only [h1,h2] <;> first | done | rfl
    · rename_i h1 h2; simp only [h1,h2] <;> first | done | rfl
    · rename_i h1 h2; rw [h1,h2] at hn; cases hn
    · split <;> first | rfl | simp_all
  | makeInterface t x =>
    simp only [opA,rdA,mkIfcA]
    split <;> simp_all [nothing]
  | makeFunc f a b => rfl
  | slice t x lo hi mx => rfl
  | fieldAddr t x i => rfl
  | field t x i => rfl
  | indexAddr t x i => rfl
  | index t x i => rfl
  | lookup t x i ok => rfl
  | entry it => rfl
  | extract t i =>
    simp only [opA,rdA]
    cases oprA s t <;> rfl
  | call c =>
    obtain ⟨f,args,ts⟩ := c
    cases f with
    | builtin b =>
      have two : ∀ {n m : Nat},(Nat.blt 0 n && Nat.blt 0 m) = true → 0 < n ∧ 0 < m := fun h => by simpa using h
      have one : ∀ {n m : Nat},(Nat.beq n 1 && Nat.blt 0 m) = true → n = 1 ∧ 0 < m := fun h => by simpa using h
      cases b with
      | len =>
        obtain ⟨h1,h2⟩ := one h
        have e : ts[0]? = some (ts.getD 0 0) := by simp [Array.getD,h2]
        obtain ⟨args⟩ := args
        match args,h1 with
        | [x],_ =>
          show builtinA C lim H .len ts [oprA s x] = (lenBA C H (ts.getD 0 0) (oprA s x)).map nothing
          unfold builtinA
          rw [e]
      | cap =>
        obtain ⟨h1,h2⟩ := one h
        have e : ts[0]? = some (ts.getD 0 0) := by simp [Array.getD,h2]
        obtain ⟨args⟩ := args
        match args,h1 with
        | [x],_ =>
          show builtinA C lim H .cap ts [oprA s x] = (capBA C.P (ts.getD 0 0) (oprA s x)).map nothing
          unfold builtinA
          rw [e]
      | min =>
        obtain ⟨h1,h2⟩ := two h
        have e : ts[0]? = some (ts.getD 0 0) := by simp [Array.getD,h2]
        obtain ⟨args⟩ := args
        match args,h1 with
        | x :: r,_ =>
          show builtinA C lim H .min ts (oprA s x :: r.map (oprA s)) = (foldA minA (oprA s x) (r.map (oprA s))).map nothing
          unfold builtinA
          rw [e]
      | max =>
        obtain ⟨h1,h2⟩ := two h
        have e : ts[0]? = some (ts.getD 0 0) := by simp [Array.getD,h2]
        obtain ⟨args⟩ := args
        match args,h1 with
        | x :: r,_ =>
          show builtinA C lim H .max ts (oprA s x :: r.map (oprA s)) = (foldA maxA (oprA s x) (r.map (oprA s))).map nothing
          unfold builtinA
          rw [e]
      | _ => simp [isRd] at h
    | _ => simp [isRd] at h
  | _ => simp [isRd] at h
/-- What an operation that looks comes to, then; what is but handed on goes as it is. -/
def rdK (C : Ctx) (s : Slots) (H : Heap) (op : Op) (K : AV → Res) : Res := match op with
  | .move x | .assign x => K (oprA s x)
  | .makeFunc f a b => K (.fn f (a.toList.map (oprA s)) (b.toList.map (oprA s)))
  | op => purK (rdA C s H op) K
theorem rdK_eq (C : Ctx) (s : Slots) (H : Heap) (op : Op) (K : AV → Res) : rdK C s H op K = bindR (rdA C s H op) K := by
  cases op <;> first | exact purK_eq _ _ | rfl
def opK (C : Ctx) (lim : Nat) (s : Slots) (H : Heap) (op : Op) (K : AV → Heap → Res) : Res :=
  bif isRd C op then rdK C s H op fun v => K v H else effK H (opA C lim s H op) K
theorem opK_eq (C : Ctx) (lim : Nat) (s : Slots) (H : Heap) (op : Op) (K : AV → Heap → Res) :
    opK C lim s H op K = bindR (opA C lim s H op) fun r => strA? C.strict r.1 fun v => applyK C.strict H r.2 fun H => K v H := by
  simp only [opK,strA?_eq,applyK_eq]
  cases h : isRd C op with
  | true =>
    rw [opA_rd C lim s H op h]
    simp only [cond_true,rdK_eq]
    cases rdA C s H op <;> rfl
  | false => simp only [cond_false,effK_eq]
def valK (call : CallF) (yc : YieldF) (lim : Nat) (fv : AV) (args : List AV) (H : Heap) (K : AV → Heap → Res) : Res := match fv with
  | .yld l => resK (yc lim l args H) K
  | .fn (.func g) first cap => resK (call lim g (first ++ args ++ cap) H) K
  | _ => .stop
def evOpL (C : Ctx) (call : CallF) (yc : YieldF) (lim : Nat) (o : Oper) (s : Slots) (H : Heap) (K : AV → Heap → Res) : Res := match o.op with
  | .call ⟨.value f,args,_⟩ => valK call yc lim (oprA s f) (args.toList.map (oprA s)) H K
  | .next it b => nextK lim H (oprA s it) b K
  | op => opK C lim s H op K
theorem evOpL_eq (C : Ctx) (call : CallF) (yc : YieldF) (lim : Nat) (o : Oper) (s : Slots) (H : Heap) (K : AV → Heap → Res) : evOpL C call yc lim o s H K = evOp C call yc lim o s H K := by
  obtain ⟨dst,op,ty,at_,after,guard⟩ := o
  cases op with
  | call c =>
    obtain ⟨f,args,ts⟩ := c
    cases f with
    | value f =>
      simp only [evOpL,evOp]
      cases hq : oprA s f with
      | fn g first cap => cases g <;> simp [valK,resK,calleeA,bindR]
      | yld l => rfl
      | _ => simp [valK,calleeA,bindR]
    | _ => exact opK_eq ..
  | next it b => exact anyF_b _ _ _ _ _
  | _ => exact opK_eq ..
/-- What is guarded: a value; a value and what is done; a call's result. -/
def gPur (w : Option Bool) (o : Option AV) : Option AV := w.bind fun b => bif b then o else some (.tup [])
def gEff (w : Option Bool) (o : Option (AV × Eff)) : Option (AV × Eff) := w.bind fun b => bif b then o else some (.tup [],.nothing)
def gRes (w : Option Bool) (H : Heap) (o : Res) : Res := bindR w fun b => bif b then o else .done (.tup [],H)
def valR (call : CallF) (yc : YieldF) (lim : Nat) (fv : AV) (args : List AV) (H : Heap) : Res := match fv with
  | .yld l => yc lim l args H
  | .fn (.func g) first cap => call lim g (first ++ args ++ cap) H
  | _ => .stop
theorem valK_eq (call : CallF) (yc : YieldF) (lim : Nat) (fv : AV) (args : List AV) (H : Heap) (K : AV → Heap → Res) : valK call yc lim fv args H K = resK (valR call yc lim fv args H) K := by
  unfold valK valR
  split <;> rfl
def evOpG (C : Ctx) (call : CallF) (yc : YieldF) (lim : Nat) (w : Option Bool) (o : Oper) (s : Slots) (H : Heap) (K : AV → Heap → Res) : Res := match o.op with
  | .call ⟨.value f,args,_⟩ => resK (gRes w H (valR call yc lim (oprA s f) (args.toList.map (oprA s)) H)) K
  | .next it b => boolK w fun c => bif c then nextK lim H (oprA s it) b K else K (.tup []) H
  | op => bif isRd C op then purK (gPur w (rdA C s H op)) fun v => K v H else effK H (gEff w (opA C lim s H op)) K
theorem evOpG_eq (C : Ctx) (call : CallF) (yc : YieldF) (lim : Nat) (w : Option Bool) (o : Oper) (s : Slots) (H : Heap) (K : AV → Heap → Res) :
    evOpG C call yc lim w o s H K = bindR w fun b => bif b then evOpL C call yc lim o s H K else K (.tup []) H := by
  obtain ⟨dst,op,ty,at_,after,guard⟩ := o
  have gen : ∀ op,(bif isRd C op then purK (gPur w (rdA C s H op)) fun v => K v H else effK H (gEff w (opA C lim s H op)) K) = bindR w fun b => bif b then opK C lim s H op K else K (.tup []) H := by
    intro op
    unfold opK gPur gEff
    simp only [purK_eq,rdK_eq,effK_eq]
    cases isRd C op <;> cases w with
    | none => rfl
    | some b => cases b <;> rfl
  cases op with
  | call c =>
    obtain ⟨f,args,ts⟩ := c
    cases f with
    | value f =>
      simp only [evOpG,evOpL,valK_eq]
      unfold gRes resK
      cases w with
      | none => rfl
      | some b => cases b <;> rfl
    | _ => simp only [evOpG,evOpL]; exact gen _
  | next it b => rfl
  | _ => simp only [evOpG,evOpL]; exact gen _
def evOpsL (C : Ctx) (call : CallF) (yc : YieldF) (lim : Nat) (ops : Array Oper) : List Oper → Slots → Heap → (Slots → Heap → Res) → Res
  | [],s,H,K => K s H
  | o :: r,s,H,K => match o.guard with
    | none => evOpL C call yc lim o s H fun v H => evOpsL C call yc lim ops r (s.put o.dst v) H K
    | some _ => evOpG C call yc lim (wantA ops s o) o s H fun v H => evOpsL C call yc lim ops r (s.put o.dst v) H K
theorem evOpsL_eq (C : Ctx) (call : CallF) (yc : YieldF) (lim : Nat) (ops : Array Oper) : ∀ (l : List Oper) (s : Slots) (H : Heap) (K : Slots → Heap → Res),evOpsL C call yc lim ops l s H K = evOps C call yc lim ops l s H K
  | [],_,_,_ => rfl
  | o :: r,s,H,K => by
    simp only [evOpsL,evOps]
    split
    · rename_i hg
      simp only [wantA,hg,bindR_some,cond_true,evOpL_eq,putA_eq,evOpsL_eq C call yc lim ops r]
    · simp only [evOpG_eq,evOpL_eq,putA_eq,evOpsL_eq C call yc lim ops r]
/-- Is it told again? -/
def agn (o : Option AV) (v : AV) : Bool := match o with
  | some u => AV.eqv u v
  | none => false
def againL (C : Ctx) (lim : Nat) (s : Slots) (H : Heap) (x : Nat × Op × AV) : Bool :=
  bif isRd C x.2.1 then agn (rdA C s H x.2.1) x.2.2 else again C lim s H x
theorem againL_eq (C : Ctx) (lim : Nat) (s : Slots) (H : Heap) (x : Nat × Op × AV) : againL C lim s H x = again C lim s H x := by
  unfold againL
  cases h : isRd C x.2.1 with
  | false => rfl
  | true =>
    simp only [cond_true,again,opA_rd C lim s H _ h,agn]
    cases rdA C s H x.2.1 <;> rfl
/-- A draw's new place. -/
def mkK (H : Heap) (o : Option (AV × Eff)) (mk : Bool) (K : AV → Heap → Res) : Res := bindR o fun q => match q.2 with
  | .new ob => bif mk && ob.under H.sz then forceAV q.1 fun v => applyK true H (.new ob) fun H => K v H else .stop
  | _ => .stop
theorem mkK_eq (H : Heap) (o : Option (AV × Eff)) (mk : Bool) (K : AV → Heap → Res) : mkK H o mk K = bindR o fun q => match q.2 with
  | .new ob => bif mk && ob.under H.sz then K q.1 (H.new ob) else .stop
  | _ => .stop := by
  simp only [mkK,forceAV_eq,applyK_eq,Eff.on]
def quietD (C : Ctx) (l : List DOp) : Bool := l.all fun x => x.2.1 && isRd C x.2.2.op
/-- What was told, and whether it was asked for at all. -/
abbrev GRd := Nat × Bool × Op × AV
def flt : List GRd → List (Nat × Op × AV)
  | [] => []
  | (j,b,op,v) :: r => bif b then (j,op,v) :: flt r else flt r
theorem all_flt (p : Nat × Op × AV → Bool) : ∀ rs : List GRd,rs.all (fun x => !x.2.1 || p (x.1,x.2.2.1,x.2.2.2)) = (flt rs).all p
  | [] => rfl
  | (j,true,op,v) :: r => by simp only [List.all_cons,flt,cond_true,all_flt p r,Bool.not_true,Bool.false_or]
  | (j,false,op,v) :: r => by simp only [List.all_cons,flt,cond_false,all_flt p r,Bool.not_false,Bool.true_or,Bool.true_and]
def agnAll (C : Ctx) (lim : Nat) (s : Slots) (H : Heap) (rs : List GRd) : Bool := rs.all fun x => !x.2.1 || againL C lim s H (x.1,x.2.2.1,x.2.2.2)
def agnBut (C : Ctx) (lim m : Nat) (s : Slots) (H : Heap) (rs : List GRd) : Bool := rs.all fun x => !x.2.1 || (m.testBit x.1 || againL C lim s H (x.1,x.2.2.1,x.2.2.2))
def evDrawL (C : Ctx) (call : CallF) (lim : Nat) (ops : Array Oper) (ms : List Nat) : List DOp → List GRd → Slots → Heap → (Slots → Heap → Res) → Res
  | [],_,s,H,K => K s H
  | (j,fl,o) :: r,rs,s,H,K => bif quietD C ((j,fl,o) :: r) then (match o.guard with
      | none => rdK C s H o.op fun v => evDrawL C call lim ops ms r rs (s.put o.dst v) H K
      | some _ => purK (gPur (wantA ops s o) (rdA C s H o.op)) fun v => evDrawL C call lim ops ms r rs (s.put o.dst v) H K)
    else bif fl && isRd C o.op then (match o.guard with
      | none => rdK C s H o.op fun v => evDrawL C call lim ops ms r (bif isPure o.op then rs else (j,true,o.op,v) :: rs) (s.put o.dst v) H K
      | some _ => boolK (wantA ops s o) fun b => purK (bif b then rdA C s H o.op else some (.tup [])) fun v => evDrawL C call lim ops ms r (bif isPure o.op then rs else (j,b,o.op,v) :: rs) (s.put o.dst v) H K)
    else bif fl then boolK (wantA ops s o) fun b => bif !b then evDrawL C call lim ops ms r rs (s.put o.dst (.tup [])) H K
      else bif isMk o.op then mkK H (opA C lim s H o.op) (isMk o.op) fun v H => bif agnAll C lim (s.put o.dst v) H rs then evDrawL C call lim ops ms r rs (s.put o.dst v) H K else .stop
        else bindR (opA C lim s H o.op) fun q => match q.2 with
        | .nothing => evDrawL C call lim ops ms r (bif isPure o.op then rs else (j,true,o.op,q.1) :: rs) (s.put o.dst q.1) H K
        | _ => .stop
    else (match o.guard with
      | none => evOpL C call noY lim o s H fun v H => bif agnBut C lim (ms.getD j 0) (s.put o.dst v) H rs then evDrawL C call lim ops ms r rs (s.put o.dst v) H K else .stop
      | some _ => boolK (wantA ops s o) fun b => evOpG C call noY lim (some b) o s H fun v H => bif !b || agnBut C lim (ms.getD j 0) (s.put o.dst v) H rs then evDrawL C call lim ops ms r rs (s.put o.dst v) H K else .stop)
theorem isMk_new (C : Ctx) (lim : Nat) (s : Slots) (H : Heap) (op : Op) (h : isMk op = true) (q : AV × Eff) (hq : opA C lim s H op = some q) : ∃ ob,q.2 = .new ob := by
  cases op with
  | alloc e =>
    simp only [opA,allocA,Option.map_eq_some_iff] at hq
    obtain ⟨z,_,rfl⟩ := hq
    exact ⟨_,rfl⟩
  | buildSlice t n ps =>
    simp only [opA,buildSliceA] at hq
    split at hq
    · obtain ⟨n,_,hq⟩ := Option.bind_eq_some_iff.1 hq
      cases hc : (Nat.ble _ 16777216 && !(n == 0)) with
      | false => rw [hc] at hq; cases hq
      | true =>
        rw [hc] at hq
        obtain ⟨z,_,hq⟩ := Option.bind_eq_some_iff.1 hq
        cases hz : (z.cells.length == n) with
        | false => rw [hz] at hq; cases hq
        | true =>
          rw [hz] at hq
          simp only [cond_true,Option.map_eq_some_iff] at hq
          obtain ⟨_,_,rfl⟩ := hq
          exact ⟨_,rfl⟩
    · cases hq
  | _ => simp [isMk] at h
/-- Where nothing is done any more nothing is told again. -/
theorem evDraw_quiet (C : Ctx) (call : CallF) (lim : Nat) (ops : Array Oper) (ms : List Nat) : ∀ (l : List DOp) (rs rs' : List (Nat × Op × AV)) (s : Slots) (H : Heap) (K : Slots → Heap → Res),quietD C l = true → evDraw C call lim ops ms l rs s H K = evDraw C call lim ops ms l rs' s H K
  | [],_,_,_,_,_,_ => rfl
  | (j,fl,o) :: r,rs,rs',s,H,K,h => by
    simp only [quietD,List.all_cons,Bool.and_eq_true] at h
    obtain ⟨⟨rfl,hr⟩,hq⟩ := h
    have ih := fun rs rs' s => evDraw_quiet C call lim ops ms r rs rs' s H K hq
    unfold evDraw
    congr 1
    funext b
    cases b with
    | false =>
      simp only [putA_eq,Bool.not_false,cond_true]
      exact ih _ _ _
    | true =>
      simp only [Bool.not_true,cond_false,cond_true,opA_rd C lim s H _ hr,putA_eq,strA?_eq]
      cases rdA C s H o.op with
      | none => rfl
      | some v =>
        simp only [Option.map_some,bindR_some,nothing]
        exact ih _ _ _
theorem evDrawL_eq (C : Ctx) (call : CallF) (lim : Nat) (ops : Array Oper) (ms : List Nat) : ∀ (l : List DOp) (rs : List GRd) (s : Slots) (H : Heap) (K : Slots → Heap → Res),evDrawL C call lim ops ms l rs s H K = evDraw C call lim ops ms l (flt rs) s H K
  | [],_,_,_,_ => rfl
  | (j,fl,o) :: r,rs,s,H,K => by
    have ha : againL C lim = again C lim := by funext s H x; exact againL_eq C lim s H x
    have hall : ∀ s H,agnAll C lim s H rs = (flt rs).all (again C lim s H) := fun s H => by unfold agnAll; rw [← all_flt,ha]
    have hbut : ∀ m s H,agnBut C lim m s H rs = (flt rs).all (fun x => m.testBit x.1 || again C lim s H x) := fun m s H => by unfold agnBut; rw [← all_flt,ha]
    have none' : wantA ops s o = none → evDraw C call lim ops ms ((j,fl,o) :: r) (flt rs) s H K = .stop := by
      intro hb
      unfold evDraw
      rw [hb]
      rfl
    have some' : ∀ b,wantA ops s o = some b → evDraw C call lim ops ms ((j,fl,o) :: r) (flt rs) s H K = (bif !b then evDraw C call lim ops ms r (flt rs) (s.put o.dst (.tup [])) H K else bif fl then bindR (opA C lim s H o.op) fun q => match q.2 with
          | .nothing => evDraw C call lim ops ms r (bif isPure o.op then flt rs else (j,o.op,q.1) :: flt rs) (s.put o.dst q.1) H K
          | .new ob => bif isMk o.op && ob.under H.sz then bif (flt rs).all (again C lim (s.put o.dst q.1) (H.new ob)) then evDraw C call lim ops ms r (flt rs) (s.put o.dst q.1) (H.new ob) K else .stop else .stop
          | .put _ _ => .stop
        else evOpL C call noY lim o s H fun v H => bif (flt rs).all (fun x => (ms.getD j 0).testBit x.1 || again C lim (s.put o.dst v) H x) then evDraw C call lim ops ms r (flt rs) (s.put o.dst v) H K else .stop) := by
      intro b hb
      conv => lhs; unfold evDraw
      rw [hb]
      simp only [bindR_some,putA_eq,strA?_eq,applyK_eq,evOpL_eq,Eff.on]
      rfl
    have rds : ∀ b v,isRd C o.op = true → rdA C s H o.op = some v → fl = true → (bif fl then bindR (opA C lim s H o.op) fun q => match q.2 with
          | .nothing => evDraw C call lim ops ms r (bif isPure o.op then flt rs else (j,o.op,q.1) :: flt rs) (s.put o.dst q.1) H K
          | .new ob => bif isMk o.op && ob.under H.sz then bif (flt rs).all (again C lim (s.put o.dst q.1) (H.new ob)) then evDraw C call lim ops ms r (flt rs) (s.put o.dst q.1) (H.new ob) K else .stop else .stop
          | .put _ _ => .stop
        else b) = evDraw C call lim ops ms r (bif isPure o.op then flt rs else (j,o.op,v) :: flt rs) (s.put o.dst v) H K := by
      intro b v hr hv hf
      rw [hf,opA_rd C lim s H _ hr,hv]
      rfl
    have rdn : ∀ b,isRd C o.op = true → rdA C s H o.op = none → fl = true → (bif fl then bindR (opA C lim s H o.op) fun q => match q.2 with
          | .nothing => evDraw C call lim ops ms r (bif isPure o.op then flt rs else (j,o.op,q.1) :: flt rs) (s.put o.dst q.1) H K
          | .new ob => bif isMk o.op && ob.under H.sz then bif (flt rs).all (again C lim (s.put o.dst q.1) (H.new ob)) then evDraw C call lim ops ms r (flt rs) (s.put o.dst q.1) (H.new ob) K else .stop else .stop
          | .put _ _ => .stop
        else b) = .stop := by
      intro b hr hv hf
      rw [hf,opA_rd C lim s H _ hr,hv]
      rfl
    have hnone : o.guard = none → wantA ops s o = some true := fun hg => by simp [wantA,hg]
    unfold evDrawL
    cases hqd : quietD C ((j,fl,o) :: r) with
    | true =>
      simp only [cond_true,evDrawL_eq C call lim ops ms r]
      have hq := hqd
      simp only [quietD,List.all_cons,Bool.and_eq_true] at hq
      obtain ⟨⟨hf,hr⟩,hq⟩ := hq
      have ih := fun rs rs' s => evDraw_quiet C call lim ops ms r rs rs' s H K hq
      have old : ∀ b,wantA ops s o = some b → evDraw C call lim ops ms ((j,fl,o) :: r) (flt rs) s H K = (bif b then purK (rdA C s H o.op) fun v => evDraw C call lim ops ms r (flt rs) (s.put o.dst v) H K else evDraw C call lim ops ms r (flt rs) (s.put o.dst (.tup [])) H K) := by
        intro b hb
        rw [some' b hb]
        cases b with
        | false => rfl
        | true =>
          simp only [Bool.not_true,cond_false,cond_true]
          cases hv : rdA C s H o.op with
          | none => rw [rdn _ hr hv hf]; rfl
          | some v => rw [rds _ v hr hv hf,purK_eq]; exact ih _ _ _
      split
      · rename_i hg
        rw [old true (hnone hg),rdK_eq]
        simp only [cond_true,purK_eq]
      · cases hw : wantA ops s o with
        | none => rw [none' hw]; rfl
        | some b =>
          rw [old b hw]
          cases b <;> rfl
    | false =>
      simp only [cond_false]
      cases hfr : (fl && isRd C o.op) with
      | true =>
        simp only [Bool.and_eq_true] at hfr
        obtain ⟨hf,hr⟩ := hfr
        simp only [cond_true,evDrawL_eq C call lim ops ms r]
        have fc : ∀ (b : Bool) (v : AV),flt (bif isPure o.op then rs else (j,b,o.op,v) :: rs) = bif isPure o.op then flt rs else bif b then (j,o.op,v) :: flt rs else flt rs := by
          intro b v
          cases isPure o.op <;> rfl
        split
        · rename_i hg
          rw [some' true (hnone hg)]
          simp only [Bool.not_true,cond_false]
          cases hv : rdA C s H o.op with
          | none => rw [rdn _ hr hv hf,rdK_eq,hv]; rfl
          | some v =>
            rw [rds _ v hr hv hf]
            simp only [purK_eq,rdK_eq,hv,bindR_some,fc,cond_true]
        · cases hw : wantA ops s o with
          | none => rw [none' hw]; rfl
          | some b =>
            rw [some' b hw]
            cases b with
            | false =>
              simp only [boolK,bindR_some,Bool.not_false,cond_true,cond_false,purK_eq,fc]
              cases isPure o.op <;> rfl
            | true =>
              simp only [boolK,bindR_some,Bool.not_true,cond_false,cond_true]
              cases hv : rdA C s H o.op with
              | none => rw [rdn _ hr hv hf]; rfl
              | some v =>
                rw [rds _ v hr hv hf]
                simp only [purK_eq,rdK_eq,hv,bindR_some,fc,cond_true]
      | false =>
        simp only [cond_false]
        cases hf : fl with
        | true =>
          have hr : isRd C o.op = false := by simpa [hf] using hfr
          simp only [cond_true,evDrawL_eq C call lim ops ms r,hall]
          cases hw : wantA ops s o with
          | none => rw [← hf,none' hw]; rfl
          | some b =>
            rw [← hf,some' b hw,hf]
            cases b with
            | false => rfl
            | true =>
              simp only [boolK,bindR_some,Bool.not_true,cond_false,cond_true]
              cases hm : isMk o.op with
              | true =>
                simp only [cond_true,mkK_eq,Bool.true_and]
                cases hq : opA C lim s H o.op with
                | none => rfl
                | some q =>
                  obtain ⟨ob,ho⟩ := isMk_new C lim s H _ hm q hq
                  simp only [bindR_some,ho]
              | false =>
                simp only [cond_false,Bool.false_and]
                congr 1
                funext q
                cases q.2 with
                | nothing => simp only; cases isPure o.op <;> rfl
                | _ => rfl
        | false =>
          simp only [cond_false,evDrawL_eq C call lim ops ms r,hbut]
          split
          · rename_i hg
            rw [← hf,some' true (hnone hg),hf]
            simp only [Bool.not_true,cond_false]
          · cases hw : wantA ops s o with
            | none => rw [← hf,none' hw]; rfl
            | some b =>
              rw [← hf,some' b hw,hf]
              simp only [boolK,bindR_some,evOpG_eq]
              cases b with
              | false => simp only [Bool.not_false,cond_true,cond_false,Bool.true_or]
              | true => simp only [Bool.not_true,cond_true,cond_false,Bool.false_or]
def drawL (C : Ctx) (call : CallF) (lim : Nat) (ops : Array Oper) (ord : Option (List (Nat × Bool))) (s : Slots) (H : Heap) (K : Slots → Heap → Res) : Res :=
  bif okD ops (masks ops) (orderD ops ord) then evDrawL C call lim ops (masks ops) (orderD ops ord) [] s H K else .stop
theorem drawL_eq (C : Ctx) (call : CallF) (lim : Nat) (ops : Array Oper) (ord : Option (List (Nat × Bool))) (s : Slots) (H : Heap) (K : Slots → Heap → Res) : drawL C call lim ops ord s H K = drawK C call lim ops ord s H K := by
  simp only [drawL,drawK,forceNats_eq,evDrawL_eq]
  rfl
def loopEndL (l : Nat) (s : Slots) (H : Heap) (κ : Ex → Slots → Heap → Res) : Res := loopEnd false l s H κ
def evL (C : Ctx) (call : CallF) (yc : YieldF) (rd : Bool) (f : FuncId) (lim n : Nat) : Code → Slots → Heap → (Ex → Slots → Heap → Res) → Res
  | .skip,s,H,κ => κ .normal s H
  | .label _,s,H,κ => κ .normal s H
  | .region id ops draw,s,H,κ =>
      bif draw then (bif rd then .stop else drawL C call lim ops (C.draw f id) s H fun s H => κ .normal s H) else evOpsL C call yc lim ops ops.toList s H fun s H => κ .normal s H
  | .seq a b,s,H,κ => evL C call yc rd f lim n a s H fun e s H => match e with
    | .normal => normK (headL C f b) s fun s => evL C call yc rd f lim n b s H κ
    | .exit id => κ (.exit id) s H
    | .ret => κ .ret s H
  | .cond c a b,s,H,κ => condK (oprA s c) (evL C call yc rd f lim n a s H κ) (evL C call yc rd f lim n b s H κ)
  | .block id b,s,H,κ => evL C call yc rd f lim n b s H fun e s H => match e with
    | .normal => κ .normal s H
    | .exit j => bif Nat.beq j id then κ .normal s H else κ (.exit j) s H
    | .ret => κ .ret s H
  | .loop b,s,H,κ => loopK (headL C f b) (fun s H κ => evL C call yc rd f lim n b s H κ) n s H κ
  | .exit id,s,H,κ => κ (.exit id) s H
  | .ret,s,H,κ => κ .ret s H
  | .rangeFunc x ps as bd,s,H,κ => bif rd || !Nat.ble lim H.sz then .stop else bindR (calleeA (oprA s x) [.yld H.sz]) fun c => bif hasBody C.P c.1 then
      (call lim c.1 c.2 (H.new (.loop ps as bd s 0))).bind fun r => loopEndL H.sz s r.2 κ
    else .stop
  | _,_,_,_ => .stop
theorem loopEnd_eq (b : Bool) (l : Nat) (s : Slots) (H : Heap) (κ : Ex → Slots → Heap → Res) : loopEndL l s H κ = loopEnd b l s H κ := by
  unfold loopEndL loopEnd
  split <;> simp [applyK_eq]
theorem evL_eq (C : Ctx) (call : CallF) (yc : YieldF) (rd : Bool) (f : FuncId) (lim n : Nat) : ∀ (c : Code) (s : Slots) (H : Heap) (κ : Ex → Slots → Heap → Res),evL C call yc rd f lim n c s H κ = ev C call yc rd f lim n c s H κ := by
  intro c
  induction c with
  | region id ops draw => intro s H κ; simp only [evL,ev,drawL_eq,evOpsL_eq]
  | seq a b iha ihb =>
    intro s H κ
    simp only [evL,ev,iha]
    congr 1
    funext e s H
    cases e <;> simp [ihb]
  | cond c a b iha ihb => intro s H κ; simp only [evL,ev,condK,iha,ihb]
  | block id b ih => intro s H κ; simp only [evL,ev,ih]; rfl
  | loop b ih =>
    intro s H κ
    simp only [evL,ev]
    congr 1
    funext s H κ
    exact ih s H κ
  | rangeFunc x ps as bd iha ihb =>
    intro s H κ
    simp only [evL,ev,applyK_eq,Eff.on,loopEnd_eq C.strict]
  | _ => intro s H κ; rfl
end Go.Ev

-- part EvM
/- EvM: continuations by what they look at; loops as functions of what they carry; a call's body. -/
set_option linter.unusedVariables false
set_option linter.unusedSimpArgs false
namespace Go.Ev
open Go.RowKit
abbrev KS := Slots → Heap → Res
def exitK (j : Nat) : List (Nat × Option (List Nat) × KS) → KS
  | [],_,_ => .stop
  | (i,L,k) :: r,s,H => bif Nat.beq j i then normK L s fun s => k s H else exitK j r s H
/-- What comes behind: at the end; at each exit; at a return. -/
def kk (L : Option (List Nat)) (kn : KS) (X : List (Nat × Option (List Nat) × KS)) (R : List AV → Heap → Res) (rs : List Nat) : Ex → Slots → Heap → Res := fun e s H => match e with
  | .normal => normK L s fun s => kn s H
  | .exit j => exitK j X s H
  | .ret => R (rs.map fun t => s.getD t (.tup [])) H
/-- Rounds of a loop that carries σ. -/
def loopL {σ : Type} (B : σ → Heap → (σ → Heap → Res) → Res) : Nat → σ → Heap → Res
  | 0,_,_ => .stop
  | n + 1,x,H => B x H fun x H => loopL B n x H
theorem keep_keep (L : List Nat) : ∀ (s : Slots) (i : Nat),keep L i (keep L i s) = keep L i s
  | [],_ => rfl
  | x :: r,i => by
    simp only [keep,keep_keep L r (i + 1)]
    cases memN i L <;> rfl
theorem loopK_keep (L : List Nat) (body : Slots → Heap → (Ex → Slots → Heap → Res) → Res) (n : Nat) (s : Slots) (H : Heap) (κ : Ex → Slots → Heap → Res) : loopK (some L) body n (keep L 0 s) H κ = loopK (some L) body n s H κ := by
  cases n with
  | zero => rfl
  | succ n => simp only [loopK,normK,keepK_eq,keep_keep]
theorem loop_node {σ : Type} {C : Ctx} {call : CallF} {yc : YieldF} {rd : Bool} {f : FuncId} {lim k : Nat} {b : Code} (L : List Nat) (st : σ → Slots) (B : σ → Heap → (σ → Heap → Res) → Res) {N : Option (List Nat)} {kn0 : KS} {X : List (Nat × Option (List Nat) × KS)} {R : List AV → Heap → Res} {rs : List Nat}
    (hL : headL C f b = some L) (hk : ∀ x,keep L 0 (st x) = st x)
    (hb : ∀ x H kn,evL C call yc rd f lim k b (st x) H (kk (some L) kn X R rs) = B x H fun x H => kn (st x) H) (x : σ) (s : Slots) (H : Heap) (hs : keep L 0 s = st x) :
    evL C call yc rd f lim k (.loop b) s H (kk N kn0 X R rs) = loopL B k x H := by
  show loopK (headL C f b) (fun s H κ => evL C call yc rd f lim k b s H κ) k s H (kk N kn0 X R rs) = _
  rw [hL]
  have key : ∀ (n : Nat) (x : σ) (s : Slots) (H : Heap),keep L 0 s = st x → loopK (some L) (fun s H κ => evL C call yc rd f lim k b s H κ) n s H (kk N kn0 X R rs) = loopL B n x H := by
    intro n
    induction n with
    | zero => intro x s H _; rfl
    | succ n ih =>
      intro x s H hs
      simp only [loopK,normK,keepK_eq,hs,loopL]
      have := hb x H (fun s H => loopK (some L) (fun s H κ => evL C call yc rd f lim k b s H κ) n s H (kk N kn0 X R rs))
      refine Eq.trans ?_ (this.trans ?_)
      · congr 1
        funext e s H
        cases e with
        | normal => simp only [kk,normK,keepK_eq]; exact (loopK_keep ..).symm
        | exit id => rfl
        | ret => rfl
      · congr 1
        funext x H
        exact ih x (st x) H (hk x)
  exact key k x s H hs
/-- What a function hands back. -/
def retK : List AV → Heap → Res
  | [v],H => .done (v,H)
  | vs,H => .done (.tup vs,H)
def retS : ResultVar → Nat × Option TypeId
  | .tmp t => (t,none)
  | .cell a t => (a,some t)
def retOne (C : Ctx) (H : Heap) : Option TypeId → AV → Option AV
  | none,v => some v
  | some t,v => loadA C H t v
def retAll (C : Ctx) (H : Heap) : List (Option TypeId) → List AV → Option (List AV)
  | t :: ts,v :: vs => (retOne C H t v).bind fun x => (retAll C H ts vs).bind fun xs => some (x :: xs)
  | _,_ => some []
/-- .. some results lying in places. -/
def retC (C : Ctx) (ts : List (Option TypeId)) (vs : List AV) (H : Heap) : Res := bindR (retAll C H ts vs) fun vs => retK vs H
theorem resA_all (C : Ctx) (s : Slots) (H : Heap) : ∀ l : List ResultVar,l.mapM (resA1 C s H) = retAll C H (l.map fun r => (retS r).2) (l.map fun r => s.getD (retS r).1 (.tup []))
  | [] => rfl
  | .tmp t :: r => by
    rw [List.mapM_cons,resA_all C s H r]
    simp only [List.map_cons,retS,retAll,retOne,resA1]
    cases retAll C H _ _ <;> rfl
  | .cell a t :: r => by
    rw [List.mapM_cons,resA_all C s H r]
    simp only [List.map_cons,retS,retAll,retOne,resA1]
    cases loadA C H t _ with
    | none => rfl
    | some v => cases retAll C H _ _ <;> rfl
theorem finish_C (C : Ctx) (fn : Func) (rs : List Nat) (ts : List (Option TypeId)) (h : fn.results.toList.map retS = rs.zip ts) (hl : rs.length = ts.length) : finish C fn = kk none (fun s H => retC C ts (rs.map fun t => s.getD t (.tup [])) H) [] (retC C ts) rs := by
  have h1 : (fn.results.toList.map fun r => (retS r).2) = ts := by
    have := congrArg (List.map Prod.snd) h
    rw [List.map_map,List.map_snd_zip (by omega)] at this
    exact this
  have h2 : (fn.results.toList.map fun r => (retS r).1) = rs := by
    have := congrArg (List.map Prod.fst) h
    rw [List.map_map,List.map_fst_zip (by omega)] at this
    exact this
  funext e s H
  have hr : bindR (resA C fn s H) (fun v => .done (v,H)) = retC C ts (rs.map fun t => s.getD t (.tup [])) H := by
    unfold resA retC
    rw [resA_all,h1]
    have : (fn.results.toList.map fun r => s.getD (retS r).1 (.tup [])) = rs.map fun t => s.getD t (.tup []) := by rw [← h2,List.map_map]; rfl
    rw [this]
    cases retAll C H ts _ with
    | none => rfl
    | some vs =>
      match vs with
      | [] => rfl
      | [v] => rfl
      | _ :: _ :: _ => rfl
  cases e with
  | exit id => rfl
  | normal => simp only [finish,strA?_eq,kk,normK,hr]
  | ret => simp only [finish,strA?_eq,kk,hr]
theorem retC_none (C : Ctx) : ∀ (ts : List (Option TypeId)),ts.all Option.isNone = true → ∀ vs H,vs.length = ts.length → retC C ts vs H = retK vs H := by
  intro ts ht vs H hl
  have : ∀ (ts : List (Option TypeId)) (vs : List AV),ts.all Option.isNone = true → vs.length = ts.length → retAll C H ts vs = some vs := by
    intro ts
    induction ts with
    | nil => intro vs _ hl; rw [List.length_eq_zero_iff.1 hl]; rfl
    | cons t ts ih =>
      intro vs ha hl
      cases vs with
      | nil => simp at hl
      | cons v vs =>
        simp only [List.all_cons,Bool.and_eq_true,Option.isNone_iff_eq_none] at ha
        obtain ⟨rfl,ha⟩ := ha
        simp only [retAll,retOne,Option.bind_some,ih vs ha (by simpa using hl)]
  simp only [retC,this ts vs ht hl,bindR_some]
theorem finish_tmps (C : Ctx) (fn : Func) (rs : List Nat) (h : fn.results.toList.map retS = rs.zip (List.replicate rs.length none)) : finish C fn = kk none (fun s H => retK (rs.map fun t => s.getD t (.tup [])) H) [] retK rs := by
  rw [finish_C C fn rs (List.replicate rs.length none) h (by simp)]
  have e : ∀ s H,retC C (List.replicate rs.length none) (rs.map fun t => List.getD s t (.tup [])) H = retK (rs.map fun t => List.getD s t (.tup [])) H := fun s H => retC_none C _ (by simp) _ _ (by simp)
  funext x s H
  cases x with
  | exit id => rfl
  | normal => simp only [kk,normK,e]
  | ret => simp only [kk,e]
/-- A call of a function with a body. -/
theorem evCall_body (C : Ctx) (k lim : Nat) (f : FuncId) (args : List AV) (H : Heap) (fn : Func) (c : Code) (rs : List Nat) (hf : C.P.funcs[f]? = some fn) (hn : (fn.name == "runtime.NumGoroutine") = false) (hb : fn.body = some c) (hp : C.pur f = false) (hr : fn.results.toList.map retS = rs.zip (List.replicate rs.length none)) :
    evCall C (k + 1) lim f args H = evL C (evCall C k) (evCY C k).2 false f lim k c (args ++ List.replicate (fn.ntmps - args.length) (.tup [])) H (kk none (fun s H => retK (rs.map fun t => s.getD t (.tup [])) H) [] retK rs) := by
  show bindR C.P.funcs[f]? _ = _
  rw [hf]
  simp only [bindR_some,hn,cond_false,hb,hp,evL_eq,← finish_tmps C fn rs hr]
  rfl
theorem evCall_cells (C : Ctx) (k lim : Nat) (f : FuncId) (args : List AV) (H : Heap) (fn : Func) (c : Code) (rs : List Nat) (ts : List (Option TypeId)) (hf : C.P.funcs[f]? = some fn) (hn : (fn.name == "runtime.NumGoroutine") = false) (hb : fn.body = some c) (hp : C.pur f = false) (hr : fn.results.toList.map retS = rs.zip ts) (hl : rs.length = ts.length) :
    evCall C (k + 1) lim f args H = evL C (evCall C k) (evCY C k).2 false f lim k c (args ++ List.replicate (fn.ntmps - args.length) (.tup [])) H (kk none (fun s H => retC C ts (rs.map fun t => s.getD t (.tup [])) H) [] (retC C ts) rs) := by
  show bindR C.P.funcs[f]? _ = _
  rw [hf]
  simp only [bindR_some,hn,cond_false,hb,hp,evL_eq,← finish_C C fn rs ts hr hl]
  rfl
/-- .. that is called for its result alone. -/
def purR (N : Nat) (H : Heap) (o : Res) : Res := o.bind fun r => bif AV.under N r.1 then .done (r.1,H) else .stop
theorem evCall_pure (C : Ctx) (k lim : Nat) (f : FuncId) (args : List AV) (H : Heap) (fn : Func) (c : Code) (rs : List Nat) (ts : List (Option TypeId)) (hf : C.P.funcs[f]? = some fn) (hn : (fn.name == "runtime.NumGoroutine") = false) (hb : fn.body = some c) (hp : C.pur f = true) (hr : fn.results.toList.map retS = rs.zip ts) (hl : rs.length = ts.length) :
    evCall C (k + 1) lim f args H = purR H.sz H (evL C (evCall C k) (evCY C k).2 false f H.sz k c (args ++ List.replicate (fn.ntmps - args.length) (.tup [])) H (kk none (fun s H => retC C ts (rs.map fun t => s.getD t (.tup [])) H) [] (retC C ts) rs)) := by
  show bindR C.P.funcs[f]? _ = _
  rw [hf]
  simp only [bindR_some,hn,cond_false,hb,hp,evL_eq,← finish_C C fn rs ts hr hl,cond_true]
  rfl
abbrev CodeF := Code → Slots → Heap → (Ex → Slots → Heap → Res) → Res
/-- The evaluator up to the next cut: what stands behind one, and each loop, is J's. -/
def evX (C : Ctx) (call : CallF) (yc : YieldF) (rd : Bool) (f : FuncId) (lim n : Nat) (J : CodeF) : Code → Slots → Heap → (Ex → Slots → Heap → Res) → Res
  | .skip,s,H,κ => κ .normal s H
  | .label _,s,H,κ => κ .normal s H
  | .region id ops draw,s,H,κ =>
      bif draw then (bif rd then .stop else drawL C call lim ops (C.draw f id) s H fun s H => κ .normal s H) else evOpsL C call yc lim ops ops.toList s H fun s H => κ .normal s H
  | .seq a b,s,H,κ => evX C call yc rd f lim n J a s H fun e s H => match e with
    | .normal => match headL C f b with
      | none => evX C call yc rd f lim n J b s H κ
      | some L => keepK L 0 s fun s => J b s H κ
    | .exit id => κ (.exit id) s H
    | .ret => κ .ret s H
  | .cond c a b,s,H,κ => condK (oprA s c) (evX C call yc rd f lim n J a s H κ) (evX C call yc rd f lim n J b s H κ)
  | .block id b,s,H,κ => evX C call yc rd f lim n J b s H fun e s H => match e with
    | .normal => κ .normal s H
    | .exit j => bif Nat.beq j id then κ .normal s H else κ (.exit j) s H
    | .ret => κ .ret s H
  | .loop b,s,H,κ => J (.loop b) s H κ
  | .exit id,s,H,κ => κ (.exit id) s H
  | .ret,s,H,κ => κ .ret s H
  | .refuse _,_,_,_ => .stop
  | c,s,H,κ => J c s H κ
theorem evL_X (C : Ctx) (call : CallF) (yc : YieldF) (rd : Bool) (f : FuncId) (lim n : Nat) : ∀ (c : Code) (s : Slots) (H : Heap) (κ : Ex → Slots → Heap → Res),evL C call yc rd f lim n c s H κ = evX C call yc rd f lim n (evL C call yc rd f lim n) c s H κ := by
  intro c
  induction c with
  | seq a b iha ihb =>
    intro s H κ
    show evL C call yc rd f lim n a s H _ = _
    rw [iha]
    show evX C call yc rd f lim n _ a s H _ = evX C call yc rd f lim n _ a s H _
    congr 1
    funext e s H
    cases e with
    | normal =>
      show normK (headL C f b) s _ = (match headL C f b with
        | none => evX C call yc rd f lim n (evL C call yc rd f lim n) b s H κ
        | some L => keepK L 0 s fun s => evL C call yc rd f lim n b s H κ)
      cases headL C f b with
      | none => exact ihb s H κ
      | some L => rfl
    | exit id => rfl
    | ret => rfl
  | cond c a b iha ihb =>
    intro s H κ
    show condK _ _ _ = condK _ _ _
    rw [iha,ihb]
  | block id b ih =>
    intro s H κ
    show evL C call yc rd f lim n b s H _ = _
    rw [ih]
    rfl
  | _ => intro s H κ; rfl
/-- Slots of which but these are known to be looked at. -/
def spF : Nat → Nat → List (Nat × AV) → Slots
  | _,0,_ => []
  | i,n + 1,[] => .any :: spF (i + 1) n []
  | i,n + 1,(j,v) :: r => bif Nat.beq i j then v :: spF (i + 1) n r else .any :: spF (i + 1) n ((j,v) :: r)
def sp (n : Nat) (l : List (Nat × AV)) : Slots := spF 0 n l
/-- A part of a function's code: 0 the first part, 1 the other. -/
def Code.at : List Nat → Code → Code
  | [],c => c
  | 0 :: r,.seq a _ => Code.at r a
  | _ :: r,.seq _ b => Code.at r b
  | 0 :: r,.cond _ a _ => Code.at r a
  | _ :: r,.cond _ _ b => Code.at r b
  | _ :: r,.block _ b => Code.at r b
  | _ :: r,.loop b => Code.at r b
  | _,c => c
def Code.of (P : Program) (f : FuncId) : Code := ((P.funcs[f]?).bind (·.body)).getD .skip
end Go.Ev

-- part EvN
/- EvN: operations in which what the program says of their types is looked up already. -/
set_option linter.unusedVariables false
set_option linter.unusedSimpArgs false
namespace Go.Ev
open Go.RowKit
def ld1 (ρ : Addr → Option Value) (H : Heap) (x : AV) : Option AV := match x with
  | .ptr l v o => (H.cellsAt l v).bind fun c => c[o]?
  | .xp a => (ρ a).map ofCell
  | _ => none
def ldL (ρ : Addr → Option Value) (H : Heap) (n : Nat) : AV → Option (List AV)
  | .ptr l v o => (H.cellsAt l v).bind fun c => bif Nat.ble (o + n) c.length then some ((c.drop o).take n) else none
  | .xp a => ((List.range n).mapM fun i => ρ (a.add i)).map fun vs => vs.map ofCell
  | _ => none
def ldN (ρ : Addr → Option Value) (H : Heap) (n : Nat) (x : AV) : Option AV := (ldL ρ H n x).map .agg
def stA (lim : Nat) (H : Heap) (n : Nat) (a x : AV) : Option (AV × Eff) := (bif x.cells.length == n then storeN lim H x.cells a else none).map skips
def fld1 (off : Nat) (x : AV) : Option AV := match x with
  | .agg cs => cs[off]?
  | _ => none
def fldN (off n : Nat) (x : AV) : Option AV := match x with
  | .agg cs => bif Nat.ble (off + n) cs.length then some (.agg ((cs.drop off).take n)) else none
  | _ => none
def elAt (n : Nat) (i : Int) (len : Nat) (base : AV) : Option AV :=
  bif decide (0 ≤ i) && decide (i < len) then addA (i.toNat * n) base else none
def ixS (n : Nat) (x ix : AV) : Option AV := (asInt ix).bind fun i => match x with
  | .sl l v o len _ _ => elAt n i len (.ptr l v o)
  | .xs a len _ => elAt n i len (.xp a)
  | _ => none
def ixR (n len : Nat) (x ix : AV) : Option AV := (asInt ix).bind fun i => elAt n i len x
def ixT (x ix : AV) : Option AV := (asInt ix).bind fun i => match x with
  | .str s => bif decide (0 ≤ i) then (s[i.toNat]?).map fun b => .int .u8 b.toNat else none
  | _ => none
def ixV1 (len : Nat) (x ix : AV) : Option AV := (asInt ix).bind fun i => match x with
  | .agg cs => bif decide (0 ≤ i) && decide (i < len) then cs[i.toNat * 1]? else none
  | _ => none
def slT (x : AV) (lo hi : Option AV) : Option AV := match x with
  | .str s => (boundsA s.size s.size lo hi none).map fun b => .str (s.extract b.1 b.2.1)
  | _ => none
def slS (n : Nat) (x : AV) (lo hi mx : Option AV) : Option AV := match x with
  | .nils => (boundsA 0 0 lo hi mx).map fun _ => .nils
  | .sl l v o len cap m => sliceSl n l v o len cap m lo hi mx
  | .xs a len cap => bif !Nat.ble len cap then none else (boundsA len cap lo hi mx).map fun b => .xs (if b.2.2 = b.1 then a else a.add (b.1 * n)) (b.2.1 - b.1) (b.2.2 - b.1)
  | _ => none
def slR (n len : Nat) (x : AV) (lo hi mx : Option AV) : Option AV := match x with
  | .ptr l v o => (boundsA len len lo hi mx).map fun b => .sl l v (bif b.2.2 == b.1 then o else o + b.1 * n) (b.2.1 - b.1) (b.2.2 - b.1) false
  | .xp a => (boundsA len len lo hi mx).map fun b => .xs (if b.2.2 = b.1 then a else a.add (b.1 * n)) (b.2.1 - b.1) (b.2.2 - b.1)
  | _ => none
/-- Parts are laid into cells: each one's place, how many cells it has. -/
def fillO : List AV → List (Nat × Nat × AV) → Option (List AV)
  | cs,[] => some cs
  | cs,(off,n,v) :: r => bif (v.cells.length == n) && Nat.ble (off + v.cells.length) cs.length && v.cells.all AV.solid then fillO (layA cs off v.cells) r else none
def bldA (z : List AV) (parts : List (Nat × Nat × AV)) : Option AV := (fillO z parts).map .agg
def bldS (H : Heap) (e n : Nat) (z : List AV) (len : Nat) (parts : List (Nat × Nat × AV)) : Option (AV × Eff) :=
  (fillO (repeatL z len) parts).map fun cs => (.sl H.sz 0 0 len len false,.new (newCells e false cs))
def mkS (H : Heap) (e n by_ : Nat) (z : List AV) (len cap : AV) : Option (AV × Eff) := match len,cap with
  | .int _ l,.int _ c => bif decide (0 ≤ l) && decide (l ≤ c) && decide (c * by_ ≤ 281474976710656) && decide (c ≤ 9223372036854775807) && !(n == 0) then
      some (.sl H.sz 0 0 l.toNat c.toNat false,.new (newCells e false (repeatL z c.toNat))) else none
  | _,_ => none
def frst (ρ : Addr → Option Value) (H : Heap) (sz n : Nat) : AV → Option (List AV)
  | .sl l v o _ _ _ => ldL ρ H (n * sz) (.ptr l v o)
  | .xs a _ _ => ldL ρ H (n * sz) (.xp a)
  | .nils | .sx _ => bif n == 0 then some [] else none
  | .str s => some (((s.extract 0 n).data.toList).map byteCell)
  | _ => none
def growN (by_ need : Nat) : Bool := decide (need * by_ ≤ 70368744177664) && decide (need ≤ 70368744177664) && true
def apSl (ρ : Addr → Option Value) (lim : Nat) (H : Heap) (e sz by_ n : Nat) (vs : List AV) (l v o len cap : Nat) (m : Bool) : Option (AV × Eff) :=
  bif decide (len + n ≤ cap) then (storeN lim H vs (.ptr l v (o + len * sz))).map fun f => (.sl l v o (len + n) cap m,f) else
  bif !growN by_ (len + n) then none else
  bif m then (match H.get l with
    | .cells v' e' fr _ c => bif Nat.ble lim l && (v' == v) && (o == 0) && Nat.beq e' e && Nat.beq fr.1 0 && Nat.beq fr.2 0 && Nat.ble len cap && Nat.beq c.length (cap * sz) then
        some (.sl l (v + 1) 0 (len + n) (len + n) true,.put l (.cells (v + 1) e fr true (c.take (len * sz) ++ vs))) else none
    | _ => none)
  else (frst ρ H sz len (.sl l v o len cap m)).map fun old => (.sl H.sz 0 0 (len + n) (len + n) true,.new (newCells e true (old ++ vs)))
def apA (ρ : Addr → Option Value) (lim : Nat) (H : Heap) (e sz by_ : Nat) (s x : AV) : Option (AV × Eff) := (lenA x).bind fun n => (frst ρ H sz n x).bind fun vs =>
      bif !(vs.all AV.solid && (vs.length == n * sz)) then none else match s with
      | .nils => bif n == 0 then some (.nils,.nothing) else bif growN by_ n then some (.sl H.sz 0 0 n n true,.new (newCells e true vs)) else none
      | .sl l v o len cap m => apSl ρ lim H e sz by_ n vs l v o len cap m
      | .xs a len cap => bif decide (len + n ≤ cap) || !growN by_ (len + n) then none else
          (frst ρ H sz len (.xs a len cap)).map fun old => (.sl H.sz 0 0 (len + n) (len + n) true,.new (newCells e true (old ++ vs)))
      | _ => none
def lenT (x : AV) : Option AV := match x with
  | .str s => some (.int .i64 s.size)
  | _ => none
def lenS (x : AV) : Option AV := match x with
  | .nils => some (.int .i64 0)
  | .sl _ _ _ n _ _ => some (.int .i64 n)
  | .xs _ n _ => some (.int .i64 n)
  | .sx n => some (.int .i64 n)
  | _ => none
def capS (x : AV) : Option AV := match x with
  | .nils => some (.int .i64 0)
  | .sl _ _ _ _ c false => some (.int .i64 c)
  | .xs _ _ c => some (.int .i64 c)
  | _ => none
def cvI (k : IntKind) (x : AV) : Option AV := match x with
  | .int _ n => some (.int k (wrapK k n))
  | _ => none
def cvT (x : AV) : Option AV := match x with
  | .str s => some (.str s)
  | _ => none
def b2s (ρ : Addr → Option Value) (H : Heap) (x : AV) : Option AV := match x with
  | .nils => some (.str ByteArray.empty)
  | .sl .. | .xs .. => (lenA x).bind fun n => (frst ρ H 1 n x).bind fun cs => (bytesOfA cs).map fun l => .str ⟨l.toArray⟩
  | _ => none
end Go.Ev

-- part EvP
/- EvP: laws by which a lifted function is walked through by rewriting. -/
set_option linter.unusedVariables false
set_option linter.unusedSimpArgs false
namespace Go.Ev
open Go.RowKit
-- continuations
theorem purK_some (v : AV) (K : AV → Res) : purK (some v) K = K v := by simp [purK_eq,bindR]
theorem purK_none (K : AV → Res) : purK none K = .stop := by simp [purK_eq,bindR]
theorem resK_some (v : AV) (H : Heap) (K : AV → Heap → Res) : resK (.done (v,H)) K = K v H := (rfl)
theorem effK_new (H : Heap) (v : AV) (o : AObj) (K : AV → Heap → Res) : effK H (some (v,.new o)) K = K v (H.new o) := by simp [effK_eq,Eff.on,bindR]
theorem effK_put (H : Heap) (v : AV) (l : Nat) (o : AObj) (K : AV → Heap → Res) : effK H (some (v,.put l o)) K = K v (H.put l o) := by simp [effK_eq,Eff.on,bindR]
theorem effK_nothing (H : Heap) (v : AV) (K : AV → Heap → Res) : effK H (some (v,.nothing)) K = K v H := by simp [effK_eq,Eff.on,bindR]
theorem effK_on (H : Heap) (v : AV) (e : Eff) (K : AV → Heap → Res) : effK H (some (v,e)) K = K v (e.on H) := by simp [effK_eq,bindR]
theorem on_new (H : Heap) (o : AObj) : (Eff.new o).on H = H.new o := (rfl)
theorem on_put (H : Heap) (l : Nat) (o : AObj) : (Eff.put l o).on H = H.put l o := (rfl)
theorem on_nothing (H : Heap) : Eff.nothing.on H = H := (rfl)
theorem mkK_new (H : Heap) (v : AV) (ob : AObj) (K : AV → Heap → Res) (h : ob.under H.sz = true) : mkK H (some (v,.new ob)) true K = K v (H.new ob) := by simp [mkK_eq,h,bindR]
theorem boolK_some (b : Bool) (K : Bool → Res) : boolK (some b) K = K b := (rfl)
theorem condK_bool (b : Bool) (x y : Res) : condK (.bool b) x y = if b = true then x else y := by cases b <;> rfl
theorem condK_true (x y : Res) : condK (.bool true) x y = x := (rfl)
theorem condK_false (x y : Res) : condK (.bool false) x y = y := (rfl)
theorem wantV_bool (b w : Bool) : wantV (.bool b) w = some (b == w) := (rfl)
theorem wantV_skip (w : Bool) : wantV (.tup []) w = some false := (rfl)
theorem wantV_tt : wantV (.bool true) true = some true := (rfl)
theorem wantV_tf : wantV (.bool true) false = some false := (rfl)
theorem wantV_ft : wantV (.bool false) true = some false := (rfl)
theorem wantV_ff : wantV (.bool false) false = some true := (rfl)
theorem gPur_true (o : Option AV) : gPur (some true) o = o := (rfl)
theorem gPur_false (o : Option AV) : gPur (some false) o = some (.tup []) := (rfl)
theorem gEff_true (o : Option (AV × Eff)) : gEff (some true) o = o := (rfl)
theorem gEff_false (o : Option (AV × Eff)) : gEff (some false) o = some (.tup [],.nothing) := (rfl)
theorem gRes_true (H : Heap) (o : Res) : gRes (some true) H o = o := (rfl)
theorem gRes_false (H : Heap) (o : Res) : gRes (some false) H o = .done (.tup [],H) := (rfl)
theorem pickA_true (x y : AV) : pickA (.bool true) x y = some x := (rfl)
theorem pickA_false (x y : AV) : pickA (.bool false) x y = some y := (rfl)
theorem pickA_bool (b : Bool) (x y : AV) : pickA (.bool b) x y = some (if b = true then x else y) := by cases b <;> rfl
theorem pickA_or (b c : Bool) : pickA (.bool b) (.bool true) (.bool c) = some (.bool (b || c)) := by cases b <;> rfl
theorem pickA_and (b c : Bool) : pickA (.bool b) (.bool c) (.bool false) = some (.bool (b && c)) := by cases b <;> rfl
theorem extA_0 (a : AV) (r : List AV) : extA 0 (.tup (a :: r)) = some a := (rfl)
theorem extA_1 (a b : AV) (r : List AV) : extA 1 (.tup (a :: b :: r)) = some b := (rfl)
theorem extA_2 (a b c : AV) (r : List AV) : extA 2 (.tup (a :: b :: c :: r)) = some c := (rfl)
theorem retK_one (v : AV) (H : Heap) : retK [v] H = .done (v,H) := (rfl)
theorem retK_none (H : Heap) : retK [] H = .done (.tup [],H) := (rfl)
theorem retK_two (u v : AV) (r : List AV) (H : Heap) : retK (u :: v :: r) H = .done (.tup (u :: v :: r),H) := (rfl)
theorem retC_one (C : Ctx) (t : TypeId) (x v : AV) (H : Heap) (h : loadA C H t x = some v) : retC C [some t] [x] H = .done (v,H) := by simp [retC,retAll,retOne,h,retK,bindR]
theorem valK_fn (call : CallF) (yc : YieldF) (lim : Nat) (g : FuncId) (a c args : List AV) (H : Heap) (K : AV → Heap → Res) : valK call yc lim (.fn (.func g) a c) args H K = resK (call lim g (a ++ args ++ c) H) K := (rfl)
theorem valR_fn (call : CallF) (yc : YieldF) (lim : Nat) (g : FuncId) (a c args : List AV) (H : Heap) : valR call yc lim (.fn (.func g) a c) args H = call lim g (a ++ args ++ c) H := (rfl)
-- numbers
section
variable (P : Program) (H : Heap) (t : TypeId) (k : IntKind) (a b : Int)
theorem bin_add : binA P H .add t (.int k a) (.int k b) = some (.int k (wrapK k (a + b))) := by simp [binA,intA]
theorem bin_sub : binA P H .sub t (.int k a) (.int k b) = some (.int k (wrapK k (a - b))) := by simp [binA,intA]
theorem bin_mul : binA P H .mul t (.int k a) (.int k b) = some (.int k (wrapK k (a * b))) := by simp [binA,intA]
theorem bin_quo (h : b ≠ 0) : binA P H .quo t (.int k a) (.int k b) = some (.int k (wrapK k (a.tdiv b))) := by
  have : (b == 0) = false := by simp [h]
  simp [binA,intA,this]
theorem bin_rem (h : b ≠ 0) : binA P H .rem t (.int k a) (.int k b) = some (.int k (a.tmod b)) := by
  have : (b == 0) = false := by simp [h]
  simp [binA,intA,this]
theorem bin_and : binA P H .and t (.int k a) (.int k b) = some (.int k (Go.bits .and k a b)) := by simp [binA,intA]
theorem bin_or : binA P H .or t (.int k a) (.int k b) = some (.int k (Go.bits .or k a b)) := by simp [binA,intA]
theorem bin_xor : binA P H .xor t (.int k a) (.int k b) = some (.int k (Go.bits .xor k a b)) := by simp [binA,intA]
theorem bin_andNot : binA P H .andNot t (.int k a) (.int k b) = some (.int k (Go.bits .andNot k a b)) := by simp [binA,intA]
theorem bin_eql : binA P H .eql t (.int k a) (.int k b) = some (.bool (decide (a = b))) := by simp only [binA,intA,decide_true,cond_true]; rfl
theorem bin_neq : binA P H .neq t (.int k a) (.int k b) = some (.bool (decide (a ≠ b))) := by
  simp only [binA,intA,decide_true,cond_true,bne]
  congr 2
  by_cases h : a = b <;> simp [h]
theorem bin_lss : binA P H .lss t (.int k a) (.int k b) = some (.bool (decide (a < b))) := by simp [binA,intA]
theorem bin_leq : binA P H .leq t (.int k a) (.int k b) = some (.bool (decide (a ≤ b))) := by simp [binA,intA]
theorem bin_gtr : binA P H .gtr t (.int k a) (.int k b) = some (.bool (decide (b < a))) := by simp [binA,intA]
theorem bin_geq : binA P H .geq t (.int k a) (.int k b) = some (.bool (decide (b ≤ a))) := by simp [binA,intA]
theorem bin_shl (k' : IntKind) (h : 0 ≤ b) : binA P H .shl t (.int k a) (.int k' b) = some (.int k (wrapK k (a * 2 ^ min b.toNat k.bits))) := by
  have : ¬ b < 0 := by omega
  simp [binA,shiftA,this]
theorem bin_shr (k' : IntKind) (h : 0 ≤ b) : binA P H .shr t (.int k a) (.int k' b) = some (.int k (a.fdiv (2 ^ min b.toNat k.bits))) := by
  have : ¬ b < 0 := by omega
  simp [binA,shiftA,this]
theorem toList_beq (x y : ByteArray) : (x.toList == y.toList) = decide (x = y) := by
  have e : ∀ x : ByteArray,x.toList = x.data.toList := fun x => ByteArray.toList_eq x
  rw [e,e]
  by_cases h : x = y
  · simp [h]
  · have : ¬ x.data = y.data := fun h' => h (ByteArray.ext h')
    simp [h,this]
theorem bin_seql (x y : ByteArray) : binA P H .eql t (.str x) (.str y) = some (.bool (decide (x = y))) := by simp only [binA,strA,toList_beq]
theorem bin_sneq (x y : ByteArray) : binA P H .neq t (.str x) (.str y) = some (.bool (decide (x ≠ y))) := by simp [binA,strA,toList_beq]
theorem bin_scat (x y : ByteArray) (h : x.size + y.size ≤ 9223372036854775807) : binA P H .add t (.str x) (.str y) = some (.str (x ++ y)) := by simp [binA,strA,h]
theorem un_not (c : Bool) : unA .not (.bool c) = some (.bool !c) := (rfl)
theorem un_not_t : unA .not (.bool true) = some (.bool false) := (rfl)
theorem un_not_f : unA .not (.bool false) = some (.bool true) := (rfl)
theorem un_neg : unA .neg (.int k a) = some (.int k (wrapK k (0 - a))) := (rfl)
end
theorem cvI_int (k j : IntKind) (n : Int) : cvI k (.int j n) = some (.int k (wrapK k n)) := (rfl)
theorem cvT_str (s : ByteArray) : cvT (.str s) = some (.str s) := (rfl)
theorem wrap_i64 (n : Int) (h : -9223372036854775808 ≤ n ∧ n < 9223372036854775808) : wrapK .i64 n = n := by
  simp only [wrapK]; omega
theorem wrap_u64 (n : Int) (h : 0 ≤ n ∧ n < 18446744073709551616) : wrapK .u64 n = n := by
  simp only [wrapK]; omega
theorem wrap_u32 (n : Int) (h : 0 ≤ n ∧ n < 4294967296) : wrapK .u32 n = n := by
  simp only [wrapK]; omega
theorem wrap_u8 (n : Int) (h : 0 ≤ n ∧ n < 256) : wrapK .u8 n = n := by
  simp only [wrapK]; omega
theorem wrap_i32 (n : Int) (h : -2147483648 ≤ n ∧ n < 2147483648) : wrapK .i32 n = n := by
  simp only [wrapK]; omega
theorem nilChk_ptr (l v o : Nat) : nilChkA (.ptr l v o) = some (.ptr l v o) := (rfl)
theorem nilChk_xp (a : Addr) : nilChkA (.xp a) = some (.xp a) := (rfl)
theorem addA_ptr (n l v o : Nat) : addA n (.ptr l v o) = some (.ptr l v (o + n)) := (rfl)
theorem lenT_str (s : ByteArray) : lenT (.str s) = some (.int .i64 s.size) := (rfl)
theorem ixT_str (s : ByteArray) (k : IntKind) (i : Int) (h0 : 0 ≤ i) (h1 : i.toNat < s.size) : ixT (.str s) (.int k i) = some (.int .u8 (s[i.toNat]'h1).toNat) := by
  simp [ixT,asInt,h0,h1]
-- places
/-- Nothing that was there has turned, but at S. -/
structure Fr (S : Nat → Prop) (H H' : Heap) : Prop where
  sz : H.sz ≤ H'.sz
  get : ∀ l,l < H.sz → ¬ S l → H'.get l = H.get l
def Nop : Nat → Prop := fun _ => False
theorem Fr.refl (S : Nat → Prop) (H : Heap) : Fr S H H := ⟨Nat.le_refl _,fun _ _ _ => rfl⟩
theorem Fr.trans {S : Nat → Prop} {H H1 H2 : Heap} (a : Fr S H H1) (b : Fr S H1 H2) : Fr S H H2 :=
  ⟨Nat.le_trans a.sz b.sz,fun l hl hs => by rw [b.get l (Nat.lt_of_lt_of_le hl a.sz) hs,a.get l hl hs]⟩
/-- What turned of what came later does not count. -/
theorem Fr.trans' {S S1 : Nat → Prop} {H H1 H2 : Heap} (a : Fr S H H1) (b : Fr S1 H1 H2) (h : ∀ l,l < H.sz → S1 l → S l) : Fr S H H2 :=
  ⟨Nat.le_trans a.sz b.sz,fun l hl hs => by rw [b.get l (Nat.lt_of_lt_of_le hl a.sz) (fun q => hs (h l hl q)),a.get l hl hs]⟩
theorem Fr.mono {S S1 : Nat → Prop} {H H1 : Heap} (b : Fr S1 H H1) (h : ∀ l,l < H.sz → S1 l → S l) : Fr S H H1 :=
  ⟨b.sz,fun l hl hs => b.get l hl fun q => hs (h l hl q)⟩
theorem Fr.new (S : Nat → Prop) (H : Heap) (o : AObj) : Fr S H (H.new o) :=
  ⟨by rw [Heap.sz_new]; omega,fun l hl _ => by rw [Heap.get_new,if_neg (by omega)]⟩
theorem Fr.put {S : Nat → Prop} (H : Heap) (l : Nat) (o : AObj) (h : l < H.sz → S l) : Fr S H (H.put l o) :=
  ⟨Nat.le_refl _,fun m hm hs => by rw [Heap.get_put,if_neg (fun e => hs (by subst e; exact h hm))]⟩
theorem Heap.get_put_same (H : Heap) (l : Nat) (o : AObj) : (H.put l o).get l = o := by rw [Heap.get_put,if_pos rfl]
theorem Heap.get_put_ne (H : Heap) (l m : Nat) (o : AObj) (h : m ≠ l) : (H.put l o).get m = H.get m := by rw [Heap.get_put,if_neg h]
theorem Heap.get_new_same (H : Heap) (o : AObj) : (H.new o).get H.sz = o := by rw [Heap.get_new,if_pos rfl]
theorem Heap.get_new_ne (H : Heap) (m : Nat) (o : AObj) (h : m ≠ H.sz) : (H.new o).get m = H.get m := by rw [Heap.get_new,if_neg h]
section
variable {ρ : Addr → Option Value} {H : Heap} {l v e : Nat} {fr : Nat × Nat} {g : Bool} {c : List AV}
theorem cellsAt_of (h : H.get l = .cells v e fr g c) : H.cellsAt l v = some c := by simp [Heap.cellsAt,h]
theorem ld1_of (o : Nat) (h : H.get l = .cells v e fr g c) : ld1 ρ H (.ptr l v o) = c[o]? := by simp [ld1,cellsAt_of h]
theorem ldN_of (n o : Nat) (h : H.get l = .cells v e fr g c) (hn : o + n ≤ c.length) : ldN ρ H n (.ptr l v o) = some (.agg ((c.drop o).take n)) := by
  have : Nat.ble (o + n) c.length = true := Nat.ble_eq_true_of_le hn
  simp [ldN,ldL,cellsAt_of h,this]
theorem storeN_of (vs : List AV) (o : Nat) (h : H.get l = .cells v e (0,0) g c) (hn : o + vs.length ≤ c.length) (hs : vs.all AV.solid = true) : storeN 0 H vs (.ptr l v o) = some (.put l (.cells v e (0,0) g (layA c o vs))) := by
  have : Nat.ble (o + vs.length) c.length = true := Nat.ble_eq_true_of_le hn
  simp only [storeN,h,this,hs,Nat.ble_eq,Nat.zero_le,beq_self_eq_true,Nat.beq_refl,Bool.true_or,Bool.and_self,cond_true]
  rfl
/-- A store of one cell. -/
theorem stA_one (o : Nat) (x : AV) (h : H.get l = .cells v e (0,0) g c) (hx : x.cells = [x]) (ho : o < c.length) (hs : x.solid = true) : stA 0 H 1 (.ptr l v o) x = some (.tup [],.put l (.cells v e (0,0) g (c.set o x))) := by
  have e1 : layA c o [x] = c.set o x := by
    unfold layA
    rw [List.set_eq_take_append_cons_drop,if_pos ho]
    simp
  simp only [stA,hx,List.length_singleton,beq_self_eq_true,cond_true,storeN_of [x] o h ho (by simp [hs]),e1,Option.map_some,skips]
theorem stA_agg (n o : Nat) (cs : List AV) (h : H.get l = .cells v e (0,0) g c) (hn : cs.length = n) (ho : o + n ≤ c.length) (hs : cs.all AV.solid = true) : stA 0 H n (.ptr l v o) (.agg cs) = some (.tup [],.put l (.cells v e (0,0) g (layA c o cs))) := by
  subst hn
  simp only [stA,AV.cells,beq_self_eq_true,cond_true,storeN_of cs o h ho hs,Option.map_some,skips]
end
theorem boxA_one (H : Heap) (e : TypeId) (x : AV) (hx : x.cells = [x]) (hs : x.solid = true) : boxA H e x = some (.ptr H.sz 0 0,.new (.cells 0 e (0,0) false [x])) := by simp [boxA,hx,hs,newCells]
theorem boxA_agg (H : Heap) (e : TypeId) (cs : List AV) (hs : cs.all AV.solid = true) : boxA H e (.agg cs) = some (.ptr H.sz 0 0,.new (.cells 0 e (0,0) false cs)) := by simp only [boxA,AV.cells,hs,newCells,cond_true]
theorem loopL_succ {σ : Type} (B : σ → Heap → (σ → Heap → Res) → Res) (n : Nat) (x : σ) (H : Heap) : loopL B (n + 1) x H = B x H fun x H => loopL B n x H := (rfl)
/-- A loop of which each round brings the measure down. -/
theorem loopL_wp {σ : Type} {B : σ → Heap → (σ → Heap → Res) → Res} {W : Res → Prop} (Inv : Nat → σ → Heap → Prop)
    (step : ∀ m x H f,Inv m x H → (∀ m' x' H',m' < m → Inv m' x' H' → W (f x' H')) → W (B x H f)) : ∀ (m n : Nat) (x : σ) (H : Heap),Inv m x H → m < n → W (loopL B n x H) := by
  intro m
  induction m using Nat.strongRecOn with
  | ind m ih =>
    intro n x H hI hn
    obtain ⟨n,rfl⟩ : ∃ q,n = q + 1 := ⟨n - 1,by omega⟩
    rw [loopL_succ]
    exact step m x H _ hI fun m' x' H' hm hI' => ih m' hm n x' H' hI' (by omega)
/-- It is one cell, and may lie in one. -/
def scal : AV → Bool
  | .any | .agg _ | .tup _ | .ext _ => false
  | _ => true
theorem scal_cells {x : AV} (h : scal x = true) : x.cells = [x] := by cases x <;> first | rfl | cases h
theorem scal_solid {x : AV} (h : scal x = true) : x.solid = true := by cases x <;> first | rfl | cases h
theorem lay_one (c : List AV) (o : Nat) (x : AV) (h : o < c.length) : layA c o [x] = c.set o x := by
  have : o < c.length := h
  unfold layA
  rw [List.set_eq_take_append_cons_drop,if_pos this]
  simp
theorem fillO_nil (z : List AV) : fillO z [] = some z := (rfl)
theorem fillO_one (z : List AV) (o : Nat) (x : AV) (r : List (Nat × Nat × AV)) (hx : scal x = true) (ho : o < z.length) : fillO z ((o,1,x) :: r) = fillO (z.set o x) r := by
  have h1 : Nat.ble (o + 1) z.length = true := Nat.ble_eq_true_of_le ho
  simp only [fillO,scal_cells hx,List.length_singleton,beq_self_eq_true,h1,Bool.true_and,List.all_cons,scal_solid hx,List.all_nil,cond_true,Bool.and_self,lay_one z o x ho]
theorem fillO_agg (z : List AV) (o n : Nat) (cs : List AV) (r : List (Nat × Nat × AV)) (hn : cs.length = n) (ho : o + cs.length ≤ z.length) (hs : cs.all AV.solid = true) : fillO z ((o,n,.agg cs) :: r) = fillO (layA z o cs) r := by
  have ho := Nat.ble_eq_true_of_le ho
  have hn : (cs.length == n) = true := by simp [hn]
  simp only [fillO,AV.cells,hn,ho,hs,Bool.and_self,cond_true]
theorem bldA_eq (z : List AV) (p : List (Nat × Nat × AV)) : bldA z p = (fillO z p).map .agg := (rfl)
theorem bldS_eq (H : Heap) (e n : Nat) (z : List AV) (len : Nat) (p : List (Nat × Nat × AV)) : bldS H e n z len p = (fillO (repeatL z len) p).map fun cs => (.sl H.sz 0 0 len len false,.new (.cells 0 e (0,0) false cs)) := (rfl)
theorem st1 {H : Heap} {l v e : Nat} {g : Bool} {c : List AV} (o : Nat) (x : AV) (h : H.get l = .cells v e (0,0) g c) (hx : scal x = true) (ho : o < c.length) : stA 0 H 1 (.ptr l v o) x = some (.tup [],.put l (.cells v e (0,0) g (c.set o x))) :=
  stA_one o x h (scal_cells hx) ho (scal_solid hx)
theorem box1 (H : Heap) (e : TypeId) (x : AV) (hx : scal x = true) : boxA H e x = some (.ptr H.sz 0 0,.new (.cells 0 e (0,0) false [x])) := boxA_one H e x (scal_cells hx) (scal_solid hx)
theorem wantV_t (b : Bool) : wantV (.bool b) true = some b := by cases b <;> rfl
theorem wantV_f (b : Bool) : wantV (.bool b) false = some (!b) := by cases b <;> rfl
-- a place's object
def ldC (v o : Nat) : AObj → Option AV
  | .cells v' _ _ _ c => bif v' == v then c[o]? else none
  | _ => none
def ldCN (n v o : Nat) : AObj → Option AV
  | .cells v' _ _ _ c => bif v' == v then bif Nat.ble (o + n) c.length then some (.agg ((c.drop o).take n)) else none else none
  | _ => none
def stC (l v o : Nat) (vs : List AV) : AObj → Option (AV × Eff)
  | .cells v' e fr g c => bif (v' == v) && Nat.ble (o + vs.length) c.length && vs.all AV.solid && Nat.beq fr.1 0 && (Nat.beq fr.2 0 || Nat.ble fr.2 o) then some (.tup [],.put l (.cells v' e fr g (layA c o vs))) else none
  | _ => none
theorem ld1_ptr (ρ : Addr → Option Value) (H : Heap) (l v o : Nat) : ld1 ρ H (.ptr l v o) = ldC v o (H.get l) := by
  simp only [ld1,Heap.cellsAt]
  cases H.get l <;> try rfl
  rename_i v' e fr g c
  simp only [ldC]
  cases v' == v <;> rfl
theorem ldN_ptr (ρ : Addr → Option Value) (H : Heap) (n l v o : Nat) : ldN ρ H n (.ptr l v o) = ldCN n v o (H.get l) := by
  simp only [ldN,ldL,Heap.cellsAt]
  cases H.get l <;> try rfl
  rename_i v' e fr g c
  simp only [ldCN]
  cases v' == v with
  | false => rfl
  | true =>
    simp only [cond_true,Option.bind_some]
    cases Nat.ble (o + n) c.length <;> rfl
theorem stA_one_ptr (H : Heap) (l v o : Nat) (x : AV) (hx : scal x = true) : stA 0 H 1 (.ptr l v o) x = stC l v o [x] (H.get l) := by
  simp only [stA,scal_cells hx,List.length_singleton,beq_self_eq_true,cond_true,storeN,Nat.ble_eq_true_of_le (Nat.zero_le l)]
  cases H.get l <;> try rfl
  rename_i v' e fr g c
  simp only [stC,List.length_singleton]
  cases ((v' == v) && Nat.ble (o + 1) c.length && [x].all AV.solid && Nat.beq fr.1 0 && (Nat.beq fr.2 0 || Nat.ble fr.2 o)) <;> rfl
theorem stA_agg_ptr (H : Heap) (n l v o : Nat) (cs : List AV) (hn : cs.length = n) : stA 0 H n (.ptr l v o) (.agg cs) = stC l v o cs (H.get l) := by
  subst hn
  simp only [stA,AV.cells,beq_self_eq_true,cond_true,storeN,Nat.ble_eq_true_of_le (Nat.zero_le l)]
  cases H.get l <;> try rfl
  rename_i v' e fr g c
  simp only [stC]
  cases ((v' == v) && Nat.ble (o + cs.length) c.length && cs.all AV.solid && Nat.beq fr.1 0 && (Nat.beq fr.2 0 || Nat.ble fr.2 o)) <;> rfl
theorem ldC_cells (v o e : Nat) (fr : Nat × Nat) (g : Bool) (c : List AV) : ldC v o (.cells v e fr g c) = c[o]? := by simp [ldC]
theorem ldCN_cells (n v o e : Nat) (fr : Nat × Nat) (g : Bool) (c : List AV) (h : o + n ≤ c.length) : ldCN n v o (.cells v e fr g c) = some (.agg ((c.drop o).take n)) := by
  have h := Nat.ble_eq_true_of_le h
  simp only [ldCN,beq_self_eq_true,cond_true,h]
theorem stC_one (l v o e : Nat) (g : Bool) (c : List AV) (x : AV) (hx : scal x = true) (h : o < c.length) : stC l v o [x] (.cells v e (0,0) g c) = some (.tup [],.put l (.cells v e (0,0) g (c.set o x))) := by
  have h1 : Nat.ble (o + 1) c.length = true := Nat.ble_eq_true_of_le h
  simp only [stC,beq_self_eq_true,List.length_singleton,h1,List.all_cons,scal_solid hx,List.all_nil,Bool.true_or,Bool.and_self,Nat.beq_refl,cond_true,lay_one c o x h]
theorem stC_many (l v o e : Nat) (g : Bool) (c cs : List AV) (hs : cs.all AV.solid = true) (h : o + cs.length ≤ c.length) : stC l v o cs (.cells v e (0,0) g c) = some (.tup [],.put l (.cells v e (0,0) g (layA c o cs))) := by
  have h := Nat.ble_eq_true_of_le h
  simp only [stC,beq_self_eq_true,h,hs,Bool.true_or,Bool.and_self,Nat.beq_refl,cond_true]
theorem lay_all (c cs : List AV) (h : c.length = cs.length) : layA c 0 cs = cs := by
  simp [layA,h]
theorem newCells_eq (e : TypeId) (g : Bool) (cs : List AV) : newCells e g cs = .cells 0 e (0,0) g cs := (rfl)
theorem szn (H : Heap) (o : AObj) : (H.new o).sz = H.sz + 1 := (rfl)
theorem szp (H : Heap) (l : Nat) (o : AObj) : (H.put l o).sz = H.sz := (rfl)
theorem get_new_at (H : Heap) (m : Nat) (o : AObj) (h : m = H.sz) : (H.new o).get m = o := by rw [Heap.get_new,if_pos h]
theorem get_put_at (H : Heap) (l m : Nat) (o : AObj) (h : m = l) : (H.put l o).get m = o := by rw [Heap.get_put,if_pos h]
theorem retC_eq (C : Ctx) (ts : List (Option TypeId)) (vs : List AV) (H : Heap) : retC C ts vs H = bindR (retAll C H ts vs) fun vs => retK vs H := (rfl)
theorem retAll_nil (C : Ctx) (H : Heap) : retAll C H [] [] = some [] := (rfl)
theorem retAll_none (C : Ctx) (H : Heap) (ts : List (Option TypeId)) (v : AV) (vs : List AV) : retAll C H (none :: ts) (v :: vs) = (retAll C H ts vs).bind fun xs => some (v :: xs) := (rfl)
theorem retAll_some (C : Ctx) (H : Heap) (t : TypeId) (ts : List (Option TypeId)) (v : AV) (vs : List AV) : retAll C H (some t :: ts) (v :: vs) = (loadA C H t v).bind fun x => (retAll C H ts vs).bind fun xs => some (x :: xs) := (rfl)
theorem loopL_fun {σ : Type} (B : σ → Heap → (σ → Heap → Res) → Res) (n : Nat) (x : σ) (H : Heap) : loopL B (n + 1) x H = B x H fun x H => loopL B n x H := (rfl)
theorem scal_int (k : IntKind) (n : Int) : scal (.int k n) = true := (rfl)
theorem sol_int (k : IntKind) (n : Int) : AV.solid (.int k n) = true := (rfl)
theorem scal_bool (b : Bool) : scal (.bool b) = true := (rfl)
theorem sol_bool (b : Bool) : AV.solid (.bool b) = true := (rfl)
theorem scal_str (s : ByteArray) : scal (.str s) = true := (rfl)
theorem sol_str (s : ByteArray) : AV.solid (.str s) = true := (rfl)
theorem scal_nilp  : scal .nilp = true := (rfl)
theorem sol_nilp  : AV.solid .nilp = true := (rfl)
theorem scal_ptr (l v o : Nat) : scal (.ptr l v o) = true := (rfl)
theorem sol_ptr (l v o : Nat) : AV.solid (.ptr l v o) = true := (rfl)
theorem scal_nils  : scal .nils = true := (rfl)
theorem sol_nils  : AV.solid .nils = true := (rfl)
theorem scal_sl (l v o n c : Nat) (m : Bool) : scal (.sl l v o n c m) = true := (rfl)
theorem sol_sl (l v o n c : Nat) (m : Bool) : AV.solid (.sl l v o n c m) = true := (rfl)
theorem scal_sx (n : Nat) : scal (.sx n) = true := (rfl)
theorem sol_sx (n : Nat) : AV.solid (.sx n) = true := (rfl)
theorem scal_xp (a : Addr) : scal (.xp a) = true := (rfl)
theorem sol_xp (a : Addr) : AV.solid (.xp a) = true := (rfl)
theorem scal_xs (a : Addr) (n c : Nat) : scal (.xs a n c) = true := (rfl)
theorem sol_xs (a : Addr) (n c : Nat) : AV.solid (.xs a n c) = true := (rfl)
theorem scal_nilm  : scal .nilm = true := (rfl)
theorem sol_nilm  : AV.solid .nilm = true := (rfl)
theorem scal_mp (l : Nat) : scal (.mp l) = true := (rfl)
theorem sol_mp (l : Nat) : AV.solid (.mp l) = true := (rfl)
theorem scal_nilf  : scal .nilf = true := (rfl)
theorem sol_nilf  : AV.solid .nilf = true := (rfl)
theorem scal_fn (f : Fn) (a c : List AV) : scal (.fn f a c) = true := (rfl)
theorem sol_fn (f : Fn) (a c : List AV) : AV.solid (.fn f a c) = true := (rfl)
theorem scal_nili  : scal .nili = true := (rfl)
theorem sol_nili  : AV.solid .nili = true := (rfl)
theorem scal_ifc (t : TypeId) (v : AV) : scal (.ifc t v) = true := (rfl)
theorem sol_ifc (t : TypeId) (v : AV) : AV.solid (.ifc t v) = true := (rfl)
-- told again
theorem agn_some (u v : AV) : agn (some u) v = AV.eqv u v := (rfl)
theorem eqv_int (k : IntKind) (n : Int) : AV.eqv (.int k n) (.int k n) = true := by simp [AV.eqv]
theorem eqv_bool (b : Bool) : AV.eqv (.bool b) (.bool b) = true := by simp [AV.eqv]
theorem ba_beq (s t : ByteArray) : (s == t) = decide (s = t) := by
  have e : (s == t) = (s.data == t.data) := rfl
  rw [e]
  by_cases h : s = t
  · simp [h]
  · have : ¬ s.data = t.data := fun h' => h (ByteArray.ext h')
    simp [h,this]
theorem eqv_str (s : ByteArray) : AV.eqv (.str s) (.str s) = true := by simp [AV.eqv,ba_beq]
theorem eqv_nilp : AV.eqv .nilp .nilp = true := by simp [AV.eqv]
theorem eqv_ptr (l v o : Nat) : AV.eqv (.ptr l v o) (.ptr l v o) = true := by simp [AV.eqv]
theorem eqv_nils : AV.eqv .nils .nils = true := by simp [AV.eqv]
theorem eqv_sl (l v o n c : Nat) (m : Bool) : AV.eqv (.sl l v o n c m) (.sl l v o n c m) = true := by simp [AV.eqv]
theorem eqv_sx (n : Nat) : AV.eqv (.sx n) (.sx n) = true := by simp [AV.eqv]
theorem eqv_xp (a : Addr) : AV.eqv (.xp a) (.xp a) = true := by simp [AV.eqv]
theorem eqv_xs (a : Addr) (n c : Nat) : AV.eqv (.xs a n c) (.xs a n c) = true := by simp [AV.eqv]
theorem eqv_nilm : AV.eqv .nilm .nilm = true := by simp [AV.eqv]
theorem eqv_mp (l : Nat) : AV.eqv (.mp l) (.mp l) = true := by simp [AV.eqv]
theorem eqv_nilf : AV.eqv .nilf .nilf = true := by simp [AV.eqv]
theorem eqv_extI (t : TypeId) (p : Option Addr) : AV.eqv (.ext (.iface t (.pointer p))) (.ext (.iface t (.pointer p))) = true := by simp [AV.eqv,eqX]
theorem eqv_nili : AV.eqv .nili .nili = true := by simp [AV.eqv]
theorem eqv_tup0 : AV.eqv (.tup []) (.tup []) = true := by simp [AV.eqv,AV.eqvs]
theorem eqv_agg (a b : List AV) : AV.eqv (.agg a) (.agg b) = AV.eqvs a b := by simp [AV.eqv]
theorem eqv_tup (a b : List AV) : AV.eqv (.tup a) (.tup b) = AV.eqvs a b := by simp [AV.eqv]
theorem eqvs_nil : AV.eqvs [] [] = true := by simp [AV.eqvs]
theorem eqvs_cons (x y : AV) (r q : List AV) : AV.eqvs (x :: r) (y :: q) = (AV.eqv x y && AV.eqvs r q) := by simp [AV.eqvs]
/-- A value that is the very same as itself. -/
theorem eqv_scal {x : AV} (h : scal x = true) (hf : ∀ f a c,x ≠ .fn f a c) (hi : ∀ t v,x ≠ .ifc t v) (hy : ∀ l,x ≠ .yld l) : AV.eqv x x = true := by
  cases x <;> first | (simp [AV.eqv,ba_beq]; done) | (exact absurd rfl (hf _ _ _)) | (exact absurd rfl (hi _ _)) | (exact absurd rfl (hy _)) | cases h
-- numbers that are no less than 0
theorem wrap_nat (a : Nat) (h : a < 9223372036854775808) : wrapK .i64 (a : Int) = (a : Int) := wrap_i64 _ (by omega)
theorem wrap_addN (a b : Nat) (h : a + b < 9223372036854775808) : wrapK .i64 ((a : Int) + (b : Int)) = ((a + b : Nat) : Int) := by rw [wrap_i64 _ (by omega)]; omega
theorem wrap_subN (a b : Nat) (h : b ≤ a) (h2 : a < 9223372036854775808) : wrapK .i64 ((a : Int) - (b : Int)) = ((a - b : Nat) : Int) := by rw [wrap_i64 _ (by omega)]; omega
theorem wrap_mulN (a b : Nat) (h : a * b < 9223372036854775808) : wrapK .i64 ((a : Int) * (b : Int)) = ((a * b : Nat) : Int) := by rw [← Int.natCast_mul,wrap_nat _ h]
theorem wrap_succN (a : Nat) (h : a + 1 < 9223372036854775808) : wrapK .i64 ((a : Int) + 1) = ((a + 1 : Nat) : Int) := wrap_addN a 1 h
theorem wrap_predN (a : Nat) (h : 1 ≤ a) (h2 : a < 9223372036854775808) : wrapK .i64 ((a : Int) - 1) = ((a - 1 : Nat) : Int) := wrap_subN a 1 h h2
-- what comes behind is not looked at before its turn
@[congr] theorem purK_congr {o o' : Option AV} (K : AV → Res) (h : o = o') : purK o K = purK o' K := by rw [h]
@[congr] theorem resK_congr {o o' : Res} (K : AV → Heap → Res) (h : o = o') : resK o K = resK o' K := by rw [h]
@[congr] theorem effK_congr (H : Heap) {o o' : Option (AV × Eff)} (K : AV → Heap → Res) (h : o = o') : effK H o K = effK H o' K := by rw [h]
@[congr] theorem mkK_congr (H : Heap) {o o' : Option (AV × Eff)} (b : Bool) (K : AV → Heap → Res) (h : o = o') : mkK H o b K = mkK H o' b K := by rw [h]
@[congr] theorem boolK_congr {o o' : Option Bool} (K : Bool → Res) (h : o = o') : boolK o K = boolK o' K := by rw [h]
@[congr] theorem condK_congr {x x' : AV} (a b : Res) (h : x = x') : condK x a b = condK x' a b := by rw [h]
@[congr] theorem gPur_congr {w w' : Option Bool} (o : Option AV) (h : w = w') : gPur w o = gPur w' o := by rw [h]
@[congr] theorem gEff_congr {w w' : Option Bool} (o : Option (AV × Eff)) (h : w = w') : gEff w o = gEff w' o := by rw [h]
@[congr] theorem gRes_congr {w w' : Option Bool} (H : Heap) (o : Res) (h : w = w') : gRes w H o = gRes w' H o := by rw [h]
@[congr] theorem bindR_congr {α : Type} {o o' : Option α} (K : α → Res) (h : o = o') : bindR o K = bindR o' K := by rw [h]
@[congr] theorem nextK_congr (lim : Nat) (H : Heap) {x x' : AV} (b : Bool) (K : AV → Heap → Res) (h : x = x') : nextK lim H x b K = nextK lim H x' b K := by rw [h]
@[congr] theorem valK_congr (call : CallF) (yc : YieldF) (lim : Nat) {f f' : AV} (args : List AV) (H : Heap) (K : AV → Heap → Res) (h : f = f') : valK call yc lim f args H K = valK call yc lim f' args H K := by rw [h]
theorem cnd_true {α : Type} (a b : α) : cond true a b = a := (rfl)
theorem cnd_false {α : Type} (a b : α) : cond false a b = b := (rfl)
theorem cond_congr1 {α : Type} {c c' : Bool} (a b : α) (h : c = c') : cond c a b = cond c' a b := by rw [h]
end Go.Ev

-- part EvSl
/- EvSl: slices: what they read as; looking, cutting, growing. -/
set_option linter.unusedVariables false
set_option linter.unusedSimpArgs false
namespace Go.Ev
open Go.RowKit
/-- A slice of elements of sz cells each. -/
def Els (ρ : Addr → Option Value) (H : Heap) (sz : Nat) (x : AV) (els : List (List AV)) : Prop := match x with
  | .nils => els = []
  | .sx n => n = 0 ∧ els = []
  | .sl l v o n c m => n = els.length ∧ n ≤ c ∧ l < H.sz ∧ ∃ e fr g cs,H.get l = .cells v e fr g cs ∧ o + n * sz ≤ cs.length ∧ ∀ (i : Nat) (h : i < els.length),(cs.drop (o + i * sz)).take sz = els[i]
  | .xs a n c => n = els.length ∧ n ≤ c ∧ ∀ (i : Nat) (h : i < els.length),els[i].length = sz ∧ ∀ off,off < sz → (ρ (a.add (i * sz + off))).map ofCell = els[i][off]?
  | _ => False
/-- An element's place, off cells further on. -/
def elp (sz : Nat) (x : AV) (i off : Nat) : AV := match x with
  | .sl l v o _ _ _ => .ptr l v (o + i * sz + off)
  | .xs a _ _ => .xp ((a.add (i * sz)).add off)
  | _ => .nilp
/-- The own place in which it lies. -/
def AV.lies (x : AV) (l : Nat) : Prop := match x with
  | .sl l' _ _ _ _ _ => l' = l
  | _ => False
section
variable {ρ : Addr → Option Value} {H H' : Heap} {sz : Nat} {x : AV} {els : List (List AV)}
theorem Els.nils : Els ρ H sz .nils [] := (rfl)
theorem Els.lenS (h : Els ρ H sz x els) : lenS x = some (.int .i64 els.length) := by
  cases x <;> simp_all [Els,Go.Ev.lenS]
theorem Els.lenA (h : Els ρ H sz x els) : lenA x = some els.length := by
  cases x <;> simp_all [Els,Go.Ev.lenA]
theorem Els.lies_lt (h : Els ρ H sz x els) (l : Nat) (hl : x.lies l) : l < H.sz := by
  cases x <;> simp_all [Els,AV.lies]
theorem Els.frame (h : Els ρ H sz x els) (S : Nat → Prop) (f : Fr S H H') (hs : ∀ l,x.lies l → ¬ S l) : Els ρ H' sz x els := by
  cases x with
  | sl l v o n c m =>
    obtain ⟨h1,h2,h3,e,fr,g,cs,h4,h5⟩ := h
    exact ⟨h1,h2,Nat.lt_of_lt_of_le h3 f.sz,e,fr,g,cs,by rw [f.get l h3 (hs l rfl),h4],h5⟩
  | _ => exact h
theorem Els.frame0 (h : Els ρ H sz x els) (f : Fr Nop H H') : Els ρ H' sz x els := h.frame Nop f fun _ _ q => q
theorem Els.new (h : Els ρ H sz x els) (o : AObj) : Els ρ (H.new o) sz x els := h.frame0 (Fr.new Nop H o)
theorem Els.ix (h : Els ρ H sz x els) (k : IntKind) (i : Int) (h0 : 0 ≤ i) (h1 : i < els.length) : ixS sz x (.int k i) = some (elp sz x i.toNat 0) := by
  have h2 : els ≠ [] := by intro e; subst e; simp at h1; omega
  cases x with
  | sl l v o n c m =>
    obtain ⟨rfl,_⟩ := h
    simp [ixS,asInt,elAt,h0,h1,addA,elp]
  | xs a n c =>
    obtain ⟨rfl,_⟩ := h
    simp [ixS,asInt,elAt,h0,h1,addA,elp,Addr.add]
  | _ => simp_all [Els]
theorem elp_add (h : Els ρ H sz x els) (i off n : Nat) (hi : i < els.length) : addA n (elp sz x i off) = some (elp sz x i (off + n)) := by
  cases x with
  | sl l v o n c m => simp [elp,addA,Nat.add_assoc]
  | xs a n c => simp [elp,addA,Addr.add_add,Nat.add_assoc]
  | nils => simp only [Els] at h; subst h; simp at hi
  | sx n => obtain ⟨_,rfl⟩ := h; simp at hi
  | _ => exact h.elim
theorem take_getElem? {α : Type} (cs : List α) (a n off : Nat) (h : off < n) : cs[a + off]? = ((cs.drop a).take n)[off]? := by
  rw [List.getElem?_take_of_lt h,List.getElem?_drop]
theorem Els.ld1 (h : Els ρ H sz x els) (i off : Nat) (hi : i < els.length) (ho : off < sz) : Go.Ev.ld1 ρ H (elp sz x i off) = els[i][off]? := by
  cases x with
  | sl l v o n c m =>
    obtain ⟨h1,h2,h3,e,fr,g,cs,h4,h5,h6⟩ := h
    rw [elp,ld1_of _ h4,take_getElem? _ _ sz _ ho,h6 i hi]
  | xs a n c =>
    obtain ⟨h1,h2,h3⟩ := h
    rw [elp]
    show (ρ ((a.add (i * sz)).add off)).map ofCell = _
    rw [Addr.add_add,(h3 i hi).2 off ho]
  | nils => simp only [Els] at h; subst h; simp at hi
  | sx n => obtain ⟨_,rfl⟩ := h; simp at hi
  | _ => exact h.elim
theorem mapM_read {ρ : Addr → Option Value} {a : Addr} {es : List AV} : ∀ (n : Nat),(∀ off,off < n → (ρ (a.add off)).map ofCell = es[off]?) → n ≤ es.length → ((List.range n).mapM fun i => ρ (a.add i)).map (fun vs => vs.map ofCell) = some (es.take n) := by
  intro n
  induction n with
  | zero => intro _ _; simp
  | succ n ih =>
    intro h hl
    have hn := h n (by omega)
    rw [List.getElem?_eq_getElem (by omega),Option.map_eq_some_iff] at hn
    obtain ⟨v,hv,e⟩ := hn
    have := ih (fun off ho => h off (by omega)) (by omega)
    rw [Option.map_eq_some_iff] at this
    obtain ⟨vs,hvs,e2⟩ := this
    rw [List.range_succ,List.mapM_append,hvs]
    have hn' : n < es.length := by omega
    have e3 : List.map ofCell vs = es.take n := e2
    simp only [List.mapM_cons,List.mapM_nil,hv,Option.pure_def,Option.bind_eq_bind,Option.bind_some,Option.map_some,List.map_append,List.map_cons,List.map_nil,e3,e,List.take_append_getElem hn']
theorem Els.len_el (h : Els ρ H sz x els) (i : Nat) (hi : i < els.length) : els[i].length = sz := by
  cases x with
  | sl l v o n c m =>
    obtain ⟨h1,h2,h3,e,fr,g,cs,h4,h5,h6⟩ := h
    rw [← h6 i hi,List.length_take,List.length_drop,Nat.min_eq_left]
    have : i * sz + sz ≤ n * sz := by rw [← Nat.succ_mul]; exact Nat.mul_le_mul_right _ (by omega)
    omega
  | xs a n c => exact (h.2.2 i hi).1
  | nils => simp only [Els] at h; subst h; simp at hi
  | sx n => obtain ⟨_,rfl⟩ := h; simp at hi
  | _ => exact h.elim
theorem Els.ldN (h : Els ρ H sz x els) (i : Nat) (hi : i < els.length) : Go.Ev.ldN ρ H sz (elp sz x i 0) = some (.agg els[i]) := by
  have hl := h.len_el i hi
  cases x with
  | sl l v o n c m =>
    obtain ⟨h1,h2,h3,e,fr,g,cs,h4,h5,h6⟩ := h
    have : i * sz + sz ≤ n * sz := by rw [← Nat.succ_mul]; exact Nat.mul_le_mul_right _ (by omega)
    rw [elp,ldN_of sz _ h4 (by omega),Nat.add_zero,h6 i hi]
  | xs a n c =>
    have := mapM_read (ρ := ρ) (a := a.add (i * sz)) (es := els[i]) sz (fun off ho => by rw [Addr.add_add]; exact (h.2.2 i hi).2 off ho) (by omega)
    simp only [elp,Go.Ev.ldN,ldL,Addr.add]
    simp only [Addr.add] at this
    simp only [if_pos,this]
    simp [← hl]
  | nils => simp only [Els] at h; subst h; simp at hi
  | sx n => obtain ⟨_,rfl⟩ := h; simp at hi
  | _ => exact h.elim
/-- Some cells of an element. -/
theorem Els.ldSub (h : Els ρ H sz x els) (i off n : Nat) (hi : i < els.length) (ho : off + n ≤ sz) : Go.Ev.ldN ρ H n (elp sz x i off) = some (.agg ((els[i].drop off).take n)) := by
  have hl := h.len_el i hi
  cases x with
  | sl l v o m c mm =>
    obtain ⟨h1,h2,h3,e,fr,g,cs,h4,h5,h6⟩ := h
    have : i * sz + sz ≤ m * sz := by rw [← Nat.succ_mul]; exact Nat.mul_le_mul_right _ (by omega)
    rw [elp,ldN_of n _ h4 (by omega),← h6 i hi,List.drop_take,List.take_take,Nat.min_eq_left (by omega),List.drop_drop]
  | xs a m c =>
    have := mapM_read (ρ := ρ) (a := (a.add (i * sz)).add off) (es := els[i].drop off) n (fun j hj => by
      rw [Addr.add_add,Addr.add_add,(h.2.2 i hi).2 (off + j) (by omega),List.getElem?_drop]) (by rw [List.length_drop]; omega)
    simp only [elp,Go.Ev.ldN,ldL,this,Option.map_some]
  | nils => simp only [Els] at h; subst h; simp at hi
  | sx n => obtain ⟨_,rfl⟩ := h; simp at hi
  | _ => exact h.elim
theorem flat_drop_take : ∀ (els : List (List AV)) (cs : List AV) (sz : Nat),(∀ r ∈ els,r.length = sz) → ∀ (i : Nat) (h : i < els.length),((els.flatten ++ cs).drop (i * sz)).take sz = els[i]
  | [],_,_,_,i,h => by simp at h
  | r :: els,cs,sz,hr,0,h => by
    have := hr r (by simp)
    simp [← this]
  | r :: els,cs,sz,hr,i + 1,h => by
    have h1 := hr r (by simp)
    have := flat_drop_take els cs sz (fun r hr' => hr r (by simp [hr'])) i (by simpa using h)
    rw [List.flatten_cons,List.append_assoc,Nat.succ_mul,Nat.add_comm,← List.drop_drop]
    rw [← h1] at this ⊢
    simpa using this
theorem els_length : ∀ (els : List (List AV)) (sz : Nat),(∀ r ∈ els,r.length = sz) → els.flatten.length = els.length * sz
  | [],_,_ => by simp
  | r :: els,sz,h => by
    rw [List.flatten_cons,List.length_append,els_length els sz (fun r hr => h r (by simp [hr])),h r (by simp),List.length_cons,Nat.succ_mul,Nat.add_comm]
theorem flat_of_parts : ∀ (els : List (List AV)) (cs : List AV) (sz o : Nat),o + els.length * sz ≤ cs.length → (∀ (i : Nat) (h : i < els.length),(cs.drop (o + i * sz)).take sz = els[i]) → (cs.drop o).take (els.length * sz) = els.flatten
  | [],_,_,_,_,_ => by simp
  | r :: els,cs,sz,o,hl,h => by
    have h0 := h 0 (by simp)
    simp only [Nat.zero_mul,Nat.add_zero,List.getElem_cons_zero] at h0
    have := flat_of_parts els cs sz (o + sz) (by rw [List.length_cons,Nat.succ_mul] at hl; omega) (fun i hi => by
      have := h (i + 1) (by simpa using hi)
      simp only [List.getElem_cons_succ] at this
      rw [← this]; congr 2; rw [Nat.succ_mul]; omega)
    rw [List.length_cons,Nat.succ_mul,Nat.add_comm,List.take_add,h0,List.drop_drop,this,List.flatten_cons]
/-- All its cells. -/
theorem Els.frst (h : Els ρ H sz x els) : Go.Ev.frst ρ H sz els.length x = some els.flatten := by
  cases x with
  | sl l v o n c m =>
    obtain ⟨h1,h2,h3,e,fr,g,cs,h4,h5,h6⟩ := h
    subst h1
    have : Nat.ble (o + els.length * sz) cs.length = true := Nat.ble_eq_true_of_le h5
    simp only [Go.Ev.frst,ldL,cellsAt_of h4,Option.bind_some,this,cond_true]
    rw [flat_of_parts els cs sz o h5 h6]
  | xs a n c =>
    obtain ⟨h1,h2,h3⟩ := h
    subst h1
    have hf := els_length els sz (fun r hr => by obtain ⟨i,hi,rfl⟩ := List.mem_iff_getElem.1 hr; exact (h3 i hi).1)
    simp only [Go.Ev.frst,ldL]
    rw [mapM_read (es := els.flatten) (els.length * sz) _ (by omega),List.take_of_length_le (by omega)]
    intro off ho
    by_cases hz : sz = 0
    · subst hz; simp at ho
    have hi : off / sz < els.length := Nat.div_lt_of_lt_mul (by rw [Nat.mul_comm]; exact ho)
    have := (h3 (off / sz) hi).2 (off % sz) (Nat.mod_lt _ (by omega))
    rw [Nat.mul_comm,Nat.div_add_mod] at this
    rw [this]
    have e := flat_drop_take els [] sz (fun r hr => by obtain ⟨i,hi,rfl⟩ := List.mem_iff_getElem.1 hr; exact (h3 i hi).1) (off / sz) hi
    rw [← e,← take_getElem? _ _ _ _ (Nat.mod_lt _ (by omega)),List.append_nil]
    congr 1
    rw [Nat.mul_comm,Nat.div_add_mod]
  | nils => simp only [Els] at h; subst h; rfl
  | sx n => obtain ⟨_,rfl⟩ := h; rfl
  | _ => exact h.elim
theorem mul_sub_add {a b : Nat} : a ≤ b → ∀ c,a * c + (b - a) * c = b * c := by
  intro h c
  rw [← Nat.add_mul]; congr 1; omega
/-- Cutting from lo to hi, both within its length. -/
theorem Els.cut (h : Els ρ H sz x els) {lo hi : Nat} (h1 : lo ≤ hi) (h2 : hi ≤ els.length) (l h' : Option AV) (hl : l = none ∧ lo = 0 ∨ ∃ k,l = some (.int k lo)) (hh : h' = none ∧ hi = els.length ∨ ∃ k,h' = some (.int k hi)) (hx : ∀ n,x ≠ .sx n) :
    ∃ y,slS sz x l h' none = some y ∧ Els ρ H sz y ((els.drop lo).take (hi - lo)) ∧ (∀ l,y.lies l → x.lies l) := by
  have hb : ∀ n c,n = els.length → n ≤ c → boundsA n c l h' none = some (lo,hi,c) := by
    intro n c hn hc
    have a1 : decide ((0 : Int) ≤ hi) = true := by simp
    have a2 : decide ((hi : Int) ≤ c) = true := by simp; omega
    have a3 : decide ((0 : Int) ≤ lo) = true := by simp
    have a4 : decide ((lo : Int) ≤ hi) = true := by simp; omega
    rcases hh with ⟨rfl,e⟩ | ⟨k,rfl⟩ <;> rcases hl with ⟨rfl,e'⟩ | ⟨k',rfl⟩
    · subst e'; simp only [boundsA,Option.bind_some,hn,e]
    · have a5 : decide ((lo : Int) ≤ n) = true := by rw [hn,← e]; exact a4
      simp only [boundsA,Option.bind_some,boundA,asInt,a3,a5,Bool.and_self,cond_true,Int.toNat_natCast]
      simp only [hn,e]
    · subst e'; simp only [boundsA,Option.bind_some,boundA,asInt,a1,a2,Bool.and_self,cond_true,Int.toNat_natCast]
    · simp only [boundsA,Option.bind_some,boundA,asInt,a1,a2,a3,a4,Bool.and_self,cond_true,Int.toNat_natCast]
  have hlen : ((els.drop lo).take (hi - lo)).length = hi - lo := by rw [List.length_take,List.length_drop]; omega
  have hel : ∀ (i : Nat) (h : i < ((els.drop lo).take (hi - lo)).length),((els.drop lo).take (hi - lo))[i] = els[lo + i]'(by omega) := fun i hi => by simp
  cases x with
  | sl a v o n c m =>
    obtain ⟨e1,e2,e3,e,fr,g,cs,e4,e5,e6⟩ := h
    have hble : Nat.ble n c = true := Nat.ble_eq_true_of_le e2
    have hm : lo * sz + (hi - lo) * sz = hi * sz := mul_sub_add h1 sz
    have hm2 : hi * sz ≤ n * sz := Nat.mul_le_mul_right _ (by omega)
    have parts : ∀ i (h : i < ((els.drop lo).take (hi - lo)).length),(cs.drop (o + lo * sz + i * sz)).take sz = ((els.drop lo).take (hi - lo))[i] := by
      intro i hi
      rw [hel i hi,← e6 (lo + i) (by omega),Nat.add_assoc,← Nat.add_mul]
    simp only [slS,sliceSl,hble,Bool.not_true,cond_false,hb n c e1 e2,Option.bind_some]
    cases m with
    | true =>
      cases hq : (lo == c) with
      | true =>
        have : lo = c := by simpa using hq
        refine ⟨_,rfl,?_,fun l q => by simp [AV.lies] at q⟩
        simp only [cond_true]
        exact ⟨by omega,List.eq_nil_of_length_eq_zero (by omega)⟩
      | false => exact ⟨_,rfl,⟨by omega,by omega,e3,e,fr,g,cs,e4,by omega,parts⟩,fun l q => q⟩
    | false =>
      cases hq : (c == lo) with
      | true =>
        have : c = lo := by simpa using hq
        refine ⟨_,rfl,⟨by omega,by omega,e3,e,fr,g,cs,e4,?_,?_⟩,fun l q => q⟩
        · simp only [cond_true]; rw [show hi - lo = 0 by omega]; omega
        · intro i hi; omega
      | false => exact ⟨_,rfl,⟨by omega,by omega,e3,e,fr,g,cs,e4,by simp only [cond_false]; omega,parts⟩,fun l q => q⟩
  | xs a n c =>
    obtain ⟨e1,e2,e3⟩ := h
    have hble : Nat.ble n c = true := Nat.ble_eq_true_of_le e2
    simp only [slS,hble,Bool.not_true,cond_false,hb n c e1 e2,Option.map_some]
    refine ⟨_,rfl,⟨by omega,by omega,?_⟩,fun l q => by simp [AV.lies] at q⟩
    intro i hi'
    rw [hel i hi']
    refine ⟨(e3 (lo + i) (by omega)).1,fun off ho => ?_⟩
    rw [← (e3 (lo + i) (by omega)).2 off ho]
    congr 2
    split
    · omega
    · rw [Addr.add_add]; congr 1; rw [Nat.add_mul]; omega
  | nils =>
    simp only [Els] at h; subst h
    simp only [List.length_nil] at h2 hb
    have := hb 0 0 rfl (Nat.le_refl _)
    exact ⟨.nils,by simp [slS,this],by simp [Els],fun l q => q⟩
  | sx n =>
    exact absurd rfl (hx n)
  | _ => exact h.elim
/-- A slice that grows by append alone, in a place of its own. -/
def Grow (H : Heap) (e sz : Nat) (x : AV) (els : List (List AV)) : Prop := match x with
  | .nils => els = []
  | .sl l v o n c m => o = 0 ∧ n = els.length ∧ c = n ∧ m = true ∧ l < H.sz ∧ (∀ r ∈ els,r.length = sz) ∧ ∃ g,H.get l = .cells v e (0,0) g els.flatten
  | _ => False
theorem Els.of_cells {l v e : Nat} {fr : Nat × Nat} {g m : Bool} (hl : l < H.sz) (h : H.get l = .cells v e fr g els.flatten) (hs : ∀ r ∈ els,r.length = sz) : Els ρ H sz (.sl l v 0 els.length els.length m) els :=
  ⟨rfl,Nat.le_refl _,hl,e,fr,g,_,h,by rw [els_length els sz hs]; omega,fun i hi => by
    have := flat_drop_take els [] sz hs i hi
    rwa [List.append_nil,← Nat.zero_add (i * sz)] at this⟩
theorem Grow.nils (H : Heap) (e sz : Nat) : Grow H e sz .nils [] := (rfl)
theorem Grow.toEls {e : Nat} (h : Grow H e sz x els) : Els ρ H sz x els := by
  cases x with
  | nils => exact h
  | sl l v o n c m =>
    obtain ⟨rfl,rfl,rfl,rfl,hl,hs,g,hg⟩ := h
    exact Els.of_cells hl hg hs
  | _ => exact h.elim
theorem Grow.frame {e : Nat} (h : Grow H e sz x els) (S : Nat → Prop) (f : Fr S H H') (hs : ∀ l,x.lies l → ¬ S l) : Grow H' e sz x els := by
  cases x with
  | nils => exact h
  | sl l v o n c m =>
    obtain ⟨h1,h2,h3,h4,hl,h5,g,hg⟩ := h
    exact ⟨h1,h2,h3,h4,Nat.lt_of_lt_of_le hl f.sz,h5,g,by rw [f.get l hl (hs l rfl),hg]⟩
  | _ => exact h.elim
theorem Grow.notSx {e : Nat} (h : Grow H e sz x els) (n : Nat) : x ≠ .sx n := by
  rintro rfl; exact h
theorem growN_of {by_ n : Nat} (h : n * by_ ≤ 70368744177664) (h2 : n ≤ 70368744177664) : growN by_ n = true := by simp [growN,h,h2]
theorem Grow.append {e by_ : Nat} {y : AV} {ys : List (List AV)} (h : Grow H e sz x els) (hy : Els ρ H sz y ys) (hs : ∀ r ∈ ys,r.all AV.solid = true) (hb : (els.length + ys.length) * by_ ≤ 70368744177664) (hb2 : els.length + ys.length ≤ 70368744177664) :
    ∃ x' f,apA ρ 0 H e sz by_ x y = some (x',f) ∧ Grow (f.on H) e sz x' (els ++ ys) ∧ Fr x.lies H (f.on H) ∧ ∀ l,x'.lies l → x.lies l ∨ H.sz ≤ l := by
  have hsol : ys.flatten.all AV.solid = true := by
    rw [List.all_eq_true]; intro a ha
    obtain ⟨r,hr,har⟩ := List.mem_flatten.1 ha
    exact List.all_eq_true.1 (hs r hr) a har
  have hlr : ∀ r ∈ ys,r.length = sz := fun r hr => by obtain ⟨i,hi,rfl⟩ := List.mem_iff_getElem.1 hr; exact hy.len_el i hi
  have hlen := els_length ys sz hlr
  simp only [apA,hy.lenA,Option.bind_some,hy.frst,hsol,hlen,beq_self_eq_true,Bool.and_self,Bool.not_true,cond_false]
  cases x with
  | nils =>
    have : els = [] := h
    subst this
    by_cases h0 : ys.length = 0
    · have : ys = [] := List.eq_nil_of_length_eq_zero h0
      subst this
      exact ⟨.nils,.nothing,rfl,Grow.nils ..,Fr.refl ..,fun l q => Or.inl q⟩
    · have h0' : (ys.length == 0) = false := by simpa using h0
      simp only [h0',cond_false,growN_of (by_ := by_) (n := ys.length) (by simpa using hb) (by simpa using hb2),cond_true]
      refine ⟨_,_,rfl,⟨rfl,by simp,rfl,rfl,by simp [Eff.on,Heap.sz_new],by simpa using hlr,true,?_⟩,Fr.new _ H _,fun l q => Or.inr (by have e : H.sz = l := q; omega)⟩
      simp [Eff.on,newCells,Heap.get_new]
  | sl l v o n c m =>
    obtain ⟨rfl,rfl,rfl,rfl,hl,h5,g,hg⟩ := h
    have hel := els_length els sz h5
    simp only [apSl]
    by_cases h0 : ys.length = 0
    · have : ys = [] := List.eq_nil_of_length_eq_zero h0
      subst this
      simp only [List.length_nil,Nat.add_zero,Nat.le_refl,decide_true,cond_true,List.flatten_nil]
      rw [storeN_of (vs := []) _ hg (by simp [hel]) rfl]
      refine ⟨_,_,rfl,⟨rfl,by simp,rfl,rfl,hl,by simpa using h5,g,?_⟩,Fr.put H l _ (fun _ => rfl),fun l q => Or.inl q⟩
      simp [Eff.on,Heap.get_put,layA]
    · have h0' : decide (els.length + ys.length ≤ els.length) = false := by simp; omega
      have hb1 : Nat.ble 0 l = true := Nat.ble_eq_true_of_le (by omega)
      simp only [h0',cond_false,growN_of hb hb2,Bool.not_true,cond_true,hg,hb1,Nat.beq_refl,beq_self_eq_true,hel,Bool.and_self,Nat.ble_eq_true_of_le (Nat.le_refl _)]
      refine ⟨_,_,rfl,⟨rfl,by simp,rfl,rfl,hl,?_,true,?_⟩,Fr.put H l _ (fun _ => rfl),fun l q => Or.inl q⟩
      · intro r hr; rcases List.mem_append.1 hr with q | q
        · exact h5 r q
        · exact hlr r q
      · have ht : els.flatten.take (els.length * sz) = els.flatten := List.take_of_length_le (by omega)
        simp [Eff.on,Heap.get_put,ht]
  | _ => exact h.elim
theorem lay_mid (a b cs : List AV) (o : Nat) (ho : a.length = o) (h : cs.length ≤ b.length) : layA (a ++ b) o cs = a ++ (cs ++ b.drop cs.length) := by
  subst ho
  unfold layA
  rw [List.take_left,Nat.add_comm,← List.drop_drop,List.append_assoc]
  congr 2
  rw [List.drop_drop,Nat.add_comm,List.drop_append]
  simp
theorem bldS_1 (H : Heap) (e sz : Nat) (z cs : List AV) (hz : z.length = sz) (hc : cs.length = sz) (hs : cs.all AV.solid = true) : bldS H e sz z 1 [(0,sz,.agg cs)] = some (.sl H.sz 0 0 1 1 false,.new (.cells 0 e (0,0) false cs)) := by
  rw [bldS_eq,fillO_agg _ _ _ _ _ hc (by simp [repeatL]; omega) hs,fillO_nil]
  have : layA (repeatL z 1) 0 cs = cs := lay_all _ _ (by simp [repeatL]; omega)
  rw [this]; rfl
theorem bldS_2 (H : Heap) (e sz o : Nat) (z c d : List AV) (ho : o = sz) (hz : z.length = sz) (hc : c.length = sz) (hd : d.length = sz) (hs : c.all AV.solid = true) (hs2 : d.all AV.solid = true) : bldS H e sz z 2 [(0,sz,.agg c),(o,sz,.agg d)] = some (.sl H.sz 0 0 2 2 false,.new (.cells 0 e (0,0) false (c ++ d))) := by
  subst ho
  have e1 : layA (repeatL z 2) 0 c = c ++ z := by
    have := lay_mid [] (repeatL z 2) c 0 rfl (by simp [repeatL]; omega)
    rw [List.nil_append] at this
    rw [this,List.nil_append]
    simp [repeatL,← hz,hc]
  have e2 : layA (c ++ z) o d = c ++ d := by
    rw [lay_mid c z d o hc (by omega)]
    simp [hd,← hz]
  rw [bldS_eq,fillO_agg _ _ _ _ _ hc (by simp [repeatL]; omega) hs,e1,fillO_agg _ _ _ _ _ hd (by simp; omega) hs2,e2,fillO_nil]
  rfl
/-- A slice that grows, all in places that came behind H0. -/
structure GI (H0 H : Heap) (e sz : Nat) (y : AV) (els : List (List AV)) : Prop where
  grow : Grow H e sz y els
  fr : Fr Nop H0 H
  own : ∀ l,y.lies l → H0.sz ≤ l
theorem GI.nils {H0 H : Heap} {e sz : Nat} (h : Fr Nop H0 H) : GI H0 H e sz .nils [] := ⟨rfl,h,fun l q => q.elim⟩
theorem GI.frame {H0 H H' : Heap} {e sz : Nat} {y : AV} {els : List (List AV)} (h : GI H0 H e sz y els) (f : Fr Nop H H') : GI H0 H' e sz y els := ⟨h.grow.frame Nop f (fun _ _ q => q),h.fr.trans f,h.own⟩
theorem GI.append {H0 H : Heap} {e sz by_ : Nat} {y x : AV} {els xs : List (List AV)} (h : GI H0 H e sz y els) (hx : Els ρ H sz x xs) (hs : ∀ r ∈ xs,r.all AV.solid = true) (hb : (els.length + xs.length) * by_ ≤ 70368744177664) (hb2 : els.length + xs.length ≤ 70368744177664) :
    ∃ y' f,apA ρ 0 H e sz by_ y x = some (y',f) ∧ GI H0 (f.on H) e sz y' (els ++ xs) := by
  obtain ⟨y',f,h1,h2,h3,h4⟩ := h.grow.append hx hs hb hb2
  exact ⟨y',f,h1,h2,h.fr.trans' h3 (fun l hl q => absurd (h.own l q) (by omega)),fun l q => (h4 l q).elim (h.own l) (fun q => Nat.le_trans h.fr.sz q)⟩
/-- Some elements are laid into a new slice, and appended. -/
theorem GI.push {H0 H : Heap} {e sz by_ : Nat} {y : AV} {els : List (List AV)} (h : GI H0 H e sz y els) (rows : List (List AV)) (hl : ∀ r ∈ rows,r.length = sz) (hs : ∀ r ∈ rows,r.all AV.solid = true) (hb : (els.length + rows.length) * by_ ≤ 70368744177664) (hb2 : els.length + rows.length ≤ 70368744177664) :
    ∃ y' f,apA ρ 0 (H.new (.cells 0 e (0,0) false rows.flatten)) e sz by_ y (.sl H.sz 0 0 rows.length rows.length false) = some (y',f) ∧ GI H0 (f.on (H.new (.cells 0 e (0,0) false rows.flatten))) e sz y' (els ++ rows) :=
  (h.frame (Fr.new Nop H _)).append (Els.of_cells (by rw [Heap.sz_new]; omega) (Heap.get_new_same ..) hl) hs hb hb2
theorem Els.notSx (h : Els ρ H sz x els) (hne : els ≠ []) (n : Nat) : x ≠ .sx n := by
  rintro rfl; exact hne h.2
/-- A slice of nothing, with no room. -/
def Emp (H : Heap) (y : AV) : Prop := match y with
  | .sl l v o n c m => n = 0 ∧ c = 0 ∧ m = false ∧ l < H.sz ∧ ∃ e fr g cs,H.get l = .cells v e fr g cs ∧ o ≤ cs.length
  | _ => False
theorem Emp.toEls (h : Emp H x) : Els ρ H sz x [] := by
  cases x with
  | sl l v o n c m =>
    obtain ⟨rfl,rfl,rfl,hl,e,fr,g,cs,hg,ho⟩ := h
    exact ⟨rfl,Nat.le_refl _,hl,e,fr,g,cs,hg,by omega,fun i hi => by simp at hi⟩
  | _ => exact h.elim
theorem Emp.frame (h : Emp H x) (S : Nat → Prop) (f : Fr S H H') (hs : ∀ l,x.lies l → ¬ S l) : Emp H' x := by
  cases x with
  | sl l v o n c m =>
    obtain ⟨h1,h2,h3,hl,e,fr,g,cs,hg,ho⟩ := h
    exact ⟨h1,h2,h3,Nat.lt_of_lt_of_le hl f.sz,e,fr,g,cs,by rw [f.get l hl (hs l rfl),hg],ho⟩
  | _ => exact h.elim
theorem Emp.append {e by_ : Nat} {y : AV} {ys : List (List AV)} (h : Emp H x) (hy : Els ρ H sz y ys) (hne : ys ≠ []) (hs : ∀ r ∈ ys,r.all AV.solid = true) (hb : ys.length * by_ ≤ 70368744177664) (hb2 : ys.length ≤ 70368744177664) :
    ∃ x' f,apA ρ 0 H e sz by_ x y = some (x',f) ∧ Grow (f.on H) e sz x' ys ∧ Fr Nop H (f.on H) ∧ ∀ l,x'.lies l → H.sz ≤ l := by
  have hsol : ys.flatten.all AV.solid = true := by
    rw [List.all_eq_true]; intro a ha
    obtain ⟨r,hr,har⟩ := List.mem_flatten.1 ha
    exact List.all_eq_true.1 (hs r hr) a har
  have hlr : ∀ r ∈ ys,r.length = sz := fun r hr => by obtain ⟨i,hi,rfl⟩ := List.mem_iff_getElem.1 hr; exact hy.len_el i hi
  have hlen := els_length ys sz hlr
  have h0 : 0 < ys.length := List.length_pos_iff.2 hne
  simp only [apA,hy.lenA,Option.bind_some,hy.frst,hsol,hlen,beq_self_eq_true,Bool.and_self,Bool.not_true,cond_false]
  cases x with
  | sl l v o n c m =>
    obtain ⟨rfl,rfl,rfl,hl,e',fr,g,cs,hg,ho⟩ := h
    have h1 : decide (ys.length ≤ 0) = false := by simp; omega
    have hble : Nat.ble (o + 0) cs.length = true := Nat.ble_eq_true_of_le (by omega)
    simp only [apSl,h1,cond_false,growN_of (by_ := by_) (n := ys.length) hb hb2,Bool.not_true,Go.Ev.frst,ldL,Nat.zero_mul,cellsAt_of hg,Option.bind_some,hble,cond_true,List.take_zero,Option.map_some,List.nil_append,Nat.zero_add]
    refine ⟨_,_,rfl,⟨rfl,rfl,rfl,rfl,by simp [Eff.on,Heap.sz_new],hlr,true,?_⟩,Fr.new Nop H _,fun l q => ?_⟩
    · simp [Eff.on,newCells,Heap.get_new]
    · have e : H.sz = l := q; omega
  | _ => exact h.elim
end
end Go.Ev

-- part EvBits
/- EvBits: plain laws on the bits of uint64. -/
set_option linter.unusedVariables false
namespace Go.Ev
open Go.RowKit
theorem u64w (n : Int) : wrapK .u64 n = n % 18446744073709551616 := by rw [wrapK_eq]; simp [IntKind.wrap,IntKind.bits,IntKind.signed]
theorem bv_xor_add_and (a b : BitVec 64) : (a ^^^ b) + (a &&& b) = a ||| b := by
  have h : (a ^^^ b) &&& (a &&& b) = 0#64 := by
    ext i hi
    simp only [BitVec.getElem_and,BitVec.getElem_xor,BitVec.getElem_zero]
    cases a[i] <;> cases b[i] <;> rfl
  rw [BitVec.add_eq_or_of_and_eq_zero _ _ h]
  ext i hi
  simp only [BitVec.getElem_and,BitVec.getElem_xor,BitVec.getElem_or]
  cases a[i] <;> cases b[i] <;> rfl
theorem bv_or_sub_and (a b : BitVec 64) : (a ||| b) - (a &&& b) = a ^^^ b := by
  rw [← bv_xor_add_and,BitVec.add_sub_cancel]
theorem bv_u64_nat (x : BitVec 64) : wrapK .u64 (x.toNat : Int) = x.toNat := by
  have := x.isLt
  rw [u64w]; omega
theorem turn_xor (a b : Int) : wrapK .u64 (Go.bits .or .u64 a b - Go.bits .and .u64 a b) = Go.bits .xor .u64 a b := by
  have h := congrArg BitVec.toNat (bv_or_sub_and (BitVec.ofInt 64 a) (BitVec.ofInt 64 b))
  rw [BitVec.toNat_sub] at h
  have e1 : Go.bits .or .u64 a b = ((BitVec.ofInt 64 a ||| BitVec.ofInt 64 b).toNat : Int) := by rw [← bv_u64_nat,wrapK_eq]; rfl
  have e2 : Go.bits .and .u64 a b = ((BitVec.ofInt 64 a &&& BitVec.ofInt 64 b).toNat : Int) := by rw [← bv_u64_nat,wrapK_eq]; rfl
  have e3 : Go.bits .xor .u64 a b = ((BitVec.ofInt 64 a ^^^ BitVec.ofInt 64 b).toNat : Int) := by rw [← bv_u64_nat,wrapK_eq]; rfl
  rw [e1,e2,e3,← h,u64w]
  have l1 := (BitVec.ofInt 64 a ||| BitVec.ofInt 64 b).isLt
  have l2 := (BitVec.ofInt 64 a &&& BitVec.ofInt 64 b).isLt
  omega
theorem xor_range (a b : Int) : 0 ≤ Go.bits .xor .u64 a b ∧ Go.bits .xor .u64 a b < 18446744073709551616 := by
  have e3 : Go.bits .xor .u64 a b = ((BitVec.ofInt 64 a ^^^ BitVec.ofInt 64 b).toNat : Int) := by rw [← bv_u64_nat,wrapK_eq]; rfl
  rw [e3]
  have l1 := (BitVec.ofInt 64 a ^^^ BitVec.ofInt 64 b).isLt
  omega
theorem shr_tdiv (x : Int) (h : 0 ≤ x) (h1 : x < 18446744073709551616) (k : Int) (hk : 0 < k) : wrapK .u64 (Int.tdiv x k) = x / k := by
  rw [u64w,Int.tdiv_eq_ediv_of_nonneg h]
  have := Int.ediv_nonneg h (Int.le_of_lt hk)
  have := Int.ediv_le_self k h
  exact Int.emod_eq_of_lt (by omega) (by omega)
theorem wrap_u64_range (n : Int) : 0 ≤ wrapK .u64 n ∧ wrapK .u64 n < 18446744073709551616 := by rw [u64w]; omega
end Go.Ev

-- part EvBd
/- EvBd: texts that are built byte by byte: rows of one byte, and what unsafe.String makes of them. -/
set_option linter.unusedVariables false
set_option linter.unusedSimpArgs false
namespace Go.Ev
open Go.RowKit
/-- A text of n times one byte. -/
def rep (b : UInt8) (n : Nat) : ByteArray := ⟨(List.replicate n b).toArray⟩
theorem rep_size (b : UInt8) (n : Nat) : (rep b n).size = n := by simp [rep,ByteArray.size]
theorem rep_cut (b : UInt8) (n m : Nat) (h : m ≤ n) : (rep b n).extract 0 m = rep b m := by
  apply ByteArray.ext
  rw [ByteArray.data_extract]
  simp only [rep]
  apply Array.toList_inj.1
  simp [List.take_replicate,Nat.min_eq_left h]
def rowOf (b : UInt8) (j n : Nat) : List AV := List.replicate j (byteCell b) ++ List.replicate n .any
theorem rowOf_len (b : UInt8) (j n : Nat) : (rowOf b j n).length = j + n := by simp [rowOf]
theorem rowOf_lay (b : UInt8) (j n c : Nat) (h : c ≤ n) : layA (rowOf b j n) j (List.replicate c (byteCell b)) = rowOf b (j + c) (n - c) := by
  unfold rowOf
  rw [lay_mid _ _ _ _ (by simp) (by simpa using h)]
  simp [← List.append_assoc,List.replicate_append_replicate]
theorem bytesOf_rep (b : UInt8) : ∀ n,bytesOfA (List.replicate n (byteCell b)) = some (List.replicate n b)
  | 0 => rfl
  | n + 1 => by
    have h1 : (0 : Int) ≤ (b.toNat : Int) := by omega
    have h2 : (b.toNat : Int) < 256 := by have := b.toNat_lt; omega
    rw [List.replicate_succ,List.replicate_succ]
    unfold byteCell
    simp only [bytesOfA,h1,h2,decide_true,Bool.and_self,cond_true]
    have := bytesOf_rep b n
    unfold byteCell at this
    rw [this]
    simp
theorem rep_cells (b : UInt8) (n : Nat) : (((rep b n).extract 0 n).data.toList).map byteCell = List.replicate n (byteCell b) := by
  rw [rep_cut b n n (Nat.le_refl _)]
  simp [rep]
theorem usA_of {C : Ctx} {H : Heap} {pt e : TypeId} {l v : Nat} {m j n : Nat} {g : Bool} {b : UInt8} (hp : C.P.underlying pt = some (.pointer e)) (hc : C.P.cellsOf e = 1) (hg : H.get l = .cells v e (0,m) g (rowOf b j n)) (hm : m ≤ j) (h0 : 0 < j) (h1 : j < 9223372036854775807) :
    unsafeStringA C 0 H pt (.ptr l v 0) (.int .i64 j) = some (.str (rep b j),.put l (.cells v e (0,j) g (rowOf b j n))) := by
  have e1 : ((j : Int) == 0) = false := by simp; omega
  have e2 : Nat.ble m j = true := Nat.ble_eq_true_of_le hm
  have e3 : Nat.ble j (rowOf b j n).length = true := Nat.ble_eq_true_of_le (by rw [rowOf_len]; omega)
  have e4 : (0 : Int) < (j : Int) := by omega
  have e5 : (j : Int) ≤ 9223372036854775807 := by omega
  have e6 : (rowOf b j n).take j = List.replicate j (byteCell b) := by unfold rowOf; rw [List.take_left' (by simp)]
  have e7 : Nat.ble 0 l = true := Nat.ble_eq_true_of_le (by omega)
  simp only [unsafeStringA,e1,cond_false,hp,hg,hc,e2,e3,e4,e5,e7,Int.toNat_natCast,Bool.or_true,beq_self_eq_true,Nat.beq_refl,decide_true,Bool.and_self,cond_true,e6,bytesOf_rep,Option.map_some,rep]
theorem storeN_over {H : Heap} {l v e m : Nat} {g : Bool} {c : List AV} (vs : List AV) (o : Nat) (h : H.get l = .cells v e (0,m) g c) (hm : m ≤ o) (hn : o + vs.length ≤ c.length) (hs : vs.all AV.solid = true) : storeN 0 H vs (.ptr l v o) = some (.put l (.cells v e (0,m) g (layA c o vs))) := by
  have h1 : Nat.ble (o + vs.length) c.length = true := Nat.ble_eq_true_of_le hn
  have h2 : Nat.ble m o = true := Nat.ble_eq_true_of_le hm
  have h3 : Nat.ble 0 l = true := Nat.ble_eq_true_of_le (by omega)
  simp only [storeN,h,h1,h2,h3,hs,beq_self_eq_true,Nat.beq_refl,Bool.or_true,Bool.and_self,cond_true]
theorem rep_solid (b : UInt8) (n : Nat) : (List.replicate n (byteCell b)).all AV.solid = true := by
  rw [List.all_eq_true]; intro y hy
  obtain ⟨_,rfl⟩ := List.mem_replicate.1 hy; rfl
/-- One byte's text is written behind what is there. -/
theorem apA_rep {ρ : Addr → Option Value} {H : Heap} {l v e by_ m j n c : Nat} {g mm : Bool} {b : UInt8} (hg : H.get l = .cells v e (0,m) g (rowOf b j n)) (hm : m ≤ j) (hc : c ≤ n) :
    apA ρ 0 H e 1 by_ (.sl l v 0 j (j + n) mm) (.str (rep b c)) = some (.sl l v 0 (j + c) (j + n) mm,.put l (.cells v e (0,m) g (rowOf b (j + c) (n - c)))) := by
  have e1 : lenA (.str (rep b c)) = some c := by simp [Go.Ev.lenA,rep_size]
  have e2 : j + c ≤ j + n := by omega
  simp only [apA,e1,Option.bind_some,frst,rep_cells,rep_solid,List.length_replicate,Nat.mul_one,beq_self_eq_true,Bool.and_self,Bool.not_true,cond_false,apSl,e2,decide_true,cond_true,Nat.zero_add]
  rw [storeN_over _ _ hg hm (by simp [rowOf_len]; omega) (rep_solid b c),rowOf_lay b j n c hc]
  rfl
end Go.Ev

-- part EvGe
/- EvGe: a slice that is empty at first, and grows. -/
set_option linter.unusedVariables false
set_option linter.unusedSimpArgs false
namespace Go.Ev
open Go.RowKit
def GE (H : Heap) (e sz : Nat) (y : AV) (els : List (List AV)) : Prop := (els = [] ∧ Emp H y) ∨ Grow H e sz y els
section
variable {ρ : Addr → Option Value} {H H' : Heap} {e sz : Nat} {x y : AV} {els ys : List (List AV)}
theorem GE.toEls (h : GE H e sz y els) : Els ρ H sz y els := by
  rcases h with ⟨rfl,h⟩ | h
  · exact h.toEls
  · exact h.toEls
theorem GE.frame (h : GE H e sz y els) (S : Nat → Prop) (f : Fr S H H') (hs : ∀ l,y.lies l → ¬ S l) : GE H' e sz y els := by
  rcases h with ⟨rfl,h⟩ | h
  · exact Or.inl ⟨rfl,h.frame S f hs⟩
  · exact Or.inr (h.frame S f hs)
theorem GE.append {by_ : Nat} (h : GE H e sz x els) (hy : Els ρ H sz y ys) (hne : ys ≠ []) (hs : ∀ r ∈ ys,r.all AV.solid = true) (hb : (els.length + ys.length) * by_ ≤ 70368744177664) (hb2 : els.length + ys.length ≤ 70368744177664) :
    ∃ x' f,apA ρ 0 H e sz by_ x y = some (x',f) ∧ GE (f.on H) e sz x' (els ++ ys) ∧ Fr x.lies H (f.on H) ∧ ∀ l,x'.lies l → x.lies l ∨ H.sz ≤ l := by
  rcases h with ⟨rfl,h⟩ | h
  · rw [List.length_nil,Nat.zero_add] at hb hb2
    obtain ⟨x',f,h1,h2,h3,h4⟩ := h.append (ρ := ρ) hy hne hs hb hb2
    exact ⟨x',f,h1,Or.inr h2,h3.mono fun t _ q => q.elim,fun l q => Or.inr (h4 l q)⟩
  · obtain ⟨x',f,h1,h2,h3,h4⟩ := h.append (ρ := ρ) hy hs hb hb2
    exact ⟨x',f,h1,Or.inr h2,h3,h4⟩
theorem flat_rep (w : UInt8) : ∀ n,(List.replicate n [byteCell w]).flatten = List.replicate n (byteCell w)
  | 0 => rfl
  | n + 1 => by rw [List.replicate_succ,List.replicate_succ,List.flatten_cons,flat_rep w n]; rfl
/-- The text of a slice that reads as n times one byte. -/
theorem b2s_rep {w : UInt8} {n : Nat} (h : Els ρ H 1 y (List.replicate n [byteCell w])) (hy : ∀ m,y ≠ .sx m) : b2s ρ H y = some (.str (rep w n)) := by
  have e1 := h.lenA
  have e2 := h.frst
  rw [List.length_replicate] at e1 e2
  rw [flat_rep] at e2
  cases y with
  | nils =>
    have : n = 0 := by simp [Els] at h; exact h
    subst this; rfl
  | sl l v o n' c m => simp only [b2s,e1,Option.bind_some,e2,bytesOf_rep,Option.map_some]; rfl
  | xs a n' c => simp only [b2s,e1,Option.bind_some,e2,bytesOf_rep,Option.map_some]; rfl
  | sx m => exact absurd rfl (hy m)
  | _ => exact h.elim
theorem GE.notSx (h : GE H e sz y els) (n : Nat) : y ≠ .sx n := by
  rcases h with ⟨_,h⟩ | h
  · rintro rfl; exact h
  · exact h.notSx n
end
end Go.Ev

-- part EvWp
/- EvWp: what a run comes to, step by step. -/
set_option linter.unusedVariables false
set_option linter.unusedSimpArgs false
namespace Go.Ev
open Go.RowKit
/-- It comes to its end, with Q. -/
structure Ret (Q : AV → Heap → Prop) (r : Res) : Prop where
  ok : r.Ok fun x => Q x.1 x.2
section
variable {Q Q' : AV → Heap → Prop} {r r' : Res} {K : AV → Heap → Res} {H : Heap} {ρ : Addr → Option Value}
@[congr] theorem Ret_congr (h : r = r') : Ret Q r = Ret Q r' := by rw [h]
theorem Ret.intro {v : AV} {H : Heap} (h : Q v H) : Ret Q (.done (v,H)) := ⟨h⟩
theorem Ret.bind (h : Ret Q r) (hk : ∀ v H',Q v H' → Ret Q' (K v H')) : Ret Q' (resK r K) :=
  ⟨ok_bind.2 (ok_mono (fun x hx => (hk x.1 x.2 hx).ok) h.ok)⟩
theorem Ret.mono (h : Ret Q r) (hk : ∀ v H',Q v H' → Q' v H') : Ret Q' r := ⟨ok_mono (fun x hx => hk x.1 x.2 hx) h.ok⟩
theorem Ret.stop (h : Ret Q .stop) : False := h.ok
theorem Ret.done {v : AV} {H : Heap} (h : Ret Q (.done (v,H))) : Q v H := h.ok
theorem Ret.cond {c : Bool} {x y : Res} (h1 : c = true → Ret Q x) (h0 : c = false → Ret Q y) : Ret Q (condK (.bool c) x y) := by
  cases c
  · exact h0 rfl
  · exact h1 rfl
theorem Ret.condD {p : Prop} [Decidable p] {x y : Res} (h1 : p → Ret Q x) (h0 : ¬ p → Ret Q y) : Ret Q (condK (.bool (decide p)) x y) := by
  by_cases h : p
  · simp only [h,decide_true,condK_true]; exact h1 h
  · simp only [h,decide_false,condK_false]; exact h0 h
theorem Ret.ex1 {α : Type} {g : α → Res} {P : α → Prop} (h : ∃ x,r = g x ∧ P x) (hk : ∀ x,P x → Ret Q (g x)) : Ret Q r := by
  obtain ⟨x,rfl,h⟩ := h; exact hk x h
theorem Ret.ex2 {α β : Type} {g : α → β → Res} {P : α → β → Prop} (h : ∃ x y,r = g x y ∧ P x y) (hk : ∀ x y,P x y → Ret Q (g x y)) : Ret Q r := by
  obtain ⟨x,y,rfl,h⟩ := h; exact hk x y h
/-- Rounds of a loop, each bringing the measure down. -/
theorem Ret.loop {σ : Type} {B : σ → Heap → (σ → Heap → Res) → Res} (Inv : Nat → σ → Heap → Prop)
    (step : ∀ m x H f,Inv m x H → (∀ m' x' H',m' < m → Inv m' x' H' → Ret Q (f x' H')) → Ret Q (B x H f)) (m n : Nat) (x : σ) (H : Heap) (h : Inv m x H) (hn : m < n) : Ret Q (loopL B n x H) :=
  loopL_wp Inv step m n x H h hn
/-- An append to what grows. -/
theorem Ret.app {e sz by_ : Nat} {x y : AV} {els ys : List (List AV)} (h : Grow H e sz x els) (hy : Els ρ H sz y ys) (hs : ∀ r ∈ ys,r.all AV.solid = true) (hb : (els.length + ys.length) * by_ ≤ 70368744177664) (hb2 : els.length + ys.length ≤ 70368744177664)
    (hk : ∀ x' H',Grow H' e sz x' (els ++ ys) → Fr x.lies H H' → (∀ l,x'.lies l → x.lies l ∨ H.sz ≤ l) → scal x' = true → Ret Q (K x' H')) : Ret Q (effK H (apA ρ 0 H e sz by_ x y) K) := by
  obtain ⟨x',f,ea,G,fr,hl⟩ := h.append hy hs hb hb2
  rw [ea,effK_on]
  refine hk x' _ G fr hl ?_
  cases x' <;> first | exact G.elim | rfl
theorem Ret.appE {e sz by_ : Nat} {x y : AV} {els ys : List (List AV)} (h : GE H e sz x els) (hy : Els ρ H sz y ys) (hne : ys ≠ []) (hs : ∀ r ∈ ys,r.all AV.solid = true) (hb : (els.length + ys.length) * by_ ≤ 70368744177664) (hb2 : els.length + ys.length ≤ 70368744177664)
    (hk : ∀ x' H',GE H' e sz x' (els ++ ys) → Fr x.lies H H' → (∀ l,x'.lies l → x.lies l ∨ H.sz ≤ l) → Ret Q (K x' H')) : Ret Q (effK H (apA ρ 0 H e sz by_ x y) K) := by
  obtain ⟨x',f,ea,G,fr,hl⟩ := h.append hy hne hs hb hb2
  rw [ea,effK_on]
  exact hk x' _ G fr hl
end
end Go.Ev

-- part EvSt
/- EvSt: what is known of places while a function runs. -/
set_option linter.unusedVariables false
set_option linter.unusedSimpArgs false
namespace Go.Ev
open Go.RowKit
/-- Places and what lies in them; nothing else that was there at H0 has turned, but at S. -/
structure St (S : Nat → Prop) (H0 : Heap) (L : List (Nat × AObj)) (H : Heap) : Prop where
  nd : (L.map Prod.fst).Nodup
  lt : ∀ q ∈ L,q.1 < H.sz
  get : ∀ q ∈ L,H.get q.1 = q.2
  own : ∀ q ∈ L,S q.1 ∨ H0.sz ≤ q.1
  fr : Fr S H0 H
section
variable {Q : AV → Heap → Prop} {K : AV → Heap → Res} {H H0 H1 : Heap} {S : Nat → Prop} {L : List (Nat × AObj)} {ρ : Addr → Option Value}
theorem St.start (S : Nat → Prop) (H : Heap) : St S H [] H := ⟨by simp,by simp,by simp,by simp,Fr.refl ..⟩
theorem St.start1 {S : Nat → Prop} {H : Heap} {l : Nat} {o : AObj} (hl : l < H.sz) (hg : H.get l = o) (hs : S l) : St S H [(l,o)] H :=
  ⟨by simp,by simpa using hl,by simpa using hg,by simpa using Or.inl hs,Fr.refl ..⟩
theorem St.at (s : St S H0 L H) (i : Nat) {n : Nat} {o : AObj} (h : L[i]? = some (n,o)) : H.get n = o := s.get (n,o) (List.mem_of_getElem? h)
theorem St.lt' (s : St S H0 L H) (i : Nat) {n : Nat} {o : AObj} (h : L[i]? = some (n,o)) : n < H.sz := s.lt (n,o) (List.mem_of_getElem? h)
theorem St.new1 (s : St S H0 L H) (o : AObj) : St S H0 (L ++ [(H.sz,o)]) (H.new o) where
  nd := by
    rw [List.map_append,List.map_cons,List.map_nil,List.nodup_append]
    refine ⟨s.nd,by simp,?_⟩
    intro a ha b hb
    obtain ⟨q,hq,rfl⟩ := List.mem_map.1 ha
    have := s.lt q hq
    simp at hb; omega
  lt := by
    intro q hq
    rw [Heap.sz_new]
    rcases List.mem_append.1 hq with h | h
    · have := s.lt q h; omega
    · simp at h; subst h; simp
  get := by
    intro q hq
    rcases List.mem_append.1 hq with h | h
    · have := s.lt q h
      rw [Heap.get_new,if_neg (by omega)]; exact s.get q h
    · simp at h; subst h; simp [Heap.get_new_same]
  own := by
    intro q hq
    rcases List.mem_append.1 hq with h | h
    · exact s.own q h
    · simp at h; subst h; exact Or.inr s.fr.sz
  fr := s.fr.trans (Fr.new S H o)
theorem St.put1 (s : St S H0 L H) (i : Nat) {n : Nat} {o : AObj} (o' : AObj) (h : L[i]? = some (n,o)) : St S H0 (L.set i (n,o')) (H.put n o') := by
  have hm := List.mem_of_getElem? h
  obtain ⟨hi,he⟩ := List.getElem?_eq_some_iff.1 h
  have hmap : (L.set i (n,o')).map Prod.fst = L.map Prod.fst := by
    rw [List.map_set]
    apply List.ext_getElem?
    intro j
    rw [List.getElem?_set]
    split
    · rename_i e; subst e; simp [hi,he]
    · rfl
  have key : ∀ q ∈ L.set i (n,o'),q = (n,o') ∨ (q ∈ L ∧ q.1 ≠ n) := by
    intro q hq
    obtain ⟨j,hj,rfl⟩ := List.mem_iff_getElem.1 hq
    rw [List.getElem_set]
    split
    · exact Or.inl rfl
    · rename_i hne
      rw [List.length_set] at hj
      refine Or.inr ⟨List.getElem_mem hj,fun e => hne ?_⟩
      have hnd := s.nd
      have a1 : (L.map Prod.fst)[i]'(by simpa using hi) = n := by simp [he]
      have a2 : (L.map Prod.fst)[j]'(by simpa using hj) = n := by simpa using e
      exact (List.getElem_inj hnd).1 (a1.trans a2.symm)
  refine ⟨by rw [hmap]; exact s.nd,?_,?_,?_,?_⟩
  · intro q hq
    rcases key q hq with rfl | ⟨h1,_⟩
    · exact s.lt (n,o) hm
    · exact s.lt q h1
  · intro q hq
    rcases key q hq with rfl | ⟨h1,h2⟩
    · exact Heap.get_put_same ..
    · rw [Heap.get_put_ne _ _ _ _ h2]; exact s.get q h1
  · intro q hq
    rcases key q hq with rfl | ⟨h1,_⟩
    · exact s.own (n,o) hm
    · exact s.own q h1
  · refine s.fr.trans' (S1 := fun t => t = n) (Fr.put H n o' fun _ => rfl) fun l hl e => ?_
    subst e
    rcases s.own (l,o) hm with q | q
    · exact q
    · exact absurd hl (Nat.not_lt.2 q)
/-- Something was done that left these as they were. -/
theorem St.frame (s : St S H0 L H) {S1 : Nat → Prop} (f : Fr S1 H H1) (h1 : ∀ q ∈ L,¬ S1 q.1) (h2 : ∀ l,l < H0.sz → S1 l → S l) : St S H0 L H1 :=
  ⟨s.nd,fun q hq => Nat.lt_of_lt_of_le (s.lt q hq) f.sz,fun q hq => by rw [f.get q.1 (s.lt q hq) (h1 q hq)]; exact s.get q hq,s.own,s.fr.trans' f h2⟩
theorem St.frame0 (s : St S H0 L H) (f : Fr Nop H H1) : St S H0 L H1 := s.frame f (fun _ _ q => q) fun _ _ q => q.elim
/-- .. but of this one. -/
theorem St.turn (s : St S H0 L H) (i : Nat) {n : Nat} {o o' : AObj} (h : L[i]? = some (n,o)) (f : Fr (fun t => t = n) H H1) (hg : H1.get n = o') : St S H0 (L.set i (n,o')) H1 := by
  have s1 := s.put1 i o' h
  refine ⟨s1.nd,fun q hq => Nat.lt_of_lt_of_le (s1.lt q hq) f.sz,fun q hq => ?_,s1.own,?_⟩
  · by_cases e : q.1 = n
    · have := s1.get q hq
      rw [e,Heap.get_put_same] at this
      rw [e,hg,this]
    · rw [f.get q.1 (s1.lt q hq) e,← s1.get q hq,Heap.get_put_ne _ _ _ _ e]
  · refine s.fr.trans' f fun l hl e => ?_
    subst e
    rcases s.own (l,o) (List.mem_of_getElem? h) with q | q
    · exact q
    · exact absurd hl (Nat.not_lt.2 q)
theorem St.drop {R : List (Nat × AObj)} (s : St S H0 (L ++ R) H) : St S H0 L H where
  nd := by have := s.nd; rw [List.map_append,List.nodup_append] at this; exact this.1
  lt := fun q hq => s.lt q (List.mem_append_left _ hq)
  get := fun q hq => s.get q (List.mem_append_left _ hq)
  own := fun q hq => s.own q (List.mem_append_left _ hq)
  fr := s.fr
/-- Something was done behind z alone. -/
theorem St.above (s : St S H0 L H) {z : Nat} (f : Fr (fun t => z ≤ t) H H1) (h1 : ∀ q ∈ L,q.1 < z) (h2 : H0.sz ≤ z) : St S H0 L H1 :=
  s.frame f (fun q hq e => absurd (h1 q hq) (Nat.not_lt.2 e)) fun l hl e => absurd (Nat.lt_of_lt_of_le hl h2) (Nat.not_lt.2 e)
-- steps
theorem St.newP (s : St S H0 L H) {o : AObj} (hk : ∀ n H1,St S H0 (L ++ [(n,o)]) H1 → H.sz ≤ n → Fr Nop H H1 → Ret Q (K (.ptr n 0 0) H1)) : Ret Q (effK H (some (.ptr H.sz 0 0,.new o)) K) := by
  rw [effK_new]; exact hk _ _ (s.new1 o) (Nat.le_refl _) (Fr.new Nop H o)
theorem St.newS (s : St S H0 L H) {o : AObj} {a c : Nat} {m : Bool} (hk : ∀ n H1,St S H0 (L ++ [(n,o)]) H1 → H.sz ≤ n → Fr Nop H H1 → Ret Q (K (.sl n 0 0 a c m) H1)) : Ret Q (effK H (some (.sl H.sz 0 0 a c m,.new o)) K) := by
  rw [effK_new]; exact hk _ _ (s.new1 o) (Nat.le_refl _) (Fr.new Nop H o)
theorem St.mkS (s : St S H0 L H) {o : AObj} {a c : Nat} {m : Bool} (hu : o.under H.sz = true) (hk : ∀ n H1,St S H0 (L ++ [(n,o)]) H1 → H.sz ≤ n → Fr Nop H H1 → Ret Q (K (.sl n 0 0 a c m) H1)) : Ret Q (mkK H (some (.sl H.sz 0 0 a c m,.new o)) true K) := by
  rw [mkK_new _ _ _ _ hu]; exact hk _ _ (s.new1 o) (Nat.le_refl _) (Fr.new Nop H o)
theorem St.st (s : St S H0 L H) (i : Nat) {n v e o : Nat} {g : Bool} {c : List AV} {x : AV} (h : L[i]? = some (n,.cells v e (0,0) g c)) (hx : scal x = true) (ho : o < c.length)
    (hk : ∀ H1,St S H0 (L.set i (n,.cells v e (0,0) g (c.set o x))) H1 → H1.sz = H.sz → Fr (fun t => t = n) H H1 → Ret Q (K (.tup []) H1)) : Ret Q (effK H (stA 0 H 1 (.ptr n v o) x) K) := by
  rw [st1 o x (s.at i h) hx ho,effK_put]
  exact hk _ (s.put1 i _ h) rfl (Fr.put _ _ _ fun _ => rfl)
theorem St.stN (s : St S H0 L H) (i : Nat) {n v e o m : Nat} {g : Bool} {c cs : List AV} (h : L[i]? = some (n,.cells v e (0,0) g c)) (hl : cs.length = m) (hs : cs.all AV.solid = true) (ho : o + m ≤ c.length)
    (hk : ∀ H1,St S H0 (L.set i (n,.cells v e (0,0) g (layA c o cs))) H1 → H1.sz = H.sz → Fr (fun t => t = n) H H1 → Ret Q (K (.tup []) H1)) : Ret Q (effK H (stA 0 H m (.ptr n v o) (.agg cs)) K) := by
  rw [stA_agg_ptr _ _ _ _ _ _ hl,s.at i h,stC_many _ _ _ _ _ _ _ hs (by omega),effK_put]
  exact hk _ (s.put1 i _ h) rfl (Fr.put _ _ _ fun _ => rfl)
end
end Go.Ev
