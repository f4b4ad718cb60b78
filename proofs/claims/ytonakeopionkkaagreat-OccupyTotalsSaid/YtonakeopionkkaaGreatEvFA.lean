/- EvFA: the evaluator is right: code. -/
import Derived.Test.YtonakeopionkkaaGreatEvJ
import Derived.Laws.Externs
import Derived.Laws.LoneSync
set_option linter.unusedVariables false
set_option linter.unusedSimpArgs false
namespace Go.Ev
open Go.RowKit
section
variable {C : Ctx} {w0 : World} {lim : Nat}
def Ex.to : Ex → Exit
  | .normal => .normal
  | .exit id => .exit id
  | .ret => .ret
/-- Blocks for deferred calls that no round fills. -/
def Marks (base : Nat) (Γ : Gh) (H : Heap) (w : World) : List Deferred → Prop
  | [] => True
  | d :: ds => (∃ r, d = { target := .collected r, args := #[] } ∧ base ≤ r ∧ r < w.heap.size ∧ w.heap[r]? = some (.deferred (some [])) ∧ (∀ l, l < H.sz → Γ.blk l ≠ some r) ∧ ∀ d' ∈ ds, d'.target ≠ .collected r) ∧ Marks base Γ H w ds
theorem Marks.ext {base : Nat} {Γ Γ' : Gh} {H H' : Heap} {w w' : World} (E : Ext lim Γ H w Γ' H' w') : ∀ {ds : List Deferred}, Marks base Γ H w ds → Marks base Γ' H' w' ds
  | [], _ => trivial
  | _ :: _, ⟨⟨r, h1, h2, h3, h4, h5, h6⟩, h⟩ => by
    obtain ⟨e1, e2⟩ := E.frame r h3 h5
    exact ⟨⟨r, h1, h2, Nat.lt_of_lt_of_le h3 E.size, e1.trans h4, e2, h6⟩, h.ext E⟩
theorem Marks.lt {base : Nat} {Γ : Gh} {H : Heap} {w : World} : ∀ {ds : List Deferred}, Marks base Γ H w ds → ∀ d ∈ ds, ∀ r, d.target = .collected r → r < w.heap.size
  | _ :: _, ⟨⟨r, h1, _, h3, _⟩, h⟩, d, hd, r', hr => by
    rcases List.mem_cons.1 hd with rfl | hd
    · subst h1
      cases hr
      exact h3
    · exact h.lt d hd r' hr
/-- A block that is nobody's own. -/
theorem Rel.other {P : Program} {Γ : Gh} {H : Heap} {w w' : World} {r : Nat} {o : Obj} (R : Rel P w0 Γ H w) (hc : Chg w w' r o) (hr : w0.heap.size ≤ r) (hf : ∀ l, l < H.sz → Γ.blk l ≠ some r) : Rel P w0 Γ H w' :=
  ⟨hc.below hr R.below, fun l b hl hb => by
    obtain ⟨h1, h2, h3⟩ := R.obj l b hl hb
    exact ⟨h1, Nat.lt_of_lt_of_le h2 hc.size, h3.mono (Le.refl _ _) (hc.other b fun e => hf l hl (e ▸ hb)) rfl⟩, R.inj⟩
theorem Ext.other {P : Program} {Γ Γ' : Gh} {H H' : Heap} {w w' w'' : World} {r : Nat} {o : Obj} (R : Rel P w0 Γ H w) (E : Ext lim Γ H w Γ' H' w') (hc : Chg w' w'' r o) (hr : w.heap.size ≤ r) : Ext lim Γ H w Γ' H' w'' :=
  ⟨E.le, fun l hl hk => by
    obtain ⟨h1, h2, h3, h4⟩ := E.keep l hl hk
    refine ⟨h1, h2, h3, fun b hb => (hc.other b ?_).trans (h4 b hb)⟩
    have := (R.obj l b hl hb).2.1
    omega, fun b hb hf => by
    obtain ⟨h1, h2⟩ := E.frame b hb hf
    exact ⟨(hc.other b (by omega)).trans h1, h2⟩, Nat.le_trans E.size hc.size⟩
theorem putObj_chg {w : World} {b : Nat} {o o' : Obj} (h : w.heap[b]? = some o) : Chg w (w.putObj b o') b o' := setObj_chg h
/-- The record of a loop. -/
theorem Rel.loop {P : Program} {Γ : Gh} {H : Heap} {w : World} {l b : Nat} {ps : Array Tmp} {as bd : Code} {s : List AV} {st : Nat} (R : Rel P w0 Γ H w) (hl : l < H.sz) (hb : Γ.blk l = some b) (hg : H.get l = .loop ps as bd s st) :
    ∃ r : Loop, w.heap[b]? = some (.loop r) ∧ r.params = ps ∧ r.assign = as ∧ r.body = bd ∧ RVs Γ H s r.tmps.toList ∧ LoopSt st r.state r.pending := by
  obtain ⟨_, _, h⟩ := R.obj l b hl hb
  rw [hg] at h
  exact h
theorem Rel.loopPut {P : Program} {Γ : Gh} {H : Heap} {w : World} {l b : Nat} {ps : Array Tmp} {as bd : Code} {s : List AV} {st st' : Nat} {r r' : Loop} (R : Rel P w0 Γ H w) (hlim : lim ≤ l) (hl : l < H.sz) (hb : Γ.blk l = some b) (hg : H.get l = .loop ps as bd s st)
    (hw : w.heap[b]? = some (.loop r)) (h1 : r'.params = ps) (h2 : r'.assign = as) (h3 : r'.body = bd) (h4 : RVs Γ H s r'.tmps.toList) (h5 : LoopSt st' r'.state r'.pending) :
    Rel P w0 Γ (H.put l (.loop ps as bd s st')) (w.putObj b (.loop r')) ∧ Ext lim Γ H w Γ (H.put l (.loop ps as bd s st')) (w.putObj b (.loop r')) := by
  have hver : H.ver l = 0 := by simp [Heap.ver, hg, AObj.ver]
  have hup := Gh.upd_self hb
  have hle : Le Γ H (Γ.upd l b (Γ.spare l)) (H.put l (.loop ps as bd s st')) := Le.put b _ (by rw [hver]; exact Nat.le_refl _) (fun _ => ⟨hb, rfl⟩)
  have key := Rel.upd (lim := lim) (o := .loop ps as bd s st') (Γ.spare l) R hl hb hlim (by rw [hg]; simp) (putObj_chg (o' := .loop r') hw) (.inl rfl) (by rw [hver]; exact Nat.le_refl _) (fun _ => ⟨rfl, rfl⟩)
    ⟨r', (putObj_chg hw).here, h1, h2, h3, RVs.mono hle _ _ h4, h5⟩
  rw [hup] at key
  exact key
theorem Rel.loopGone {P : Program} {Γ : Gh} {H : Heap} {w : World} {l b : Nat} {ps : Array Tmp} {as bd : Code} {s : List AV} {st : Nat} {r : Loop} {o : Obj} (R : Rel P w0 Γ H w) (hlim : lim ≤ l) (hl : l < H.sz) (hb : Γ.blk l = some b) (hg : H.get l = .loop ps as bd s st)
    (hw : w.heap[b]? = some (.loop r)) : Rel P w0 Γ (H.put l .hole) (w.putObj b o) ∧ Ext lim Γ H w Γ (H.put l .hole) (w.putObj b o) := by
  have hver : H.ver l = 0 := by simp [Heap.ver, hg, AObj.ver]
  have hup := Gh.upd_self hb
  have key := Rel.upd (lim := lim) (o := .hole) (Γ.spare l) R hl hb hlim (by rw [hg]; simp) (putObj_chg (o' := o) hw) (.inl rfl) (by rw [hver]; exact Nat.le_refl _) (fun _ => ⟨rfl, rfl⟩) trivial
  rw [hup] at key
  exact key
theorem calleeA_some {v : AV} {xs : List AV} {c : FuncId × List AV} (h : calleeA v xs = some c) : ∃ first cap, v = .fn (.func c.1) first cap ∧ c.2 = first ++ xs ++ cap := by
  unfold calleeA at h
  split at h
  · obtain rfl := Option.some.inj h
    exact ⟨_, _, rfl, rfl⟩
  · cases h
set_option maxHeartbeats 2000000 in
theorem ev_sound {call : CallF} {yc : YieldF} {rb : Bool} {rd : Option Nat} {m base : Nat} {f : FuncId} {n : Nat} (hρ : Reads C w0) (hm : C.P.follows .mixedOrders = true) (hcall : CallsOK C w0 call) (hy : YieldsOK C w0 yc) (hrd : rb = false → rd = none) (hB : w0.heap.size ≤ base) : ∀ (c : Code) (s : Slots) (H : Heap) (κ : Ex → Slots → Heap → Res) (r : AV × Heap), ev C call yc rb f lim n c s H κ = some r →
    ∀ (Γ : Gh) (a : Act) (w : World) (Q : Exit → Act → World → Prop), Rel C.P w0 Γ H w → RS Γ H s a → Marks base Γ H w a.defers → base ≤ w.heap.size →
    (∀ e s' H' Γ' a' w', κ e s' H' = some r → Ext lim Γ H w Γ' H' w' → Rel C.P w0 Γ' H' w' → RS Γ' H' s' a' → Marks base Γ' H' w' a'.defers → Q (Ex.to e) a' w') → c.wpIn (FR rd) m C.P Q a w := by
  intro c
  induction c with
  | skip => intro s H κ r h Γ a w Q R hS hM hb hQ; exact wpIn_skip (hQ .normal s H Γ a w h (Ext.refl _ _ _ _) R hS hM)
  | label l => intro s H κ r h Γ a w Q R hS hM hb hQ; exact wpIn_label (hQ .normal s H Γ a w h (Ext.refl _ _ _ _) R hS hM)
  | exit id => intro s H κ r h Γ a w Q R hS hM hb hQ; exact wpIn_exit (hQ (.exit id) s H Γ a w h (Ext.refl _ _ _ _) R hS hM)
  | ret => intro s H κ r h Γ a w Q R hS hM hb hQ; exact wpIn_ret (hQ .ret s H Γ a w h (Ext.refl _ _ _ _) R hS hM)
  | region id ops draw =>
    intro s H κ r h Γ a w Q R hS hM hb hQ
    unfold ev at h
    cases draw with
    | false =>
      exact wpIn_region_list (evOps_sound hρ hcall hy _ _ _ Γ a w h R hS fun s' H' Γ' a' w' hk hE hR hS' hd => hQ .normal s' H' Γ' a' w' hk hE hR hS' (hd ▸ hM.ext hE))
    | true =>
      obtain ⟨h1, h⟩ := cond_none (by simpa only [cond_true] using h)
      obtain rfl := hrd h1
      exact wpIn_wide.2 (region_draw hρ hm hcall h R hS fun s' H' Γ' a' w' hk hE hR hS' hd => hQ .normal s' H' Γ' a' w' hk hE hR hS' (hd ▸ hM.ext hE))
  | seq x y ihx ihy =>
    intro s H κ r h Γ a w Q R hS hM hb hQ
    unfold ev at h
    refine wpIn_seq (ihx s H _ r h Γ a w _ R hS hM hb fun e s' H' Γ' a' w' hk hE hR hS' hM' => ?_)
    cases e with
    | normal =>
      simp only [normK_eq] at hk
      exact ihy _ H' κ r hk Γ' a' w' Q hR (hS'.norm _) hM' (Nat.le_trans hb hE.size) fun e s'' H'' Γ'' a'' w'' hk' hE' hR' hS'' hM'' => hQ e s'' H'' Γ'' a'' w'' hk' (hE.trans hE') hR' hS'' hM''
    | exit id => exact hQ (.exit id) s' H' Γ' a' w' hk hE hR hS' hM'
    | ret => exact hQ .ret s' H' Γ' a' w' hk hE hR hS' hM'
  | cond x p q ihp ihq =>
    intro s H κ r h Γ a w Q R hS hM hb hQ
    unfold ev at h
    obtain ⟨t, ht, h⟩ := bind_some h
    have hx := hS.opr x
    cases hq : oprA s x with
    | bool b =>
      rw [hq] at ht hx
      obtain rfl := Option.some.inj ht
      simp only [RV] at hx
      cases b with
      | true => exact wpIn_cond_true hx (ihp s H κ r h Γ a w Q R hS hM hb hQ)
      | false => exact wpIn_cond_false hx (ihq s H κ r h Γ a w Q R hS hM hb hQ)
    | _ => rw [hq] at ht; cases ht
  | block id b ih =>
    intro s H κ r h Γ a w Q R hS hM hb hQ
    unfold ev at h
    refine wpIn_block (ih s H _ r h Γ a w _ R hS hM hb fun e s' H' Γ' a' w' hk hE hR hS' hM' => ?_)
    cases e with
    | normal => exact hQ .normal s' H' Γ' a' w' hk hE hR hS' hM'
    | exit j =>
      show (if j = id then Q .normal a' w' else Q (.exit j) a' w')
      cases hj : Nat.beq j id with
      | true =>
        simp only [hj, cond_true] at hk
        rw [if_pos (Nat.eq_of_beq_eq_true hj)]
        exact hQ .normal s' H' Γ' a' w' hk hE hR hS' hM'
      | false =>
        simp only [hj, cond_false] at hk
        rw [if_neg (Nat.ne_of_beq_eq_false hj)]
        exact hQ (.exit j) s' H' Γ' a' w' hk hE hR hS' hM'
    | ret => exact hQ .ret s' H' Γ' a' w' hk hE hR hS' hM'
  | loop b ih =>
    intro s H κ r h Γ a w Q R hS hM hb hQ
    unfold ev at h
    refine wpIn_loop_rounds n ?_
    have key : ∀ (k : Nat) (s : Slots) (H : Heap) (Γ : Gh) (a : Act) (w : World), loopK (headL C f b) (fun s H κ => ev C call yc rb f lim n b s H κ) k s H κ = some r → Rel C.P w0 Γ H w → RS Γ H s a → Marks base Γ H w a.defers → base ≤ w.heap.size →
        (∀ e s' H' Γ' a' w', κ e s' H' = some r → Ext lim Γ H w Γ' H' w' → Rel C.P w0 Γ' H' w' → RS Γ' H' s' a' → Marks base Γ' H' w' a'.defers → Q (Ex.to e) a' w') → Code.roundsIn (FR rd) m C.P b Q k a w := by
      intro k
      induction k with
      | zero => intro s H Γ a w h; cases h
      | succ k ihm =>
        intro s H Γ a w h R hS hM hb hQ
        rw [roundsIn_succ]
        unfold loopK at h
        rw [normK_eq] at h
        refine ih _ H _ r h Γ a w _ R (hS.norm _) hM hb fun e s' H' Γ' a' w' hk hE hR hS' hM' => ?_
        cases e with
        | normal => exact ihm s' H' Γ' a' w' hk hR hS' hM' (Nat.le_trans hb hE.size) fun e s'' H'' Γ'' a'' w'' hk' hE' hR' hS'' hM'' => hQ e s'' H'' Γ'' a'' w'' hk' (hE.trans hE') hR' hS'' hM''
        | exit id => exact hQ (.exit id) s' H' Γ' a' w' hk hE hR hS' hM'
        | ret => exact hQ .ret s' H' Γ' a' w' hk hE hR hS' hM'
    exact key n s H Γ a w h R hS hM hb hQ
  | rangeFunc x ps as b _ _ =>
    intro s H κ r h Γ a w Q R hS hM hb hQ
    unfold ev at h
    obtain ⟨h1, h⟩ := cond_none h
    simp only [Bool.or_eq_false_iff, Bool.not_eq_false'] at h1
    obtain ⟨hrb, hlim⟩ := h1
    have hlim := Nat.le_of_ble_eq_true hlim
    obtain rfl := hrd hrb
    obtain ⟨⟨g, gs⟩, hc, h⟩ := bind_some h
    obtain ⟨hbody, h⟩ := cond_some h
    rw [applyK_eq] at h
    obtain ⟨⟨v, H2⟩, hcl, h⟩ := bind_some h
    obtain ⟨first, cap, hfx, hgs⟩ := calleeA_some hc
    have hx := hS.opr x
    rw [hfx] at hx
    obtain ⟨va, vc, hfv, ha, hcp⟩ := hx
    simp only at hgs hcl hbody hfv
    refine wpIn_rangeFunc fun fn _ => ?_
    obtain ⟨rc, hrc⟩ : ∃ rc : Loop, rc = { state := .ready, pending := none, fn, tmps := a.tmps, params := ps, assign := as, body := b, defers := w.heap.size } := ⟨_, rfl⟩
    have hc0 : Chg w (w.alloc (.deferred (some []))) w.heap.size (.deferred (some [])) := Chg.alloc w _
    have hfr0 : ∀ l, l < H.sz → Γ.blk l ≠ some w.heap.size := fun l hl e => by
      have := (R.obj l _ hl e).2.1
      omega
    have R0 := R.other hc0 R.below.size hfr0
    have E0 : Ext lim Γ H w Γ H (w.alloc (.deferred (some []))) := Ext.other R (Ext.refl _ _ _ _) hc0 (Nat.le_refl _)
    have hs0 : (w.alloc (.deferred (some []))).heap.size = w.heap.size + 1 := by simp
    obtain ⟨R1, E1⟩ := Rel.new (lim := lim) (o := .loop ps as b s 0) 0 R0 (Chg.alloc _ (.loop rc)) ⟨rc, (Chg.alloc _ _).here, by rw [hrc], by rw [hrc], by rw [hrc], RVs.mono (Le.new _ _ _) _ _ (by rw [hrc]; exact hS), by rw [hrc]; exact ⟨rfl, rfl⟩⟩
    rw [hs0] at R1 E1
    have hnew : (Γ.upd H.sz (w.heap.size + 1) 0).blk H.sz = some (w.heap.size + 1) := by simp [Gh.upd]
    have hsz : H.sz < (H.new (.loop ps as b s 0)).sz := by rw [Heap.sz_new]; omega
    have hgn : (H.new (.loop ps as b s 0)).get H.sz = .loop ps as b s 0 := by rw [Heap.get_new, if_pos rfl]
    have hvn : (H.new (.loop ps as b s 0)).ver H.sz = 0 := by simp [Heap.ver, hgn, AObj.ver]
    have hE01 := E0.trans E1
    have hargs : RVs (Γ.upd H.sz (w.heap.size + 1) 0) (H.new (.loop ps as b s 0)) (first ++ [.yld H.sz] ++ cap) (va.toList ++ [Value.func (.yield (w.heap.size + 1)) #[] #[]] ++ vc.toList) :=
      RVs.append (RVs.append (RVs.mono hE01.le _ _ ha) ⟨_, [], rfl, ⟨hsz, ⟨_, rfl⟩, fun _ => ⟨_, hnew, rfl⟩⟩, rfl⟩) (RVs.mono hE01.le _ _ hcp)
    rw [hgs] at hcl
    rcases hcall _ _ _ _ _ _ hcl _ _ _ R1 hargs with ⟨_, _, _, hno, _⟩ | ⟨hrun, hC⟩
    · rw [hbody] at hno; cases hno
    refine ⟨w.heap.size + 1, [{ target := .collected w.heap.size, args := #[] }], (w.alloc (.deferred (some []))).alloc (.loop rc), { target := .fn (.func g) vc, args := va ++ #[Value.func (.yield (w.heap.size + 1)) #[] #[]] }, (w.alloc (.deferred (some []))).alloc (.loop rc), g,
      (va.toList ++ [Value.func (.yield (w.heap.size + 1)) #[] #[]] ++ vc.toList).toArray, (w.alloc (.deferred (some []))).alloc (.loop rc), by rw [hrc]; exact run_enterLoop_outer _ _ _ _ _, ?_, fun _ _ => trivial, ?_, fun h => (by cases h), FR.calls (rd := none) (Calls.mono hC ?_)⟩
    · simp only [resolve, hfv, Deferred.ofValue]
      simp [Act.eval]
    · have : (va ++ #[Value.func (.yield (w.heap.size + 1)) #[] #[]] ++ vc) = (va.toList ++ [Value.func (.yield (w.heap.size + 1)) #[] #[]] ++ vc.toList).toArray := by
        apply Array.toList_inj.1
        simp
      show (callFunc g (va ++ #[Value.func (.yield (w.heap.size + 1)) #[] #[]] ++ vc)).run C.P _ = _
      rw [this]
      exact hrun
    · rintro e w3 ⟨z, Γ2, rfl, hz, R2, E2⟩
      have hbk := E2.le.same H.sz (w.heap.size + 1) hsz
      unfold loopEnd at h
      simp only at h
      split at h
      · rename_i ps' as' bd' s' st hg2
        rw [applyK_eq] at h
        have hv2 : H2.ver H.sz = 0 := by simp [Heap.ver, hg2, AObj.ver]
        have hb2 := (hbk (hv2.trans hvn.symm) hnew).1
        have hsz2 : H.sz < H2.sz := Nat.lt_of_lt_of_le hsz E2.le.sz
        obtain ⟨r2, hw2, _, _, _, _, hst⟩ := R2.loop hsz2 hb2 hg2
        have hnb : r2.state ≠ .busy := by
          match st, hst with
          | 0, q => rw [q.1]; simp
          | 1, _ => cases h
          | 2, q => rw [q.1]; simp
          | n + 3, q => rw [q.1]; simp
        have hend := run_endLoop (P := C.P) hw2 hnb
        obtain ⟨R3, E3⟩ := R2.loopGone (lim := lim) (o := .loop { r2 with state := .exhausted }) hlim hsz2 hb2 hg2 hw2
        obtain ⟨W4, hW4⟩ : ∃ W4, w3.putObj (w.heap.size + 1) (.loop { r2 with state := .exhausted }) = W4 := ⟨_, rfl⟩
        rw [hW4] at hend R3 E3
        have Eall := hE01.trans (E2.trans E3)
        have hMm : Marks base (Γ.upd H.sz (w.heap.size + 1) 0) (H.new (.loop ps as b s 0)) ((w.alloc (.deferred (some []))).alloc (.loop rc)) ([{ target := .collected w.heap.size, args := #[] }] ++ a.defers) := by
          refine ⟨⟨w.heap.size, rfl, hb, by simp; omega, ?_, fun l hl e => ?_, fun d hd e => ?_⟩, hM.ext hE01⟩
          · exact ((Chg.alloc _ (.loop rc)).other _ (by simp)).trans hc0.here
          · rw [Heap.sz_new] at hl
            by_cases e' : l = H.sz
            · rw [e', hnew] at e
              have := Option.some.inj e
              omega
            · exact hfr0 l (by omega) (by simpa [Gh.upd, e'] using e)
          · have := hM.lt d hd _ e
            omega
        have hM3 := hMm.ext (E2.trans E3)
        refine ⟨r2.pending, W4, hend, ?_⟩
        match st, hst, h with
        | 0, q, h => rw [q.2]; exact hQ .normal s _ Γ2 _ _ h Eall R3 (hS.mono Eall.le) hM3
        | 1, _, h => cases h
        | 2, q, h => rw [q.2]; exact wpIn_ret (hQ .ret s _ Γ2 _ _ h Eall R3 (hS.mono Eall.le) hM3)
        | n + 3, q, h => rw [q.2]; exact wpIn_exit (hQ (.exit n) s _ Γ2 _ _ h Eall R3 (hS.mono Eall.le) hM3)
      · cases h
  | scope b _ => intro s H κ r h; cases h
  | goto l => intro s H κ r h; cases h
  | refuse y => intro s H κ r h; cases h

end
end Go.Ev
