/- EvZB: going through maps and texts; all operations. -/
import Derived.Test.YtonakeopionkkaaGreatEvZU
import Derived.Laws.Build
set_option linter.unusedVariables false
set_option linter.unusedSimpArgs false
namespace Go.Ev
open Go.RowKit
section
variable {C : Ctx} {P : Program} {w0 : World} {Γ : Gh} {H : Heap} {w : World} {lim : Nat}
theorem new_iter {o : AObj} {ob : Obj} (R : Rel P w0 Γ H w) (ho : ROb P (Γ.upd H.sz w.heap.size 0) (H.new o) (w.alloc ob) H.sz w.heap.size o) :
    Rel P w0 (Γ.upd H.sz w.heap.size 0) (H.new o) (w.alloc ob) ∧ Ext lim Γ H w (Γ.upd H.sz w.heap.size 0) (H.new o) (w.alloc ob) :=
  Rel.new 0 R (Chg.alloc w ob) ho
theorem rangeA_sound {t : TypeId} {x : AV} {u : Value} {r : AV × Eff} (R : Rel P w0 Γ H w) (h : rangeA H P t x = some r) (hx : RV Γ H x u) : Good P w0 lim Γ H w r.1 r.2 (Instr.range t u) := by
  unfold rangeA at h
  split at h
  · rename_i s hu
    simp only [RV] at hx; subst hx
    obtain rfl := Option.some.inj h
    obtain ⟨h1, h2⟩ := new_iter (lim := lim) (o := .siter s 0) (ob := .stringIter s 0) R (Chg.alloc w _).here
    exact ⟨_, _, _, by simp [Instr.range, run_underlying hu], RV.newPtr, h1, h2⟩
  · rename_i kt e hu
    simp only [RV] at hx; subst hx
    obtain rfl := Option.some.inj h
    obtain ⟨h1, h2⟩ := new_iter (lim := lim) (o := .iter none 0 [] 0) (ob := .mapIter none 0 #[] 0) R (Chg.alloc w _).here
    exact ⟨_, _, _, by simp [Instr.range, run_underlying hu], RV.newPtr, h1, h2⟩
  · rename_i kt e l hu
    split at h
    · rename_i es c hg
      obtain rfl := Option.some.inj h
      have hx' := hx
      obtain ⟨b, fs, rfl, hb, hl, hw, hf⟩ := R.entries hg hx
      obtain ⟨h1, h2⟩ := new_iter (lim := lim) (o := .iter (some l) c [] c) (ob := .mapIter (some b) c #[] c) R ⟨some b, RV.mono (Le.new _ _ _) _ _ hx', (Chg.alloc w _).here⟩
      exact ⟨_, _, _, by simp [Instr.range, run_underlying hu, getMap hw], RV.newPtr, h1, h2⟩
    · cases h
  · cases h
/-- An own object that is no row of cells. -/
theorem Rel.thing {l : Nat} {u : Value} {o : AObj} (R : Rel P w0 Γ H w) (hg : H.get l = o) (hv : o.ver = 0) (hx : RV Γ H (.ptr l 0 0) u) : ∃ b, u = .pointer (some ⟨b, 0, none⟩) ∧ Γ.blk l = some b ∧ l < H.sz ∧ ROb P Γ H w l b o := by
  obtain ⟨h1, _, _, h3⟩ := hx
  obtain ⟨b, hb, rfl⟩ := h3 (by simp [Heap.ver, hg, hv])
  obtain ⟨_, _, ho⟩ := R.obj l b h1 hb
  rw [hg] at ho
  exact ⟨b, rfl, hb, h1, ho⟩
theorem thing_put {l b : Nat} {o : AObj} {ob ob' : Obj} (R : Rel P w0 Γ H w) (hlim : lim ≤ l) (hl : l < H.sz) (hb : Γ.blk l = some b) (hh : H.get l ≠ .hole) (hv : H.ver l = 0) (hw : w.heap[b]? = some ob) (hn : ∀ c e f, ob ≠ .cells c e f)
    (ho : Le Γ H Γ (H.put l o) → ROb P Γ (H.put l o) { w with heap := w.heap.setIfInBounds b ob' } l b o) :
    (setObj b ob').run P w = .ok () { w with heap := w.heap.setIfInBounds b ob' } ∧ Rel P w0 Γ (H.put l o) { w with heap := w.heap.setIfInBounds b ob' } ∧ Ext lim Γ H w Γ (H.put l o) { w with heap := w.heap.setIfInBounds b ob' } := by
  refine ⟨run_setObj hw hn, ?_⟩
  have hup := Gh.upd_self hb
  have hle : Le Γ H (Γ.upd l b (Γ.spare l)) (H.put l o) := Le.put b _ (by rw [hv]; exact Nat.zero_le _) (fun _ => ⟨hb, rfl⟩)
  have key := Rel.upd (lim := lim) (o := o) (Γ.spare l) R hl hb hlim hh (setObj_chg (o' := ob') hw) (.inl rfl) (by rw [hv]; exact Nat.zero_le _) (fun _ => ⟨rfl, rfl⟩) (by rw [hup]; rw [hup] at hle; exact ho hle)
  rw [hup] at key
  exact key
theorem REnt.filter (p : Nat → Bool) : ∀ {es : List (AV × AV × Nat)} {fs : List MapEntry}, REnt Γ H es fs → REnt Γ H (es.filter fun e => p e.2.2) (fs.filter fun e => p e.born)
  | [], _, h => by rw [h]; rfl
  | x :: r, _, ⟨y, z, hx, ⟨h1, h2, h3⟩, h4⟩ => by
    subst hx
    have ih := REnt.filter p h4
    simp only [List.filter_cons, h3]
    cases p x.2.2
    · simpa using ih
    · simp only [if_true]; exact ⟨y, _, rfl, ⟨h1, h2, h3⟩, ih⟩
theorem REnt.all (p : Nat → Bool) : ∀ {es : List (AV × AV × Nat)} {fs : List MapEntry}, REnt Γ H es fs → fs.all (fun e => p e.born) = es.all (fun e => p e.2.2)
  | [], _, h => by rw [h]; rfl
  | x :: r, _, ⟨y, z, hx, ⟨h1, h2, h3⟩, h4⟩ => by subst hx; simp [h3, REnt.all p h4]
theorem nextA_sound {it : AV} {u : Value} {b : Bool} {r : AV × Eff} (ty : TypeId) (R : Rel P w0 Γ H w) (h : nextA lim H it b = some r) (hx : RV Γ H it u) : Good P w0 lim Γ H w r.1 r.2 (Instr.next u b ty) := by
  have over : ∀ {H' : Heap}, RV Γ H' overA (.tuple #[.bool false]) := ⟨_, rfl, _, _, rfl, rfl, rfl⟩
  unfold nextA at h
  split at h
  · rename_i l
    split at h
    · rename_i s pos hg
      obtain ⟨blk, rfl, hb, hl, ho⟩ := R.thing hg rfl hx
      have hw : w.heap[blk]? = some (.stringIter s pos) := ho
      have hgo : (getObj blk).run P w = .ok (.stringIter s pos) w := by simp [getObj, Sem.run, hw]
      cases hp : decide (pos < s.size) with
      | true =>
        rw [hp] at h
        have hp : pos < s.size := of_decide_eq_true hp
        obtain ⟨hlim, h⟩ := cond_some (by simpa using h)
        have hlim := Nat.le_of_ble_eq_true hlim
        obtain rfl := Option.some.inj h
        obtain ⟨k1, k2, k3⟩ := thing_put (lim := lim) (o := .siter s (pos + (Utf8.decode s pos).2)) (ob' := .stringIter s (pos + (Utf8.decode s pos).2)) R hlim hl hb (by rw [hg]; simp) (by simp [Heap.ver, hg, AObj.ver]) hw (fun _ _ _ h => by cases h) (fun _ => (setObj_chg hw).here)
        refine ⟨.tuple #[.bool true, goInt pos, .int .i32 (Utf8.decode s pos).1], _, Γ, by simp [Instr.next, hgo, hp, k1], ?_, k2, k3⟩
        exact ⟨_, rfl, _, _, rfl, rfl, _, _, rfl, rfl, _, _, rfl, rfl, rfl⟩
      | false =>
        rw [hp] at h
        have hp : ¬ pos < s.size := of_decide_eq_false hp
        obtain rfl := Option.some.inj (by simpa using h)
        exact ⟨_, w, Γ, by simp [Instr.next, hgo, hp], over, R, Ext.refl _ _ _ _⟩
    · rename_i since seen last hg
      obtain ⟨blk, rfl, hb, hl, ho⟩ := R.thing hg rfl hx
      have hw : w.heap[blk]? = some (.mapIter none since seen.toArray last) := ho
      have hgo : (getObj blk).run P w = .ok (.mapIter none since seen.toArray last) w := by simp [getObj, Sem.run, hw]
      obtain rfl := Option.some.inj h
      exact ⟨_, w, Γ, by simp [Instr.next, hgo], over, R, Ext.refl _ _ _ _⟩
    · rename_i m since seen last hg
      obtain ⟨blk, rfl, hb, hl, mr, hm, hw⟩ := R.thing hg rfl hx
      have hgo : (getObj blk).run P w = .ok (.mapIter mr since seen.toArray last) w := by simp [getObj, Sem.run, hw]
      split at h
      · rename_i es c hgm
        obtain ⟨b2, fs, hmb, hb2, hl2, hw2, hf⟩ := R.entries hgm hm
        cases hmb
        obtain ⟨h1, h⟩ := cond_none h
        have hgm' := getMap (P := P) hw2
        have hfl := REnt.filter (fun n => !seen.contains n) hf
        have hall := REnt.all (fun n => decide (n ≥ last)) hf
        have hempty : fs.isEmpty = es.isEmpty := by
          have hsz : fs.size = es.length := by simpa using (REnt.length hf).symm
          simp only [Array.isEmpty, hsz]
          cases es <;> simp
        have hcond : (!seen.toArray.isEmpty && !fs.isEmpty && fs.all fun e => decide (e.born ≥ last)) = false := by
          rw [← Array.all_toList, hall, hempty]; simpa using h1
        have hleft : (fs.filter fun e => !seen.toArray.contains e.born).toList = fs.toList.filter fun e => !seen.contains e.born := by simp
        split at h
        · rename_i hnil
          rw [hnil] at hfl
          have hz : (fs.filter fun e => !seen.toArray.contains e.born) = #[] := by
            apply Array.toList_inj.1; rw [hleft]; exact hfl
          obtain rfl := Option.some.inj h
          refine ⟨.tuple #[.bool false], w, Γ, ?_, over, R, Ext.refl _ _ _ _⟩
          simp only [Instr.next, Sem.run_bind, hgo, Result.andThen_ok, hgm', Sem.run_ite]
          rw [if_neg (by rw [hcond]; simp)]
          simp only [hz]
          simp [Question.forced]
        · rename_i e hone
          rw [hone] at hfl
          obtain ⟨me, rest, hme, ⟨r1, r2, r3⟩, hr⟩ := hfl
          obtain rfl := hr
          have hz : (fs.filter fun e => !seen.toArray.contains e.born) = #[me] := by
            apply Array.toList_inj.1; rw [hleft]; exact hme
          obtain ⟨h2, h⟩ := cond_some h
          simp only [Bool.and_eq_true, decide_eq_true_eq] at h2
          obtain ⟨hsince, hlim⟩ := h2
          have hlim := Nat.le_of_ble_eq_true hlim
          obtain rfl := Option.some.inj h
          obtain ⟨k1, k2, k3⟩ := thing_put (lim := lim) (o := .iter (some m) since (seen ++ [e.2.2]) c) (ob' := .mapIter (some b2) since (seen ++ [me.born]).toArray c) R hlim hl hb (by rw [hg]; simp) (by simp [Heap.ver, hg, AObj.ver]) hw (fun _ _ _ h => by cases h)
            (fun hle => ⟨some b2, RV.mono hle _ _ hm, by rw [r3]; exact (setObj_chg hw).here⟩)
          refine ⟨.tuple #[.bool true, me.key, me.val], _, Γ, ?_, ?_, k2, k3⟩
          · simp only [Instr.next, Sem.run_bind, hgo, Result.andThen_ok, hgm', Sem.run_ite]
            rw [if_neg (by rw [hcond]; simp)]
            have hs' : me.born < since := by rw [r3]; exact hsince
            have hs'' : ¬ since ≤ me.born := by omega
            simp only [hz]
            simp [Question.forced, hs', hs'', k1]
          · exact ⟨_, rfl, _, _, rfl, rfl, _, _, rfl, RV.mono k3.le _ _ r1, _, _, rfl, RV.mono k3.le _ _ r2, rfl⟩
        · cases h
      · cases h
    · cases h
  · cases h
theorem REnt.findBorn (n : Nat) : ∀ {es : List (AV × AV × Nat)} {fs : List MapEntry}, REnt Γ H es fs → ∀ e, es.find? (fun e => e.2.2 == n) = some e → ∃ f, fs.find? (fun e => e.born == n) = some f ∧ RV Γ H e.1 f.key ∧ RV Γ H e.2.1 f.val
  | [], _, _, e, he => by cases he
  | x :: r, _, ⟨y, z, hx, ⟨h1, h2, h3⟩, h4⟩, e, he => by
    subst hx
    simp only [List.find?_cons, h3] at he ⊢
    cases hq : x.2.2 == n with
    | true => rw [hq] at he; obtain rfl := Option.some.inj he; exact ⟨y, rfl, h1, h2⟩
    | false => rw [hq] at he; exact REnt.findBorn n h4 e he
theorem entryA_sound {it v : AV} {u : Value} (R : Rel P w0 Γ H w) (h : entryA H it = some v) (hx : RV Γ H it u) : Fine P Γ H w v (Instr.entry u) := by
  unfold entryA at h
  split at h
  · rename_i l
    split at h
    · rename_i m since seen stepped hg
      obtain ⟨blk, rfl, hb, hl, mr, hm, hw⟩ := R.thing hg rfl hx
      have hgo : (getObj blk).run P w = .ok (.mapIter mr since seen.toArray stepped) w := by simp [getObj, Sem.run, hw]
      split at h
      · rename_i es c stamp hgm hlast
        obtain ⟨b2, fs, hmb, hb2, hl2, hw2, hf⟩ := R.entries hgm hm
        cases hmb
        obtain ⟨h1, h⟩ := cond_some h
        have h1 : c = stepped := by simpa using h1
        obtain ⟨e, he, rfl⟩ := map_some h
        obtain ⟨f, hf1, r1, r2⟩ := REnt.findBorn stamp hf e he
        have hback : seen.toArray.back? = some stamp := by simpa [Array.back?, List.getLast?_eq_getElem?] using hlast
        have hfind : fs.find? (fun e => e.born == stamp) = some f := by rw [← Array.find?_toList]; exact hf1
        refine ⟨.tuple #[f.key, f.val], ?_, _, rfl, _, _, rfl, r1, _, _, rfl, r2, rfl⟩
        subst h1
        simp [Instr.entry, hgo, hback, getMap hw2, hfind]
      · cases h
    · cases h
  · cases h

/-- An operation of the program ends well. -/
def GoodN (P : Program) (w0 : World) (lim : Nat) (Γ : Gh) (H : Heap) (w : World) (v : AV) (f : Eff) (m : Sem Next) : Prop :=
  ∃ nx w' Γ', m.run P w = .ok nx w' ∧ ((∃ x, nx = .value x ∧ RV Γ' (f.on H) v x) ∨ (nx = .skip ∧ v = .tup [])) ∧ Rel P w0 Γ' (f.on H) w' ∧ Ext lim Γ H w Γ' (f.on H) w'
theorem Good.next {v : AV} {f : Eff} {m : Sem Value} (h : Good P w0 lim Γ H w v f m) : GoodN P w0 lim Γ H w v f (do pure (.value (← m))) :=
  let ⟨x, w', Γ', h1, h2, h3, h4⟩ := h
  ⟨.value x, w', Γ', by simp [h1], .inl ⟨x, rfl, h2⟩, h3, h4⟩
theorem Fine.next {v : AV} {m : Sem Value} (R : Rel P w0 Γ H w) (h : Fine P Γ H w v m) : GoodN P w0 lim Γ H w v .nothing (do pure (.value (← m))) := (h.good R).next
theorem done_next {f : Eff} {m : Sem Unit} (h : ∃ w', m.run P w = .ok () w' ∧ Rel P w0 Γ (f.on H) w' ∧ Ext lim Γ H w Γ (f.on H) w') : GoodN P w0 lim Γ H w (.tup []) f (do m; pure .skip) :=
  let ⟨w', h1, h2, h3⟩ := h
  ⟨.skip, w', Γ, by simp [h1], .inr ⟨rfl, rfl⟩, h2, h3⟩
theorem done_good {f : Eff} {m : Sem Value} (h : ∃ w', m.run P w = .ok (.tuple #[]) w' ∧ Rel P w0 Γ (f.on H) w' ∧ Ext lim Γ H w Γ (f.on H) w') : Good P w0 lim Γ H w (.tup []) f m :=
  let ⟨w', h1, h2, h3⟩ := h
  ⟨.tuple #[], w', Γ, h1, ⟨#[], rfl, rfl⟩, h2, h3⟩
theorem nothing_next {x : Option AV} {r : AV × Eff} {m : Sem Value} (R : Rel P w0 Γ H w) (h : x.map Ev.nothing = some r) (hf : ∀ v, x = some v → Fine P Γ H w v m) : GoodN P w0 lim Γ H w r.1 r.2 (do pure (.value (← m))) := by
  obtain ⟨v, hv, rfl⟩ := map_some h
  exact (hf v hv).next R
theorem skips_next {x : Option Eff} {r : AV × Eff} {m : Sem Unit} (h : x.map skips = some r) (hf : ∀ f, x = some f → ∃ w', m.run P w = .ok () w' ∧ Rel P w0 Γ (f.on H) w' ∧ Ext lim Γ H w Γ (f.on H) w') : GoodN P w0 lim Γ H w r.1 r.2 (do m; pure .skip) := by
  obtain ⟨f, hf', rfl⟩ := map_some h
  exact done_next (hf f hf')
theorem builtinA_sound {b : Builtin} {ts : Array TypeId} (ty : TypeId) (consts : Array Bool) {xs : List AV} {us : List Value} {r : AV × Eff} (hρ : Reads C w0) (R : Rel C.P w0 Γ H w) (h : builtinA C lim H b ts xs = some r) (hx : RVs Γ H xs us) :
    GoodN C.P w0 lim Γ H w r.1 r.2 (builtin b ts ty consts us.toArray) := by
  unfold builtinA at h
  split at h
  · rename_i t x ht
    obtain ⟨u, _, rfl, h1, rfl⟩ := hx
    exact nothing_next R h fun v hv => lenBA_sound ts ht ty R hv h1
  · rename_i t x ht
    obtain ⟨u, _, rfl, h1, rfl⟩ := hx
    exact nothing_next R h fun v hv => capBA_sound ts ht ty hv h1
  · rename_i t s x ht
    obtain ⟨u, _, rfl, h1, y, _, rfl, h2, rfl⟩ := hx
    obtain ⟨h3, h⟩ := cond_none h
    split at h3
    · rename_i xt hxt
      split at h3
      · cases h3
      · rename_i d hni hd
        exact (appendA_sound ty hρ R ht hxt hd (fun k e => hni k e) h h1 h2).next
      · cases h3
    · cases h3
  · rename_i t s x ht
    obtain ⟨u, _, rfl, h1, y, _, rfl, h2, rfl⟩ := hx
    exact (copyA_sound ty hρ R ht h h1 h2).next
  · rename_i t s x ht
    obtain ⟨u, _, rfl, h1, y, _, rfl, h2, rfl⟩ := hx
    obtain ⟨f, hf, rfl⟩ := map_some h
    exact (done_good (deleteA_sound ts ht ty R hf h1 h2)).next
  · rename_i t x ht
    obtain ⟨u, _, rfl, h1, rfl⟩ := hx
    obtain ⟨f, hf, rfl⟩ := map_some h
    exact (done_good (clearA_sound ty R ht hf h1)).next
  · rename_i x rest
    obtain ⟨u, y, rfl, h1, h2⟩ := hx
    exact nothing_next R h fun v hv => by
      obtain ⟨z, hz, hr⟩ := foldA_min (P := C.P) (w := w) _ _ x v u h1 h2 hv
      exact ⟨z, by simpa [Builtin.min_] using hz, hr⟩
  · rename_i x rest
    obtain ⟨u, y, rfl, h1, h2⟩ := hx
    exact nothing_next R h fun v hv => by
      obtain ⟨z, hz, hr⟩ := foldA_max (P := C.P) (w := w) _ _ x v u h1 h2 hv
      exact ⟨z, by simpa [Builtin.max_] using hz, hr⟩
  · rename_i x
    obtain ⟨u, _, rfl, h1, rfl⟩ := hx
    exact nothing_next R h fun v hv => sliceDataA_sound ts ty hv h1
  · rename_i t x n ht
    obtain ⟨u, _, rfl, h1, y, _, rfl, h2, rfl⟩ := hx
    obtain ⟨h3, h⟩ := cond_some h
    have h3 := Nat.eq_of_beq_eq_true h3
    obtain ⟨it, rfl⟩ : ∃ it, ts = #[t, it] := by
      obtain ⟨l⟩ := ts
      match l, h3 with
      | [a, b], _ => exact ⟨b, by simp at ht; rw [ht]⟩
    exact (unsafeStringA_sound R h h1 h2).next
  · cases h
theorem opA_sound {s : Slots} {a : Act} {o : Oper} {r : AV × Eff} (hρ : Reads C w0) (R : Rel C.P w0 Γ H w) (hS : RS Γ H s a) (h : opA C lim s H o.op = some r) : GoodN C.P w0 lim Γ H w r.1 r.2 (execOp a.eval o) := by
  have pureCase : ∀ (v : AV) (x : Value), RV Γ H v x → GoodN C.P w0 lim Γ H w v .nothing (pure (.value x) : Sem Next) := fun v x hx => ⟨.value x, w, Γ, rfl, .inl ⟨x, rfl, hx⟩, R, Ext.refl _ _ _ _⟩
  unfold execOp
  cases ho : o.op with
  | move x => rw [ho] at h; obtain rfl := Option.some.inj h; exact pureCase _ _ (hS.opr x)
  | assign x => rw [ho] at h; obtain rfl := Option.some.inj h; exact pureCase _ _ (hS.opr x)
  | pick c x y =>
    rw [ho] at h
    obtain ⟨t, ht, rfl⟩ := map_some h
    have hc := hS.opr c
    cases hq : oprA s c with
    | bool b =>
      rw [hq] at ht hc
      obtain rfl := Option.some.inj ht
      simp only [RV] at hc
      refine ⟨.value (if b then a.eval x else a.eval y), w, Γ, by simp [hc, Go.asBool], .inl ⟨_, rfl, ?_⟩, R, Ext.refl _ _ _ _⟩
      cases b
      · exact hS.opr y
      · exact hS.opr x
    | _ => rw [hq] at ht; cases ht
  | alloc e => rw [ho] at h; exact (allocA_sound R h).next
  | box e x => rw [ho] at h; exact (boxA_sound R h (hS.opr x)).next
  | build t ps =>
    rw [ho] at h
    exact nothing_next R h fun v hv => buildA_sound hv (by simpa using hS.parts ps.toList)
  | buildSlice t n ps => rw [ho] at h; exact (buildSliceA_sound R h (by simpa using hS.parts ps.toList)).next
  | load t x => rw [ho] at h; exact nothing_next R h fun v hv => loadA_sound hρ R hv (hS.opr x)
  | store t x y => rw [ho] at h; exact skips_next h fun f hf => storeA_sound R hf (hS.opr x) (hS.opr y)
  | nilCheck x =>
    rw [ho] at h
    have hx := hS.opr x
    simp only [opA] at h
    split at h
    · rename_i l v p hq
      obtain rfl := Option.some.inj h
      rw [hq] at hx
      have hx' := hx
      obtain ⟨_, _, ⟨p, hp⟩, _⟩ := hx'
      rw [hp] at hx
      simp only [hp]
      exact pureCase _ _ hx
    · rename_i p hq
      obtain rfl := Option.some.inj h
      rw [hq] at hx
      have hx' := hx
      simp only [RV] at hx'
      rw [hx'] at hx
      simp only [hx']
      exact pureCase _ _ hx
    · rename_i f va vc hq
      obtain rfl := Option.some.inj h
      rw [hq] at hx
      have hx' := hx
      obtain ⟨ua, uc, hp, _⟩ := hx'
      rw [hp] at hx
      simp only [hp]
      exact pureCase _ _ hx
    · cases h
  | binOp op t x y t' => rw [ho] at h; exact nothing_next R h fun v hv => binA_sound x y hv (hS.opr x) (hS.opr y)
  | unOp op t x => rw [ho] at h; exact nothing_next R h fun v hv => unA_sound hv (hS.opr x)
  | convert src dst x =>
    rw [ho] at h
    simp only [opA] at h
    split at h
    · rename_i e hs hd
      refine nothing_next R h fun v hv => ?_
      split at hv
      · rename_i he
        obtain ⟨z, hz, hr⟩ := bytesToStrA_sound hρ R hv (hS.opr x)
        refine ⟨z, ?_, hr⟩
        have hx := hS.opr x
        have : ∃ p n c, a.eval x = .slice p n c := by
          unfold bytesToStrA at hv
          split at hv
          · rename_i hq; rw [hq] at hx; simp only [RV] at hx; exact ⟨_, _, _, hx⟩
          · rename_i hq; rw [hq] at hx; obtain ⟨_, _, p, c, hp, _⟩ := hx; exact ⟨_, _, _, hp⟩
          · rename_i hq; rw [hq] at hx; simp only [RV] at hx; exact ⟨_, _, _, hx⟩
          · cases hv
        obtain ⟨p, n, c, hp⟩ := this
        rw [hp] at hz ⊢
        rw [run_convert_bytes_string w src dst e p n c hs he hd]; exact hz
      · cases hv
    · exact nothing_next R h fun v hv => unsafeA_sound R hv (hS.opr x)
    · exact nothing_next R h fun v hv => unsafeA_sound R hv (hS.opr x)
    · exact nothing_next R h fun v hv => convA_sound hv (hS.opr x)
  | sliceToArrayPointer t x => rw [ho] at h; cases h
  | makeInterface t x =>
    rw [ho] at h
    simp only [opA] at h
    split at h
    · cases h
    · rename_i d hn hd
      obtain rfl := Option.some.inj h
      refine (Fine.next R ⟨.iface t (a.eval x), ?_, _, rfl, hS.opr x⟩)
      have hcon : C.P.concrete t = true := by
        unfold Program.concrete; rw [hd]
        cases d <;> first | rfl | exact absurd rfl (hn _)
      exact run_makeInterface w t _ hcon
    · cases h
  | makeFunc f x y =>
    rw [ho] at h
    obtain rfl := Option.some.inj h
    refine Fine.next R ⟨.func f (x.map a.eval) (y.map a.eval), rfl, _, _, rfl, ?_, ?_⟩
    · simpa using hS.args x.toList
    · simpa using hS.args y.toList
  | makeMap t r' =>
    rw [ho] at h
    cases r' with
    | some _ => cases h
    | none => obtain rfl := Option.some.inj h; exact (makeMapA_sound (t := t) R).next
  | makeChan t x => rw [ho] at h; cases h
  | makeSlice t l c => rw [ho] at h; exact (makeSliceA_sound R h (hS.opr l) (hS.opr c)).next
  | slice t x lo hi mx => rw [ho] at h; exact nothing_next R h fun v hv => sliceA_sound hv (hS.opr x) (hS.opt lo) (hS.opt hi) (hS.opt mx)
  | fieldAddr t x i => rw [ho] at h; exact nothing_next R h fun v hv => fieldAddrA_sound hv (hS.opr x)
  | field t x i => rw [ho] at h; exact nothing_next R h fun v hv => fieldA_sound hv (hS.opr x)
  | indexAddr t x i => rw [ho] at h; exact nothing_next R h fun v hv => indexAddrA_sound hv (hS.opr x) (hS.opr i)
  | index t x i => rw [ho] at h; exact nothing_next R h fun v hv => indexA_sound hv (hS.opr x) (hS.opr i)
  | lookup t x i ok => rw [ho] at h; exact nothing_next R h fun v hv => lookupA_sound R hv (hS.opr x) (hS.opr i)
  | mapUpdate t m k x => rw [ho] at h; exact skips_next h fun f hf => mapPutA_sound R hf (hS.opr m) (hS.opr k) (hS.opr x)
  | insert t m k x => rw [ho] at h; exact skips_next h fun f hf => mapPutA_sound R hf (hS.opr m) (hS.opr k) (hS.opr x)
  | mapEntry t m k => rw [ho] at h; exact (mapEntryA_sound R h (hS.opr m) (hS.opr k)).next
  | entryStore t m k x => rw [ho] at h; exact skips_next h fun f hf => entryStoreA_sound t R hf (hS.opr m) (hS.opr k) (hS.opr x)
  | range t x => rw [ho] at h; exact (rangeA_sound R h (hS.opr x)).next
  | next it b => rw [ho] at h; exact (nextA_sound o.type R h (hS.opr it)).next
  | entry it => rw [ho] at h; exact nothing_next R h fun v hv => entryA_sound R hv (hS.opr it)
  | typeAssert x t t' ok => rw [ho] at h; cases h
  | extract t i =>
    rw [ho] at h
    have hx := hS.opr t
    simp only [opA] at h
    split at h
    · rename_i vs hq
      rw [hq] at hx
      obtain ⟨us, hus, hr⟩ := hx
      refine nothing_next R h fun v hv => ?_
      obtain ⟨z, hz, hr⟩ := RVs.get hr i v hv
      have hz : us[i]? = some z := by simpa using hz
      exact ⟨z, by simp [hus, Instr.extract, hz], hr⟩
    · cases h
  | call c =>
    rw [ho] at h
    obtain ⟨callee, args, ts⟩ := c
    cases callee with
    | builtin b =>
      have hargs := hS.args args.toList
      have := builtinA_sound o.type (args.map fun | .const _ => true | _ => false) hρ R h hargs
      have e : (args.toList.map a.eval).toArray = args.map a.eval := Array.toList_inj.1 (by rw [Array.toList_map])
      rw [e] at this
      exact this
    | value f => cases h
    | invoke x m => cases h
  | go c => rw [ho] at h; cases h
  | defer c => rw [ho] at h; cases h
  | panic x => rw [ho] at h; cases h
  | send c x => rw [ho] at h; cases h
  | recv t c ok => rw [ho] at h; cases h
  | select cs b => rw [ho] at h; cases h
  | ready g => rw [ho] at h; cases h
  | waits g => rw [ho] at h; cases h
end
end Go.Ev
