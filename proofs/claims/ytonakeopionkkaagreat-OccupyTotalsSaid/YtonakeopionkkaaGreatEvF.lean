/- EvF: the evaluator is right: calls. -/
import Derived.Test.YtonakeopionkkaaGreatEvFA
import Derived.Laws.Externs
import Derived.Laws.LoneSync
set_option linter.unusedVariables false
set_option linter.unusedSimpArgs false
namespace Go.Ev
open Go.RowKit
section
variable {C : Ctx} {w0 : World} {lim : Nat}
/-- The results. -/
def resSem (tmps : Array Value) : ResultVar → Sem Value
  | .tmp t => pure (tmps.getD t undef)
  | .cell a t => do loadVar t (← asAddr (tmps.getD a undef))
theorem results_eq (fn : Func) (tmps : Array Value) : results fn tmps = (do
    let vs ← fn.results.mapM (resSem tmps)
    pure (if h : vs.size = 1 then vs[0] else .tuple vs)) := by
  unfold results
  have e : resSem tmps = fun x => (match x with
      | .tmp t => pure (tmps.getD t undef)
      | .cell a t => do loadVar t (← asAddr (tmps.getD a undef))) := by
    funext x
    cases x <;> rfl
  rw [e]
  rfl
theorem resA_list {Γ : Gh} {H : Heap} {w : World} {s : Slots} {a : Act} (hρ : Reads C w0) (R : Rel C.P w0 Γ H w) (hS : RS Γ H s a) : ∀ (l : List ResultVar) (vs : List AV), l.mapM (resA1 C s H) = some vs →
    ∃ us, (l.mapM (resSem a.tmps)).run C.P w = .ok us w ∧ RVs Γ H vs us
  | [], vs, h => by simp at h; subst h; exact ⟨[], by simp, rfl⟩
  | v :: l, vs, h => by
    simp only [List.mapM_cons, Option.bind_eq_bind, Option.pure_def] at h
    obtain ⟨y, hy, h⟩ := bind_some h
    obtain ⟨ys, hys, h⟩ := bind_some h
    obtain rfl := Option.some.inj h
    obtain ⟨us, hus, hr⟩ := resA_list hρ R hS l ys hys
    have one : ∀ z, (resSem a.tmps v).run C.P w = .ok z w → ((v :: l).mapM (resSem a.tmps)).run C.P w = .ok (z :: us) w := fun z hz => by
      simp only [List.mapM_cons, Sem.run_bind, hz, Result.andThen_ok, hus, Sem.run_pure]
    cases v with
    | tmp t =>
      obtain rfl := Option.some.inj hy
      exact ⟨a.tmps.getD t undef :: us, one _ rfl, _, _, rfl, hS.opr (.tmp t), hr⟩
    | cell x t =>
      obtain ⟨z, hz, hrz⟩ := loadA_sound hρ R hy (hS.opr (.tmp x))
      refine ⟨z :: us, one _ ?_, _, _, rfl, hrz, hr⟩
      have e : a.eval (.tmp x) = a.tmps.getD x undef := rfl
      rw [e] at hz
      simp only [Instr.loadAt] at hz
      simp only [resSem]
      generalize a.tmps.getD x undef = q at hz
      cases q with
      | pointer p =>
        cases p with
        | some p => exact hz
        | none => simp [Instr.sureAddr, Result.andThen] at hz
      | _ => simp [Instr.sureAddr, Result.andThen] at hz
theorem resA_sound {Γ : Gh} {H : Heap} {w : World} {s : Slots} {a : Act} {fn : Func} {v : AV} (hρ : Reads C w0) (R : Rel C.P w0 Γ H w) (hS : RS Γ H s a) (h : resA C fn s H = some v) : Fine C.P Γ H w v (results fn a.tmps) := by
  unfold resA at h
  obtain ⟨vs, hvs, hv⟩ := map_some h
  obtain ⟨us, hus, hr⟩ := resA_list hρ R hS _ _ hvs
  have hrun : (fn.results.mapM (resSem a.tmps)).run C.P w = .ok us.toArray w := by
    rw [Array.mapM_eq_mapM_toList]
    simp only [Sem.run_map, hus, Result.andThen_ok]
  have hl := RVs.length hr
  refine ⟨if h : us.toArray.size = 1 then us.toArray[0] else .tuple us.toArray, ?_, ?_⟩
  · rw [results_eq]
    simp only [Sem.run_bind, hrun, Result.andThen_ok, Sem.run_pure]
  · rw [← hv]
    split
    · rename_i y
      obtain ⟨x, z, rfl, h1, h2⟩ := hr
      obtain rfl := h2
      simpa using h1
    · rename_i hne
      have : ¬ us.toArray.size = 1 := by
        intro e
        simp at e
        rw [e] at hl
        cases vs with
        | nil => simp at hl
        | cons y ys =>
          cases ys with
          | nil => exact hne y rfl
          | cons _ _ => simp at hl
      rw [dif_neg this]
      exact ⟨us.toArray, rfl, by simpa using hr⟩

/-- What a call made may be forgotten, where it changed nothing that was there. -/
theorem forget {Γ Γ' : Gh} {H H' : Heap} {w w' : World} {v : AV} {x : Value} (R : Rel C.P w0 Γ H w) (R' : Rel C.P w0 Γ' H' w') (E : Ext H.sz Γ H w Γ' H' w') (hu : v.under H.sz = true) (hv : RV Γ' H' v x) (lim : Nat) :
    RV Γ H v x ∧ Rel C.P w0 Γ H w' ∧ Ext lim Γ H w Γ H w' := by
  have hk : ∀ l, l < H.sz → H'.get l = H.get l ∧ Γ'.blk l = Γ.blk l ∧ Γ'.spare l = Γ.spare l ∧ ∀ b, Γ.blk l = some b → w'.heap[b]? = w.heap[b]? := fun l hl => E.keep l hl (.inl hl)
  refine ⟨RV.under (Nat.le_refl _) (fun l hl => ?_) v x hu hv, ⟨R'.below, fun l b hl hb => ?_, R.inj⟩, Le.refl _ _, fun l hl _ => ⟨rfl, rfl, rfl, (hk l hl).2.2.2⟩, fun b hb hf => ⟨(E.frame b hb hf).1, hf⟩, E.size⟩
  · obtain ⟨e1, e2, e3, _⟩ := hk l hl
    exact ⟨by simp [Heap.ver, e1], e2, e3⟩
  · obtain ⟨h1, h2, h3⟩ := R.obj l b hl hb
    exact ⟨h1, Nat.lt_of_lt_of_le h2 E.size, h3.mono (Le.refl _ _) ((hk l hl).2.2.2 b hb) rfl⟩

/-- What the program's functions without a body are. -/
def XK.sem : XK → Array Value → Sem Value
  | .load k => Extern.Atomic.loadT (.int k)
  | .store => Extern.Atomic.storeT
  | .cas k => Extern.Atomic.casT (.int k)
  | .add k => Extern.Atomic.update (Op.intArith .add) k true
  | .same => Extern.AbiNoEscape.same
  | .nozero ps t => Extern.BytealgMakeNoZero.makeNoZero ps #[t]
def ExtOK (C : Ctx) : Prop := ∀ f k, C.ext f = some k → ∃ fn, C.P.funcs[f]? = some fn ∧ (fn.name == "runtime.NumGoroutine") = false ∧ fn.body.isNone = true ∧ Extern.findNext fn = none ∧ Extern.find fn = some k.sem
/-- The cell of an own place that may be written. -/
theorem cell_there {P : Program} {Γ : Gh} {H : Heap} {w : World} {l v o : Nat} {x : AV} {u : Value} {f : Eff} (R : Rel P w0 Γ H w) (h : storeN lim H [x] (.ptr l v o) = some f) (ha : RV Γ H (.ptr l v o) u) :
    ∃ a, u = .pointer (some a) ∧ w.frozen? a = false ∧ x.solid = true ∧ ∀ c y, H.cellsAt l v = some c → c[o]? = some y → ∃ z, w.cell? a = some z ∧ RV Γ H y z := by
  simp only [storeN] at h
  obtain ⟨_, h⟩ := cond_some h
  split at h
  · rename_i v' e fr g c hg
    obtain ⟨h1, _⟩ := cond_some h
    simp only [Bool.and_eq_true, beq_iff_eq] at h1
    obtain ⟨⟨⟨⟨e1, e2⟩, e3⟩, e4⟩, e5⟩ := h1
    have e6 : fr = (0, 0) := Prod.ext (Nat.eq_of_beq_eq_true e4) (Nat.eq_of_beq_eq_true e5)
    have hca : H.cellsAt l v = some c := by simp [Heap.cellsAt, hg, e1]
    obtain ⟨b, c', e', fr', g', sz, rfl, hb, hl, hg', hw, hsz, _, _, hr⟩ := R.block hca ha
    rw [hg] at hg'
    cases hg'
    subst e6
    refine ⟨_, rfl, by simp [World.frozen?, hw], by simpa using e3, fun d y hd hy => ?_⟩
    rw [hca] at hd
    obtain rfl := Option.some.inj hd
    obtain ⟨z, hz, hrz⟩ := RVs.get hr _ _ hy
    refine ⟨z, ?_, hrz⟩
    simp only [List.getElem?_take] at hz
    split at hz
    · simp only [World.cell?, hw]; simpa using hz
    · cases hz
  · cases h
theorem store_again {P : Program} {w w' : World} {a : Addr} {v z : Value} {m : Mode} (h : (storeCells a [v]).run P w = .ok () w') (h1 : v.oneCell' = true) (hc : w.cell? a = some z) (hf : w.frozen? a = false) : (store a v m).run P w = .ok () w' := by
  have ha : a.add 0 = a := by simp [Addr.add]
  simp only [storeCells, ha, Sem.run_bind, run_store P w a v _ h1, hc, hf, Bool.false_eq_true, if_false, Result.andThen_ok, Sem.run_pure] at h ⊢
  exact h
theorem cells_one {H : Heap} {l v o : Nat} {x : AV} {f : Eff} (h : storeN lim H [x] (.ptr l v o) = some f) : ∃ c y, H.cellsAt l v = some c ∧ c[o]? = some y := by
  simp only [storeN] at h
  obtain ⟨_, h⟩ := cond_some h
  split at h
  · rename_i v' e fr g c hg
    obtain ⟨h1, _⟩ := cond_some h
    simp only [Bool.and_eq_true, beq_iff_eq] at h1
    have hle := Nat.le_of_ble_eq_true h1.1.1.1.2
    have hlt : o < c.length := by
      have : o + 1 ≤ c.length := by simpa using hle
      omega
    exact ⟨c, c[o], by simp [Heap.cellsAt, hg, h1.1.1.1.1], by simp [hlt]⟩
  · cases h
theorem lit31 {α : Type} {n : Nat} (a b c : α) (h1 : #[a, b, c].size = n) (h2 : 1 < n) : #[a, b, c].getLit 1 h1 h2 = b := rfl
theorem lit32 {α : Type} {n : Nat} (a b c : α) (h1 : #[a, b, c].size = n) (h2 : 2 < n) : #[a, b, c].getLit 2 h1 h2 = c := rfl
theorem lit21 {α : Type} {n : Nat} (a b : α) (h1 : #[a, b].size = n) (h2 : 1 < n) : #[a, b].getLit 1 h1 h2 = b := rfl
theorem externA_sound {k : XK} {args : List AV} {vs : List Value} {Γ : Gh} {H : Heap} {w : World} {r : AV × Eff} (R : Rel C.P w0 Γ H w) (hv : RVs Γ H args vs) (h : externA C.P lim H k args = some r) : Good C.P w0 lim Γ H w r.1 r.2 (k.sem vs.toArray) := by
  have num : ∀ {l v o : Nat} {u : Value} {c : List AV} {k' : IntKind} {n : Int}, RV Γ H (.ptr l v o) u → H.cellsAt l v = some c → c[o]? = some (.int k' n) → ∃ a, u = .pointer (some a) ∧ w.cell? a = some (.int k' n) := by
    intro l v o u c k' n hu hc hy
    obtain ⟨b, c', e, fr, g, sz, rfl, hb, hl, hg, hw, hsz, _, _, hr⟩ := R.block hc hu
    obtain ⟨z, hz, hrz⟩ := RVs.get hr _ _ hy
    simp only [RV] at hrz; subst hrz
    refine ⟨_, rfl, ?_⟩
    simp only [List.getElem?_take] at hz
    split at hz
    · simp only [World.cell?, hw]; simpa using hz
    · cases hz
  unfold externA at h
  split at h
  · rename_i k l v o
    obtain ⟨u, _, rfl, h1, rfl⟩ := hv
    obtain ⟨c, hc, h⟩ := bind_some h
    split at h
    · rename_i k' n hy
      obtain ⟨hk, h⟩ := cond_some h
      have hk : k' = k := of_decide_eq_true hk
      obtain rfl := Option.some.inj h
      obtain ⟨a, rfl, hcell⟩ := num h1 hc hy
      refine ⟨.int k' n, w, Γ, ?_, rfl, R, Ext.refl _ _ _ _⟩
      subst hk
      show (do Extern.Atomic.read (.int k') (← asAddr (.pointer (some a))) : Sem Value).run C.P w = _
      simp [Extern.Atomic.read, asAddr, hcell]
    · cases h
  · rename_i l v o x
    obtain ⟨u, _, rfl, h1, y, _, rfl, h2, rfl⟩ := hv
    obtain ⟨f, hf, rfl⟩ := map_some h
    obtain ⟨a, ha, hfz, hsol, hcell⟩ := cell_there R hf h1
    obtain ⟨c, z, hc, hz⟩ := cells_one hf
    obtain ⟨q, hq, _⟩ := hcell c z hc hz
    obtain ⟨p, w', hp, hst, hR, hE⟩ := storeN_sound (us := [y]) R hf h1 ⟨y, [], rfl, h2, rfl⟩
    subst ha
    cases hp
    have hst := store_again (m := .atomic) hst (RV.oneCell hsol h2) hq hfz
    refine ⟨.tuple #[], w', Γ, ?_, ⟨#[], rfl, rfl⟩, hR, hE⟩
    show (do
      store (← asAddr (.pointer (some a))) y .atomic
      pure Extern.Atomic.none_ : Sem Value).run C.P w = _
    simp only [asAddr, Sem.run_bind, Sem.run_pure, Result.andThen_ok, hst]
    rfl
  · rename_i k l v o ka x kb y
    obtain ⟨u, _, rfl, h1, p1, _, rfl, h2, p2, _, rfl, h3, rfl⟩ := hv
    simp only [RV] at h2 h3
    subst h2; subst h3
    obtain ⟨c, hc, h⟩ := bind_some h
    split at h
    · rename_i k' n hy
      obtain ⟨hk, h⟩ := cond_some h
      simp only [Bool.and_eq_true, decide_eq_true_eq] at hk
      obtain ⟨⟨e1, e2⟩, e3⟩ := hk
      obtain ⟨f, hf, hz⟩ := bind_some h
      clear h
      obtain ⟨a, rfl, hcell⟩ := num h1 hc hy
      obtain ⟨a', ha', hfz, _, _⟩ := cell_there R hf h1
      cases ha'
      subst e1; subst e2; subst e3
      have hnv : (Extern.Atomic.touchesFrozen a).run C.P w = .ok false w := by
        simp [Extern.Atomic.touchesFrozen, viewAt, World.shape?_isSome_of_cell? hcell, hfz]
      cases hn : (n == x) with
      | true =>
        simp only [hn, cond_true] at hz
        have hn : n = x := by simpa using hn
        subst hn
        obtain rfl := Option.some.inj hz
        obtain ⟨p, w', hp, hst, hR, hE⟩ := storeN_sound (us := [.int _ y]) R hf h1 ⟨_, [], rfl, rfl, rfl⟩
        cases hp
        have hst := store_again (m := .atomic) hst rfl hcell hfz
        refine ⟨.bool true, w', Γ, ?_, rfl, hR, hE⟩
        show Sem.run C.P (bind (asAddr (.pointer (some a))) _) w = _
        simp [lit31, lit32, hnv, Extern.Atomic.read, asAddr, hcell, hst]
      | false =>
        simp only [hn, cond_false] at hz
        obtain rfl := Option.some.inj hz
        have hn : ¬ n = x := by simpa using hn
        refine ⟨.bool false, w, Γ, ?_, rfl, R, Ext.refl _ _ _ _⟩
        show Sem.run C.P (bind (asAddr (.pointer (some a))) _) w = _
        simp [lit31, lit32, hnv, Extern.Atomic.read, asAddr, hcell, hn]
    · cases h
  · rename_i k l v o ky y
    obtain ⟨u, _, rfl, h1, p1, _, rfl, h2, rfl⟩ := hv
    simp only [RV] at h2
    subst h2
    obtain ⟨c, hc, h⟩ := bind_some h
    split at h
    · rename_i k' n hy
      obtain ⟨hk, h⟩ := cond_some h
      simp only [Bool.and_eq_true, decide_eq_true_eq] at hk
      obtain ⟨e1, e2⟩ := hk
      obtain ⟨f, hf, rfl⟩ := map_some h
      obtain ⟨a, rfl, hcell⟩ := num h1 hc hy
      obtain ⟨a', ha', hfz, _, _⟩ := cell_there R hf h1
      cases ha'
      subst e1; subst e2
      obtain ⟨p, w', hp, hst, hR, hE⟩ := storeN_sound (us := [.int _ (wrapK _ (n + y))]) R hf h1 ⟨_, [], rfl, rfl, rfl⟩
      cases hp
      have hst := store_again (m := .atomic) hst rfl hcell hfz
      refine ⟨.int _ (wrapK _ (n + y)), w', Γ, ?_, rfl, hR, hE⟩
      rw [wrapK_eq] at hst ⊢
      show Sem.run C.P (bind (asAddr (.pointer (some a))) _) w = _
      simp [lit21, Extern.Atomic.read, asAddr, hcell, Go.asInt, asIntOf, Op.intArith, hst]
    · cases h
  · rename_i x
    obtain ⟨u, _, rfl, h1, rfl⟩ := hv
    obtain rfl := Option.some.inj h
    exact ⟨u, w, Γ, rfl, h1, R, Ext.refl _ _ _ _⟩
  · rename_i ps t n
    obtain ⟨u, _, rfl, h1, rfl⟩ := hv
    simp only [RV] at h1
    subst h1
    exact noZeroA_sound (ps := ps) R h
  · cases h
/-- A function's marks are shut one by one. -/
theorem marks_leave {P : Program} {Γ0 Γ : Gh} {H0 H : Heap} {w1 : World} {fn : Func} {tmps : Array Value} {Q : Ending → World → Prop} {m : Nat} (R0 : Rel P w0 Γ0 H0 w1) (hQ : ∀ w, Rel P w0 Γ H w → Ext lim Γ0 H0 w1 Γ H w → ∃ v, (results fn tmps).run P w = .ok v w ∧ Q (.returned v) w) :
    ∀ (ds : List Deferred) (w : World), Rel P w0 Γ H w → Ext lim Γ0 H0 w1 Γ H w → Marks w1.heap.size Γ H w ds → LeavesInM Fence.wide m P fn tmps Q ds .returning w
  | [], w, R, E, _ => hQ w R E
  | d :: ds, w, R, E, ⟨⟨r, h1, h2, h3, h4, h5, h6⟩, hM⟩ => by
    subst h1
    have hc : Chg w (w.putObj r (.deferred none)) r (.deferred none) := putObj_chg h4
    have R' := R.other hc (Nat.le_trans R0.below.size h2) h5
    have E' := Ext.other R0 E hc h2
    refine ⟨by simp, .inl ⟨r, _, rfl, run_takeDeferred h4, marks_leave R0 hQ ds _ R' E' ?_⟩⟩
    have keep : ∀ ds : List Deferred, (∀ d' ∈ ds, d'.target ≠ .collected r) → Marks w1.heap.size Γ H w ds → Marks w1.heap.size Γ H (w.putObj r (.deferred none)) ds := by
      intro ds
      induction ds with
      | nil => intro _ _; trivial
      | cons d ds ih =>
        rintro hd ⟨⟨q, g1, g2, g3, g4, g5, g6⟩, g⟩
        have hne : q ≠ r := fun e => hd d (by simp) (by rw [g1, e])
        exact ⟨⟨q, g1, g2, Nat.lt_of_lt_of_le g3 hc.size, (hc.other q hne).trans g4, g5, g6⟩, ih (fun d' hd' => hd d' (by simp [hd'])) g⟩
    exact keep ds h6 hM
theorem setArgs_sound {Γ : Gh} {H : Heap} : ∀ (ps : List Tmp) (as : List AV) (vs : List Value) (s : Slots) (t : Array Value), RVs Γ H as vs → RVs Γ H s t.toList → RVs Γ H (setArgs ps as s) ((ps.zip vs).foldl (fun tmps (t, a) => tmps.setIfInBounds t a) t).toList
  | [], as, vs, s, t, _, hs => by simpa [setArgs] using hs
  | p :: ps, [], vs, s, t, ha, hs => by
    obtain rfl := ha
    simpa [setArgs] using hs
  | p :: ps, a :: as, vs, s, t, ha, hs => by
    obtain ⟨v, vs', rfl, h1, h2⟩ := ha
    simp only [setArgs, List.zip_cons_cons, List.foldl_cons]
    exact setArgs_sound ps as vs' _ _ h2 (RS.put (a := { tmps := t, defers := [] }) hs (some p) h1)
theorem evCall1_sound {call : CallF} {yc : YieldF} {k : Nat} (hρ : Reads C w0) (hm : C.P.follows .mixedOrders = true) (hx : ExtOK C) (ih : CallsOK C w0 call) (ihy : YieldsOK C w0 yc) {lim : Nat} {f : FuncId} {args : List AV} {H H1 : Heap} {v : AV}
    (h : ((C.P.funcs[f]?).bind fun fn => bif fn.name == "runtime.NumGoroutine" then none else match fn.body with
      | none => (C.ext f).bind fun x => (externA C.P lim H x args).bind fun r => applyK C.strict H r.2 fun H => some (r.1, H)
      | some c => bif C.pur f then
          ((ev C call yc false f H.sz k c (args ++ List.replicate (fn.ntmps - args.length) (.tup [])) H (finish C fn)).bind fun r => bif AV.under H.sz r.1 then some (r.1, H) else none)
        else ev C call yc false f lim k c (args ++ List.replicate (fn.ntmps - args.length) (.tup [])) H (finish C fn)) = some (v, H1))
    {Γ : Gh} {w : World} {vs : List Value} (R : Rel C.P w0 Γ H w) (hv : RVs Γ H args vs) : CallOK C.P w0 lim Γ H w f vs.toArray v H1 := by
  obtain ⟨fn, hfn, h⟩ := bind_some h
  obtain ⟨hname, h⟩ := cond_none h
  have hname' : fn.name ≠ "runtime.NumGoroutine" := by simpa using hname
  split at h
  · rename_i hb
    obtain ⟨x, hxf, h⟩ := bind_some h
    obtain ⟨q, hq, h⟩ := bind_some h
    rw [applyK_eq] at h
    obtain ⟨fn', hfn', h1, h2, h3, h4⟩ := hx f x hxf
    rw [hfn] at hfn'
    obtain rfl := Option.some.inj hfn'
    obtain ⟨y, w', Γ', hrun, hy, hR, hE⟩ := externA_sound (lim := lim) R hv hq
    cases h
    exact .inl ⟨y, w', Γ', by simp [hasBody, hfn, hb], by rw [run_callFunc_extern hfn h1 h2 h3 h4]; simp [hrun], hy, hR, hE⟩
  · rename_i c hb
    refine .inr ⟨by simp [callFunc, hfn, hname', hb], ?_⟩
    have body : ∀ (lim : Nat) (r : AV × Heap), ev C call yc false f lim k c (args ++ List.replicate (fn.ntmps - args.length) (.tup [])) H (finish C fn) = some r →
        Calls C.P f vs.toArray w fun e w' => ∃ x Γ', e = .returned x ∧ RV Γ' r.2 r.1 x ∧ Rel C.P w0 Γ' r.2 w' ∧ Ext lim Γ H w Γ' r.2 w' := by
      intro lim r h
      refine (callsIn_wide (n := 0)).1 (callsIn_of_wp_marks hfn hb trivial ?_)
      have hl := RVs.length hv
      refine ev_sound (rd := none) (base := w.heap.size) hρ hm ih ihy (fun _ => rfl) R.below.size c _ H _ r h Γ _ w _ R ?_ trivial (Nat.le_refl _) fun e s' H' Γ' a' w' hk hE hR hS hM => ?_
      · show RVs Γ H _ (vs.toArray ++ Array.replicate (fn.ntmps - vs.toArray.size) undef).toList
        rw [Array.toList_append]
        refine RVs.append (by simpa using hv) ?_
        have : args.length = vs.toArray.size := by simpa using hl
        rw [this, Array.toList_replicate]
        generalize fn.ntmps - vs.toArray.size = m
        induction m with
        | zero => exact rfl
        | succ m ihm => exact ⟨undef, _, rfl, RV.undef, ihm⟩
      · have leave : ∀ v', resA C fn s' H' = some v' → (v', H') = r → LeavesInM Fence.wide 0 C.P fn a'.tmps (fun e w' => ∃ x Γ', e = .returned x ∧ RV Γ' r.2 r.1 x ∧ Rel C.P w0 Γ' r.2 w' ∧ Ext lim Γ H w Γ' r.2 w') a'.defers .returning w' := by
          rintro v' hv' rfl
          exact marks_leave (lim := lim) R (fun w2 R2 E2 => by
            obtain ⟨z, hz, hr⟩ := resA_sound hρ R2 hS hv'
            exact ⟨z, hz, z, Γ', rfl, hr, R2, E2⟩) _ _ hR hE hM
        cases e with
        | exit id => cases hk
        | normal =>
          obtain ⟨v', hv', hk⟩ := bind_some hk
          rw [strA?_eq] at hk
          exact leave v' hv' (Option.some.inj hk)
        | ret =>
          obtain ⟨v', hv', hk⟩ := bind_some hk
          rw [strA?_eq] at hk
          exact leave v' hv' (Option.some.inj hk)
    cases hp : C.pur f with
    | true =>
      rw [hp] at h
      obtain ⟨r, hr, h⟩ := bind_some (by simpa using h)
      obtain ⟨hu, h⟩ := cond_some h
      cases h
      refine Calls.mono (body H.sz r hr) fun e w' ⟨x, Γ', he, hx, hR, hE⟩ => ?_
      obtain ⟨g1, g2, g3⟩ := forget R hR hE hu hx lim
      exact ⟨x, Γ, he, g1, g2, g3⟩
    | false =>
      rw [hp] at h
      exact body lim (v, H1) (by simpa using h)
theorem evYield_sound {call : CallF} {yc : YieldF} {k : Nat} (hρ : Reads C w0) (hm : C.P.follows .mixedOrders = true) (ih : CallsOK C w0 call) (ihy : YieldsOK C w0 yc) : YieldsOK C w0 (evYield C call yc k) := by
  intro lim l args H v H1 h Γ w vs u n R hv hu
  unfold evYield at h
  split at h
  · rename_i ps as bd s hg
    obtain ⟨h1, h⟩ := cond_some h
    simp only [Bool.and_eq_true] at h1
    have hlim := Nat.le_of_ble_eq_true h1.1
    have hlen := Nat.eq_of_beq_eq_true h1.2
    obtain ⟨hl, _, hq⟩ := hu
    have hver : ∀ {G : Heap} {ps : Array Tmp} {as bd : Code} {s : List AV} {st : Nat}, G.get l = .loop ps as bd s st → G.ver l = 0 := fun e => by simp [Heap.ver, e, AObj.ver]
    obtain ⟨b, hb, rfl⟩ := hq (hver hg)
    obtain ⟨rc, hw, e1, e2, e3, hrs, hst⟩ := R.loop hl hb hg
    have hvl := RVs.length hv
    have hsize : vs.toArray.size = rc.params.size := by rw [e1, ← hlen]; simpa using hvl.symm
    refine ⟨b, rfl, rc.fn, _, rc.assign, rc.body, run_yield hw hsize, ?_⟩
    refine roundIn_of_wpIn (F := Fence.wide) trivial ?_
    rw [e2]
    have hS : RS Γ H (setArgs ps.toList args s) { tmps := (rc.params.zip vs.toArray).foldl (fun tmps (t, a) => tmps.setIfInBounds t a) rc.tmps, defers := [] } := by
      have := setArgs_sound ps.toList args vs s rc.tmps hv hrs
      show RVs Γ H _ (Array.toList _)
      rw [e1, ← Array.foldl_toList, Array.toList_zip]
      simpa using this
    refine ev_sound (rb := true) (rd := some b) (base := w.heap.size) hρ hm ih ihy (fun e => by cases e) R.below.size as _ H _ (v, H1) h Γ _ w _ R hS trivial (Nat.le_refl _) fun e s' H' Γ' a' w' hk hE hR hS' hM' => ?_
    cases e with
    | exit id => cases hk
    | ret => cases hk
    | normal =>
      simp only at hk
      split at hk
      · rename_i ps2 as2 bd2 s2 hg2
        rw [applyK_eq] at hk
        have hl2 : l < H'.sz := Nat.lt_of_lt_of_le hl hE.le.sz
        have hb2 := (hE.le.same l b hl (by rw [hver hg2, hver hg]) hb).1
        obtain ⟨r2, hw2, f1, f2, f3, f4, f5⟩ := hR.loop hl2 hb2 hg2
        obtain ⟨R3, E3⟩ := hR.loopPut (lim := lim) (st' := 1) (r' := { r2 with state := .busy }) hlim hl2 hb2 hg2 hw2 f1 f2 f3 f4 ⟨rfl, f5.2⟩
        refine ⟨_, run_beginRound hw2 f5.1, ?_⟩
        rw [e3]
        refine ev_sound (rb := true) (rd := some b) (base := w.heap.size) hρ hm ih ihy (fun e => by cases e) R.below.size bd _ _ _ (v, H1) hk Γ' _ _ _ R3 (hS'.mono E3.le) (hM'.ext E3) (Nat.le_trans hE.size E3.size) fun e s'' H'' Γ'' a'' w'' hk2 hE2 hR2 _ _ => ?_
        unfold roundEnd at hk2
        split at hk2
        · rename_i ps3 as3 bd3 s3 hg3
          have hl3 : l < H''.sz := Nat.lt_of_lt_of_le hl2 (E3.trans hE2).le.sz
          have hb3 := ((E3.trans hE2).le.same l b hl2 (by rw [hver hg3, hver hg2]) hb2).1
          obtain ⟨r3, hw3, q1, q2, q3, q4, q5⟩ := hR2.loop hl3 hb3 hg3
          have fin : ∀ (jump : Option Code) (st : Nat), LoopSt st (if jump.isNone then .ready else .done) jump → some (AV.bool jump.isNone, H''.put l (.loop ps3 as3 bd3 s3 st)) = some (v, H1) →
              ∃ v1 w4, (Instr.endRound b jump).run C.P w'' = .ok v1 w4 ∧ ∃ x Γ', Ending.returned v1 = .returned x ∧ RV Γ' H1 v x ∧ Rel C.P w0 Γ' H1 w4 ∧ Ext lim Γ H w Γ' H1 w4 := by
            intro jump st hst hv
            cases hv
            obtain ⟨R4, E4⟩ := hR2.loopPut (lim := lim) (st' := st) (r' := { r3 with state := if jump.isNone then .ready else .done, pending := jump }) hlim hl3 hb3 hg3 hw3 q1 q2 q3 q4 hst
            exact ⟨_, _, run_endRound jump hw3, _, _, rfl, rfl, R4, hE.trans (E3.trans (hE2.trans E4))⟩
          cases e with
          | normal => exact fin none 0 ⟨rfl, rfl⟩ (by simp only [applyK_eq] at hk2; exact hk2)
          | ret => exact fin (some .ret) 2 ⟨rfl, rfl⟩ (by simp only [applyK_eq] at hk2; exact hk2)
          | exit id => exact fin (some (.exit id)) (id + 3) ⟨rfl, rfl⟩ (by simp only [applyK_eq] at hk2; exact hk2)
        · cases hk2
      · cases hk
  · cases h
theorem evCY_sound (hρ : Reads C w0) (hm : C.P.follows .mixedOrders = true) (hx : ExtOK C) : ∀ k, CallsOK C w0 (evCY C k).1 ∧ YieldsOK C w0 (evCY C k).2
  | 0 => ⟨fun _ _ _ _ _ _ h => (by cases h), YieldsOK.none⟩
  | k + 1 => ⟨fun _ _ _ _ _ _ h _ _ _ R hv => evCall1_sound hρ hm hx (evCY_sound hρ hm hx k).1 (evCY_sound hρ hm hx k).2 h R hv, evYield_sound hρ hm (evCY_sound hρ hm hx k).1 (evCY_sound hρ hm hx k).2⟩
theorem evCall_sound (hρ : Reads C w0) (hm : C.P.follows .mixedOrders = true) (hx : ExtOK C) (k : Nat) : CallsOK C w0 (evCall C k) := (evCY_sound hρ hm hx k).1
end
end Go.Ev
