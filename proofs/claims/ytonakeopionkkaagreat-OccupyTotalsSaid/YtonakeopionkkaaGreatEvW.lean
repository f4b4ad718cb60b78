/- EvW: texts out of bytes; looking into maps. -/
import Derived.Test.YtonakeopionkkaaGreatEvV
import Derived.Laws.BytesString
import Derived.WideKeyRuns
import Derived.MapKept
set_option linter.unusedVariables false
set_option linter.unusedSimpArgs false
namespace Go.Ev
open Go.RowKit

section
variable {C : Ctx} {P : Program} {w0 : World} {Γ : Gh} {H : Heap} {w : World}

theorem bytesOfA_sound : ∀ {cs : List AV} {vs : List Value} {l : List UInt8}, RVs Γ H cs vs → bytesOfA cs = some l → ∃ ns : List Int, vs = ns.map (Value.int .u8) ∧ l = ns.map fun n => UInt8.ofNat n.toNat
  | [], vs, l, hr, h => by obtain rfl := hr; obtain rfl := Option.some.inj h; exact ⟨[], rfl, rfl⟩
  | c :: r, _, l, ⟨x, y, hx, h1, h2⟩, h => by
    subst hx
    cases c
    case int k n =>
      cases k
      case u8 =>
        unfold bytesOfA at h
        obtain ⟨_, h⟩ := cond_some h
        obtain ⟨m, hm, rfl⟩ := map_some h
        obtain ⟨ns, rfl, rfl⟩ := bytesOfA_sound h2 hm
        simp only [RV] at h1; subst h1
        exact ⟨n :: ns, rfl, rfl⟩
      all_goals (simp [bytesOfA] at h)
    all_goals (simp [bytesOfA] at h)
theorem foldl_push : ∀ (ns : List Int) (s : ByteArray), ns.foldl (fun r n => r.push (UInt8.ofNat n.toNat)) s = ⟨s.data ++ (ns.map fun n => UInt8.ofNat n.toNat).toArray⟩
  | [], s => by simp
  | n :: ns, s => by
    rw [List.foldl_cons, foldl_push ns]
    obtain ⟨d⟩ := s
    simp [ByteArray.push]
theorem bytesToStrA_sound {x v : AV} {u : Value} (hρ : Reads C w0) (R : Rel C.P w0 Γ H w) (h : bytesToStrA C H x = some v) (hx : RV Γ H x u) : Fine C.P Γ H w v (Conv.bytesToString u) := by
  have main : ∀ (n : Nat) (p : Addr) (c : Nat), u = .slice (some p) n c → ((firstA C H 1 n x).bind fun cs => (bytesOfA cs).map fun l => AV.str ⟨l.toArray⟩) = some v → Fine C.P Γ H w v (Conv.bytesToString u) := by
    intro n p c hu h
    subst hu
    obtain ⟨cs, hcs, h⟩ := bind_some h
    obtain ⟨l, hl, rfl⟩ := map_some h
    obtain ⟨vs, hrun, hr⟩ := firstA_sound hρ R hcs hx
    obtain ⟨ns, hns, rfl⟩ := bytesOfA_sound hr hl
    have hvs : vs = (ns.map (Value.int .u8)).toArray := by rw [← hns]
    have hrun : (loadCells p n).run C.P w = .ok (ns.map (Value.int .u8)).toArray w := by
      rw [← hvs]; simpa [Builtin.firstCells] using hrun
    refine ⟨_, run_bytesToString w p n c ns hrun, ?_⟩
    rw [foldl_push]
    simp only [RV]
    congr 2
    show #[] ++ _ = _
    simp
  cases x with
  | nils =>
    simp only [RV] at hx; subst hx
    obtain rfl := Option.some.inj h
    exact ⟨.string ByteArray.empty, by simp [Conv.bytesToString], rfl⟩
  | sl l ve o n c m =>
    have hx' := hx
    obtain ⟨_, _, p, c', rfl, _⟩ := hx'
    exact main n p c' rfl (by simpa [bytesToStrA, lenA] using h)
  | xs a n c =>
    have hx' := hx
    simp only [RV] at hx'; subst hx'
    exact main n a c rfl (by simpa [bytesToStrA, lenA] using h)
  | _ => simp [bytesToStrA] at h

-- maps
theorem getMap {b c : Nat} {fs : Array MapEntry} (h : w.heap[b]? = some (.map fs c)) : (getObj b).run P w = .ok (.map fs c) w := by simp [getObj, Sem.run, h]
theorem keyChk_sound (em : Bool) : ∀ (n N : Nat) (t : TypeId) (x : AV) (u : Value), n ≤ N → keyChk P n t x = true → RV Γ H x u → (Instr.checkKey em N t u).run P w = .ok () w := by
  intro n
  induction n with
  | zero => intro N t x u _ h; simp [keyChk] at h
  | succ n ih =>
    intro N t x u hN h hx
    obtain ⟨N, rfl⟩ : ∃ k, N = k + 1 := ⟨N - 1, by omega⟩
    unfold keyChk at h
    split at h
    · rename_i fs hu
      cases x with
      | agg cs =>
        obtain ⟨vs, rfl, hvs⟩ := hx
        simp only at h
        rw [Instr.checkKey]
        simp only [Sem.run_bind, run_underlying hu, Result.andThen_ok]
        rw [← Array.forIn_toList]
        generalize fs.toList = L at h
        induction L with
        | nil => simp
        | cons f L ihL =>
          simp only [List.all_cons, Bool.and_eq_true, Bool.or_eq_true] at h
          obtain ⟨h1, h2⟩ := h
          have ihL := ihL h2
          by_cases hn : f.name = "_"
          · simp only [List.forIn_cons, Sem.run_bind, hn, ne_eq, not_true, if_false, Result.andThen_ok, Sem.run_pure]
            exact ihL
          · rcases h1 with h1 | h1
            · exact absurd (by simpa using h1) hn
            · cases hp : partA P f.type cs f.offset with
              | none => simp [hp] at h1
              | some y =>
                simp [hp] at h1
                obtain ⟨z, hz, hr⟩ := RV.part (P := P) (w := w) hvs hp
                have p2 := ih N f.type y z (by omega) h1 hr
                simp only [List.forIn_cons, Sem.run_bind, hn, ne_eq, not_false_eq_true, if_true, Result.andThen_ok, hz, p2, Sem.run_pure]
                exact ihL
      | _ => simp at h
    · rename_i hu; simp [Instr.checkKey, run_underlying hu]
    · rename_i hu; simp [Instr.checkKey, run_underlying hu]
    · rename_i hu; simp [Instr.checkKey, run_underlying hu]
    · cases h
def RFound (Γ : Gh) (H : Heap) : Option (Nat × AV) → Option (Nat × Value) → Prop
  | none, none => True
  | some (i, a), some (j, v) => i = j ∧ RV Γ H a v
  | _, _ => False
theorem REnt.get : ∀ {es : List (AV × AV × Nat)} {fs : List MapEntry}, REnt Γ H es fs → ∀ (i : Nat) (e : AV × AV × Nat), es[i]? = some e → ∃ f, fs[i]? = some f ∧ RV Γ H e.1 f.key ∧ RV Γ H e.2.1 f.val ∧ f.born = e.2.2
  | [], _, _, i, e, h => by simp at h
  | a :: r, _, ⟨y, z, hx, h1, h2⟩, 0, e, h => by subst hx; simp at h; subst h; exact ⟨y, rfl, h1⟩
  | a :: r, _, ⟨y, z, hx, h1, h2⟩, i + 1, e, h => by subst hx; simp at h ⊢; exact REnt.get h2 i e h
theorem REnt.length : ∀ {es : List (AV × AV × Nat)} {fs : List MapEntry}, REnt Γ H es fs → es.length = fs.length
  | [], _, h => by rw [h]; rfl
  | _ :: _, _, ⟨y, z, hx, _, h2⟩ => by subst hx; simp [REnt.length h2]
/-- Looked through by what both are at once. -/
theorem findNow_sound {d : TypeDesc} (hd : (∃ k, d = .int k) ∨ d = .string ∨ d = .bool) {t : TypeId} (ht : P.underlying t = some d) {k : AV} {u : Value} (hk : RV Γ H k u) : ∀ (es : List (AV × AV × Nat)) (fs : List MapEntry) (i : Nat) (r : Option (Nat × AV)), REnt Γ H es fs →
    findA P H t k es i = some r → ∃ q, Instr.findNow d u fs i = some q ∧ RFound Γ H r q
  | [], fs, i, r, he, h => by
    obtain rfl := he
    obtain rfl := Option.some.inj h
    exact ⟨none, rfl, trivial⟩
  | e :: es, _, i, r, ⟨f, g, hf, ⟨h1, h2, h3⟩, h4⟩, h => by
    subst hf
    unfold findA at h
    obtain ⟨b, hb, h⟩ := bind_some h
    have hs : Instr.sameNow d u f.key = some b := by
      unfold eqIn at hb
      rcases hd with ⟨kk, rfl⟩ | rfl | rfl
      · simp only [ht] at hb
        cases k <;> cases he1 : e.1 <;> simp [he1] at hb
        obtain ⟨h5, h6⟩ := cond_some hb
        have h5 := of_decide_eq_true h5
        rw [he1] at h1
        simp only [RV] at hk h1
        rw [hk, h1]
        simp only [Instr.sameNow]
        rw [if_pos h5]; exact h6
      · simp only [ht] at hb
        cases k <;> cases he1 : e.1 <;> simp [he1] at hb
        rw [he1] at h1
        simp only [RV] at hk h1
        rw [hk, h1]
        simp [Instr.sameNow, hb]
      · simp only [ht] at hb
        cases k <;> cases he1 : e.1 <;> simp [he1] at hb
        rw [he1] at h1
        simp only [RV] at hk h1
        rw [hk, h1]
        simp [Instr.sameNow, hb]
    unfold Instr.findNow
    rw [hs]
    cases b with
    | true => simp at h; subst h; exact ⟨some (i, f.val), rfl, rfl, h2⟩
    | false => simp at h; exact findNow_sound hd ht hk es g (i + 1) r h4 h
theorem findAsking_sound {t : TypeId} {k : AV} {u : Value} (hk : RV Γ H k u) : ∀ (es : List (AV × AV × Nat)) (fs : List MapEntry) (i : Nat) (r : Option (Nat × AV)), REnt Γ H es fs →
    findA P H t k es i = some r → ∃ q, (Instr.findAsking t u fs i).run P w = .ok q w ∧ RFound Γ H r q
  | [], fs, i, r, he, h => by
    obtain rfl := he
    obtain rfl := Option.some.inj h
    exact ⟨none, rfl, trivial⟩
  | e :: es, _, i, r, ⟨f, g, hf, ⟨h1, h2, h3⟩, h4⟩, h => by
    subst hf
    unfold findA at h
    obtain ⟨b, hb, h⟩ := bind_some h
    have hq : (Op.equal t u f.key).run P w = .ok b w := eqIn_sound 20 10000 t k e.1 b u f.key (by omega) hb hk h1
    unfold Instr.findAsking
    simp only [Sem.run_bind, hq, Result.andThen_ok, Sem.run_ite]
    cases b with
    | true => simp at h; subst h; exact ⟨some (i, f.val), by simp, rfl, h2⟩
    | false =>
      simp at h
      obtain ⟨q, h5, h6⟩ := findAsking_sound hk es g (i + 1) r h4 h
      exact ⟨q, by simpa using h5, h6⟩
theorem findA_sound {t : TypeId} {k : AV} {u : Value} {es : List (AV × AV × Nat)} {fs : List MapEntry} {r : Option (Nat × AV)} (hk : RV Γ H k u) (hc : keyChk P 20 t k = true) (he : REnt Γ H es fs) (h : findA P H t k es 0 = some r) :
    ∃ q, (Instr.findKey t u fs).run P w = .ok q w ∧ RFound Γ H r q := by
  unfold keyChk at hc
  split at hc
  · rename_i kk hu
    obtain ⟨q, h1, h2⟩ := findAsking_sound (w := w) hk es fs 0 r he h
    exact ⟨q, by rw [run_findKey_eq w (by rw [hu])]; exact h1, h2⟩
  · rename_i kk hu
    obtain ⟨q, h1, h2⟩ := findNow_sound (.inl ⟨_, rfl⟩) hu hk es fs 0 r he h
    exact ⟨q, MapKept.run_findKey hu h1, h2⟩
  · rename_i hu
    obtain ⟨q, h1, h2⟩ := findNow_sound (.inr (.inl rfl)) hu hk es fs 0 r he h
    exact ⟨q, MapKept.run_findKey hu h1, h2⟩
  · rename_i hu
    obtain ⟨q, h1, h2⟩ := findNow_sound (.inr (.inr rfl)) hu hk es fs 0 r he h
    exact ⟨q, MapKept.run_findKey hu h1, h2⟩
  · cases hc
/-- A map's entries, as they lie. -/
theorem Rel.entries {l : Nat} {es : List (AV × AV × Nat)} {c : Nat} {u : Value} (R : Rel P w0 Γ H w) (hg : H.get l = .map es c) (hx : RV Γ H (.mp l) u) :
    ∃ b fs, u = .map (some b) ∧ Γ.blk l = some b ∧ l < H.sz ∧ w.heap[b]? = some (.map fs c) ∧ REnt Γ H es fs.toList := by
  obtain ⟨h1, _, h2⟩ := hx
  obtain ⟨b, hb, rfl⟩ := h2 (by simp [Heap.ver, hg, AObj.ver])
  obtain ⟨_, _, ho⟩ := R.obj l b h1 hb
  rw [hg] at ho
  obtain ⟨fs, k1, k2⟩ := ho
  exact ⟨b, fs, rfl, hb, h1, k1, k2⟩
theorem lookup_some {t kt e : TypeId} {u z y : Value} {ok : Bool} {fs : Array MapEntry} {i : Nat} (hu : P.underlying t = some (.map kt e)) (hm : u = .map none ∧ fs = #[] ∨ ∃ b c, u = .map (some b) ∧ w.heap[b]? = some (.map fs c))
    (hc : (Instr.checkKey fs.isEmpty 10000 kt z).run P w = .ok () w) (hq : (Instr.findKey kt z fs.toList).run P w = .ok (some (i, y)) w) : (Instr.lookup t u z ok).run P w = .ok (if ok then .tuple #[y, .bool true] else y) w := by
  rcases hm with ⟨rfl, rfl⟩ | ⟨b, c, rfl, hb⟩
  · simp at hc hq
    simp [Instr.lookup, run_underlying hu, hc, hq]
  · simp [Instr.lookup, run_underlying hu, getMap hb, hc, hq]
theorem lookup_none {t kt e : TypeId} {u z y : Value} {ok : Bool} {fs : Array MapEntry} (hu : P.underlying t = some (.map kt e)) (hm : u = .map none ∧ fs = #[] ∨ ∃ b c, u = .map (some b) ∧ w.heap[b]? = some (.map fs c))
    (hc : (Instr.checkKey fs.isEmpty 10000 kt z).run P w = .ok () w) (hq : (Instr.findKey kt z fs.toList).run P w = .ok none w) (hz : (zeroValue e).run P w = .ok y w) : (Instr.lookup t u z ok).run P w = .ok (if ok then .tuple #[y, .bool false] else y) w := by
  rcases hm with ⟨rfl, rfl⟩ | ⟨b, c, rfl, hb⟩
  · simp at hc hq
    simp [Instr.lookup, run_underlying hu, hc, hq, hz]
  · simp [Instr.lookup, run_underlying hu, getMap hb, hc, hq, hz]
theorem lookupA_sound {t : TypeId} {x k v : AV} {ok : Bool} {u z : Value} (R : Rel C.P w0 Γ H w) (h : lookupA C H t x k ok = some v) (hx : RV Γ H x u) (hk : RV Γ H k z) : Fine C.P Γ H w v (Instr.lookup t u z ok) := by
  unfold lookupA at h
  split at h
  · rename_i kt e hu
    obtain ⟨hc, h⟩ := cond_some h
    obtain ⟨es, hes, h⟩ := bind_some h
    obtain ⟨r, hr, h⟩ := bind_some h
    have hent : ∃ fs : Array MapEntry, REnt Γ H es fs.toList ∧ (u = .map none ∧ fs = #[] ∨ ∃ b c, u = .map (some b) ∧ w.heap[b]? = some (.map fs c)) := by
      cases x with
      | nilm =>
        simp only [RV] at hx; subst hx
        obtain rfl := Option.some.inj hes
        exact ⟨#[], rfl, .inl ⟨rfl, rfl⟩⟩
      | mp l =>
        simp only [entriesA] at hes
        split at hes
        · rename_i es' c hg
          obtain rfl := Option.some.inj hes
          obtain ⟨b, fs, rfl, hb, hl, hw, hf⟩ := R.entries hg hx
          exact ⟨fs, hf, .inr ⟨b, c, rfl, hw⟩⟩
        · cases hes
      | _ => simp [entriesA] at hes
    obtain ⟨fs, hfs, hm⟩ := hent
    obtain ⟨q, hq, hf⟩ := findA_sound (w := w) hk hc hfs hr
    have hchk := keyChk_sound (P := C.P) (w := w) fs.isEmpty 20 10000 kt k z (by omega) hc hk
    cases r with
    | none =>
      cases q with
      | some _ => exact hf.elim
      | none =>
        obtain ⟨y, hy, rfl⟩ := map_some h
        obtain ⟨i, zv, hi, hz, hr, _⟩ := zeroA_sound (Γ := Γ) (H := H) hy
        have hzr : (zeroValue e).run C.P w = .ok zv w := by simp [zeroValue, typeInfo, hi, hz]
        refine ⟨_, lookup_none hu hm hchk hq hzr, ?_⟩
        cases ok
        · exact hr
        · exact ⟨_, rfl, _, _, rfl, hr, _, _, rfl, rfl, rfl⟩
    | some y =>
      obtain ⟨i, y⟩ := y
      cases q with
      | none => exact hf.elim
      | some p =>
        obtain ⟨j, p⟩ := p
        obtain ⟨_, hp⟩ := hf
        obtain rfl := Option.some.inj h
        refine ⟨_, lookup_some hu hm hchk hq, ?_⟩
        cases ok
        · exact hp
        · exact ⟨_, rfl, _, _, rfl, hp, _, _, rfl, rfl, rfl⟩
  · cases h
theorem lenBA_sound {t : TypeId} {x v : AV} {u : Value} (ts : Array TypeId) (ht : ts[0]? = some t) (ty : TypeId) (R : Rel C.P w0 Γ H w) (h : lenBA C H t x = some v) (hx : RV Γ H x u) : Fine C.P Γ H w v (Builtin.len_ ts ty #[u]) := by
  unfold lenBA at h
  split at h
  · rename_i hu; simp only [RV] at hx; subst hx; obtain rfl := Option.some.inj h; exact ⟨_, by simp [Builtin.len_, ht, und_run hu]; rfl, rfl⟩
  · rename_i hu; simp only [RV] at hx; subst hx; obtain rfl := Option.some.inj h; exact ⟨_, by simp [Builtin.len_, ht, und_run hu]; rfl, rfl⟩
  · rename_i hu; obtain ⟨_, _, p, c, rfl, _⟩ := hx; obtain rfl := Option.some.inj h; exact ⟨_, by simp [Builtin.len_, ht, und_run hu]; rfl, rfl⟩
  · rename_i hu; simp only [RV] at hx; subst hx; obtain rfl := Option.some.inj h; exact ⟨_, by simp [Builtin.len_, ht, und_run hu]; rfl, rfl⟩
  · rename_i hu; obtain ⟨p, c, rfl⟩ := hx; obtain rfl := Option.some.inj h; exact ⟨_, by simp [Builtin.len_, ht, und_run hu]; rfl, rfl⟩
  · rename_i hu; obtain rfl := Option.some.inj h; exact ⟨_, by simp [Builtin.len_, ht, und_run hu]; rfl, rfl⟩
  · rename_i hu; simp only [RV] at hx; subst hx; obtain rfl := Option.some.inj h; exact ⟨_, by simp [Builtin.len_, ht, und_run hu]; rfl, rfl⟩
  · rename_i hu
    split at h
    · rename_i es c hg
      obtain rfl := Option.some.inj h
      obtain ⟨b, fs, rfl, hb, hl, hw, hf⟩ := R.entries hg hx
      refine ⟨_, by simp [Builtin.len_, ht, und_run hu, getMap hw]; rfl, ?_⟩
      simp [RV, goInt, REnt.length hf]
    · cases h
  · cases h
theorem capBA_sound {t : TypeId} {x v : AV} {u : Value} (ts : Array TypeId) (ht : ts[0]? = some t) (ty : TypeId) (h : capBA P t x = some v) (hx : RV Γ H x u) : Fine P Γ H w v (Builtin.cap_ ts ty #[u]) := by
  unfold capBA at h
  split at h
  · rename_i hu; simp only [RV] at hx; subst hx; obtain rfl := Option.some.inj h; exact ⟨_, by simp [Builtin.cap_, ht, und_run hu]; rfl, rfl⟩
  · rename_i hu; obtain ⟨_, _, p, c, rfl, _, hm, _⟩ := hx; obtain rfl := Option.some.inj h; exact ⟨_, by simp [Builtin.cap_, ht, und_run hu]; rfl, by rw [hm rfl]; rfl⟩
  · rename_i hu; simp only [RV] at hx; subst hx; obtain rfl := Option.some.inj h; exact ⟨_, by simp [Builtin.cap_, ht, und_run hu]; rfl, rfl⟩
  · rename_i hu; obtain rfl := Option.some.inj h; exact ⟨_, by simp [Builtin.cap_, ht, und_run hu]; rfl, rfl⟩
  · cases h
theorem foldA_min : ∀ (xs : List AV) (ys : List Value) (x v : AV) (u : Value), RV Γ H x u → RVs Γ H xs ys → foldA minA x xs = some v → ∃ z, (ys.foldlM Builtin.min2 u).run P w = .ok z w ∧ RV Γ H v z
  | [], ys, x, v, u, hx, hxs, h => by obtain rfl := hxs; obtain rfl := Option.some.inj h; exact ⟨u, rfl, hx⟩
  | y :: r, _, x, v, u, hx, ⟨p, q, hpq, h1, h2⟩, h => by
    subst hpq
    obtain ⟨z, hz, h⟩ := bind_some h
    cases x <;> cases y <;> simp only [minA] at hz <;> first | (cases hz; done) | skip
    obtain rfl := Option.some.inj hz
    simp only [RV] at hx h1; subst hx; subst h1
    rw [List.foldlM_cons]
    simp only [Sem.run_bind, Builtin.min2, Sem.run_pure, Result.andThen_ok]
    refine foldA_min r q _ v _ ?_ h2 h
    simp only [RV]
theorem foldA_max : ∀ (xs : List AV) (ys : List Value) (x v : AV) (u : Value), RV Γ H x u → RVs Γ H xs ys → foldA maxA x xs = some v → ∃ z, (ys.foldlM Builtin.max2 u).run P w = .ok z w ∧ RV Γ H v z
  | [], ys, x, v, u, hx, hxs, h => by obtain rfl := hxs; obtain rfl := Option.some.inj h; exact ⟨u, rfl, hx⟩
  | y :: r, _, x, v, u, hx, ⟨p, q, hpq, h1, h2⟩, h => by
    subst hpq
    obtain ⟨z, hz, h⟩ := bind_some h
    cases x <;> cases y <;> simp only [maxA] at hz <;> first | (cases hz; done) | skip
    obtain rfl := Option.some.inj hz
    simp only [RV] at hx h1; subst hx; subst h1
    rw [List.foldlM_cons]
    simp only [Sem.run_bind, Builtin.max2, Sem.run_pure, Result.andThen_ok]
    refine foldA_max r q _ v _ ?_ h2 h
    simp only [RV, gt_iff_lt]
end
end Go.Ev
