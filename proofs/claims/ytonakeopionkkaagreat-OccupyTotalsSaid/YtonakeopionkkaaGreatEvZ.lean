/- EvZ: append, copy, clear; going through maps and texts. -/
import Derived.Test.YtonakeopionkkaaGreatEvY
set_option linter.unusedVariables false
set_option linter.unusedSimpArgs false
namespace Go.Ev
open Go.RowKit

theorem growBy_le (need : Nat) : ∀ (k c : Nat), c ≤ need + (need + 768) / 4 → Builtin.growBy need k c ≤ need + (need + 768) / 4
  | 0, c, h => by simpa [Builtin.growBy] using h
  | k + 1, c, h => by
    unfold Builtin.growBy
    split
    · exact h
    · exact growBy_le need k _ (by omega)
theorem nextslicecap_le {need c : Nat} (h : c < need) : Builtin.nextslicecap need c ≤ 3 * need := by
  unfold Builtin.nextslicecap
  split
  · omega
  · split
    · omega
    · have := growBy_le need 4 c (by omega)
      omega
section
variable {C : Ctx} {P : Program} {w0 : World} {Γ : Gh} {H : Heap} {w : World} {lim : Nat}
theorem zeroCells_eq (z : Array Value) (n : Nat) (hz : 0 < z.size) : (Builtin.zeroCells z n).toList = (List.replicate n z.toList).flatten := by
  unfold Builtin.zeroCells
  exact repeat_get z n hz
theorem flat_length (z : List Value) : ∀ n, (List.replicate n z).flatten.length = n * z.length
  | 0 => by simp
  | n + 1 => by simp [List.replicate_succ, flat_length z n, Nat.succ_mul, Nat.add_comm]
theorem growOK_sound {e : TypeId} {sz by_ need : Nat} (h : growOK P e sz by_ need = true) : need * by_ ≤ 70368744177664 ∧ need ≤ 70368744177664 ∧ ∃ z, (∀ w, (zeroValue e).run P w = .ok z w) ∧ z.cells.size = sz := by
  unfold growOK at h
  simp only [Bool.and_eq_true, decide_eq_true_eq] at h
  obtain ⟨⟨h1, h2⟩, h3⟩ := h
  cases hz : zeroA P e with
  | none => simp [hz] at h3
  | some z =>
    simp [hz] at h3
    obtain ⟨v, hv, _, hc⟩ := zeroA_run (Γ := ⟨fun _ => none, fun _ => 0⟩) (H := Heap.nil) hz
    exact ⟨h1, h2, v, hv, by rw [← h3]; simpa using (RVs.length hc).symm⟩
/-- Where there is no room: a new row. -/
theorem append_grow {t e xt : TypeId} {d : TypeDesc} {ts : Array TypeId} (ty : TypeId) {base : Option Addr} {x : Value} {sz by_ len n c : Nat} {old new : Array Value} (h0 : ts[0]? = some t) (h1 : ts[1]? = some xt) (hd : P.underlying xt = some d) (hi : ∀ k, d ≠ .int k)
    (hu : P.underlying t = some (.slice e)) (hsz : szA P e = some sz) (hby : bytesA P e = some by_) (hg : growOK P e sz by_ (len + n) = true) (hc : c < len + n)
    (hx0 : (Builtin.lenOf x).run P w = .ok n w) (hro : (Builtin.firstCells sz len (.slice base len c)).run P w.drew = .ok old w.drew) (hrn : (Builtin.firstCells sz n x).run P w.drew = .ok new w.drew) :
    ∃ nc z, len + n ≤ nc ∧ z.size = sz ∧ (Builtin.append_ ts ty #[.slice base len c, x]).run P w = .ok (.slice (some ⟨w.heap.size, 0, none⟩) (len + n) nc) (w.drew.alloc (.cells (old ++ new ++ Builtin.zeroCells z (nc - (len + n))) e)) := by
  obtain ⟨g1, g2, z, hz, hzs⟩ := growOK_sound hg
  obtain ⟨i, hi1, hib⟩ := run_bytesA hby w
  have hi1' : ∀ w' : World, (typeInfo e).run P w' = .ok i w' := fun w' => by
    obtain ⟨j, hj, _⟩ := run_bytesA hby w'
    have : i = j := by
      simp only [typeInfo] at hi1 hj
      cases hq : P.info? e with
      | none => simp [hq] at hi1
      | some q => simp [hq] at hi1 hj; rw [← hi1, ← hj]
    rw [this]; exact hj
  have hcap := nextslicecap_le hc
  have hN1 : ¬ (IntKind.i64.max < ((len + n : Nat) : Int) ∧ i.bytes = 0) := by
    have : IntKind.i64.max = 9223372036854775807 := by simp [IntKind.max, IntKind.signed, IntKind.bits]
    rw [this]; omega
  have hN2 : ¬ (2 ^ 48 < Builtin.nextslicecap (len + n) c * i.bytes) := by
    rw [hib]
    have : Builtin.nextslicecap (len + n) c * by_ ≤ 3 * (len + n) * by_ := Nat.mul_le_mul_right _ hcap
    have e : 3 * (len + n) * by_ = 3 * ((len + n) * by_) := Nat.mul_assoc _ _ _
    omega
  have hforced : (Question.appendCap (len + n) c e).forced = false := rfl
  refine ⟨(len + n) + (w.tape w.drawn (.appendCap (len + n) c e)) % (2 ^ 63 - (len + n)), z.cells, by omega, hzs, ?_⟩
  have hroom : ¬ (len + n ≤ c) := by omega
  have hcut : (Question.appendCap (len + n) c e).cut (w.tape w.drawn (.appendCap (len + n) c e)) = (len + n) + (w.tape w.drawn (.appendCap (len + n) c e)) % (2 ^ 63 - (len + n)) := rfl
  generalize hnc : (len + n) + (w.tape w.drawn (.appendCap (len + n) c e)) % (2 ^ 63 - (len + n)) = nc at hcut
  have hN1' : ¬ (9223372036854775807 < (len : Int) + (n : Int) ∧ i.bytes = 0) := by omega
  have hN2' : ¬ (281474976710656 < Builtin.nextslicecap (len + n) c * i.bytes) := by omega
  simp [Builtin.append_, h0, h1, run_underlying hu, run_underlying hd, run_szA hsz, hx0, hroom, hi1', hN1', hN2', hforced, hcut, hro, hrn, hz, run_newRow]
theorem Rel.drew (R : Rel P w0 Γ H w) : Rel P w0 Γ H w.drew := R.same rfl rfl rfl rfl
/-- Where there is room. -/
theorem append_room {t e xt : TypeId} {d : TypeDesc} {ts : Array TypeId} (ty : TypeId) {b : Nat} {o : Nat} {x : Value} {sz len n c : Nat} {new : Array Value} {w' : World} (h0 : ts[0]? = some t) (h1 : ts[1]? = some xt) (hd : P.underlying xt = some d) (hi : ∀ k, d ≠ .int k)
    (hu : P.underlying t = some (.slice e)) (hsz : szA P e = some sz) (hc : len + n ≤ c)
    (hx : (Builtin.lenOf x).run P w = .ok n w) (hn : (Builtin.firstCells sz n x).run P w = .ok new w) (hs : (storeCells ⟨b, o + len * sz, none⟩ new.toList).run P w = .ok () w') :
    (Builtin.append_ ts ty #[.slice (some ⟨b, o, none⟩) len c, x]).run P w = .ok (.slice (some ⟨b, o, none⟩) (len + n) c) w' := by
  have e1 : (⟨b, o, none⟩ : Addr).add (len * sz) = ⟨b, o + len * sz, none⟩ := add_own _ _ _
  simp [Builtin.append_, h0, h1, run_underlying hu, run_underlying hd, run_szA hsz, hx, hn, hc, e1, hs]
/-- What a grown row holds. -/
theorem grown_row {cs vs : List AV} {old new z : Array Value} {len n sz k : Nat} (ho : RVs Γ H cs old.toList) (hn : RVs Γ H vs new.toList) (hl : cs.length = len * sz) (hl' : vs.length = n * sz) (hz : z.size = sz) (hs : 0 < sz) :
    (old ++ new ++ Builtin.zeroCells z k).size = (cs ++ vs).length + k * sz ∧ RVs Γ H (cs ++ vs) ((old ++ new ++ Builtin.zeroCells z k).toList.take (cs ++ vs).length) := by
  have e1 := RVs.length ho
  have e2 := RVs.length hn
  have e3 : (Builtin.zeroCells z k).size = k * sz := by
    rw [← Array.length_toList, zeroCells_eq z k (by omega), flat_length]; simp [hz]
  constructor
  · simp at e1 e2 ⊢; omega
  · have : (old ++ new ++ Builtin.zeroCells z k).toList.take (cs ++ vs).length = old.toList ++ new.toList := by
      simp only [Array.toList_append]
      rw [List.take_append_of_le_length (by simp; simp at e1 e2; omega), List.take_of_length_le (by simp; simp at e1 e2; omega)]
    rw [this]; exact RVs.append ho hn
theorem firstA_length {sz n : Nat} {x : AV} {cs : List AV} (h : firstA C H sz n x = some cs) (hx : (∃ l v o a c m, x = .sl l v o a c m) ∨ (∃ a b c, x = .xs a b c)) : cs.length = n * sz := by
  rcases hx with ⟨l, v, o, a, c, m, rfl⟩ | ⟨a, b, c, rfl⟩
  · simp only [firstA, loadN] at h
    obtain ⟨d, _, h⟩ := bind_some h
    obtain ⟨h1, h⟩ := cond_some h
    have := Nat.le_of_ble_eq_true h1
    obtain rfl := Option.some.inj h
    simp; omega
  · simp only [firstA, loadN] at h
    obtain ⟨vs, hvs, rfl⟩ := map_some h
    have := (mapM_some hvs).1
    simpa using this
/-- One place grows, or moves: whichever, of a later number. -/
theorem grow_here {l v len n sz b : Nat} {e : TypeId} {cs vs : List AV} {g : Bool} {w' : World} {c'' : Array Value} {b' sp : Nat} (R : Rel P w0 Γ H w) (hl : l < H.sz) (hb : Γ.blk l = some b) (hlim : lim ≤ l) (hg : H.get l = .cells v e (0, 0) g cs)
    (hsz : szA P e = some sz) (hc : Chg w w' b' (.cells c'' e)) (hb' : b' = b ∨ b' = w.heap.size) (hlen : len * sz ≤ cs.length) (hvs : vs.length = n * sz) (hsize : c''.size = (len + n) * sz + sp * sz)
    (hr : RVs Γ H (cs.take (len * sz) ++ vs) (c''.toList.take ((len + n) * sz))) :
    Rel P w0 (Γ.upd l b' sp) (H.put l (.cells (v + 1) e (0, 0) true (cs.take (len * sz) ++ vs))) w' ∧ Ext lim Γ H w (Γ.upd l b' sp) (H.put l (.cells (v + 1) e (0, 0) true (cs.take (len * sz) ++ vs))) w' ∧
    RV (Γ.upd l b' sp) (H.put l (.cells (v + 1) e (0, 0) true (cs.take (len * sz) ++ vs))) (.sl l (v + 1) 0 (len + n) (len + n) true) (.slice (some ⟨b', 0, none⟩) (len + n) (len + n + sp)) := by
  have hver : H.ver l = v := by simp [Heap.ver, hg, AObj.ver]
  have hle : Le Γ H (Γ.upd l b' sp) (H.put l (.cells (v + 1) e (0, 0) true (cs.take (len * sz) ++ vs))) := Le.put b' sp (by rw [hver]; simp [AObj.ver]) (fun h => by rw [hver] at h; simp [AObj.ver] at h)
  have hll : (cs.take (len * sz) ++ vs).length = (len + n) * sz := by simp [hvs, Nat.add_mul]; omega
  obtain ⟨k1, k2⟩ := Rel.upd (lim := lim) (o := .cells (v + 1) e (0, 0) true (cs.take (len * sz) ++ vs)) sp R hl hb hlim (by rw [hg]; simp) hc hb' (by rw [hver]; simp [AObj.ver]) (fun h => by rw [hver] at h; simp [AObj.ver] at h)
    ⟨c'', sz, hc.here, by rw [hll]; simpa [Gh.upd] using hsize, (fun h => by cases h), fun _ => hsz, by rw [hll]; exact RVs.mono hle _ _ hr⟩
  refine ⟨k1, k2, hl, by simp [Heap.ver, Heap.get_put, AObj.ver], _, _, rfl, by omega, (fun h => by cases h), fun _ => ⟨b', by simp [Gh.upd], rfl, by simp [Gh.upd]⟩⟩
end
end Go.Ev
