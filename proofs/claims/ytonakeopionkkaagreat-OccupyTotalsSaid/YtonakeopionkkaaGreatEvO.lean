/- EvO: arguments: what their cells are; that they read behind a call as before. -/
import Derived.Test.YtonakeopionkkaaGreatEvK
import Derived.ProofKit
import Derived.OpenShut
import Derived.ShutString
import Derived.ChangeOld
import Derived.Carry
set_option linter.unusedVariables false
set_option linter.unusedSimpArgs false
namespace Go.Ev
open Go.RowKit Go.ChangeShapes Go.WideShapes Go.ChangeAt
inductive CK where
  | int (k : IntKind) | bool | str | sl
def CK.fits : CK → Value → Prop
  | .int k, v => ∃ n, v = .int k n ∧ (Lit.int k n).wf = true
  | .bool, v => ∃ b, v = .bool b
  | .str, v => ∃ s, v = .string s ∧ s.size ≤ maxLen
  | .sl, v => ∃ a n c, v = .slice a n c
def Fits : List CK → List Value → Prop
  | [], vs => vs = []
  | k :: ks, vs => ∃ v r, vs = v :: r ∧ k.fits v ∧ Fits ks r
theorem Fits.length : ∀ {ks : List CK} {vs : List Value}, Fits ks vs → vs.length = ks.length
  | [], _, h => by rw [h]; rfl
  | _ :: _, _, ⟨v, r, h, _, h2⟩ => by rw [h]; simp [h2.length]
theorem Fits.append : ∀ {ks ks' : List CK} {vs vs' : List Value}, Fits ks vs → Fits ks' vs' → Fits (ks ++ ks') (vs ++ vs')
  | [], _, _, _, h, h' => by rw [h]; exact h'
  | _ :: _, _, _, _, ⟨v, r, h, h1, h2⟩, h' => by rw [h]; exact ⟨v, r ++ _, rfl, h1, h2.append h'⟩
def kindsF (P : Program) (rec : TypeId → Option (List CK)) : Nat → List Field → Option (List CK)
  | _, [] => some []
  | off, f :: r => bif Nat.beq f.offset off then (rec f.type).bind fun ks => bif Nat.beq ks.length (P.cellsOf f.type) then (kindsF P rec (off + ks.length) r).map (ks ++ ·) else none else none
def repKinds (ks : List CK) : Nat → List CK
  | 0 => []
  | n + 1 => ks ++ repKinds ks n
def kinds (P : Program) : Nat → TypeId → Option (List CK)
  | 0, _ => none
  | d + 1, t => match P.underlying t with
    | some .bool => some [.bool]
    | some (.int k) => some [.int k]
    | some .string => some [.str]
    | some (.slice _) => some [.sl]
    | some (.struct fs) => (kindsF P (kinds P d) 0 fs.toList).bind fun ks => bif Nat.beq ks.length (P.cellsOf t) then some ks else none
    | some (.array n e) => (kinds P d e).bind fun ks => bif Nat.beq ks.length (P.cellsOf e) && Nat.beq (n * ks.length) (P.cellsOf t) then some (repKinds ks n) else none
    | _ => none
theorem mapM_some_mem {α β : Type} {f : α → Option β} : ∀ {l : List α} {xs : List β}, l.mapM f = some xs → ∀ a ∈ l, ∃ b, f a = some b
  | [], _, _, _, h => by cases h
  | x :: r, xs, h, a, ha => by
    rw [List.mapM_cons] at h
    cases hx : f x with
    | none => rw [hx] at h; cases h
    | some b =>
      rw [hx] at h
      cases hr : r.mapM f with
      | none => rw [hr] at h; cases h
      | some q =>
        rcases List.mem_cons.1 ha with rfl | ha
        · exact ⟨b, hx⟩
        · exact mapM_some_mem hr a ha
theorem kindsF_fits {P : Program} {rec : TypeId → Option (List CK)} {cs : List Value} : ∀ (fs : List Field) (off : Nat) (ks : List CK), kindsF P rec off fs = some ks → (∀ f ∈ fs, ∀ kf, rec f.type = some kf → Fits kf ((cs.drop f.offset).take (P.cellsOf f.type))) → cs.length = off + ks.length → Fits ks (cs.drop off)
  | [], off, ks, h, _, hl => by
    obtain rfl := Option.some.inj h
    simp only [List.length_nil, Nat.add_zero] at hl
    simp [Fits, List.drop_eq_nil_iff, hl]
  | f :: r, off, ks, h, hf, hl => by
    unfold kindsF at h
    cases h1 : Nat.beq f.offset off with
    | false => rw [h1] at h; cases h
    | true =>
      rw [h1] at h
      simp only [cond_true] at h
      obtain ⟨kf, hk, h⟩ := Option.bind_eq_some_iff.1 h
      cases h2 : Nat.beq kf.length (P.cellsOf f.type) with
      | false => rw [h2] at h; cases h
      | true =>
        rw [h2] at h
        simp only [cond_true, Option.map_eq_some_iff] at h
        obtain ⟨kr, hr, rfl⟩ := h
        have e1 := Nat.eq_of_beq_eq_true h1
        have e2 := Nat.eq_of_beq_eq_true h2
        have a := hf f (by simp) kf hk
        rw [e1, ← e2] at a
        have b := kindsF_fits r (off + kf.length) kr hr (fun g hg => hf g (by simp [hg])) (by simp at hl; omega)
        have := a.append b
        rwa [← List.drop_drop, List.take_append_drop] at this
theorem rep_fits {ks : List CK} {cs : List Value} : ∀ (n off : Nat), (∀ i, i < n → Fits ks ((cs.drop (off + i * ks.length)).take ks.length)) → cs.length = off + n * ks.length → Fits (repKinds ks n) (cs.drop off)
  | 0, off, _, hl => by simp only [Nat.zero_mul, Nat.add_zero] at hl; simp [Fits, repKinds, List.drop_eq_nil_iff, hl]
  | n + 1, off, h, hl => by
    have a := h 0 (by omega)
    simp only [Nat.zero_mul, Nat.add_zero] at a
    have b := rep_fits n (off + ks.length) (fun i hi => by have := h (i + 1) (by omega); rwa [Nat.succ_mul, Nat.add_comm (i * ks.length), ← Nat.add_assoc] at this) (by rw [hl, Nat.succ_mul]; omega)
    have := a.append b
    rwa [← List.drop_drop, List.take_append_drop] at this
section
variable {H : Type} {enc : TypeId × Value → H} {P : Program} {w : World} {base : Nat} {spare : Nat → Bool} {held : Bool}
theorem kinds_fits : ∀ (d fuel : Nat) (t : TypeId) (cs : List Value) (r : DataW H × List MemPlace) (ks : List CK), DataW.trod enc P w base spare held fuel t cs = some r → kinds P d t = some ks → Fits ks cs := by
  intro d
  induction d with
  | zero => intro fuel t cs r ks _ h; cases h
  | succ d ih =>
    intro fuel t cs r ks h hk
    cases fuel with
    | zero => cases h
    | succ fuel =>
      unfold kinds at hk
      unfold DataW.trod at h
      cases hu : P.underlying t with
      | none => rw [hu] at hk; cases hk
      | some u =>
        rw [hu] at hk h
        cases u with
        | bool =>
          obtain rfl := Option.some.inj hk
          rcases cs with _ | ⟨v, _ | ⟨v2, r2⟩⟩
          · simp at h
          · cases v with
            | bool b =>
              exact ⟨_, [], rfl, ⟨_, rfl⟩, rfl⟩
            | _ => simp at h
          · cases v <;> simp at h
        | int k =>
          obtain rfl := Option.some.inj hk
          rcases cs with _ | ⟨v, _ | ⟨v2, r2⟩⟩
          · simp at h
          · cases v with
            | int k2 n =>
              simp only at h
              split at h
              · rename_i hc
                obtain ⟨rfl, hc⟩ := hc
                exact ⟨_, [], rfl, ⟨_, rfl, hc⟩, rfl⟩
              · cases h
            | _ => simp at h
          · cases v <;> simp at h
        | string =>
          obtain rfl := Option.some.inj hk
          rcases cs with _ | ⟨v, _ | ⟨v2, r2⟩⟩
          · simp at h
          · cases v with
            | string s =>
              simp only at h
              split at h
              · rename_i hc
                exact ⟨_, [], rfl, ⟨_, rfl, hc⟩, rfl⟩
              · cases h
            | _ => simp at h
          · cases v <;> simp at h
        | slice e =>
          obtain rfl := Option.some.inj hk
          rcases cs with _ | ⟨v, _ | ⟨v2, r2⟩⟩
          · simp at h
          · cases v with
            | slice p n c =>
              exact ⟨_, [], rfl, ⟨_, _, _, rfl⟩, rfl⟩
            | _ => simp at h
          · cases v <;> simp at h
        | struct fs =>
          simp only at hk
          obtain ⟨kf, hkf, hk⟩ := Option.bind_eq_some_iff.1 hk
          cases hb : Nat.beq kf.length (P.cellsOf t) with
          | false => rw [hb] at hk; cases hk
          | true =>
            rw [hb] at hk
            obtain rfl := Option.some.inj hk
            have hl := Nat.eq_of_beq_eq_true hb
            simp only at h
            split at h
            · rename_i hc
              simp only [Option.map_eq_some_iff] at h
              obtain ⟨xs, hx, _⟩ := h
              have := kindsF_fits (cs := cs) fs.toList 0 kf hkf (fun f hf kf' hkf' => by
                obtain ⟨b, hb⟩ := mapM_some_mem hx f hf
                exact ih fuel _ _ b kf' hb hkf') (by omega)
              simpa using this
            · cases h
        | array n e =>
          simp only at hk
          obtain ⟨kf, hkf, hk⟩ := Option.bind_eq_some_iff.1 hk
          cases hb : (Nat.beq kf.length (P.cellsOf e) && Nat.beq (n * kf.length) (P.cellsOf t)) with
          | false => rw [hb] at hk; cases hk
          | true =>
            rw [hb] at hk
            obtain rfl := Option.some.inj hk
            simp only [Bool.and_eq_true] at hb
            have hl := Nat.eq_of_beq_eq_true hb.1
            have hl2 := Nat.eq_of_beq_eq_true hb.2
            simp only at h
            split at h
            · rename_i hc
              simp only [Option.map_eq_some_iff] at h
              obtain ⟨xs, hx, _⟩ := h
              have := rep_fits (ks := kf) (cs := cs) n 0 (fun i hi => by
                obtain ⟨b, hb⟩ := mapM_some_mem hx i (List.mem_range.2 hi)
                have := ih fuel _ _ b kf hb hkf
                rwa [← hl, show i * kf.length = 0 + i * kf.length from by omega] at this) (by omega)
              simpa using this
            · cases h
        | _ => cases hk
theorem trod_fits {t : TypeId} {v : Value} {dd : DataW H} {ps : List MemPlace} {ks : List CK} (d : Nat) (h : DataW.Trod enc P w base spare held t v dd ps) (hk : kinds P d t = some ks) : Fits ks v.cells.toList := by
  obtain ⟨fuel, h⟩ := h
  exact kinds_fits d fuel t _ _ ks h hk
/-- All arguments read as before where nothing that was has turned. -/
theorem trodAll_below (hl : laidOutB P = true) {W W' : World} (hb : Below W.heap.size W W') : ∀ (ts : List TypeId) (vs : List Value) (ds : List (DataW H)) (ps : List MemPlace), (ts.all fun t => P.readableRec t && decide (t < P.types.size)) = true →
    DataW.TrodAll enc P W 0 (fun _ => true) true ts vs ds ps → (∀ x ∈ ps, x.block < W.heap.size) → DataW.TrodAll enc P W' 0 (fun b => decide (b < W.heap.size)) true ts vs ds ps
  | [], [], [], _, _, h, _ => h
  | t :: ts, v :: vs, d :: ds, ps, hr, ⟨p, q, h1, h2, e⟩, hlt => by
    simp only [List.all_cons, Bool.and_eq_true, decide_eq_true_eq] at hr
    refine ⟨p, q, Below.trod hl hr.1.1 hr.1.2 h1 hb (fun x hx => hlt x (by rw [e]; simp [hx])), trodAll_below hl hb ts vs ds q hr.2 h2 (fun x hx => hlt x (by rw [e]; simp [hx])), e⟩
  | [], _ :: _, _, _, _, h, _ => h.elim
  | [], [], _ :: _, _, _, h, _ => h.elim
  | _ :: _, [], _, _, _, h, _ => h.elim
  | _ :: _, _ :: _, [], _, _, h, _ => h.elim
end
end Go.Ev
