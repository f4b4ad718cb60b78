/- EvArg: a slice that comes in, read off memory as it stands. -/
import Derived.Test.YtonakeopionkkaaGreatEvO
import Derived.Test.YtonakeopionkkaaGreatEvSl
import Derived.ChangeArms
set_option linter.unusedVariables false
set_option linter.unusedSimpArgs false
namespace Go.Ev
open Go.RowKit Go.ChangeShapes Go.WideShapes Go.ChangeAt
/-- A slice out of memory. -/
def argSl (p : Option Addr) (n c : Nat) : AV := match p with
  | none => .nils
  | some a => .xs a n c
theorem exists_list {α : Type} {P : Nat → α → Prop} : ∀ n, (∀ i, i < n → ∃ x, P i x) → ∃ l : List α, l.length = n ∧ ∀ i (h : i < l.length), P i l[i]
  | 0, _ => ⟨[], rfl, fun i h => by simp at h⟩
  | n + 1, h => by
    obtain ⟨l, hl, hp⟩ := exists_list n fun i hi => h i (by omega)
    obtain ⟨x, hx⟩ := h n (by omega)
    refine ⟨l ++ [x], by simp [hl], fun i hi => ?_⟩
    by_cases e : i < l.length
    · rw [List.getElem_append_left e]; exact hp i e
    · have : i = n := by simp at hi; omega
      subst this
      rw [List.getElem_append_right (by omega)]
      simpa [hl] using hx
theorem exists_map {α β : Type} {f : β → α} {Q : β → Prop} : ∀ l : List α, (∀ r ∈ l, ∃ d, f d = r ∧ Q d) → ∃ ds : List β, l = ds.map f ∧ ∀ d ∈ ds, Q d
  | [], _ => ⟨[], rfl, fun d h => by simp at h⟩
  | r :: l, h => by
    obtain ⟨d, hd, hq⟩ := h r (by simp)
    obtain ⟨ds, e, hq2⟩ := exists_map l fun r hr => h r (by simp [hr])
    refine ⟨d :: ds, by rw [List.map_cons, hd, e], fun x hx => ?_⟩
    rcases List.mem_cons.1 hx with rfl | hx
    · exact hq
    · exact hq2 x hx
section
variable {H : Type} {enc : TypeId × Value → H} {P : Program} {w : World} {base : Nat} {spare : Nat → Bool} {held : Bool}
theorem open_slice {t e : TypeId} {p : Option Addr} {n c : Nat} {dd : DataW H} {ps : List MemPlace} {ks : List CK} (d : Nat) (ht : P.underlying t = some (.slice e)) (hk : kinds P d e = some ks) (hc : P.cellsOf e = ks.length) (h : DataW.Trod enc P w base spare held t (.slice p n c) dd ps) :
    ∃ els : List (List Value), els.length = n ∧ c ≤ maxLen ∧ n ≤ c ∧ (∀ r ∈ els, Fits ks r) ∧ (∀ Hp, Els (fun a => w.cell? a) Hp ks.length (argSl p n c) (els.map fun r => r.map ofCell)) ∧ (∀ Γ Hp, RV Γ Hp (argSl p n c) (.slice p n c)) := by
  obtain ⟨fuel, h⟩ := h
  cases fuel with
  | zero => cases h
  | succ fuel =>
    unfold DataW.trod at h
    rw [ht] at h
    cases p with
    | none =>
      simp only [Value.cells] at h
      by_cases h0 : n = 0 ∧ c = 0
      · obtain ⟨rfl, rfl⟩ := h0
        exact ⟨[], rfl, by decide, Nat.le_refl _, fun r hr => by simp at hr, fun Hp => rfl, fun Γ Hp => rfl⟩
      · exfalso
        revert h
        cases n with
        | zero =>
          cases c with
          | zero => exact absurd ⟨rfl, rfl⟩ h0
          | succ c => intro h; cases h
        | succ n => intro h; cases h
    | some a =>
      simp only [Value.cells] at h
      split at h
      · rename_i hcond
        obtain ⟨hb, hnc, hcm⟩ := hcond
        obtain ⟨elems, hm, _⟩ := Option.bind_eq_some_iff.1 h
        have each : ∀ i, i < n → ∃ cs : List Value, cs.length = ks.length ∧ (∀ j, j < ks.length → w.cell? ((a.add (i * ks.length)).add j) = cs[j]?) ∧ Fits ks cs := by
          intro i hi
          obtain ⟨x, hx⟩ := mapM_some_mem hm i (List.mem_range.2 hi)
          obtain ⟨cs, hcs, hx⟩ := Option.bind_eq_some_iff.1 hx
          obtain ⟨_, hl, hcell⟩ := World.cells?_some hcs
          rw [hc] at hl hcell
          exact ⟨cs, hl, hcell, kinds_fits d fuel e cs x ks hx hk⟩
        obtain ⟨els, hl, hp⟩ := exists_list n each
        refine ⟨els, hl, hcm, hnc, fun r hr => ?_, fun Hp => ⟨by simp [hl], hnc, fun i hi => ?_⟩, fun Γ Hp => rfl⟩
        · obtain ⟨i, hi, rfl⟩ := List.mem_iff_getElem.1 hr
          exact (hp i hi).2.2
        · have hi' : i < els.length := by simpa using hi
          obtain ⟨h1, h2, _⟩ := hp i hi'
          rw [List.getElem_map]
          refine ⟨by rw [List.length_map, h1], fun off ho => ?_⟩
          rw [← Addr.add_add]
          show (w.cell? _).map ofCell = _
          rw [h2 off ho, List.getElem?_map]
      · cases h
end
theorem reads_cell (C : Ctx) (w : World) (h : C.ρ = fun a => w.cell? a) : Reads C w := fun a v e => by
  rw [h] at e
  exact ⟨World.block_lt_of_cell? w a e, e⟩
end Go.Ev
