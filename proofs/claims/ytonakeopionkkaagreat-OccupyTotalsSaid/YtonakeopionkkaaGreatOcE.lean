/- OccupyTotals: the call, whatever the slice holds. -/
import Derived.Test.YtonakeopionkkaaGreatOcD
import Derived.Test.YtonakeopionkkaaGreatExtOccupyTotals
import Derived.Test.YtonakeopionkkaaGreatEvArg
import Derived.WalkKit
set_option linter.unusedVariables false
set_option linter.unusedSimpArgs false
namespace Go.Proofs.YtonakeopionkkaaGreat
open Go.Ev Go.RowKit
def UseD.vals (d : UseD) : List Value := [.int .i64 d.page, .int .i64 d.live, .int .i64 d.tomb, .int .i64 d.old, .int .i64 d.rest]
theorem walk {Hh : Type} {enc : TypeId × Value → Hh} {W : World} {base : Nat} {spare : Nat → Bool} {held : Bool} {p : Option Addr} {n c : Nat} {dd : DataW Hh} {ps : List MemPlace} (h : DataW.Trod enc Tryz.prog W base spare held 23 (.slice p n c) dd ps) (live : Int) :
    Calls Tryz.prog 4 #[.slice p n c, .int .i64 live] W fun e w' => e = .returned (.bool true) ∧ Below W.heap.size W w' := by
  obtain ⟨els, hl, hc, hnc, hf, hE, hR⟩ := open_slice (ks := [.int .i64, .int .i64, .int .i64, .int .i64, .int .i64]) 20 Tryz.underlying23 (by kernel_rfl) (by kernel_rfl) h
  obtain ⟨ds, rfl, _⟩ := exists_map (f := UseD.vals) (Q := fun _ => True) els fun r hr => by
    obtain ⟨_, _, rfl, ⟨a, rfl, _⟩, _, _, rfl, ⟨b, rfl, _⟩, _, _, rfl, ⟨c, rfl, _⟩, _, _, rfl, ⟨d, rfl, _⟩, _, _, rfl, ⟨e, rfl, _⟩, rfl⟩ := hf r hr
    exact ⟨⟨a, b, c, d, e⟩, rfl, trivial⟩
  have hx0 : ∀ Hp, Els (fun a => W.cell? a) Hp 5 (argSl p n c) (ds.map UseD.cells) := fun Hp => by
    have := hE Hp
    rw [List.map_map] at this
    exact this
  obtain ⟨H1, hrun⟩ := law_run (ρ := fun a => W.cell? a) hx0 (fun l q => by cases p <;> exact q) live
  exact calls_of_run_reads (C := cx fun a => W.cell? a) (vs := [.slice p n c, .int .i64 live]) (reads_cell _ _ rfl) (by kernel_rfl) (cx_ext _) Tryz.func4 rfl hrun ⟨_, _, rfl, hR _ _, ⟨_, _, rfl, rfl, rfl⟩⟩
end Go.Proofs.YtonakeopionkkaaGreat
