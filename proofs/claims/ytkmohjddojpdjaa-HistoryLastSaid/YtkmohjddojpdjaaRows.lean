/-
  No cell of these rows narrows 'for every input' (looked for: loops, veiled, ifaces, maps, wideKeys, modest, calm, conditions, laid).
  DERIVED. THE GIVEN ROWS OF THIS SEAT. 6 by the template 'for every input the law returns true; each argument reads behind the call as it read before'; 0 by the template 'total and deterministic' (their statements: YtkmohjddojpdjaaTotals.lean).
  GIVEN WITH THE SEED: the statements are not yours to turn. If you find one false, say at which input.
  Laid BY PROGRAM, IN A SANDBOX (cutbox-rows.mjs): the forced cells as the released guide's own fill.sh prints them over the translation ffe114ed4cf6c59f… (all of the seat's roots in one cut). By AI agents, Wed Nov 11 2026. No macro, syntax, notation, axiom, sorry.
-/
import Derived.Test.YtkmohjddojpdjaaChecked
import GoSem.Claim
import GoSem.ClaimJoined
import GoSem.ClaimMapViews
import Derived.JoinedTies
import Derived.KernelRfl
namespace Go.Proofs.Ytkmohjddojpdjaa
/- THE CELL 'sum', in the pinned program and in every row, IS THE sha256 OF THE DUMP (.gsa) THAT YtkmohjddojpdjaaProg.lean LOADS. Nothing in Lean hashes anything: it is a label: what it is worth is what the hold of that sum in a sandbox is worth. -/
noncomputable def Try.pinned : Pinned := { name := "ytkmohjddojpdjaa", sum := "ffe114ed4cf6c59f931a9ef80a4f7b6eb803829a83d6cb27e50072e1b2b22870", checked := Try.checked }
namespace Rows
def none {H : Type} : Left H := { results := [], args := [] }

/-- 'haycroftlaw31.DumpPacks': WHATEVER THE INPUT: true; the input reads as it did. -/
def dumpPacksSpec : ChangeSpec := { name := "dumpPacks", fn := fun _ => fun
  | [d] => { results := [.lit (.bool true)], args := [d] }
  | _ => none }
def dumpPacksRow : OpenClaim := { program := "ytkmohjddojpdjaa", sum := "ffe114ed4cf6c59f931a9ef80a4f7b6eb803829a83d6cb27e50072e1b2b22870", func := "haycroft/haycroftlaw31.DumpPacks", spec := "dumpPacks", inPlace := ["internal/abi.NoEscape", "internal/bytealg.MakeNoZero"], unfollowed := true, recurses := true, plainKeys := false, apart := false }
def DumpPacksSaid : Prop := dumpPacksRow.holds Try.pinned (OpenSpec.ofChange dumpPacksSpec)

/-- ITS FALSE NEIGHBOUR: 'it returns false'. Refute it at one input. -/
def dumpPacksWrong : ChangeSpec := { name := "dumpPacks", fn := fun _ => fun
  | [d] => { results := [.lit (.bool false)], args := [d] }
  | _ => none }
def DumpPacksWrongFalsely : Prop := dumpPacksRow.holds Try.pinned (OpenSpec.ofChange dumpPacksWrong)

/-- 'haycroftlaw31.DumpReads': WHATEVER THE INPUT: true; the input reads as it did. -/
def dumpReadsSpec : ChangeSpec := { name := "dumpReads", fn := fun _ => fun
  | [d] => { results := [.lit (.bool true)], args := [d] }
  | _ => none }
def dumpReadsRow : OpenClaim := { program := "ytkmohjddojpdjaa", sum := "ffe114ed4cf6c59f931a9ef80a4f7b6eb803829a83d6cb27e50072e1b2b22870", func := "haycroft/haycroftlaw31.DumpReads", spec := "dumpReads", inPlace := ["internal/abi.NoEscape", "internal/bytealg.MakeNoZero"], unfollowed := true, recurses := true, plainKeys := false, apart := false }
def DumpReadsSaid : Prop := dumpReadsRow.holds Try.pinned (OpenSpec.ofChange dumpReadsSpec)

/-- ITS FALSE NEIGHBOUR: 'it returns false'. Refute it at one input. -/
def dumpReadsWrong : ChangeSpec := { name := "dumpReads", fn := fun _ => fun
  | [d] => { results := [.lit (.bool false)], args := [d] }
  | _ => none }
def DumpReadsWrongFalsely : Prop := dumpReadsRow.holds Try.pinned (OpenSpec.ofChange dumpReadsWrong)

/-- 'haycroftlaw20.HistoryOrders': WHATEVER THE INPUT: true; the input reads as it did. -/
def historyOrdersSpec : ChangeSpec := { name := "historyOrders", fn := fun _ => fun
  | [d] => { results := [.lit (.bool true)], args := [d] }
  | _ => none }
def historyOrdersRow : OpenClaim := { program := "ytkmohjddojpdjaa", sum := "ffe114ed4cf6c59f931a9ef80a4f7b6eb803829a83d6cb27e50072e1b2b22870", func := "haycroft/haycroftlaw20.HistoryOrders", spec := "historyOrders", unfollowed := true, recurses := true, plainKeys := false, apart := false }
def HistoryOrdersSaid : Prop := historyOrdersRow.holds Try.pinned (OpenSpec.ofChange historyOrdersSpec)

/-- ITS FALSE NEIGHBOUR: 'it returns false'. Refute it at one input. -/
def historyOrdersWrong : ChangeSpec := { name := "historyOrders", fn := fun _ => fun
  | [d] => { results := [.lit (.bool false)], args := [d] }
  | _ => none }
def HistoryOrdersWrongFalsely : Prop := historyOrdersRow.holds Try.pinned (OpenSpec.ofChange historyOrdersWrong)

/-- 'haycroftlaw20.HistoryApplies': WHATEVER THE INPUT: true; the input reads as it did. -/
def historyAppliesSpec : ChangeSpec := { name := "historyApplies", fn := fun _ => fun
  | [d1, d2, d3] => { results := [.lit (.bool true)], args := [d1, d2, d3] }
  | _ => none }
def historyAppliesRow : OpenClaim := { program := "ytkmohjddojpdjaa", sum := "ffe114ed4cf6c59f931a9ef80a4f7b6eb803829a83d6cb27e50072e1b2b22870", func := "haycroft/haycroftlaw20.HistoryApplies", spec := "historyApplies", unfollowed := true, recurses := true, plainKeys := false, apart := false }
def HistoryAppliesSaid : Prop := historyAppliesRow.holds Try.pinned (OpenSpec.ofChange historyAppliesSpec)

/-- ITS FALSE NEIGHBOUR: 'it returns false'. Refute it at one input. -/
def historyAppliesWrong : ChangeSpec := { name := "historyApplies", fn := fun _ => fun
  | [d1, d2, d3] => { results := [.lit (.bool false)], args := [d1, d2, d3] }
  | _ => none }
def HistoryAppliesWrongFalsely : Prop := historyAppliesRow.holds Try.pinned (OpenSpec.ofChange historyAppliesWrong)

/-- 'haycroftlaw20.HistoryLast': WHATEVER THE INPUT: true; the input reads as it did. -/
def historyLastSpec : ChangeSpec := { name := "historyLast", fn := fun _ => fun
  | [d1, d2] => { results := [.lit (.bool true)], args := [d1, d2] }
  | _ => none }
def historyLastRow : OpenClaim := { program := "ytkmohjddojpdjaa", sum := "ffe114ed4cf6c59f931a9ef80a4f7b6eb803829a83d6cb27e50072e1b2b22870", func := "haycroft/haycroftlaw20.HistoryLast", spec := "historyLast", unfollowed := true, recurses := true, plainKeys := false, apart := false }
def HistoryLastSaid : Prop := historyLastRow.holds Try.pinned (OpenSpec.ofChange historyLastSpec)

/-- ITS FALSE NEIGHBOUR: 'it returns false'. Refute it at one input. -/
def historyLastWrong : ChangeSpec := { name := "historyLast", fn := fun _ => fun
  | [d1, d2] => { results := [.lit (.bool false)], args := [d1, d2] }
  | _ => none }
def HistoryLastWrongFalsely : Prop := historyLastRow.holds Try.pinned (OpenSpec.ofChange historyLastWrong)

/-- 'haycroftlaw20.HistoryTrue': WHATEVER THE INPUT: true; the input reads as it did. -/
def historyTrueSpec : ChangeSpec := { name := "historyTrue", fn := fun _ => fun
  | [d1, d2] => { results := [.lit (.bool true)], args := [d1, d2] }
  | _ => none }
def historyTrueRow : OpenClaim := { program := "ytkmohjddojpdjaa", sum := "ffe114ed4cf6c59f931a9ef80a4f7b6eb803829a83d6cb27e50072e1b2b22870", func := "haycroft/haycroftlaw20.HistoryTrue", spec := "historyTrue", unfollowed := true, recurses := true, plainKeys := false, apart := false }
def HistoryTrueSaid : Prop := historyTrueRow.holds Try.pinned (OpenSpec.ofChange historyTrueSpec)

/-- ITS FALSE NEIGHBOUR: 'it returns false'. Refute it at one input. -/
def historyTrueWrong : ChangeSpec := { name := "historyTrue", fn := fun _ => fun
  | [d1, d2] => { results := [.lit (.bool false)], args := [d1, d2] }
  | _ => none }
def HistoryTrueWrongFalsely : Prop := historyTrueRow.holds Try.pinned (OpenSpec.ofChange historyTrueWrong)

/- THE SECOND FORM. 'bulk': how many values and letters a reading holds, each counted each time it is reached (what is shared counts as often as it is met; a slice's spare places count too). A statement '..UptoSaid' is the law's where the arguments, and the package variables that the reading takes, are together of bulk at most 1048576: NARROWER than '..Said'. Prove '..Said' where nothing that the law and all that it calls make is longer than what came in: it says more and counts as full. Else prove '..UptoSaid'. A law counts once. -/
mutual
def uptoBulk {H : Type} : DataW H → Nat
  | .lit (.string bytes) => bytes.length + 1
  | .lit _ => 1
  | .nil => 1
  | .ptr d => uptoBulk d + 1
  | .slice elems spare => uptoBulkAll elems + uptoBulkAll spare + 1
  | .agg parts => uptoBulkAll parts + 1
  | .iface _ d => uptoBulk d + 1
  | .map entries => uptoBulkEntries entries + 1
  | .held _ => 1
def uptoBulkAll {H : Type} : List (DataW H) → Nat
  | [] => 0
  | d :: r => uptoBulk d + uptoBulkAll r
def uptoBulkEntries {H : Type} : List (Lit × DataW H) → Nat
  | [] => 0
  | x :: r => uptoBulkEntry x + uptoBulkEntries r
def uptoBulkEntry {H : Type} : Lit × DataW H → Nat
  | (.string bytes, d) => bytes.length + uptoBulk d + 1
  | (_, d) => uptoBulk d + 1
 end
def uptoSmall : (H : Type) → List (DataW H) → Bool := fun _ ds => decide (uptoBulkAll ds ≤ 1048576)
def OpenSpec.upto (s : _root_.Go.ChangeSpec) : _root_.Go.OpenSpec := { _root_.Go.OpenSpec.ofChange s with cond := some uptoSmall }

/-- 'haycroftlaw31.DumpPacks', WHERE WHAT IT READS IS OF BULK AT MOST 1048576: true; the input reads as it did. -/
def dumpPacksUptoRow : OpenClaim := { program := "ytkmohjddojpdjaa", sum := "ffe114ed4cf6c59f931a9ef80a4f7b6eb803829a83d6cb27e50072e1b2b22870", func := "haycroft/haycroftlaw31.DumpPacks", spec := "dumpPacks", inPlace := ["internal/abi.NoEscape", "internal/bytealg.MakeNoZero"], unfollowed := true, recurses := true, plainKeys := false, apart := false, narrowed := true }
def DumpPacksUptoSaid : Prop := dumpPacksUptoRow.holds Try.pinned (OpenSpec.upto dumpPacksSpec)

/-- 'haycroftlaw31.DumpReads', WHERE WHAT IT READS IS OF BULK AT MOST 1048576: true; the input reads as it did. -/
def dumpReadsUptoRow : OpenClaim := { program := "ytkmohjddojpdjaa", sum := "ffe114ed4cf6c59f931a9ef80a4f7b6eb803829a83d6cb27e50072e1b2b22870", func := "haycroft/haycroftlaw31.DumpReads", spec := "dumpReads", inPlace := ["internal/abi.NoEscape", "internal/bytealg.MakeNoZero"], unfollowed := true, recurses := true, plainKeys := false, apart := false, narrowed := true }
def DumpReadsUptoSaid : Prop := dumpReadsUptoRow.holds Try.pinned (OpenSpec.upto dumpReadsSpec)

/-- 'haycroftlaw20.HistoryOrders', WHERE WHAT IT READS IS OF BULK AT MOST 1048576: true; the input reads as it did. -/
def historyOrdersUptoRow : OpenClaim := { program := "ytkmohjddojpdjaa", sum := "ffe114ed4cf6c59f931a9ef80a4f7b6eb803829a83d6cb27e50072e1b2b22870", func := "haycroft/haycroftlaw20.HistoryOrders", spec := "historyOrders", unfollowed := true, recurses := true, plainKeys := false, apart := false, narrowed := true }
def HistoryOrdersUptoSaid : Prop := historyOrdersUptoRow.holds Try.pinned (OpenSpec.upto historyOrdersSpec)

/-- 'haycroftlaw20.HistoryApplies', WHERE WHAT IT READS IS OF BULK AT MOST 1048576: true; the input reads as it did. -/
def historyAppliesUptoRow : OpenClaim := { program := "ytkmohjddojpdjaa", sum := "ffe114ed4cf6c59f931a9ef80a4f7b6eb803829a83d6cb27e50072e1b2b22870", func := "haycroft/haycroftlaw20.HistoryApplies", spec := "historyApplies", unfollowed := true, recurses := true, plainKeys := false, apart := false, narrowed := true }
def HistoryAppliesUptoSaid : Prop := historyAppliesUptoRow.holds Try.pinned (OpenSpec.upto historyAppliesSpec)

/-- 'haycroftlaw20.HistoryLast', WHERE WHAT IT READS IS OF BULK AT MOST 1048576: true; the input reads as it did. -/
def historyLastUptoRow : OpenClaim := { program := "ytkmohjddojpdjaa", sum := "ffe114ed4cf6c59f931a9ef80a4f7b6eb803829a83d6cb27e50072e1b2b22870", func := "haycroft/haycroftlaw20.HistoryLast", spec := "historyLast", unfollowed := true, recurses := true, plainKeys := false, apart := false, narrowed := true }
def HistoryLastUptoSaid : Prop := historyLastUptoRow.holds Try.pinned (OpenSpec.upto historyLastSpec)

/-- 'haycroftlaw20.HistoryTrue', WHERE WHAT IT READS IS OF BULK AT MOST 1048576: true; the input reads as it did. -/
def historyTrueUptoRow : OpenClaim := { program := "ytkmohjddojpdjaa", sum := "ffe114ed4cf6c59f931a9ef80a4f7b6eb803829a83d6cb27e50072e1b2b22870", func := "haycroft/haycroftlaw20.HistoryTrue", spec := "historyTrue", unfollowed := true, recurses := true, plainKeys := false, apart := false, narrowed := true }
def HistoryTrueUptoSaid : Prop := historyTrueUptoRow.holds Try.pinned (OpenSpec.upto historyTrueSpec)

end Rows
end Go.Proofs.Ytkmohjddojpdjaa
