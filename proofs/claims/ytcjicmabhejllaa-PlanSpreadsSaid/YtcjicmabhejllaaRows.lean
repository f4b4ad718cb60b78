/-
  No cell of these rows narrows 'for every input' (looked for: loops, veiled, ifaces, maps, wideKeys, modest, calm, conditions, laid).
  DERIVED. THE GIVEN ROWS OF THIS SEAT. 6 by the template 'for every input the law returns true; each argument reads behind the call as it read before'; 0 by the template 'total and deterministic' (their statements: YtcjicmabhejllaaTotals.lean).
  GIVEN WITH THE SEED: the statements are not yours to turn. If you find one false, say at which input.
  Laid BY PROGRAM, IN A SANDBOX (cutbox-rows.mjs): the forced cells as the released guide's own fill.sh prints them over the translation 590fdd19c05cec5a… (all of the seat's roots in one cut). By AI agents, Wed Nov 11 2026. No macro, syntax, notation, axiom, sorry.
-/
import Derived.Test.YtcjicmabhejllaaChecked
import GoSem.Claim
import GoSem.ClaimJoined
import GoSem.ClaimMapViews
import Derived.JoinedTies
import Derived.KernelRfl
namespace Go.Proofs.Ytcjicmabhejllaa
/- THE CELL 'sum', in the pinned program and in every row, IS THE sha256 OF THE DUMP (.gsa) THAT YtcjicmabhejllaaProg.lean LOADS. Nothing in Lean hashes anything: it is a label: what it is worth is what the hold of that sum in a sandbox is worth. -/
noncomputable def Try.pinned : Pinned := { name := "ytcjicmabhejllaa", sum := "590fdd19c05cec5a3be3d84a8d6679272a03c624c6f4d8edaf3d6bb9f9b2638b", checked := Try.checked }
namespace Rows
def none {H : Type} : Left H := { results := [], args := [] }

/-- 'haycroftlaw32.PlanDraws': WHATEVER THE INPUT: true; the input reads as it did. -/
def planDrawsSpec : ChangeSpec := { name := "planDraws", fn := fun _ => fun
  | [d] => { results := [.lit (.bool true)], args := [d] }
  | _ => none }
def planDrawsRow : OpenClaim := { program := "ytcjicmabhejllaa", sum := "590fdd19c05cec5a3be3d84a8d6679272a03c624c6f4d8edaf3d6bb9f9b2638b", func := "haycroft/haycroftlaw32.PlanDraws", spec := "planDraws", apart := false }
def PlanDrawsSaid : Prop := planDrawsRow.holds Try.pinned (OpenSpec.ofChange planDrawsSpec)

/-- ITS FALSE NEIGHBOUR: 'it returns false'. Refute it at one input. -/
def planDrawsWrong : ChangeSpec := { name := "planDraws", fn := fun _ => fun
  | [d] => { results := [.lit (.bool false)], args := [d] }
  | _ => none }
def PlanDrawsWrongFalsely : Prop := planDrawsRow.holds Try.pinned (OpenSpec.ofChange planDrawsWrong)

/-- 'haycroftlaw03.MixKeys': WHATEVER THE INPUT: true; the input reads as it did. -/
def mixKeysSpec : ChangeSpec := { name := "mixKeys", fn := fun _ => fun
  | [d1, d2] => { results := [.lit (.bool true)], args := [d1, d2] }
  | _ => none }
def mixKeysRow : OpenClaim := { program := "ytcjicmabhejllaa", sum := "590fdd19c05cec5a3be3d84a8d6679272a03c624c6f4d8edaf3d6bb9f9b2638b", func := "haycroft/haycroftlaw03.MixKeys", spec := "mixKeys", apart := false }
def MixKeysSaid : Prop := mixKeysRow.holds Try.pinned (OpenSpec.ofChange mixKeysSpec)

/-- ITS FALSE NEIGHBOUR: 'it returns false'. Refute it at one input. -/
def mixKeysWrong : ChangeSpec := { name := "mixKeys", fn := fun _ => fun
  | [d1, d2] => { results := [.lit (.bool false)], args := [d1, d2] }
  | _ => none }
def MixKeysWrongFalsely : Prop := mixKeysRow.holds Try.pinned (OpenSpec.ofChange mixKeysWrong)

/-- 'haycroftlaw03.MixTags': WHATEVER THE INPUT: true; the input reads as it did. -/
def mixTagsSpec : ChangeSpec := { name := "mixTags", fn := fun _ => fun
  | [d1, d2, d3] => { results := [.lit (.bool true)], args := [d1, d2, d3] }
  | _ => none }
def mixTagsRow : OpenClaim := { program := "ytcjicmabhejllaa", sum := "590fdd19c05cec5a3be3d84a8d6679272a03c624c6f4d8edaf3d6bb9f9b2638b", func := "haycroft/haycroftlaw03.MixTags", spec := "mixTags", apart := false }
def MixTagsSaid : Prop := mixTagsRow.holds Try.pinned (OpenSpec.ofChange mixTagsSpec)

/-- ITS FALSE NEIGHBOUR: 'it returns false'. Refute it at one input. -/
def mixTagsWrong : ChangeSpec := { name := "mixTags", fn := fun _ => fun
  | [d1, d2, d3] => { results := [.lit (.bool false)], args := [d1, d2, d3] }
  | _ => none }
def MixTagsWrongFalsely : Prop := mixTagsRow.holds Try.pinned (OpenSpec.ofChange mixTagsWrong)

/-- 'haycroftlaw32.PlanRounds': WHATEVER THE INPUT: true; the input reads as it did. -/
def planRoundsSpec : ChangeSpec := { name := "planRounds", fn := fun _ => fun
  | [d1, d2, d3] => { results := [.lit (.bool true)], args := [d1, d2, d3] }
  | _ => none }
def planRoundsRow : OpenClaim := { program := "ytcjicmabhejllaa", sum := "590fdd19c05cec5a3be3d84a8d6679272a03c624c6f4d8edaf3d6bb9f9b2638b", func := "haycroft/haycroftlaw32.PlanRounds", spec := "planRounds", unfollowed := true, recurses := true, apart := false }
def PlanRoundsSaid : Prop := planRoundsRow.holds Try.pinned (OpenSpec.ofChange planRoundsSpec)

/-- ITS FALSE NEIGHBOUR: 'it returns false'. Refute it at one input. -/
def planRoundsWrong : ChangeSpec := { name := "planRounds", fn := fun _ => fun
  | [d1, d2, d3] => { results := [.lit (.bool false)], args := [d1, d2, d3] }
  | _ => none }
def PlanRoundsWrongFalsely : Prop := planRoundsRow.holds Try.pinned (OpenSpec.ofChange planRoundsWrong)

/-- 'haycroftlaw32.PlanSteps': WHATEVER THE INPUT: true; the input reads as it did. -/
def planStepsSpec : ChangeSpec := { name := "planSteps", fn := fun _ => fun
  | [d1, d2, d3] => { results := [.lit (.bool true)], args := [d1, d2, d3] }
  | _ => none }
def planStepsRow : OpenClaim := { program := "ytcjicmabhejllaa", sum := "590fdd19c05cec5a3be3d84a8d6679272a03c624c6f4d8edaf3d6bb9f9b2638b", func := "haycroft/haycroftlaw32.PlanSteps", spec := "planSteps", inPlace := ["internal/abi.NoEscape", "internal/bytealg.MakeNoZero"], unfollowed := true, recurses := true, apart := false }
def PlanStepsSaid : Prop := planStepsRow.holds Try.pinned (OpenSpec.ofChange planStepsSpec)

/-- ITS FALSE NEIGHBOUR: 'it returns false'. Refute it at one input. -/
def planStepsWrong : ChangeSpec := { name := "planSteps", fn := fun _ => fun
  | [d1, d2, d3] => { results := [.lit (.bool false)], args := [d1, d2, d3] }
  | _ => none }
def PlanStepsWrongFalsely : Prop := planStepsRow.holds Try.pinned (OpenSpec.ofChange planStepsWrong)

/-- 'haycroftlaw32.PlanSpreads': WHATEVER THE INPUT: true; the input reads as it did. -/
def planSpreadsSpec : ChangeSpec := { name := "planSpreads", fn := fun _ => fun
  | [d1, d2, d3, d4] => { results := [.lit (.bool true)], args := [d1, d2, d3, d4] }
  | _ => none }
def planSpreadsRow : OpenClaim := { program := "ytcjicmabhejllaa", sum := "590fdd19c05cec5a3be3d84a8d6679272a03c624c6f4d8edaf3d6bb9f9b2638b", func := "haycroft/haycroftlaw32.PlanSpreads", spec := "planSpreads", inPlace := ["internal/abi.NoEscape", "internal/bytealg.MakeNoZero"], unfollowed := true, recurses := true, apart := false }
def PlanSpreadsSaid : Prop := planSpreadsRow.holds Try.pinned (OpenSpec.ofChange planSpreadsSpec)

/-- ITS FALSE NEIGHBOUR: 'it returns false'. Refute it at one input. -/
def planSpreadsWrong : ChangeSpec := { name := "planSpreads", fn := fun _ => fun
  | [d1, d2, d3, d4] => { results := [.lit (.bool false)], args := [d1, d2, d3, d4] }
  | _ => none }
def PlanSpreadsWrongFalsely : Prop := planSpreadsRow.holds Try.pinned (OpenSpec.ofChange planSpreadsWrong)

/- THE SECOND FORM. 'bulk': how many values and letters a reading holds, each counted each time it is reached (what is shared counts as often as it is met; a slice's spare places count too). A statement '..UptoSaid' is the law's where the arguments, and the package variables that the reading takes, are together of bulk at most 1048576: NARROWER than '..Said'. Prove '..Said' where nothing that the law and all that it calls make is longer than what came in: it says more and counts as full. Else prove '..UptoSaid'. A law counts once. -/
mutual
def uptoBulk {H : Type} : DataW H → Nat
  | .lit (.string bytes) => bytes.length + 1
  | .lit _ => 1
  | .nil => 1
  | .ptr d => uptoBulk d + 1
  | .slice elems spare => uptoBulkAll elems + uptoBulkAll spare + 1
  | .agg parts => uptoBulkAll parts + 1
  | .iface _ d => uptoBulk d + 1
  | .map entries => uptoBulkEntries entries + 1
  | .held _ => 1
def uptoBulkAll {H : Type} : List (DataW H) → Nat
  | [] => 0
  | d :: r => uptoBulk d + uptoBulkAll r
def uptoBulkEntries {H : Type} : List (Lit × DataW H) → Nat
  | [] => 0
  | x :: r => uptoBulkEntry x + uptoBulkEntries r
def uptoBulkEntry {H : Type} : Lit × DataW H → Nat
  | (.string bytes, d) => bytes.length + uptoBulk d + 1
  | (_, d) => uptoBulk d + 1
 end
def uptoSmall : (H : Type) → List (DataW H) → Bool := fun _ ds => decide (uptoBulkAll ds ≤ 1048576)
def OpenSpec.upto (s : _root_.Go.ChangeSpec) : _root_.Go.OpenSpec := { _root_.Go.OpenSpec.ofChange s with cond := some uptoSmall }

/-- 'haycroftlaw32.PlanDraws', WHERE WHAT IT READS IS OF BULK AT MOST 1048576: true; the input reads as it did. -/
def planDrawsUptoRow : OpenClaim := { program := "ytcjicmabhejllaa", sum := "590fdd19c05cec5a3be3d84a8d6679272a03c624c6f4d8edaf3d6bb9f9b2638b", func := "haycroft/haycroftlaw32.PlanDraws", spec := "planDraws", apart := false, narrowed := true }
def PlanDrawsUptoSaid : Prop := planDrawsUptoRow.holds Try.pinned (OpenSpec.upto planDrawsSpec)

/-- 'haycroftlaw03.MixKeys', WHERE WHAT IT READS IS OF BULK AT MOST 1048576: true; the input reads as it did. -/
def mixKeysUptoRow : OpenClaim := { program := "ytcjicmabhejllaa", sum := "590fdd19c05cec5a3be3d84a8d6679272a03c624c6f4d8edaf3d6bb9f9b2638b", func := "haycroft/haycroftlaw03.MixKeys", spec := "mixKeys", apart := false, narrowed := true }
def MixKeysUptoSaid : Prop := mixKeysUptoRow.holds Try.pinned (OpenSpec.upto mixKeysSpec)

/-- 'haycroftlaw03.MixTags', WHERE WHAT IT READS IS OF BULK AT MOST 1048576: true; the input reads as it did. -/
def mixTagsUptoRow : OpenClaim := { program := "ytcjicmabhejllaa", sum := "590fdd19c05cec5a3be3d84a8d6679272a03c624c6f4d8edaf3d6bb9f9b2638b", func := "haycroft/haycroftlaw03.MixTags", spec := "mixTags", apart := false, narrowed := true }
def MixTagsUptoSaid : Prop := mixTagsUptoRow.holds Try.pinned (OpenSpec.upto mixTagsSpec)

/-- 'haycroftlaw32.PlanRounds', WHERE WHAT IT READS IS OF BULK AT MOST 1048576: true; the input reads as it did. -/
def planRoundsUptoRow : OpenClaim := { program := "ytcjicmabhejllaa", sum := "590fdd19c05cec5a3be3d84a8d6679272a03c624c6f4d8edaf3d6bb9f9b2638b", func := "haycroft/haycroftlaw32.PlanRounds", spec := "planRounds", unfollowed := true, recurses := true, apart := false, narrowed := true }
def PlanRoundsUptoSaid : Prop := planRoundsUptoRow.holds Try.pinned (OpenSpec.upto planRoundsSpec)

/-- 'haycroftlaw32.PlanSteps', WHERE WHAT IT READS IS OF BULK AT MOST 1048576: true; the input reads as it did. -/
def planStepsUptoRow : OpenClaim := { program := "ytcjicmabhejllaa", sum := "590fdd19c05cec5a3be3d84a8d6679272a03c624c6f4d8edaf3d6bb9f9b2638b", func := "haycroft/haycroftlaw32.PlanSteps", spec := "planSteps", inPlace := ["internal/abi.NoEscape", "internal/bytealg.MakeNoZero"], unfollowed := true, recurses := true, apart := false, narrowed := true }
def PlanStepsUptoSaid : Prop := planStepsUptoRow.holds Try.pinned (OpenSpec.upto planStepsSpec)

/-- 'haycroftlaw32.PlanSpreads', WHERE WHAT IT READS IS OF BULK AT MOST 1048576: true; the input reads as it did. -/
def planSpreadsUptoRow : OpenClaim := { program := "ytcjicmabhejllaa", sum := "590fdd19c05cec5a3be3d84a8d6679272a03c624c6f4d8edaf3d6bb9f9b2638b", func := "haycroft/haycroftlaw32.PlanSpreads", spec := "planSpreads", inPlace := ["internal/abi.NoEscape", "internal/bytealg.MakeNoZero"], unfollowed := true, recurses := true, apart := false, narrowed := true }
def PlanSpreadsUptoSaid : Prop := planSpreadsUptoRow.holds Try.pinned (OpenSpec.upto planSpreadsSpec)

end Rows
end Go.Proofs.Ytcjicmabhejllaa
