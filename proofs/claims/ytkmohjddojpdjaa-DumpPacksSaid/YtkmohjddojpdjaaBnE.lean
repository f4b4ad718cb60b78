/- Part 5 of the proof of DumpPacks: Dn. -/
import Derived.Test.YtkmohjddojpdjaaBnD
-- part Dn
/- All functions that are lifted. Printed by a program of this repo. -/
set_option linter.unusedVariables false
set_option linter.unusedSimpArgs false
set_option maxRecDepth 100000
set_option maxHeartbeats 4000000
namespace Go.Proofs.Ytkmohjddojpdjaa
open Go.Ev Go.RowKit

noncomputable def tr3 (ρ : Addr → Option Value) (c : CallF) (y : YieldF) (k : Nat) : DT := .node 3 (ar1 (fun lim a0 H => L3 ρ c y lim k a0 H) (fun lim args H => slowF (cx ρ) c y k lim 3 args H)) .leaf .leaf
theorem tr3_all (ρ : Addr → Option Value) (k : Nat) : (tr3 ρ (evCY (cx ρ) k).1 (evCY (cx ρ) k).2 k).All fun f h => h = fun lim args H => (evCY (cx ρ) (k + 1)).1 lim f args H :=
  ⟨ar1_eq (F := fun lim args H => (evCY (cx ρ) (k + 1)).1 lim 3 args H) (slow_at (cx ρ) k 3) (fun lim a0 H => E3 ρ k lim a0 H), trivial, trivial⟩
noncomputable def tr4 (ρ : Addr → Option Value) (c : CallF) (y : YieldF) (k : Nat) : DT := .node 4 (ar1 (fun lim a0 H => L4 ρ c y lim k a0 H) (fun lim args H => slowF (cx ρ) c y k lim 4 args H)) (tr3 ρ c y k) .leaf
theorem tr4_all (ρ : Addr → Option Value) (k : Nat) : (tr4 ρ (evCY (cx ρ) k).1 (evCY (cx ρ) k).2 k).All fun f h => h = fun lim args H => (evCY (cx ρ) (k + 1)).1 lim f args H :=
  ⟨ar1_eq (F := fun lim args H => (evCY (cx ρ) (k + 1)).1 lim 4 args H) (slow_at (cx ρ) k 4) (fun lim a0 H => E4 ρ k lim a0 H), tr3_all ρ k, trivial⟩
noncomputable def tr10 (ρ : Addr → Option Value) (c : CallF) (y : YieldF) (k : Nat) : DT := .node 10 (ar1 (fun lim a0 H => L10 ρ c y lim k a0 H) (fun lim args H => slowF (cx ρ) c y k lim 10 args H)) .leaf .leaf
theorem tr10_all (ρ : Addr → Option Value) (k : Nat) : (tr10 ρ (evCY (cx ρ) k).1 (evCY (cx ρ) k).2 k).All fun f h => h = fun lim args H => (evCY (cx ρ) (k + 1)).1 lim f args H :=
  ⟨ar1_eq (F := fun lim args H => (evCY (cx ρ) (k + 1)).1 lim 10 args H) (slow_at (cx ρ) k 10) (fun lim a0 H => E10 ρ k lim a0 H), trivial, trivial⟩
noncomputable def tr11 (ρ : Addr → Option Value) (c : CallF) (y : YieldF) (k : Nat) : DT := .node 11 (ar1 (fun lim a0 H => L11 ρ c y lim k a0 H) (fun lim args H => slowF (cx ρ) c y k lim 11 args H)) (tr10 ρ c y k) .leaf
theorem tr11_all (ρ : Addr → Option Value) (k : Nat) : (tr11 ρ (evCY (cx ρ) k).1 (evCY (cx ρ) k).2 k).All fun f h => h = fun lim args H => (evCY (cx ρ) (k + 1)).1 lim f args H :=
  ⟨ar1_eq (F := fun lim args H => (evCY (cx ρ) (k + 1)).1 lim 11 args H) (slow_at (cx ρ) k 11) (fun lim a0 H => E11 ρ k lim a0 H), tr10_all ρ k, trivial⟩
noncomputable def tr9 (ρ : Addr → Option Value) (c : CallF) (y : YieldF) (k : Nat) : DT := .node 9 (ar0 (fun lim H => L9 ρ c y lim k H) (fun lim args H => slowF (cx ρ) c y k lim 9 args H)) (tr4 ρ c y k) (tr11 ρ c y k)
theorem tr9_all (ρ : Addr → Option Value) (k : Nat) : (tr9 ρ (evCY (cx ρ) k).1 (evCY (cx ρ) k).2 k).All fun f h => h = fun lim args H => (evCY (cx ρ) (k + 1)).1 lim f args H :=
  ⟨ar0_eq (F := fun lim args H => (evCY (cx ρ) (k + 1)).1 lim 9 args H) (slow_at (cx ρ) k 9) (fun lim H => E9 ρ k lim H), tr4_all ρ k, tr11_all ρ k⟩
noncomputable def tr13 (ρ : Addr → Option Value) (c : CallF) (y : YieldF) (k : Nat) : DT := .node 13 (ar1 (fun lim a0 H => L13 ρ c y lim k a0 H) (fun lim args H => slowF (cx ρ) c y k lim 13 args H)) .leaf .leaf
theorem tr13_all (ρ : Addr → Option Value) (k : Nat) : (tr13 ρ (evCY (cx ρ) k).1 (evCY (cx ρ) k).2 k).All fun f h => h = fun lim args H => (evCY (cx ρ) (k + 1)).1 lim f args H :=
  ⟨ar1_eq (F := fun lim args H => (evCY (cx ρ) (k + 1)).1 lim 13 args H) (slow_at (cx ρ) k 13) (fun lim a0 H => E13 ρ k lim a0 H), trivial, trivial⟩
noncomputable def tr14 (ρ : Addr → Option Value) (c : CallF) (y : YieldF) (k : Nat) : DT := .node 14 (ar1 (fun lim a0 H => L14 ρ c y lim k a0 H) (fun lim args H => slowF (cx ρ) c y k lim 14 args H)) (tr13 ρ c y k) .leaf
theorem tr14_all (ρ : Addr → Option Value) (k : Nat) : (tr14 ρ (evCY (cx ρ) k).1 (evCY (cx ρ) k).2 k).All fun f h => h = fun lim args H => (evCY (cx ρ) (k + 1)).1 lim f args H :=
  ⟨ar1_eq (F := fun lim args H => (evCY (cx ρ) (k + 1)).1 lim 14 args H) (slow_at (cx ρ) k 14) (fun lim a0 H => E14 ρ k lim a0 H), tr13_all ρ k, trivial⟩
noncomputable def tr16 (ρ : Addr → Option Value) (c : CallF) (y : YieldF) (k : Nat) : DT := .node 16 (ar2 (fun lim a0 a1 H => L16 ρ c y lim k a0 a1 H) (fun lim args H => slowF (cx ρ) c y k lim 16 args H)) .leaf .leaf
theorem tr16_all (ρ : Addr → Option Value) (k : Nat) : (tr16 ρ (evCY (cx ρ) k).1 (evCY (cx ρ) k).2 k).All fun f h => h = fun lim args H => (evCY (cx ρ) (k + 1)).1 lim f args H :=
  ⟨ar2_eq (F := fun lim args H => (evCY (cx ρ) (k + 1)).1 lim 16 args H) (slow_at (cx ρ) k 16) (fun lim a0 a1 H => E16 ρ k lim a0 a1 H), trivial, trivial⟩
noncomputable def tr15 (ρ : Addr → Option Value) (c : CallF) (y : YieldF) (k : Nat) : DT := .node 15 (ar1 (fun lim a0 H => L15 ρ c y lim k a0 H) (fun lim args H => slowF (cx ρ) c y k lim 15 args H)) (tr14 ρ c y k) (tr16 ρ c y k)
theorem tr15_all (ρ : Addr → Option Value) (k : Nat) : (tr15 ρ (evCY (cx ρ) k).1 (evCY (cx ρ) k).2 k).All fun f h => h = fun lim args H => (evCY (cx ρ) (k + 1)).1 lim f args H :=
  ⟨ar1_eq (F := fun lim args H => (evCY (cx ρ) (k + 1)).1 lim 15 args H) (slow_at (cx ρ) k 15) (fun lim a0 H => E15 ρ k lim a0 H), tr14_all ρ k, tr16_all ρ k⟩
noncomputable def tr12 (ρ : Addr → Option Value) (c : CallF) (y : YieldF) (k : Nat) : DT := .node 12 (ar1 (fun lim a0 H => L12 ρ c y lim k a0 H) (fun lim args H => slowF (cx ρ) c y k lim 12 args H)) (tr9 ρ c y k) (tr15 ρ c y k)
theorem tr12_all (ρ : Addr → Option Value) (k : Nat) : (tr12 ρ (evCY (cx ρ) k).1 (evCY (cx ρ) k).2 k).All fun f h => h = fun lim args H => (evCY (cx ρ) (k + 1)).1 lim f args H :=
  ⟨ar1_eq (F := fun lim args H => (evCY (cx ρ) (k + 1)).1 lim 12 args H) (slow_at (cx ρ) k 12) (fun lim a0 H => E12 ρ k lim a0 H), tr9_all ρ k, tr15_all ρ k⟩
noncomputable def tr18 (ρ : Addr → Option Value) (c : CallF) (y : YieldF) (k : Nat) : DT := .node 18 (ar1 (fun lim a0 H => L18 ρ c y lim k a0 H) (fun lim args H => slowF (cx ρ) c y k lim 18 args H)) .leaf .leaf
theorem tr18_all (ρ : Addr → Option Value) (k : Nat) : (tr18 ρ (evCY (cx ρ) k).1 (evCY (cx ρ) k).2 k).All fun f h => h = fun lim args H => (evCY (cx ρ) (k + 1)).1 lim f args H :=
  ⟨ar1_eq (F := fun lim args H => (evCY (cx ρ) (k + 1)).1 lim 18 args H) (slow_at (cx ρ) k 18) (fun lim a0 H => E18 ρ k lim a0 H), trivial, trivial⟩
noncomputable def tr32 (ρ : Addr → Option Value) (c : CallF) (y : YieldF) (k : Nat) : DT := .node 32 (ar2 (fun lim a0 a1 H => L32 ρ c y lim k a0 a1 H) (fun lim args H => slowF (cx ρ) c y k lim 32 args H)) (tr18 ρ c y k) .leaf
theorem tr32_all (ρ : Addr → Option Value) (k : Nat) : (tr32 ρ (evCY (cx ρ) k).1 (evCY (cx ρ) k).2 k).All fun f h => h = fun lim args H => (evCY (cx ρ) (k + 1)).1 lim f args H :=
  ⟨ar2_eq (F := fun lim args H => (evCY (cx ρ) (k + 1)).1 lim 32 args H) (slow_at (cx ρ) k 32) (fun lim a0 a1 H => E32 ρ k lim a0 a1 H), tr18_all ρ k, trivial⟩
noncomputable def tr34 (ρ : Addr → Option Value) (c : CallF) (y : YieldF) (k : Nat) : DT := .node 34 (ar1 (fun lim a0 H => L34 ρ c y lim k a0 H) (fun lim args H => slowF (cx ρ) c y k lim 34 args H)) .leaf .leaf
theorem tr34_all (ρ : Addr → Option Value) (k : Nat) : (tr34 ρ (evCY (cx ρ) k).1 (evCY (cx ρ) k).2 k).All fun f h => h = fun lim args H => (evCY (cx ρ) (k + 1)).1 lim f args H :=
  ⟨ar1_eq (F := fun lim args H => (evCY (cx ρ) (k + 1)).1 lim 34 args H) (slow_at (cx ρ) k 34) (fun lim a0 H => E34 ρ k lim a0 H), trivial, trivial⟩
noncomputable def tr35 (ρ : Addr → Option Value) (c : CallF) (y : YieldF) (k : Nat) : DT := .node 35 (ar1 (fun lim a0 H => L35 ρ c y lim k a0 H) (fun lim args H => slowF (cx ρ) c y k lim 35 args H)) (tr34 ρ c y k) .leaf
theorem tr35_all (ρ : Addr → Option Value) (k : Nat) : (tr35 ρ (evCY (cx ρ) k).1 (evCY (cx ρ) k).2 k).All fun f h => h = fun lim args H => (evCY (cx ρ) (k + 1)).1 lim f args H :=
  ⟨ar1_eq (F := fun lim args H => (evCY (cx ρ) (k + 1)).1 lim 35 args H) (slow_at (cx ρ) k 35) (fun lim a0 H => E35 ρ k lim a0 H), tr34_all ρ k, trivial⟩
noncomputable def tr33 (ρ : Addr → Option Value) (c : CallF) (y : YieldF) (k : Nat) : DT := .node 33 (ar2 (fun lim a0 a1 H => L33 ρ c y lim k a0 a1 H) (fun lim args H => slowF (cx ρ) c y k lim 33 args H)) (tr32 ρ c y k) (tr35 ρ c y k)
theorem tr33_all (ρ : Addr → Option Value) (k : Nat) : (tr33 ρ (evCY (cx ρ) k).1 (evCY (cx ρ) k).2 k).All fun f h => h = fun lim args H => (evCY (cx ρ) (k + 1)).1 lim f args H :=
  ⟨ar2_eq (F := fun lim args H => (evCY (cx ρ) (k + 1)).1 lim 33 args H) (slow_at (cx ρ) k 33) (fun lim a0 a1 H => E33 ρ k lim a0 a1 H), tr32_all ρ k, tr35_all ρ k⟩
noncomputable def tr37 (ρ : Addr → Option Value) (c : CallF) (y : YieldF) (k : Nat) : DT := .node 37 (ar1 (fun lim a0 H => L37 ρ c y lim k a0 H) (fun lim args H => slowF (cx ρ) c y k lim 37 args H)) .leaf .leaf
theorem tr37_all (ρ : Addr → Option Value) (k : Nat) : (tr37 ρ (evCY (cx ρ) k).1 (evCY (cx ρ) k).2 k).All fun f h => h = fun lim args H => (evCY (cx ρ) (k + 1)).1 lim f args H :=
  ⟨ar1_eq (F := fun lim args H => (evCY (cx ρ) (k + 1)).1 lim 37 args H) (slow_at (cx ρ) k 37) (fun lim a0 H => E37 ρ k lim a0 H), trivial, trivial⟩
noncomputable def tr38 (ρ : Addr → Option Value) (c : CallF) (y : YieldF) (k : Nat) : DT := .node 38 (ar2 (fun lim a0 a1 H => L38 ρ c y lim k a0 a1 H) (fun lim args H => slowF (cx ρ) c y k lim 38 args H)) (tr37 ρ c y k) .leaf
theorem tr38_all (ρ : Addr → Option Value) (k : Nat) : (tr38 ρ (evCY (cx ρ) k).1 (evCY (cx ρ) k).2 k).All fun f h => h = fun lim args H => (evCY (cx ρ) (k + 1)).1 lim f args H :=
  ⟨ar2_eq (F := fun lim args H => (evCY (cx ρ) (k + 1)).1 lim 38 args H) (slow_at (cx ρ) k 38) (fun lim a0 a1 H => E38 ρ k lim a0 a1 H), tr37_all ρ k, trivial⟩
noncomputable def tr40 (ρ : Addr → Option Value) (c : CallF) (y : YieldF) (k : Nat) : DT := .node 40 (ar1 (fun lim a0 H => L40 ρ c y lim k a0 H) (fun lim args H => slowF (cx ρ) c y k lim 40 args H)) .leaf .leaf
theorem tr40_all (ρ : Addr → Option Value) (k : Nat) : (tr40 ρ (evCY (cx ρ) k).1 (evCY (cx ρ) k).2 k).All fun f h => h = fun lim args H => (evCY (cx ρ) (k + 1)).1 lim f args H :=
  ⟨ar1_eq (F := fun lim args H => (evCY (cx ρ) (k + 1)).1 lim 40 args H) (slow_at (cx ρ) k 40) (fun lim a0 H => E40 ρ k lim a0 H), trivial, trivial⟩
noncomputable def tr39 (ρ : Addr → Option Value) (c : CallF) (y : YieldF) (k : Nat) : DT := .node 39 (ar1 (fun lim a0 H => L39 ρ c y lim k a0 H) (fun lim args H => slowF (cx ρ) c y k lim 39 args H)) (tr38 ρ c y k) (tr40 ρ c y k)
theorem tr39_all (ρ : Addr → Option Value) (k : Nat) : (tr39 ρ (evCY (cx ρ) k).1 (evCY (cx ρ) k).2 k).All fun f h => h = fun lim args H => (evCY (cx ρ) (k + 1)).1 lim f args H :=
  ⟨ar1_eq (F := fun lim args H => (evCY (cx ρ) (k + 1)).1 lim 39 args H) (slow_at (cx ρ) k 39) (fun lim a0 H => E39 ρ k lim a0 H), tr38_all ρ k, tr40_all ρ k⟩
noncomputable def tr36 (ρ : Addr → Option Value) (c : CallF) (y : YieldF) (k : Nat) : DT := .node 36 (ar1 (fun lim a0 H => L36 ρ c y lim k a0 H) (fun lim args H => slowF (cx ρ) c y k lim 36 args H)) (tr33 ρ c y k) (tr39 ρ c y k)
theorem tr36_all (ρ : Addr → Option Value) (k : Nat) : (tr36 ρ (evCY (cx ρ) k).1 (evCY (cx ρ) k).2 k).All fun f h => h = fun lim args H => (evCY (cx ρ) (k + 1)).1 lim f args H :=
  ⟨ar1_eq (F := fun lim args H => (evCY (cx ρ) (k + 1)).1 lim 36 args H) (slow_at (cx ρ) k 36) (fun lim a0 H => E36 ρ k lim a0 H), tr33_all ρ k, tr39_all ρ k⟩
noncomputable def tr17 (ρ : Addr → Option Value) (c : CallF) (y : YieldF) (k : Nat) : DT := .node 17 (ar1 (fun lim a0 H => L17 ρ c y lim k a0 H) (fun lim args H => slowF (cx ρ) c y k lim 17 args H)) (tr12 ρ c y k) (tr36 ρ c y k)
theorem tr17_all (ρ : Addr → Option Value) (k : Nat) : (tr17 ρ (evCY (cx ρ) k).1 (evCY (cx ρ) k).2 k).All fun f h => h = fun lim args H => (evCY (cx ρ) (k + 1)).1 lim f args H :=
  ⟨ar1_eq (F := fun lim args H => (evCY (cx ρ) (k + 1)).1 lim 17 args H) (slow_at (cx ρ) k 17) (fun lim a0 H => E17 ρ k lim a0 H), tr12_all ρ k, tr36_all ρ k⟩
noncomputable def tr42 (ρ : Addr → Option Value) (c : CallF) (y : YieldF) (k : Nat) : DT := .node 42 (ar2 (fun lim a0 a1 H => L42 ρ c y lim k a0 a1 H) (fun lim args H => slowF (cx ρ) c y k lim 42 args H)) .leaf .leaf
theorem tr42_all (ρ : Addr → Option Value) (k : Nat) : (tr42 ρ (evCY (cx ρ) k).1 (evCY (cx ρ) k).2 k).All fun f h => h = fun lim args H => (evCY (cx ρ) (k + 1)).1 lim f args H :=
  ⟨ar2_eq (F := fun lim args H => (evCY (cx ρ) (k + 1)).1 lim 42 args H) (slow_at (cx ρ) k 42) (fun lim a0 a1 H => E42 ρ k lim a0 a1 H), trivial, trivial⟩
noncomputable def tr43 (ρ : Addr → Option Value) (c : CallF) (y : YieldF) (k : Nat) : DT := .node 43 (ar1 (fun lim a0 H => L43 ρ c y lim k a0 H) (fun lim args H => slowF (cx ρ) c y k lim 43 args H)) (tr42 ρ c y k) .leaf
theorem tr43_all (ρ : Addr → Option Value) (k : Nat) : (tr43 ρ (evCY (cx ρ) k).1 (evCY (cx ρ) k).2 k).All fun f h => h = fun lim args H => (evCY (cx ρ) (k + 1)).1 lim f args H :=
  ⟨ar1_eq (F := fun lim args H => (evCY (cx ρ) (k + 1)).1 lim 43 args H) (slow_at (cx ρ) k 43) (fun lim a0 H => E43 ρ k lim a0 H), tr42_all ρ k, trivial⟩
noncomputable def tr58 (ρ : Addr → Option Value) (c : CallF) (y : YieldF) (k : Nat) : DT := .node 58 (ar1 (fun lim a0 H => L58 ρ c y lim k a0 H) (fun lim args H => slowF (cx ρ) c y k lim 58 args H)) .leaf .leaf
theorem tr58_all (ρ : Addr → Option Value) (k : Nat) : (tr58 ρ (evCY (cx ρ) k).1 (evCY (cx ρ) k).2 k).All fun f h => h = fun lim args H => (evCY (cx ρ) (k + 1)).1 lim f args H :=
  ⟨ar1_eq (F := fun lim args H => (evCY (cx ρ) (k + 1)).1 lim 58 args H) (slow_at (cx ρ) k 58) (fun lim a0 H => E58 ρ k lim a0 H), trivial, trivial⟩
noncomputable def tr59 (ρ : Addr → Option Value) (c : CallF) (y : YieldF) (k : Nat) : DT := .node 59 (ar1 (fun lim a0 H => L59 ρ c y lim k a0 H) (fun lim args H => slowF (cx ρ) c y k lim 59 args H)) (tr58 ρ c y k) .leaf
theorem tr59_all (ρ : Addr → Option Value) (k : Nat) : (tr59 ρ (evCY (cx ρ) k).1 (evCY (cx ρ) k).2 k).All fun f h => h = fun lim args H => (evCY (cx ρ) (k + 1)).1 lim f args H :=
  ⟨ar1_eq (F := fun lim args H => (evCY (cx ρ) (k + 1)).1 lim 59 args H) (slow_at (cx ρ) k 59) (fun lim a0 H => E59 ρ k lim a0 H), tr58_all ρ k, trivial⟩
noncomputable def tr57 (ρ : Addr → Option Value) (c : CallF) (y : YieldF) (k : Nat) : DT := .node 57 (ar1 (fun lim a0 H => L57 ρ c y lim k a0 H) (fun lim args H => slowF (cx ρ) c y k lim 57 args H)) (tr43 ρ c y k) (tr59 ρ c y k)
theorem tr57_all (ρ : Addr → Option Value) (k : Nat) : (tr57 ρ (evCY (cx ρ) k).1 (evCY (cx ρ) k).2 k).All fun f h => h = fun lim args H => (evCY (cx ρ) (k + 1)).1 lim f args H :=
  ⟨ar1_eq (F := fun lim args H => (evCY (cx ρ) (k + 1)).1 lim 57 args H) (slow_at (cx ρ) k 57) (fun lim a0 H => E57 ρ k lim a0 H), tr43_all ρ k, tr59_all ρ k⟩
noncomputable def tr61 (ρ : Addr → Option Value) (c : CallF) (y : YieldF) (k : Nat) : DT := .node 61 (ar1 (fun lim a0 H => L61 ρ c y lim k a0 H) (fun lim args H => slowF (cx ρ) c y k lim 61 args H)) .leaf .leaf
theorem tr61_all (ρ : Addr → Option Value) (k : Nat) : (tr61 ρ (evCY (cx ρ) k).1 (evCY (cx ρ) k).2 k).All fun f h => h = fun lim args H => (evCY (cx ρ) (k + 1)).1 lim f args H :=
  ⟨ar1_eq (F := fun lim args H => (evCY (cx ρ) (k + 1)).1 lim 61 args H) (slow_at (cx ρ) k 61) (fun lim a0 H => E61 ρ k lim a0 H), trivial, trivial⟩
noncomputable def tr62 (ρ : Addr → Option Value) (c : CallF) (y : YieldF) (k : Nat) : DT := .node 62 (ar2 (fun lim a0 a1 H => L62 ρ c y lim k a0 a1 H) (fun lim args H => slowF (cx ρ) c y k lim 62 args H)) (tr61 ρ c y k) .leaf
theorem tr62_all (ρ : Addr → Option Value) (k : Nat) : (tr62 ρ (evCY (cx ρ) k).1 (evCY (cx ρ) k).2 k).All fun f h => h = fun lim args H => (evCY (cx ρ) (k + 1)).1 lim f args H :=
  ⟨ar2_eq (F := fun lim args H => (evCY (cx ρ) (k + 1)).1 lim 62 args H) (slow_at (cx ρ) k 62) (fun lim a0 a1 H => E62 ρ k lim a0 a1 H), tr61_all ρ k, trivial⟩
noncomputable def tr64 (ρ : Addr → Option Value) (c : CallF) (y : YieldF) (k : Nat) : DT := .node 64 (ar2 (fun lim a0 a1 H => L64 ρ c y lim k a0 a1 H) (fun lim args H => slowF (cx ρ) c y k lim 64 args H)) .leaf .leaf
theorem tr64_all (ρ : Addr → Option Value) (k : Nat) : (tr64 ρ (evCY (cx ρ) k).1 (evCY (cx ρ) k).2 k).All fun f h => h = fun lim args H => (evCY (cx ρ) (k + 1)).1 lim f args H :=
  ⟨ar2_eq (F := fun lim args H => (evCY (cx ρ) (k + 1)).1 lim 64 args H) (slow_at (cx ρ) k 64) (fun lim a0 a1 H => E64 ρ k lim a0 a1 H), trivial, trivial⟩
noncomputable def tr63 (ρ : Addr → Option Value) (c : CallF) (y : YieldF) (k : Nat) : DT := .node 63 (ar2 (fun lim a0 a1 H => L63 ρ c y lim k a0 a1 H) (fun lim args H => slowF (cx ρ) c y k lim 63 args H)) (tr62 ρ c y k) (tr64 ρ c y k)
theorem tr63_all (ρ : Addr → Option Value) (k : Nat) : (tr63 ρ (evCY (cx ρ) k).1 (evCY (cx ρ) k).2 k).All fun f h => h = fun lim args H => (evCY (cx ρ) (k + 1)).1 lim f args H :=
  ⟨ar2_eq (F := fun lim args H => (evCY (cx ρ) (k + 1)).1 lim 63 args H) (slow_at (cx ρ) k 63) (fun lim a0 a1 H => E63 ρ k lim a0 a1 H), tr62_all ρ k, tr64_all ρ k⟩
noncomputable def tr60 (ρ : Addr → Option Value) (c : CallF) (y : YieldF) (k : Nat) : DT := .node 60 (ar2 (fun lim a0 a1 H => L60 ρ c y lim k a0 a1 H) (fun lim args H => slowF (cx ρ) c y k lim 60 args H)) (tr57 ρ c y k) (tr63 ρ c y k)
theorem tr60_all (ρ : Addr → Option Value) (k : Nat) : (tr60 ρ (evCY (cx ρ) k).1 (evCY (cx ρ) k).2 k).All fun f h => h = fun lim args H => (evCY (cx ρ) (k + 1)).1 lim f args H :=
  ⟨ar2_eq (F := fun lim args H => (evCY (cx ρ) (k + 1)).1 lim 60 args H) (slow_at (cx ρ) k 60) (fun lim a0 a1 H => E60 ρ k lim a0 a1 H), tr57_all ρ k, tr63_all ρ k⟩
noncomputable def tr78 (ρ : Addr → Option Value) (c : CallF) (y : YieldF) (k : Nat) : DT := .node 78 (ar2 (fun lim a0 a1 H => L78 ρ c y lim k a0 a1 H) (fun lim args H => slowF (cx ρ) c y k lim 78 args H)) .leaf .leaf
theorem tr78_all (ρ : Addr → Option Value) (k : Nat) : (tr78 ρ (evCY (cx ρ) k).1 (evCY (cx ρ) k).2 k).All fun f h => h = fun lim args H => (evCY (cx ρ) (k + 1)).1 lim f args H :=
  ⟨ar2_eq (F := fun lim args H => (evCY (cx ρ) (k + 1)).1 lim 78 args H) (slow_at (cx ρ) k 78) (fun lim a0 a1 H => E78 ρ k lim a0 a1 H), trivial, trivial⟩
noncomputable def tr79 (ρ : Addr → Option Value) (c : CallF) (y : YieldF) (k : Nat) : DT := .node 79 (ar2 (fun lim a0 a1 H => L79 ρ c y lim k a0 a1 H) (fun lim args H => slowF (cx ρ) c y k lim 79 args H)) (tr78 ρ c y k) .leaf
theorem tr79_all (ρ : Addr → Option Value) (k : Nat) : (tr79 ρ (evCY (cx ρ) k).1 (evCY (cx ρ) k).2 k).All fun f h => h = fun lim args H => (evCY (cx ρ) (k + 1)).1 lim f args H :=
  ⟨ar2_eq (F := fun lim args H => (evCY (cx ρ) (k + 1)).1 lim 79 args H) (slow_at (cx ρ) k 79) (fun lim a0 a1 H => E79 ρ k lim a0 a1 H), tr78_all ρ k, trivial⟩
noncomputable def tr81 (ρ : Addr → Option Value) (c : CallF) (y : YieldF) (k : Nat) : DT := .node 81 (ar2 (fun lim a0 a1 H => L81 ρ c y lim k a0 a1 H) (fun lim args H => slowF (cx ρ) c y k lim 81 args H)) .leaf .leaf
theorem tr81_all (ρ : Addr → Option Value) (k : Nat) : (tr81 ρ (evCY (cx ρ) k).1 (evCY (cx ρ) k).2 k).All fun f h => h = fun lim args H => (evCY (cx ρ) (k + 1)).1 lim f args H :=
  ⟨ar2_eq (F := fun lim args H => (evCY (cx ρ) (k + 1)).1 lim 81 args H) (slow_at (cx ρ) k 81) (fun lim a0 a1 H => E81 ρ k lim a0 a1 H), trivial, trivial⟩
noncomputable def tr80 (ρ : Addr → Option Value) (c : CallF) (y : YieldF) (k : Nat) : DT := .node 80 (ar2 (fun lim a0 a1 H => L80 ρ c y lim k a0 a1 H) (fun lim args H => slowF (cx ρ) c y k lim 80 args H)) (tr79 ρ c y k) (tr81 ρ c y k)
theorem tr80_all (ρ : Addr → Option Value) (k : Nat) : (tr80 ρ (evCY (cx ρ) k).1 (evCY (cx ρ) k).2 k).All fun f h => h = fun lim args H => (evCY (cx ρ) (k + 1)).1 lim f args H :=
  ⟨ar2_eq (F := fun lim args H => (evCY (cx ρ) (k + 1)).1 lim 80 args H) (slow_at (cx ρ) k 80) (fun lim a0 a1 H => E80 ρ k lim a0 a1 H), tr79_all ρ k, tr81_all ρ k⟩
noncomputable def tr98 (ρ : Addr → Option Value) (c : CallF) (y : YieldF) (k : Nat) : DT := .node 98 (ar2 (fun lim a0 a1 H => L98 ρ c y lim k a0 a1 H) (fun lim args H => slowF (cx ρ) c y k lim 98 args H)) .leaf .leaf
theorem tr98_all (ρ : Addr → Option Value) (k : Nat) : (tr98 ρ (evCY (cx ρ) k).1 (evCY (cx ρ) k).2 k).All fun f h => h = fun lim args H => (evCY (cx ρ) (k + 1)).1 lim f args H :=
  ⟨ar2_eq (F := fun lim args H => (evCY (cx ρ) (k + 1)).1 lim 98 args H) (slow_at (cx ρ) k 98) (fun lim a0 a1 H => E98 ρ k lim a0 a1 H), trivial, trivial⟩
noncomputable def tr99 (ρ : Addr → Option Value) (c : CallF) (y : YieldF) (k : Nat) : DT := .node 99 (ar2 (fun lim a0 a1 H => L99 ρ c y lim k a0 a1 H) (fun lim args H => slowF (cx ρ) c y k lim 99 args H)) (tr98 ρ c y k) .leaf
theorem tr99_all (ρ : Addr → Option Value) (k : Nat) : (tr99 ρ (evCY (cx ρ) k).1 (evCY (cx ρ) k).2 k).All fun f h => h = fun lim args H => (evCY (cx ρ) (k + 1)).1 lim f args H :=
  ⟨ar2_eq (F := fun lim args H => (evCY (cx ρ) (k + 1)).1 lim 99 args H) (slow_at (cx ρ) k 99) (fun lim a0 a1 H => E99 ρ k lim a0 a1 H), tr98_all ρ k, trivial⟩
noncomputable def tr101 (ρ : Addr → Option Value) (c : CallF) (y : YieldF) (k : Nat) : DT := .node 101 (ar2 (fun lim a0 a1 H => L101 ρ c y lim k a0 a1 H) (fun lim args H => slowF (cx ρ) c y k lim 101 args H)) .leaf .leaf
theorem tr101_all (ρ : Addr → Option Value) (k : Nat) : (tr101 ρ (evCY (cx ρ) k).1 (evCY (cx ρ) k).2 k).All fun f h => h = fun lim args H => (evCY (cx ρ) (k + 1)).1 lim f args H :=
  ⟨ar2_eq (F := fun lim args H => (evCY (cx ρ) (k + 1)).1 lim 101 args H) (slow_at (cx ρ) k 101) (fun lim a0 a1 H => E101 ρ k lim a0 a1 H), trivial, trivial⟩
noncomputable def tr100 (ρ : Addr → Option Value) (c : CallF) (y : YieldF) (k : Nat) : DT := .node 100 (ar2 (fun lim a0 a1 H => L100 ρ c y lim k a0 a1 H) (fun lim args H => slowF (cx ρ) c y k lim 100 args H)) (tr99 ρ c y k) (tr101 ρ c y k)
theorem tr100_all (ρ : Addr → Option Value) (k : Nat) : (tr100 ρ (evCY (cx ρ) k).1 (evCY (cx ρ) k).2 k).All fun f h => h = fun lim args H => (evCY (cx ρ) (k + 1)).1 lim f args H :=
  ⟨ar2_eq (F := fun lim args H => (evCY (cx ρ) (k + 1)).1 lim 100 args H) (slow_at (cx ρ) k 100) (fun lim a0 a1 H => E100 ρ k lim a0 a1 H), tr99_all ρ k, tr101_all ρ k⟩
noncomputable def tr82 (ρ : Addr → Option Value) (c : CallF) (y : YieldF) (k : Nat) : DT := .node 82 (ar1 (fun lim a0 H => L82 ρ c y lim k a0 H) (fun lim args H => slowF (cx ρ) c y k lim 82 args H)) (tr80 ρ c y k) (tr100 ρ c y k)
theorem tr82_all (ρ : Addr → Option Value) (k : Nat) : (tr82 ρ (evCY (cx ρ) k).1 (evCY (cx ρ) k).2 k).All fun f h => h = fun lim args H => (evCY (cx ρ) (k + 1)).1 lim f args H :=
  ⟨ar1_eq (F := fun lim args H => (evCY (cx ρ) (k + 1)).1 lim 82 args H) (slow_at (cx ρ) k 82) (fun lim a0 H => E82 ρ k lim a0 H), tr80_all ρ k, tr100_all ρ k⟩
noncomputable def tr77 (ρ : Addr → Option Value) (c : CallF) (y : YieldF) (k : Nat) : DT := .node 77 (ar2 (fun lim a0 a1 H => L77 ρ c y lim k a0 a1 H) (fun lim args H => slowF (cx ρ) c y k lim 77 args H)) (tr60 ρ c y k) (tr82 ρ c y k)
theorem tr77_all (ρ : Addr → Option Value) (k : Nat) : (tr77 ρ (evCY (cx ρ) k).1 (evCY (cx ρ) k).2 k).All fun f h => h = fun lim args H => (evCY (cx ρ) (k + 1)).1 lim f args H :=
  ⟨ar2_eq (F := fun lim args H => (evCY (cx ρ) (k + 1)).1 lim 77 args H) (slow_at (cx ρ) k 77) (fun lim a0 a1 H => E77 ρ k lim a0 a1 H), tr60_all ρ k, tr82_all ρ k⟩
noncomputable def tr41 (ρ : Addr → Option Value) (c : CallF) (y : YieldF) (k : Nat) : DT := .node 41 (ar1 (fun lim a0 H => L41 ρ c y lim k a0 H) (fun lim args H => slowF (cx ρ) c y k lim 41 args H)) (tr17 ρ c y k) (tr77 ρ c y k)
theorem tr41_all (ρ : Addr → Option Value) (k : Nat) : (tr41 ρ (evCY (cx ρ) k).1 (evCY (cx ρ) k).2 k).All fun f h => h = fun lim args H => (evCY (cx ρ) (k + 1)).1 lim f args H :=
  ⟨ar1_eq (F := fun lim args H => (evCY (cx ρ) (k + 1)).1 lim 41 args H) (slow_at (cx ρ) k 41) (fun lim a0 H => E41 ρ k lim a0 H), tr17_all ρ k, tr77_all ρ k⟩
noncomputable def fast (ρ : Addr → Option Value) (k : Nat) : CallF := (fastY (cx ρ) (tr41 ρ) k).1
theorem fast_eq (ρ : Addr → Option Value) (k : Nat) : fast ρ k = evCall (cx ρ) k := congrArg Prod.fst (fastY_eq (cx ρ) (tr41 ρ) (tr41_all ρ) k)
end Go.Proofs.Ytkmohjddojpdjaa
