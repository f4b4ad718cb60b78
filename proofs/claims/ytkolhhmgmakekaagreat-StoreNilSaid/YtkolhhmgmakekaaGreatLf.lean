/- All functions that are lifted. Printed by a program of this repo. -/
import Derived.Test.YtkolhhmgmakekaaGreatLf0
import Derived.Test.YtkolhhmgmakekaaGreatLf1
set_option linter.unusedVariables false
set_option linter.unusedSimpArgs false
set_option maxRecDepth 100000
set_option maxHeartbeats 4000000
namespace Go.Proofs.YtkolhhmgmakekaaGreat
open Go.Ev Go.RowKit

theorem ldT23 (ρ : Addr → Option Value) (H : Heap) (x : AV) : loadA (cx ρ) H 23 x = ldN ρ H 6 x := by kernel_rfl
theorem ldT36 (ρ : Addr → Option Value) (H : Heap) (x : AV) : loadA (cx ρ) H 36 x = ldN ρ H 2 x := by kernel_rfl
theorem ldT117 (ρ : Addr → Option Value) (H : Heap) (x : AV) : loadA (cx ρ) H 117 x = ldN ρ H 4 x := by kernel_rfl
theorem ldT176 (ρ : Addr → Option Value) (H : Heap) (x : AV) : loadA (cx ρ) H 176 x = ldN ρ H 3 x := by kernel_rfl
noncomputable def tr3 (ρ : Addr → Option Value) (c : CallF) (y : YieldF) (k : Nat) : DT := .node 3 (ar2 (fun lim a0 a1 H => L3 ρ c y lim k a0 a1 H) (fun lim args H => slowF (cx ρ) c y k lim 3 args H)) .leaf .leaf
theorem tr3_all (ρ : Addr → Option Value) (k : Nat) : (tr3 ρ (evCY (cx ρ) k).1 (evCY (cx ρ) k).2 k).All fun f h => h = fun lim args H => (evCY (cx ρ) (k + 1)).1 lim f args H :=
  ⟨ar2_eq (F := fun lim args H => (evCY (cx ρ) (k + 1)).1 lim 3 args H) (slow_at (cx ρ) k 3) (fun lim a0 a1 H => E3 ρ k lim a0 a1 H), trivial, trivial⟩
noncomputable def tr4 (ρ : Addr → Option Value) (c : CallF) (y : YieldF) (k : Nat) : DT := .node 4 (ar0 (fun lim H => L4 ρ c y lim k H) (fun lim args H => slowF (cx ρ) c y k lim 4 args H)) (tr3 ρ c y k) .leaf
theorem tr4_all (ρ : Addr → Option Value) (k : Nat) : (tr4 ρ (evCY (cx ρ) k).1 (evCY (cx ρ) k).2 k).All fun f h => h = fun lim args H => (evCY (cx ρ) (k + 1)).1 lim f args H :=
  ⟨ar0_eq (F := fun lim args H => (evCY (cx ρ) (k + 1)).1 lim 4 args H) (slow_at (cx ρ) k 4) (fun lim H => E4 ρ k lim H), tr3_all ρ k, trivial⟩
noncomputable def tr6 (ρ : Addr → Option Value) (c : CallF) (y : YieldF) (k : Nat) : DT := .node 6 (ar3 (fun lim a0 a1 a2 H => L6 ρ c y lim k a0 a1 a2 H) (fun lim args H => slowF (cx ρ) c y k lim 6 args H)) .leaf .leaf
theorem tr6_all (ρ : Addr → Option Value) (k : Nat) : (tr6 ρ (evCY (cx ρ) k).1 (evCY (cx ρ) k).2 k).All fun f h => h = fun lim args H => (evCY (cx ρ) (k + 1)).1 lim f args H :=
  ⟨ar3_eq (F := fun lim args H => (evCY (cx ρ) (k + 1)).1 lim 6 args H) (slow_at (cx ρ) k 6) (fun lim a0 a1 a2 H => E6 ρ k lim a0 a1 a2 H), trivial, trivial⟩
noncomputable def tr5 (ρ : Addr → Option Value) (c : CallF) (y : YieldF) (k : Nat) : DT := .node 5 (ar2 (fun lim a0 a1 H => L5 ρ c y lim k a0 a1 H) (fun lim args H => slowF (cx ρ) c y k lim 5 args H)) (tr4 ρ c y k) (tr6 ρ c y k)
theorem tr5_all (ρ : Addr → Option Value) (k : Nat) : (tr5 ρ (evCY (cx ρ) k).1 (evCY (cx ρ) k).2 k).All fun f h => h = fun lim args H => (evCY (cx ρ) (k + 1)).1 lim f args H :=
  ⟨ar2_eq (F := fun lim args H => (evCY (cx ρ) (k + 1)).1 lim 5 args H) (slow_at (cx ρ) k 5) (fun lim a0 a1 H => E5 ρ k lim a0 a1 H), tr4_all ρ k, tr6_all ρ k⟩
noncomputable def tr8 (ρ : Addr → Option Value) (c : CallF) (y : YieldF) (k : Nat) : DT := .node 8 (ar0 (fun lim H => L8 ρ c y lim k H) (fun lim args H => slowF (cx ρ) c y k lim 8 args H)) .leaf .leaf
theorem tr8_all (ρ : Addr → Option Value) (k : Nat) : (tr8 ρ (evCY (cx ρ) k).1 (evCY (cx ρ) k).2 k).All fun f h => h = fun lim args H => (evCY (cx ρ) (k + 1)).1 lim f args H :=
  ⟨ar0_eq (F := fun lim args H => (evCY (cx ρ) (k + 1)).1 lim 8 args H) (slow_at (cx ρ) k 8) (fun lim H => E8 ρ k lim H), trivial, trivial⟩
noncomputable def tr9 (ρ : Addr → Option Value) (c : CallF) (y : YieldF) (k : Nat) : DT := .node 9 (ar2 (fun lim a0 a1 H => L9 ρ c y lim k a0 a1 H) (fun lim args H => slowF (cx ρ) c y k lim 9 args H)) (tr8 ρ c y k) .leaf
theorem tr9_all (ρ : Addr → Option Value) (k : Nat) : (tr9 ρ (evCY (cx ρ) k).1 (evCY (cx ρ) k).2 k).All fun f h => h = fun lim args H => (evCY (cx ρ) (k + 1)).1 lim f args H :=
  ⟨ar2_eq (F := fun lim args H => (evCY (cx ρ) (k + 1)).1 lim 9 args H) (slow_at (cx ρ) k 9) (fun lim a0 a1 H => E9 ρ k lim a0 a1 H), tr8_all ρ k, trivial⟩
noncomputable def tr11 (ρ : Addr → Option Value) (c : CallF) (y : YieldF) (k : Nat) : DT := .node 11 (ar1 (fun lim a0 H => L11 ρ c y lim k a0 H) (fun lim args H => slowF (cx ρ) c y k lim 11 args H)) .leaf .leaf
theorem tr11_all (ρ : Addr → Option Value) (k : Nat) : (tr11 ρ (evCY (cx ρ) k).1 (evCY (cx ρ) k).2 k).All fun f h => h = fun lim args H => (evCY (cx ρ) (k + 1)).1 lim f args H :=
  ⟨ar1_eq (F := fun lim args H => (evCY (cx ρ) (k + 1)).1 lim 11 args H) (slow_at (cx ρ) k 11) (fun lim a0 H => E11 ρ k lim a0 H), trivial, trivial⟩
noncomputable def tr10 (ρ : Addr → Option Value) (c : CallF) (y : YieldF) (k : Nat) : DT := .node 10 (ar1 (fun lim a0 H => L10 ρ c y lim k a0 H) (fun lim args H => slowF (cx ρ) c y k lim 10 args H)) (tr9 ρ c y k) (tr11 ρ c y k)
theorem tr10_all (ρ : Addr → Option Value) (k : Nat) : (tr10 ρ (evCY (cx ρ) k).1 (evCY (cx ρ) k).2 k).All fun f h => h = fun lim args H => (evCY (cx ρ) (k + 1)).1 lim f args H :=
  ⟨ar1_eq (F := fun lim args H => (evCY (cx ρ) (k + 1)).1 lim 10 args H) (slow_at (cx ρ) k 10) (fun lim a0 H => E10 ρ k lim a0 H), tr9_all ρ k, tr11_all ρ k⟩
noncomputable def tr7 (ρ : Addr → Option Value) (c : CallF) (y : YieldF) (k : Nat) : DT := .node 7 (ar2 (fun lim a0 a1 H => L7 ρ c y lim k a0 a1 H) (fun lim args H => slowF (cx ρ) c y k lim 7 args H)) (tr5 ρ c y k) (tr10 ρ c y k)
theorem tr7_all (ρ : Addr → Option Value) (k : Nat) : (tr7 ρ (evCY (cx ρ) k).1 (evCY (cx ρ) k).2 k).All fun f h => h = fun lim args H => (evCY (cx ρ) (k + 1)).1 lim f args H :=
  ⟨ar2_eq (F := fun lim args H => (evCY (cx ρ) (k + 1)).1 lim 7 args H) (slow_at (cx ρ) k 7) (fun lim a0 a1 H => E7 ρ k lim a0 a1 H), tr5_all ρ k, tr10_all ρ k⟩
noncomputable def tr13 (ρ : Addr → Option Value) (c : CallF) (y : YieldF) (k : Nat) : DT := .node 13 (ar1 (fun lim a0 H => L13 ρ c y lim k a0 H) (fun lim args H => slowF (cx ρ) c y k lim 13 args H)) .leaf .leaf
theorem tr13_all (ρ : Addr → Option Value) (k : Nat) : (tr13 ρ (evCY (cx ρ) k).1 (evCY (cx ρ) k).2 k).All fun f h => h = fun lim args H => (evCY (cx ρ) (k + 1)).1 lim f args H :=
  ⟨ar1_eq (F := fun lim args H => (evCY (cx ρ) (k + 1)).1 lim 13 args H) (slow_at (cx ρ) k 13) (fun lim a0 H => E13 ρ k lim a0 H), trivial, trivial⟩
noncomputable def tr14 (ρ : Addr → Option Value) (c : CallF) (y : YieldF) (k : Nat) : DT := .node 14 (ar1 (fun lim a0 H => L14 ρ c y lim k a0 H) (fun lim args H => slowF (cx ρ) c y k lim 14 args H)) (tr13 ρ c y k) .leaf
theorem tr14_all (ρ : Addr → Option Value) (k : Nat) : (tr14 ρ (evCY (cx ρ) k).1 (evCY (cx ρ) k).2 k).All fun f h => h = fun lim args H => (evCY (cx ρ) (k + 1)).1 lim f args H :=
  ⟨ar1_eq (F := fun lim args H => (evCY (cx ρ) (k + 1)).1 lim 14 args H) (slow_at (cx ρ) k 14) (fun lim a0 H => E14 ρ k lim a0 H), tr13_all ρ k, trivial⟩
noncomputable def tr16 (ρ : Addr → Option Value) (c : CallF) (y : YieldF) (k : Nat) : DT := .node 16 (ar1 (fun lim a0 H => L16 ρ c y lim k a0 H) (fun lim args H => slowF (cx ρ) c y k lim 16 args H)) .leaf .leaf
theorem tr16_all (ρ : Addr → Option Value) (k : Nat) : (tr16 ρ (evCY (cx ρ) k).1 (evCY (cx ρ) k).2 k).All fun f h => h = fun lim args H => (evCY (cx ρ) (k + 1)).1 lim f args H :=
  ⟨ar1_eq (F := fun lim args H => (evCY (cx ρ) (k + 1)).1 lim 16 args H) (slow_at (cx ρ) k 16) (fun lim a0 H => E16 ρ k lim a0 H), trivial, trivial⟩
noncomputable def tr15 (ρ : Addr → Option Value) (c : CallF) (y : YieldF) (k : Nat) : DT := .node 15 (ar1 (fun lim a0 H => L15 ρ c y lim k a0 H) (fun lim args H => slowF (cx ρ) c y k lim 15 args H)) (tr14 ρ c y k) (tr16 ρ c y k)
theorem tr15_all (ρ : Addr → Option Value) (k : Nat) : (tr15 ρ (evCY (cx ρ) k).1 (evCY (cx ρ) k).2 k).All fun f h => h = fun lim args H => (evCY (cx ρ) (k + 1)).1 lim f args H :=
  ⟨ar1_eq (F := fun lim args H => (evCY (cx ρ) (k + 1)).1 lim 15 args H) (slow_at (cx ρ) k 15) (fun lim a0 H => E15 ρ k lim a0 H), tr14_all ρ k, tr16_all ρ k⟩
noncomputable def tr18 (ρ : Addr → Option Value) (c : CallF) (y : YieldF) (k : Nat) : DT := .node 18 (ar2 (fun lim a0 a1 H => L18 ρ c y lim k a0 a1 H) (fun lim args H => slowF (cx ρ) c y k lim 18 args H)) .leaf .leaf
theorem tr18_all (ρ : Addr → Option Value) (k : Nat) : (tr18 ρ (evCY (cx ρ) k).1 (evCY (cx ρ) k).2 k).All fun f h => h = fun lim args H => (evCY (cx ρ) (k + 1)).1 lim f args H :=
  ⟨ar2_eq (F := fun lim args H => (evCY (cx ρ) (k + 1)).1 lim 18 args H) (slow_at (cx ρ) k 18) (fun lim a0 a1 H => E18 ρ k lim a0 a1 H), trivial, trivial⟩
noncomputable def tr19 (ρ : Addr → Option Value) (c : CallF) (y : YieldF) (k : Nat) : DT := .node 19 (ar0 (fun lim H => L19 ρ c y lim k H) (fun lim args H => slowF (cx ρ) c y k lim 19 args H)) (tr18 ρ c y k) .leaf
theorem tr19_all (ρ : Addr → Option Value) (k : Nat) : (tr19 ρ (evCY (cx ρ) k).1 (evCY (cx ρ) k).2 k).All fun f h => h = fun lim args H => (evCY (cx ρ) (k + 1)).1 lim f args H :=
  ⟨ar0_eq (F := fun lim args H => (evCY (cx ρ) (k + 1)).1 lim 19 args H) (slow_at (cx ρ) k 19) (fun lim H => E19 ρ k lim H), tr18_all ρ k, trivial⟩
noncomputable def tr21 (ρ : Addr → Option Value) (c : CallF) (y : YieldF) (k : Nat) : DT := .node 21 (ar2 (fun lim a0 a1 H => L21 ρ c y lim k a0 a1 H) (fun lim args H => slowF (cx ρ) c y k lim 21 args H)) .leaf .leaf
theorem tr21_all (ρ : Addr → Option Value) (k : Nat) : (tr21 ρ (evCY (cx ρ) k).1 (evCY (cx ρ) k).2 k).All fun f h => h = fun lim args H => (evCY (cx ρ) (k + 1)).1 lim f args H :=
  ⟨ar2_eq (F := fun lim args H => (evCY (cx ρ) (k + 1)).1 lim 21 args H) (slow_at (cx ρ) k 21) (fun lim a0 a1 H => E21 ρ k lim a0 a1 H), trivial, trivial⟩
noncomputable def tr20 (ρ : Addr → Option Value) (c : CallF) (y : YieldF) (k : Nat) : DT := .node 20 (ar2 (fun lim a0 a1 H => L20 ρ c y lim k a0 a1 H) (fun lim args H => slowF (cx ρ) c y k lim 20 args H)) (tr19 ρ c y k) (tr21 ρ c y k)
theorem tr20_all (ρ : Addr → Option Value) (k : Nat) : (tr20 ρ (evCY (cx ρ) k).1 (evCY (cx ρ) k).2 k).All fun f h => h = fun lim args H => (evCY (cx ρ) (k + 1)).1 lim f args H :=
  ⟨ar2_eq (F := fun lim args H => (evCY (cx ρ) (k + 1)).1 lim 20 args H) (slow_at (cx ρ) k 20) (fun lim a0 a1 H => E20 ρ k lim a0 a1 H), tr19_all ρ k, tr21_all ρ k⟩
noncomputable def tr17 (ρ : Addr → Option Value) (c : CallF) (y : YieldF) (k : Nat) : DT := .node 17 (ar1 (fun lim a0 H => L17 ρ c y lim k a0 H) (fun lim args H => slowF (cx ρ) c y k lim 17 args H)) (tr15 ρ c y k) (tr20 ρ c y k)
theorem tr17_all (ρ : Addr → Option Value) (k : Nat) : (tr17 ρ (evCY (cx ρ) k).1 (evCY (cx ρ) k).2 k).All fun f h => h = fun lim args H => (evCY (cx ρ) (k + 1)).1 lim f args H :=
  ⟨ar1_eq (F := fun lim args H => (evCY (cx ρ) (k + 1)).1 lim 17 args H) (slow_at (cx ρ) k 17) (fun lim a0 H => E17 ρ k lim a0 H), tr15_all ρ k, tr20_all ρ k⟩
noncomputable def tr12 (ρ : Addr → Option Value) (c : CallF) (y : YieldF) (k : Nat) : DT := .node 12 (ar1 (fun lim a0 H => L12 ρ c y lim k a0 H) (fun lim args H => slowF (cx ρ) c y k lim 12 args H)) (tr7 ρ c y k) (tr17 ρ c y k)
theorem tr12_all (ρ : Addr → Option Value) (k : Nat) : (tr12 ρ (evCY (cx ρ) k).1 (evCY (cx ρ) k).2 k).All fun f h => h = fun lim args H => (evCY (cx ρ) (k + 1)).1 lim f args H :=
  ⟨ar1_eq (F := fun lim args H => (evCY (cx ρ) (k + 1)).1 lim 12 args H) (slow_at (cx ρ) k 12) (fun lim a0 H => E12 ρ k lim a0 H), tr7_all ρ k, tr17_all ρ k⟩
noncomputable def tr32 (ρ : Addr → Option Value) (c : CallF) (y : YieldF) (k : Nat) : DT := .node 32 (ar1 (fun lim a0 H => L32 ρ c y lim k a0 H) (fun lim args H => slowF (cx ρ) c y k lim 32 args H)) .leaf .leaf
theorem tr32_all (ρ : Addr → Option Value) (k : Nat) : (tr32 ρ (evCY (cx ρ) k).1 (evCY (cx ρ) k).2 k).All fun f h => h = fun lim args H => (evCY (cx ρ) (k + 1)).1 lim f args H :=
  ⟨ar1_eq (F := fun lim args H => (evCY (cx ρ) (k + 1)).1 lim 32 args H) (slow_at (cx ρ) k 32) (fun lim a0 H => E32 ρ k lim a0 H), trivial, trivial⟩
noncomputable def tr33 (ρ : Addr → Option Value) (c : CallF) (y : YieldF) (k : Nat) : DT := .node 33 (ar1 (fun lim a0 H => L33 ρ c y lim k a0 H) (fun lim args H => slowF (cx ρ) c y k lim 33 args H)) (tr32 ρ c y k) .leaf
theorem tr33_all (ρ : Addr → Option Value) (k : Nat) : (tr33 ρ (evCY (cx ρ) k).1 (evCY (cx ρ) k).2 k).All fun f h => h = fun lim args H => (evCY (cx ρ) (k + 1)).1 lim f args H :=
  ⟨ar1_eq (F := fun lim args H => (evCY (cx ρ) (k + 1)).1 lim 33 args H) (slow_at (cx ρ) k 33) (fun lim a0 H => E33 ρ k lim a0 H), tr32_all ρ k, trivial⟩
noncomputable def tr35 (ρ : Addr → Option Value) (c : CallF) (y : YieldF) (k : Nat) : DT := .node 35 (ar1 (fun lim a0 H => L35 ρ c y lim k a0 H) (fun lim args H => slowF (cx ρ) c y k lim 35 args H)) .leaf .leaf
theorem tr35_all (ρ : Addr → Option Value) (k : Nat) : (tr35 ρ (evCY (cx ρ) k).1 (evCY (cx ρ) k).2 k).All fun f h => h = fun lim args H => (evCY (cx ρ) (k + 1)).1 lim f args H :=
  ⟨ar1_eq (F := fun lim args H => (evCY (cx ρ) (k + 1)).1 lim 35 args H) (slow_at (cx ρ) k 35) (fun lim a0 H => E35 ρ k lim a0 H), trivial, trivial⟩
noncomputable def tr34 (ρ : Addr → Option Value) (c : CallF) (y : YieldF) (k : Nat) : DT := .node 34 (ar2 (fun lim a0 a1 H => L34 ρ c y lim k a0 a1 H) (fun lim args H => slowF (cx ρ) c y k lim 34 args H)) (tr33 ρ c y k) (tr35 ρ c y k)
theorem tr34_all (ρ : Addr → Option Value) (k : Nat) : (tr34 ρ (evCY (cx ρ) k).1 (evCY (cx ρ) k).2 k).All fun f h => h = fun lim args H => (evCY (cx ρ) (k + 1)).1 lim f args H :=
  ⟨ar2_eq (F := fun lim args H => (evCY (cx ρ) (k + 1)).1 lim 34 args H) (slow_at (cx ρ) k 34) (fun lim a0 a1 H => E34 ρ k lim a0 a1 H), tr33_all ρ k, tr35_all ρ k⟩
noncomputable def tr38 (ρ : Addr → Option Value) (c : CallF) (y : YieldF) (k : Nat) : DT := .node 38 (ar1 (fun lim a0 H => L38 ρ c y lim k a0 H) (fun lim args H => slowF (cx ρ) c y k lim 38 args H)) .leaf .leaf
theorem tr38_all (ρ : Addr → Option Value) (k : Nat) : (tr38 ρ (evCY (cx ρ) k).1 (evCY (cx ρ) k).2 k).All fun f h => h = fun lim args H => (evCY (cx ρ) (k + 1)).1 lim f args H :=
  ⟨ar1_eq (F := fun lim args H => (evCY (cx ρ) (k + 1)).1 lim 38 args H) (slow_at (cx ρ) k 38) (fun lim a0 H => E38 ρ k lim a0 H), trivial, trivial⟩
noncomputable def tr39 (ρ : Addr → Option Value) (c : CallF) (y : YieldF) (k : Nat) : DT := .node 39 (ar1 (fun lim a0 H => L39 ρ c y lim k a0 H) (fun lim args H => slowF (cx ρ) c y k lim 39 args H)) (tr38 ρ c y k) .leaf
theorem tr39_all (ρ : Addr → Option Value) (k : Nat) : (tr39 ρ (evCY (cx ρ) k).1 (evCY (cx ρ) k).2 k).All fun f h => h = fun lim args H => (evCY (cx ρ) (k + 1)).1 lim f args H :=
  ⟨ar1_eq (F := fun lim args H => (evCY (cx ρ) (k + 1)).1 lim 39 args H) (slow_at (cx ρ) k 39) (fun lim a0 H => E39 ρ k lim a0 H), tr38_all ρ k, trivial⟩
noncomputable def tr41 (ρ : Addr → Option Value) (c : CallF) (y : YieldF) (k : Nat) : DT := .node 41 (ar2 (fun lim a0 a1 H => L41 ρ c y lim k a0 a1 H) (fun lim args H => slowF (cx ρ) c y k lim 41 args H)) .leaf .leaf
theorem tr41_all (ρ : Addr → Option Value) (k : Nat) : (tr41 ρ (evCY (cx ρ) k).1 (evCY (cx ρ) k).2 k).All fun f h => h = fun lim args H => (evCY (cx ρ) (k + 1)).1 lim f args H :=
  ⟨ar2_eq (F := fun lim args H => (evCY (cx ρ) (k + 1)).1 lim 41 args H) (slow_at (cx ρ) k 41) (fun lim a0 a1 H => E41 ρ k lim a0 a1 H), trivial, trivial⟩
noncomputable def tr40 (ρ : Addr → Option Value) (c : CallF) (y : YieldF) (k : Nat) : DT := .node 40 (ar3 (fun lim a0 a1 a2 H => L40 ρ c y lim k a0 a1 a2 H) (fun lim args H => slowF (cx ρ) c y k lim 40 args H)) (tr39 ρ c y k) (tr41 ρ c y k)
theorem tr40_all (ρ : Addr → Option Value) (k : Nat) : (tr40 ρ (evCY (cx ρ) k).1 (evCY (cx ρ) k).2 k).All fun f h => h = fun lim args H => (evCY (cx ρ) (k + 1)).1 lim f args H :=
  ⟨ar3_eq (F := fun lim args H => (evCY (cx ρ) (k + 1)).1 lim 40 args H) (slow_at (cx ρ) k 40) (fun lim a0 a1 a2 H => E40 ρ k lim a0 a1 a2 H), tr39_all ρ k, tr41_all ρ k⟩
noncomputable def tr36 (ρ : Addr → Option Value) (c : CallF) (y : YieldF) (k : Nat) : DT := .node 36 (ar1 (fun lim a0 H => L36 ρ c y lim k a0 H) (fun lim args H => slowF (cx ρ) c y k lim 36 args H)) (tr34 ρ c y k) (tr40 ρ c y k)
theorem tr36_all (ρ : Addr → Option Value) (k : Nat) : (tr36 ρ (evCY (cx ρ) k).1 (evCY (cx ρ) k).2 k).All fun f h => h = fun lim args H => (evCY (cx ρ) (k + 1)).1 lim f args H :=
  ⟨ar1_eq (F := fun lim args H => (evCY (cx ρ) (k + 1)).1 lim 36 args H) (slow_at (cx ρ) k 36) (fun lim a0 H => E36 ρ k lim a0 H), tr34_all ρ k, tr40_all ρ k⟩
noncomputable def tr68 (ρ : Addr → Option Value) (c : CallF) (y : YieldF) (k : Nat) : DT := .node 68 (ar1 (fun lim a0 H => L68 ρ c y lim k a0 H) (fun lim args H => slowF (cx ρ) c y k lim 68 args H)) .leaf .leaf
theorem tr68_all (ρ : Addr → Option Value) (k : Nat) : (tr68 ρ (evCY (cx ρ) k).1 (evCY (cx ρ) k).2 k).All fun f h => h = fun lim args H => (evCY (cx ρ) (k + 1)).1 lim f args H :=
  ⟨ar1_eq (F := fun lim args H => (evCY (cx ρ) (k + 1)).1 lim 68 args H) (slow_at (cx ρ) k 68) (fun lim a0 H => E68 ρ k lim a0 H), trivial, trivial⟩
noncomputable def tr69 (ρ : Addr → Option Value) (c : CallF) (y : YieldF) (k : Nat) : DT := .node 69 (ar1 (fun lim a0 H => L69 ρ c y lim k a0 H) (fun lim args H => slowF (cx ρ) c y k lim 69 args H)) (tr68 ρ c y k) .leaf
theorem tr69_all (ρ : Addr → Option Value) (k : Nat) : (tr69 ρ (evCY (cx ρ) k).1 (evCY (cx ρ) k).2 k).All fun f h => h = fun lim args H => (evCY (cx ρ) (k + 1)).1 lim f args H :=
  ⟨ar1_eq (F := fun lim args H => (evCY (cx ρ) (k + 1)).1 lim 69 args H) (slow_at (cx ρ) k 69) (fun lim a0 H => E69 ρ k lim a0 H), tr68_all ρ k, trivial⟩
noncomputable def tr72 (ρ : Addr → Option Value) (c : CallF) (y : YieldF) (k : Nat) : DT := .node 72 (ar1 (fun lim a0 H => L72 ρ c y lim k a0 H) (fun lim args H => slowF (cx ρ) c y k lim 72 args H)) .leaf .leaf
theorem tr72_all (ρ : Addr → Option Value) (k : Nat) : (tr72 ρ (evCY (cx ρ) k).1 (evCY (cx ρ) k).2 k).All fun f h => h = fun lim args H => (evCY (cx ρ) (k + 1)).1 lim f args H :=
  ⟨ar1_eq (F := fun lim args H => (evCY (cx ρ) (k + 1)).1 lim 72 args H) (slow_at (cx ρ) k 72) (fun lim a0 H => E72 ρ k lim a0 H), trivial, trivial⟩
noncomputable def tr71 (ρ : Addr → Option Value) (c : CallF) (y : YieldF) (k : Nat) : DT := .node 71 (ar2 (fun lim a0 a1 H => L71 ρ c y lim k a0 a1 H) (fun lim args H => slowF (cx ρ) c y k lim 71 args H)) (tr69 ρ c y k) (tr72 ρ c y k)
theorem tr71_all (ρ : Addr → Option Value) (k : Nat) : (tr71 ρ (evCY (cx ρ) k).1 (evCY (cx ρ) k).2 k).All fun f h => h = fun lim args H => (evCY (cx ρ) (k + 1)).1 lim f args H :=
  ⟨ar2_eq (F := fun lim args H => (evCY (cx ρ) (k + 1)).1 lim 71 args H) (slow_at (cx ρ) k 71) (fun lim a0 a1 H => E71 ρ k lim a0 a1 H), tr69_all ρ k, tr72_all ρ k⟩
noncomputable def tr74 (ρ : Addr → Option Value) (c : CallF) (y : YieldF) (k : Nat) : DT := .node 74 (ar5 (fun lim a0 a1 a2 a3 a4 H => L74 ρ c y lim k a0 a1 a2 a3 a4 H) (fun lim args H => slowF (cx ρ) c y k lim 74 args H)) .leaf .leaf
theorem tr74_all (ρ : Addr → Option Value) (k : Nat) : (tr74 ρ (evCY (cx ρ) k).1 (evCY (cx ρ) k).2 k).All fun f h => h = fun lim args H => (evCY (cx ρ) (k + 1)).1 lim f args H :=
  ⟨ar5_eq (F := fun lim args H => (evCY (cx ρ) (k + 1)).1 lim 74 args H) (slow_at (cx ρ) k 74) (fun lim a0 a1 a2 a3 a4 H => E74 ρ k lim a0 a1 a2 a3 a4 H), trivial, trivial⟩
noncomputable def tr79 (ρ : Addr → Option Value) (c : CallF) (y : YieldF) (k : Nat) : DT := .node 79 (ar2 (fun lim a0 a1 H => L79 ρ c y lim k a0 a1 H) (fun lim args H => slowF (cx ρ) c y k lim 79 args H)) (tr74 ρ c y k) .leaf
theorem tr79_all (ρ : Addr → Option Value) (k : Nat) : (tr79 ρ (evCY (cx ρ) k).1 (evCY (cx ρ) k).2 k).All fun f h => h = fun lim args H => (evCY (cx ρ) (k + 1)).1 lim f args H :=
  ⟨ar2_eq (F := fun lim args H => (evCY (cx ρ) (k + 1)).1 lim 79 args H) (slow_at (cx ρ) k 79) (fun lim a0 a1 H => E79 ρ k lim a0 a1 H), tr74_all ρ k, trivial⟩
noncomputable def tr99 (ρ : Addr → Option Value) (c : CallF) (y : YieldF) (k : Nat) : DT := .node 99 (ar2 (fun lim a0 a1 H => L99 ρ c y lim k a0 a1 H) (fun lim args H => slowF (cx ρ) c y k lim 99 args H)) .leaf .leaf
theorem tr99_all (ρ : Addr → Option Value) (k : Nat) : (tr99 ρ (evCY (cx ρ) k).1 (evCY (cx ρ) k).2 k).All fun f h => h = fun lim args H => (evCY (cx ρ) (k + 1)).1 lim f args H :=
  ⟨ar2_eq (F := fun lim args H => (evCY (cx ρ) (k + 1)).1 lim 99 args H) (slow_at (cx ρ) k 99) (fun lim a0 a1 H => E99 ρ k lim a0 a1 H), trivial, trivial⟩
noncomputable def tr97 (ρ : Addr → Option Value) (c : CallF) (y : YieldF) (k : Nat) : DT := .node 97 (ar1 (fun lim a0 H => L97 ρ c y lim k a0 H) (fun lim args H => slowF (cx ρ) c y k lim 97 args H)) (tr79 ρ c y k) (tr99 ρ c y k)
theorem tr97_all (ρ : Addr → Option Value) (k : Nat) : (tr97 ρ (evCY (cx ρ) k).1 (evCY (cx ρ) k).2 k).All fun f h => h = fun lim args H => (evCY (cx ρ) (k + 1)).1 lim f args H :=
  ⟨ar1_eq (F := fun lim args H => (evCY (cx ρ) (k + 1)).1 lim 97 args H) (slow_at (cx ρ) k 97) (fun lim a0 H => E97 ρ k lim a0 H), tr79_all ρ k, tr99_all ρ k⟩
noncomputable def tr73 (ρ : Addr → Option Value) (c : CallF) (y : YieldF) (k : Nat) : DT := .node 73 (ar1 (fun lim a0 H => L73 ρ c y lim k a0 H) (fun lim args H => slowF (cx ρ) c y k lim 73 args H)) (tr71 ρ c y k) (tr97 ρ c y k)
theorem tr73_all (ρ : Addr → Option Value) (k : Nat) : (tr73 ρ (evCY (cx ρ) k).1 (evCY (cx ρ) k).2 k).All fun f h => h = fun lim args H => (evCY (cx ρ) (k + 1)).1 lim f args H :=
  ⟨ar1_eq (F := fun lim args H => (evCY (cx ρ) (k + 1)).1 lim 73 args H) (slow_at (cx ρ) k 73) (fun lim a0 H => E73 ρ k lim a0 H), tr71_all ρ k, tr97_all ρ k⟩
noncomputable def tr67 (ρ : Addr → Option Value) (c : CallF) (y : YieldF) (k : Nat) : DT := .node 67 (ar1 (fun lim a0 H => L67 ρ c y lim k a0 H) (fun lim args H => slowF (cx ρ) c y k lim 67 args H)) (tr36 ρ c y k) (tr73 ρ c y k)
theorem tr67_all (ρ : Addr → Option Value) (k : Nat) : (tr67 ρ (evCY (cx ρ) k).1 (evCY (cx ρ) k).2 k).All fun f h => h = fun lim args H => (evCY (cx ρ) (k + 1)).1 lim f args H :=
  ⟨ar1_eq (F := fun lim args H => (evCY (cx ρ) (k + 1)).1 lim 67 args H) (slow_at (cx ρ) k 67) (fun lim a0 H => E67 ρ k lim a0 H), tr36_all ρ k, tr73_all ρ k⟩
noncomputable def tr31 (ρ : Addr → Option Value) (c : CallF) (y : YieldF) (k : Nat) : DT := .node 31 (ar2 (fun lim a0 a1 H => L31 ρ c y lim k a0 a1 H) (fun lim args H => slowF (cx ρ) c y k lim 31 args H)) (tr12 ρ c y k) (tr67 ρ c y k)
theorem tr31_all (ρ : Addr → Option Value) (k : Nat) : (tr31 ρ (evCY (cx ρ) k).1 (evCY (cx ρ) k).2 k).All fun f h => h = fun lim args H => (evCY (cx ρ) (k + 1)).1 lim f args H :=
  ⟨ar2_eq (F := fun lim args H => (evCY (cx ρ) (k + 1)).1 lim 31 args H) (slow_at (cx ρ) k 31) (fun lim a0 a1 H => E31 ρ k lim a0 a1 H), tr12_all ρ k, tr67_all ρ k⟩
noncomputable def tr102 (ρ : Addr → Option Value) (c : CallF) (y : YieldF) (k : Nat) : DT := .node 102 (ar2 (fun lim a0 a1 H => L102 ρ c y lim k a0 a1 H) (fun lim args H => slowF (cx ρ) c y k lim 102 args H)) .leaf .leaf
theorem tr102_all (ρ : Addr → Option Value) (k : Nat) : (tr102 ρ (evCY (cx ρ) k).1 (evCY (cx ρ) k).2 k).All fun f h => h = fun lim args H => (evCY (cx ρ) (k + 1)).1 lim f args H :=
  ⟨ar2_eq (F := fun lim args H => (evCY (cx ρ) (k + 1)).1 lim 102 args H) (slow_at (cx ρ) k 102) (fun lim a0 a1 H => E102 ρ k lim a0 a1 H), trivial, trivial⟩
noncomputable def tr117 (ρ : Addr → Option Value) (c : CallF) (y : YieldF) (k : Nat) : DT := .node 117 (ar2 (fun lim a0 a1 H => L117 ρ c y lim k a0 a1 H) (fun lim args H => slowF (cx ρ) c y k lim 117 args H)) (tr102 ρ c y k) .leaf
theorem tr117_all (ρ : Addr → Option Value) (k : Nat) : (tr117 ρ (evCY (cx ρ) k).1 (evCY (cx ρ) k).2 k).All fun f h => h = fun lim args H => (evCY (cx ρ) (k + 1)).1 lim f args H :=
  ⟨ar2_eq (F := fun lim args H => (evCY (cx ρ) (k + 1)).1 lim 117 args H) (slow_at (cx ρ) k 117) (fun lim a0 a1 H => E117 ρ k lim a0 a1 H), tr102_all ρ k, trivial⟩
noncomputable def tr119 (ρ : Addr → Option Value) (c : CallF) (y : YieldF) (k : Nat) : DT := .node 119 (ar2 (fun lim a0 a1 H => L119 ρ c y lim k a0 a1 H) (fun lim args H => slowF (cx ρ) c y k lim 119 args H)) .leaf .leaf
theorem tr119_all (ρ : Addr → Option Value) (k : Nat) : (tr119 ρ (evCY (cx ρ) k).1 (evCY (cx ρ) k).2 k).All fun f h => h = fun lim args H => (evCY (cx ρ) (k + 1)).1 lim f args H :=
  ⟨ar2_eq (F := fun lim args H => (evCY (cx ρ) (k + 1)).1 lim 119 args H) (slow_at (cx ρ) k 119) (fun lim a0 a1 H => E119 ρ k lim a0 a1 H), trivial, trivial⟩
noncomputable def tr118 (ρ : Addr → Option Value) (c : CallF) (y : YieldF) (k : Nat) : DT := .node 118 (ar1 (fun lim a0 H => L118 ρ c y lim k a0 H) (fun lim args H => slowF (cx ρ) c y k lim 118 args H)) (tr117 ρ c y k) (tr119 ρ c y k)
theorem tr118_all (ρ : Addr → Option Value) (k : Nat) : (tr118 ρ (evCY (cx ρ) k).1 (evCY (cx ρ) k).2 k).All fun f h => h = fun lim args H => (evCY (cx ρ) (k + 1)).1 lim f args H :=
  ⟨ar1_eq (F := fun lim args H => (evCY (cx ρ) (k + 1)).1 lim 118 args H) (slow_at (cx ρ) k 118) (fun lim a0 H => E118 ρ k lim a0 H), tr117_all ρ k, tr119_all ρ k⟩
noncomputable def tr126 (ρ : Addr → Option Value) (c : CallF) (y : YieldF) (k : Nat) : DT := .node 126 (ar2 (fun lim a0 a1 H => L126 ρ c y lim k a0 a1 H) (fun lim args H => slowF (cx ρ) c y k lim 126 args H)) .leaf .leaf
theorem tr126_all (ρ : Addr → Option Value) (k : Nat) : (tr126 ρ (evCY (cx ρ) k).1 (evCY (cx ρ) k).2 k).All fun f h => h = fun lim args H => (evCY (cx ρ) (k + 1)).1 lim f args H :=
  ⟨ar2_eq (F := fun lim args H => (evCY (cx ρ) (k + 1)).1 lim 126 args H) (slow_at (cx ρ) k 126) (fun lim a0 a1 H => E126 ρ k lim a0 a1 H), trivial, trivial⟩
noncomputable def tr127 (ρ : Addr → Option Value) (c : CallF) (y : YieldF) (k : Nat) : DT := .node 127 (ar3 (fun lim a0 a1 a2 H => L127 ρ c y lim k a0 a1 a2 H) (fun lim args H => slowF (cx ρ) c y k lim 127 args H)) (tr126 ρ c y k) .leaf
theorem tr127_all (ρ : Addr → Option Value) (k : Nat) : (tr127 ρ (evCY (cx ρ) k).1 (evCY (cx ρ) k).2 k).All fun f h => h = fun lim args H => (evCY (cx ρ) (k + 1)).1 lim f args H :=
  ⟨ar3_eq (F := fun lim args H => (evCY (cx ρ) (k + 1)).1 lim 127 args H) (slow_at (cx ρ) k 127) (fun lim a0 a1 a2 H => E127 ρ k lim a0 a1 a2 H), tr126_all ρ k, trivial⟩
noncomputable def tr129 (ρ : Addr → Option Value) (c : CallF) (y : YieldF) (k : Nat) : DT := .node 129 (ar2 (fun lim a0 a1 H => L129 ρ c y lim k a0 a1 H) (fun lim args H => slowF (cx ρ) c y k lim 129 args H)) .leaf .leaf
theorem tr129_all (ρ : Addr → Option Value) (k : Nat) : (tr129 ρ (evCY (cx ρ) k).1 (evCY (cx ρ) k).2 k).All fun f h => h = fun lim args H => (evCY (cx ρ) (k + 1)).1 lim f args H :=
  ⟨ar2_eq (F := fun lim args H => (evCY (cx ρ) (k + 1)).1 lim 129 args H) (slow_at (cx ρ) k 129) (fun lim a0 a1 H => E129 ρ k lim a0 a1 H), trivial, trivial⟩
noncomputable def tr128 (ρ : Addr → Option Value) (c : CallF) (y : YieldF) (k : Nat) : DT := .node 128 (ar1 (fun lim a0 H => L128 ρ c y lim k a0 H) (fun lim args H => slowF (cx ρ) c y k lim 128 args H)) (tr127 ρ c y k) (tr129 ρ c y k)
theorem tr128_all (ρ : Addr → Option Value) (k : Nat) : (tr128 ρ (evCY (cx ρ) k).1 (evCY (cx ρ) k).2 k).All fun f h => h = fun lim args H => (evCY (cx ρ) (k + 1)).1 lim f args H :=
  ⟨ar1_eq (F := fun lim args H => (evCY (cx ρ) (k + 1)).1 lim 128 args H) (slow_at (cx ρ) k 128) (fun lim a0 H => E128 ρ k lim a0 H), tr127_all ρ k, tr129_all ρ k⟩
noncomputable def tr125 (ρ : Addr → Option Value) (c : CallF) (y : YieldF) (k : Nat) : DT := .node 125 (ar2 (fun lim a0 a1 H => L125 ρ c y lim k a0 a1 H) (fun lim args H => slowF (cx ρ) c y k lim 125 args H)) (tr118 ρ c y k) (tr128 ρ c y k)
theorem tr125_all (ρ : Addr → Option Value) (k : Nat) : (tr125 ρ (evCY (cx ρ) k).1 (evCY (cx ρ) k).2 k).All fun f h => h = fun lim args H => (evCY (cx ρ) (k + 1)).1 lim f args H :=
  ⟨ar2_eq (F := fun lim args H => (evCY (cx ρ) (k + 1)).1 lim 125 args H) (slow_at (cx ρ) k 125) (fun lim a0 a1 H => E125 ρ k lim a0 a1 H), tr118_all ρ k, tr128_all ρ k⟩
noncomputable def tr131 (ρ : Addr → Option Value) (c : CallF) (y : YieldF) (k : Nat) : DT := .node 131 (ar1 (fun lim a0 H => L131 ρ c y lim k a0 H) (fun lim args H => slowF (cx ρ) c y k lim 131 args H)) .leaf .leaf
theorem tr131_all (ρ : Addr → Option Value) (k : Nat) : (tr131 ρ (evCY (cx ρ) k).1 (evCY (cx ρ) k).2 k).All fun f h => h = fun lim args H => (evCY (cx ρ) (k + 1)).1 lim f args H :=
  ⟨ar1_eq (F := fun lim args H => (evCY (cx ρ) (k + 1)).1 lim 131 args H) (slow_at (cx ρ) k 131) (fun lim a0 H => E131 ρ k lim a0 H), trivial, trivial⟩
noncomputable def tr133 (ρ : Addr → Option Value) (c : CallF) (y : YieldF) (k : Nat) : DT := .node 133 (ar1 (fun lim a0 H => L133 ρ c y lim k a0 H) (fun lim args H => slowF (cx ρ) c y k lim 133 args H)) (tr131 ρ c y k) .leaf
theorem tr133_all (ρ : Addr → Option Value) (k : Nat) : (tr133 ρ (evCY (cx ρ) k).1 (evCY (cx ρ) k).2 k).All fun f h => h = fun lim args H => (evCY (cx ρ) (k + 1)).1 lim f args H :=
  ⟨ar1_eq (F := fun lim args H => (evCY (cx ρ) (k + 1)).1 lim 133 args H) (slow_at (cx ρ) k 133) (fun lim a0 H => E133 ρ k lim a0 H), tr131_all ρ k, trivial⟩
noncomputable def tr135 (ρ : Addr → Option Value) (c : CallF) (y : YieldF) (k : Nat) : DT := .node 135 (ar1 (fun lim a0 H => L135 ρ c y lim k a0 H) (fun lim args H => slowF (cx ρ) c y k lim 135 args H)) .leaf .leaf
theorem tr135_all (ρ : Addr → Option Value) (k : Nat) : (tr135 ρ (evCY (cx ρ) k).1 (evCY (cx ρ) k).2 k).All fun f h => h = fun lim args H => (evCY (cx ρ) (k + 1)).1 lim f args H :=
  ⟨ar1_eq (F := fun lim args H => (evCY (cx ρ) (k + 1)).1 lim 135 args H) (slow_at (cx ρ) k 135) (fun lim a0 H => E135 ρ k lim a0 H), trivial, trivial⟩
noncomputable def tr134 (ρ : Addr → Option Value) (c : CallF) (y : YieldF) (k : Nat) : DT := .node 134 (ar2 (fun lim a0 a1 H => L134 ρ c y lim k a0 a1 H) (fun lim args H => slowF (cx ρ) c y k lim 134 args H)) (tr133 ρ c y k) (tr135 ρ c y k)
theorem tr134_all (ρ : Addr → Option Value) (k : Nat) : (tr134 ρ (evCY (cx ρ) k).1 (evCY (cx ρ) k).2 k).All fun f h => h = fun lim args H => (evCY (cx ρ) (k + 1)).1 lim f args H :=
  ⟨ar2_eq (F := fun lim args H => (evCY (cx ρ) (k + 1)).1 lim 134 args H) (slow_at (cx ρ) k 134) (fun lim a0 a1 H => E134 ρ k lim a0 a1 H), tr133_all ρ k, tr135_all ρ k⟩
noncomputable def tr159 (ρ : Addr → Option Value) (c : CallF) (y : YieldF) (k : Nat) : DT := .node 159 (ar1 (fun lim a0 H => L159 ρ c y lim k a0 H) (fun lim args H => slowF (cx ρ) c y k lim 159 args H)) .leaf .leaf
theorem tr159_all (ρ : Addr → Option Value) (k : Nat) : (tr159 ρ (evCY (cx ρ) k).1 (evCY (cx ρ) k).2 k).All fun f h => h = fun lim args H => (evCY (cx ρ) (k + 1)).1 lim f args H :=
  ⟨ar1_eq (F := fun lim args H => (evCY (cx ρ) (k + 1)).1 lim 159 args H) (slow_at (cx ρ) k 159) (fun lim a0 H => E159 ρ k lim a0 H), trivial, trivial⟩
noncomputable def tr160 (ρ : Addr → Option Value) (c : CallF) (y : YieldF) (k : Nat) : DT := .node 160 (ar3 (fun lim a0 a1 a2 H => L160 ρ c y lim k a0 a1 a2 H) (fun lim args H => slowF (cx ρ) c y k lim 160 args H)) (tr159 ρ c y k) .leaf
theorem tr160_all (ρ : Addr → Option Value) (k : Nat) : (tr160 ρ (evCY (cx ρ) k).1 (evCY (cx ρ) k).2 k).All fun f h => h = fun lim args H => (evCY (cx ρ) (k + 1)).1 lim f args H :=
  ⟨ar3_eq (F := fun lim args H => (evCY (cx ρ) (k + 1)).1 lim 160 args H) (slow_at (cx ρ) k 160) (fun lim a0 a1 a2 H => E160 ρ k lim a0 a1 a2 H), tr159_all ρ k, trivial⟩
noncomputable def tr193 (ρ : Addr → Option Value) (c : CallF) (y : YieldF) (k : Nat) : DT := .node 193 (ar2 (fun lim a0 a1 H => L193 ρ c y lim k a0 a1 H) (fun lim args H => slowF (cx ρ) c y k lim 193 args H)) .leaf .leaf
theorem tr193_all (ρ : Addr → Option Value) (k : Nat) : (tr193 ρ (evCY (cx ρ) k).1 (evCY (cx ρ) k).2 k).All fun f h => h = fun lim args H => (evCY (cx ρ) (k + 1)).1 lim f args H :=
  ⟨ar2_eq (F := fun lim args H => (evCY (cx ρ) (k + 1)).1 lim 193 args H) (slow_at (cx ρ) k 193) (fun lim a0 a1 H => E193 ρ k lim a0 a1 H), trivial, trivial⟩
noncomputable def tr185 (ρ : Addr → Option Value) (c : CallF) (y : YieldF) (k : Nat) : DT := .node 185 (ar3 (fun lim a0 a1 a2 H => L185 ρ c y lim k a0 a1 a2 H) (fun lim args H => slowF (cx ρ) c y k lim 185 args H)) (tr160 ρ c y k) (tr193 ρ c y k)
theorem tr185_all (ρ : Addr → Option Value) (k : Nat) : (tr185 ρ (evCY (cx ρ) k).1 (evCY (cx ρ) k).2 k).All fun f h => h = fun lim args H => (evCY (cx ρ) (k + 1)).1 lim f args H :=
  ⟨ar3_eq (F := fun lim args H => (evCY (cx ρ) (k + 1)).1 lim 185 args H) (slow_at (cx ρ) k 185) (fun lim a0 a1 a2 H => E185 ρ k lim a0 a1 a2 H), tr160_all ρ k, tr193_all ρ k⟩
noncomputable def tr136 (ρ : Addr → Option Value) (c : CallF) (y : YieldF) (k : Nat) : DT := .node 136 (ar3 (fun lim a0 a1 a2 H => L136 ρ c y lim k a0 a1 a2 H) (fun lim args H => slowF (cx ρ) c y k lim 136 args H)) (tr134 ρ c y k) (tr185 ρ c y k)
theorem tr136_all (ρ : Addr → Option Value) (k : Nat) : (tr136 ρ (evCY (cx ρ) k).1 (evCY (cx ρ) k).2 k).All fun f h => h = fun lim args H => (evCY (cx ρ) (k + 1)).1 lim f args H :=
  ⟨ar3_eq (F := fun lim args H => (evCY (cx ρ) (k + 1)).1 lim 136 args H) (slow_at (cx ρ) k 136) (fun lim a0 a1 a2 H => E136 ρ k lim a0 a1 a2 H), tr134_all ρ k, tr185_all ρ k⟩
noncomputable def tr130 (ρ : Addr → Option Value) (c : CallF) (y : YieldF) (k : Nat) : DT := .node 130 (ar1 (fun lim a0 H => L130 ρ c y lim k a0 H) (fun lim args H => slowF (cx ρ) c y k lim 130 args H)) (tr125 ρ c y k) (tr136 ρ c y k)
theorem tr130_all (ρ : Addr → Option Value) (k : Nat) : (tr130 ρ (evCY (cx ρ) k).1 (evCY (cx ρ) k).2 k).All fun f h => h = fun lim args H => (evCY (cx ρ) (k + 1)).1 lim f args H :=
  ⟨ar1_eq (F := fun lim args H => (evCY (cx ρ) (k + 1)).1 lim 130 args H) (slow_at (cx ρ) k 130) (fun lim a0 H => E130 ρ k lim a0 H), tr125_all ρ k, tr136_all ρ k⟩
noncomputable def tr195 (ρ : Addr → Option Value) (c : CallF) (y : YieldF) (k : Nat) : DT := .node 195 (ar1 (fun lim a0 H => L195 ρ c y lim k a0 H) (fun lim args H => slowF (cx ρ) c y k lim 195 args H)) .leaf .leaf
theorem tr195_all (ρ : Addr → Option Value) (k : Nat) : (tr195 ρ (evCY (cx ρ) k).1 (evCY (cx ρ) k).2 k).All fun f h => h = fun lim args H => (evCY (cx ρ) (k + 1)).1 lim f args H :=
  ⟨ar1_eq (F := fun lim args H => (evCY (cx ρ) (k + 1)).1 lim 195 args H) (slow_at (cx ρ) k 195) (fun lim a0 H => E195 ρ k lim a0 H), trivial, trivial⟩
noncomputable def tr196 (ρ : Addr → Option Value) (c : CallF) (y : YieldF) (k : Nat) : DT := .node 196 (ar0 (fun lim H => L196 ρ c y lim k H) (fun lim args H => slowF (cx ρ) c y k lim 196 args H)) (tr195 ρ c y k) .leaf
theorem tr196_all (ρ : Addr → Option Value) (k : Nat) : (tr196 ρ (evCY (cx ρ) k).1 (evCY (cx ρ) k).2 k).All fun f h => h = fun lim args H => (evCY (cx ρ) (k + 1)).1 lim f args H :=
  ⟨ar0_eq (F := fun lim args H => (evCY (cx ρ) (k + 1)).1 lim 196 args H) (slow_at (cx ρ) k 196) (fun lim H => E196 ρ k lim H), tr195_all ρ k, trivial⟩
noncomputable def tr198 (ρ : Addr → Option Value) (c : CallF) (y : YieldF) (k : Nat) : DT := .node 198 (ar2 (fun lim a0 a1 H => L198 ρ c y lim k a0 a1 H) (fun lim args H => slowF (cx ρ) c y k lim 198 args H)) .leaf .leaf
theorem tr198_all (ρ : Addr → Option Value) (k : Nat) : (tr198 ρ (evCY (cx ρ) k).1 (evCY (cx ρ) k).2 k).All fun f h => h = fun lim args H => (evCY (cx ρ) (k + 1)).1 lim f args H :=
  ⟨ar2_eq (F := fun lim args H => (evCY (cx ρ) (k + 1)).1 lim 198 args H) (slow_at (cx ρ) k 198) (fun lim a0 a1 H => E198 ρ k lim a0 a1 H), trivial, trivial⟩
noncomputable def tr197 (ρ : Addr → Option Value) (c : CallF) (y : YieldF) (k : Nat) : DT := .node 197 (ar0 (fun lim H => L197 ρ c y lim k H) (fun lim args H => slowF (cx ρ) c y k lim 197 args H)) (tr196 ρ c y k) (tr198 ρ c y k)
theorem tr197_all (ρ : Addr → Option Value) (k : Nat) : (tr197 ρ (evCY (cx ρ) k).1 (evCY (cx ρ) k).2 k).All fun f h => h = fun lim args H => (evCY (cx ρ) (k + 1)).1 lim f args H :=
  ⟨ar0_eq (F := fun lim args H => (evCY (cx ρ) (k + 1)).1 lim 197 args H) (slow_at (cx ρ) k 197) (fun lim H => E197 ρ k lim H), tr196_all ρ k, tr198_all ρ k⟩
noncomputable def tr200 (ρ : Addr → Option Value) (c : CallF) (y : YieldF) (k : Nat) : DT := .node 200 (ar4 (fun lim a0 a1 a2 a3 H => L200 ρ c y lim k a0 a1 a2 a3 H) (fun lim args H => slowF (cx ρ) c y k lim 200 args H)) .leaf .leaf
theorem tr200_all (ρ : Addr → Option Value) (k : Nat) : (tr200 ρ (evCY (cx ρ) k).1 (evCY (cx ρ) k).2 k).All fun f h => h = fun lim args H => (evCY (cx ρ) (k + 1)).1 lim f args H :=
  ⟨ar4_eq (F := fun lim args H => (evCY (cx ρ) (k + 1)).1 lim 200 args H) (slow_at (cx ρ) k 200) (fun lim a0 a1 a2 a3 H => E200 ρ k lim a0 a1 a2 a3 H), trivial, trivial⟩
noncomputable def tr201 (ρ : Addr → Option Value) (c : CallF) (y : YieldF) (k : Nat) : DT := .node 201 (ar1 (fun lim a0 H => L201 ρ c y lim k a0 H) (fun lim args H => slowF (cx ρ) c y k lim 201 args H)) (tr200 ρ c y k) .leaf
theorem tr201_all (ρ : Addr → Option Value) (k : Nat) : (tr201 ρ (evCY (cx ρ) k).1 (evCY (cx ρ) k).2 k).All fun f h => h = fun lim args H => (evCY (cx ρ) (k + 1)).1 lim f args H :=
  ⟨ar1_eq (F := fun lim args H => (evCY (cx ρ) (k + 1)).1 lim 201 args H) (slow_at (cx ρ) k 201) (fun lim a0 H => E201 ρ k lim a0 H), tr200_all ρ k, trivial⟩
noncomputable def tr209 (ρ : Addr → Option Value) (c : CallF) (y : YieldF) (k : Nat) : DT := .node 209 (ar2 (fun lim a0 a1 H => L209 ρ c y lim k a0 a1 H) (fun lim args H => slowF (cx ρ) c y k lim 209 args H)) .leaf .leaf
theorem tr209_all (ρ : Addr → Option Value) (k : Nat) : (tr209 ρ (evCY (cx ρ) k).1 (evCY (cx ρ) k).2 k).All fun f h => h = fun lim args H => (evCY (cx ρ) (k + 1)).1 lim f args H :=
  ⟨ar2_eq (F := fun lim args H => (evCY (cx ρ) (k + 1)).1 lim 209 args H) (slow_at (cx ρ) k 209) (fun lim a0 a1 H => E209 ρ k lim a0 a1 H), trivial, trivial⟩
noncomputable def tr208 (ρ : Addr → Option Value) (c : CallF) (y : YieldF) (k : Nat) : DT := .node 208 (ar2 (fun lim a0 a1 H => L208 ρ c y lim k a0 a1 H) (fun lim args H => slowF (cx ρ) c y k lim 208 args H)) (tr201 ρ c y k) (tr209 ρ c y k)
theorem tr208_all (ρ : Addr → Option Value) (k : Nat) : (tr208 ρ (evCY (cx ρ) k).1 (evCY (cx ρ) k).2 k).All fun f h => h = fun lim args H => (evCY (cx ρ) (k + 1)).1 lim f args H :=
  ⟨ar2_eq (F := fun lim args H => (evCY (cx ρ) (k + 1)).1 lim 208 args H) (slow_at (cx ρ) k 208) (fun lim a0 a1 H => E208 ρ k lim a0 a1 H), tr201_all ρ k, tr209_all ρ k⟩
noncomputable def tr199 (ρ : Addr → Option Value) (c : CallF) (y : YieldF) (k : Nat) : DT := .node 199 (ar1 (fun lim a0 H => L199 ρ c y lim k a0 H) (fun lim args H => slowF (cx ρ) c y k lim 199 args H)) (tr197 ρ c y k) (tr208 ρ c y k)
theorem tr199_all (ρ : Addr → Option Value) (k : Nat) : (tr199 ρ (evCY (cx ρ) k).1 (evCY (cx ρ) k).2 k).All fun f h => h = fun lim args H => (evCY (cx ρ) (k + 1)).1 lim f args H :=
  ⟨ar1_eq (F := fun lim args H => (evCY (cx ρ) (k + 1)).1 lim 199 args H) (slow_at (cx ρ) k 199) (fun lim a0 H => E199 ρ k lim a0 H), tr197_all ρ k, tr208_all ρ k⟩
noncomputable def tr240 (ρ : Addr → Option Value) (c : CallF) (y : YieldF) (k : Nat) : DT := .node 240 (ar4 (fun lim a0 a1 a2 a3 H => L240 ρ c y lim k a0 a1 a2 a3 H) (fun lim args H => slowF (cx ρ) c y k lim 240 args H)) .leaf .leaf
theorem tr240_all (ρ : Addr → Option Value) (k : Nat) : (tr240 ρ (evCY (cx ρ) k).1 (evCY (cx ρ) k).2 k).All fun f h => h = fun lim args H => (evCY (cx ρ) (k + 1)).1 lim f args H :=
  ⟨ar4_eq (F := fun lim args H => (evCY (cx ρ) (k + 1)).1 lim 240 args H) (slow_at (cx ρ) k 240) (fun lim a0 a1 a2 a3 H => E240 ρ k lim a0 a1 a2 a3 H), trivial, trivial⟩
noncomputable def tr244 (ρ : Addr → Option Value) (c : CallF) (y : YieldF) (k : Nat) : DT := .node 244 (ar2 (fun lim a0 a1 H => L244 ρ c y lim k a0 a1 H) (fun lim args H => slowF (cx ρ) c y k lim 244 args H)) (tr240 ρ c y k) .leaf
theorem tr244_all (ρ : Addr → Option Value) (k : Nat) : (tr244 ρ (evCY (cx ρ) k).1 (evCY (cx ρ) k).2 k).All fun f h => h = fun lim args H => (evCY (cx ρ) (k + 1)).1 lim f args H :=
  ⟨ar2_eq (F := fun lim args H => (evCY (cx ρ) (k + 1)).1 lim 244 args H) (slow_at (cx ρ) k 244) (fun lim a0 a1 H => E244 ρ k lim a0 a1 H), tr240_all ρ k, trivial⟩
noncomputable def tr248 (ρ : Addr → Option Value) (c : CallF) (y : YieldF) (k : Nat) : DT := .node 248 (ar3 (fun lim a0 a1 a2 H => L248 ρ c y lim k a0 a1 a2 H) (fun lim args H => slowF (cx ρ) c y k lim 248 args H)) .leaf .leaf
theorem tr248_all (ρ : Addr → Option Value) (k : Nat) : (tr248 ρ (evCY (cx ρ) k).1 (evCY (cx ρ) k).2 k).All fun f h => h = fun lim args H => (evCY (cx ρ) (k + 1)).1 lim f args H :=
  ⟨ar3_eq (F := fun lim args H => (evCY (cx ρ) (k + 1)).1 lim 248 args H) (slow_at (cx ρ) k 248) (fun lim a0 a1 a2 H => E248 ρ k lim a0 a1 a2 H), trivial, trivial⟩
noncomputable def tr247 (ρ : Addr → Option Value) (c : CallF) (y : YieldF) (k : Nat) : DT := .node 247 (ar4 (fun lim a0 a1 a2 a3 H => L247 ρ c y lim k a0 a1 a2 a3 H) (fun lim args H => slowF (cx ρ) c y k lim 247 args H)) (tr244 ρ c y k) (tr248 ρ c y k)
theorem tr247_all (ρ : Addr → Option Value) (k : Nat) : (tr247 ρ (evCY (cx ρ) k).1 (evCY (cx ρ) k).2 k).All fun f h => h = fun lim args H => (evCY (cx ρ) (k + 1)).1 lim f args H :=
  ⟨ar4_eq (F := fun lim args H => (evCY (cx ρ) (k + 1)).1 lim 247 args H) (slow_at (cx ρ) k 247) (fun lim a0 a1 a2 a3 H => E247 ρ k lim a0 a1 a2 a3 H), tr244_all ρ k, tr248_all ρ k⟩
noncomputable def tr296 (ρ : Addr → Option Value) (c : CallF) (y : YieldF) (k : Nat) : DT := .node 296 (ar2 (fun lim a0 a1 H => L296 ρ c y lim k a0 a1 H) (fun lim args H => slowF (cx ρ) c y k lim 296 args H)) .leaf .leaf
theorem tr296_all (ρ : Addr → Option Value) (k : Nat) : (tr296 ρ (evCY (cx ρ) k).1 (evCY (cx ρ) k).2 k).All fun f h => h = fun lim args H => (evCY (cx ρ) (k + 1)).1 lim f args H :=
  ⟨ar2_eq (F := fun lim args H => (evCY (cx ρ) (k + 1)).1 lim 296 args H) (slow_at (cx ρ) k 296) (fun lim a0 a1 H => E296 ρ k lim a0 a1 H), trivial, trivial⟩
noncomputable def tr297 (ρ : Addr → Option Value) (c : CallF) (y : YieldF) (k : Nat) : DT := .node 297 (ar1 (fun lim a0 H => L297 ρ c y lim k a0 H) (fun lim args H => slowF (cx ρ) c y k lim 297 args H)) (tr296 ρ c y k) .leaf
theorem tr297_all (ρ : Addr → Option Value) (k : Nat) : (tr297 ρ (evCY (cx ρ) k).1 (evCY (cx ρ) k).2 k).All fun f h => h = fun lim args H => (evCY (cx ρ) (k + 1)).1 lim f args H :=
  ⟨ar1_eq (F := fun lim args H => (evCY (cx ρ) (k + 1)).1 lim 297 args H) (slow_at (cx ρ) k 297) (fun lim a0 H => E297 ρ k lim a0 H), tr296_all ρ k, trivial⟩
noncomputable def tr300 (ρ : Addr → Option Value) (c : CallF) (y : YieldF) (k : Nat) : DT := .node 300 (ar2 (fun lim a0 a1 H => L300 ρ c y lim k a0 a1 H) (fun lim args H => slowF (cx ρ) c y k lim 300 args H)) .leaf .leaf
theorem tr300_all (ρ : Addr → Option Value) (k : Nat) : (tr300 ρ (evCY (cx ρ) k).1 (evCY (cx ρ) k).2 k).All fun f h => h = fun lim args H => (evCY (cx ρ) (k + 1)).1 lim f args H :=
  ⟨ar2_eq (F := fun lim args H => (evCY (cx ρ) (k + 1)).1 lim 300 args H) (slow_at (cx ρ) k 300) (fun lim a0 a1 H => E300 ρ k lim a0 a1 H), trivial, trivial⟩
noncomputable def tr299 (ρ : Addr → Option Value) (c : CallF) (y : YieldF) (k : Nat) : DT := .node 299 (ar3 (fun lim a0 a1 a2 H => L299 ρ c y lim k a0 a1 a2 H) (fun lim args H => slowF (cx ρ) c y k lim 299 args H)) (tr297 ρ c y k) (tr300 ρ c y k)
theorem tr299_all (ρ : Addr → Option Value) (k : Nat) : (tr299 ρ (evCY (cx ρ) k).1 (evCY (cx ρ) k).2 k).All fun f h => h = fun lim args H => (evCY (cx ρ) (k + 1)).1 lim f args H :=
  ⟨ar3_eq (F := fun lim args H => (evCY (cx ρ) (k + 1)).1 lim 299 args H) (slow_at (cx ρ) k 299) (fun lim a0 a1 a2 H => E299 ρ k lim a0 a1 a2 H), tr297_all ρ k, tr300_all ρ k⟩
noncomputable def tr258 (ρ : Addr → Option Value) (c : CallF) (y : YieldF) (k : Nat) : DT := .node 258 (ar1 (fun lim a0 H => L258 ρ c y lim k a0 H) (fun lim args H => slowF (cx ρ) c y k lim 258 args H)) (tr247 ρ c y k) (tr299 ρ c y k)
theorem tr258_all (ρ : Addr → Option Value) (k : Nat) : (tr258 ρ (evCY (cx ρ) k).1 (evCY (cx ρ) k).2 k).All fun f h => h = fun lim args H => (evCY (cx ρ) (k + 1)).1 lim f args H :=
  ⟨ar1_eq (F := fun lim args H => (evCY (cx ρ) (k + 1)).1 lim 258 args H) (slow_at (cx ρ) k 258) (fun lim a0 H => E258 ρ k lim a0 H), tr247_all ρ k, tr299_all ρ k⟩
noncomputable def tr236 (ρ : Addr → Option Value) (c : CallF) (y : YieldF) (k : Nat) : DT := .node 236 (ar3 (fun lim a0 a1 a2 H => L236 ρ c y lim k a0 a1 a2 H) (fun lim args H => slowF (cx ρ) c y k lim 236 args H)) (tr199 ρ c y k) (tr258 ρ c y k)
theorem tr236_all (ρ : Addr → Option Value) (k : Nat) : (tr236 ρ (evCY (cx ρ) k).1 (evCY (cx ρ) k).2 k).All fun f h => h = fun lim args H => (evCY (cx ρ) (k + 1)).1 lim f args H :=
  ⟨ar3_eq (F := fun lim args H => (evCY (cx ρ) (k + 1)).1 lim 236 args H) (slow_at (cx ρ) k 236) (fun lim a0 a1 a2 H => E236 ρ k lim a0 a1 a2 H), tr199_all ρ k, tr258_all ρ k⟩
noncomputable def tr194 (ρ : Addr → Option Value) (c : CallF) (y : YieldF) (k : Nat) : DT := .node 194 (ar2 (fun lim a0 a1 H => L194 ρ c y lim k a0 a1 H) (fun lim args H => slowF (cx ρ) c y k lim 194 args H)) (tr130 ρ c y k) (tr236 ρ c y k)
theorem tr194_all (ρ : Addr → Option Value) (k : Nat) : (tr194 ρ (evCY (cx ρ) k).1 (evCY (cx ρ) k).2 k).All fun f h => h = fun lim args H => (evCY (cx ρ) (k + 1)).1 lim f args H :=
  ⟨ar2_eq (F := fun lim args H => (evCY (cx ρ) (k + 1)).1 lim 194 args H) (slow_at (cx ρ) k 194) (fun lim a0 a1 H => E194 ρ k lim a0 a1 H), tr130_all ρ k, tr236_all ρ k⟩
noncomputable def tr100 (ρ : Addr → Option Value) (c : CallF) (y : YieldF) (k : Nat) : DT := .node 100 (ar1 (fun lim a0 H => L100 ρ c y lim k a0 H) (fun lim args H => slowF (cx ρ) c y k lim 100 args H)) (tr31 ρ c y k) (tr194 ρ c y k)
theorem tr100_all (ρ : Addr → Option Value) (k : Nat) : (tr100 ρ (evCY (cx ρ) k).1 (evCY (cx ρ) k).2 k).All fun f h => h = fun lim args H => (evCY (cx ρ) (k + 1)).1 lim f args H :=
  ⟨ar1_eq (F := fun lim args H => (evCY (cx ρ) (k + 1)).1 lim 100 args H) (slow_at (cx ρ) k 100) (fun lim a0 H => E100 ρ k lim a0 H), tr31_all ρ k, tr194_all ρ k⟩
noncomputable def fast (ρ : Addr → Option Value) (k : Nat) : CallF := (fastY (cx ρ) (tr100 ρ) k).1
theorem fast_eq (ρ : Addr → Option Value) (k : Nat) : fast ρ k = evCall (cx ρ) k := congrArg Prod.fst (fastY_eq (cx ρ) (tr100 ρ) (tr100_all ρ) k)
end Go.Proofs.YtkolhhmgmakekaaGreat
