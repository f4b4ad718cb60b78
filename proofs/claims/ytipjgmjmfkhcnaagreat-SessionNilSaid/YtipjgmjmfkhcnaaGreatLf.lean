/- All functions that are lifted. Printed by a program of this repo. -/
import Derived.Test.YtipjgmjmfkhcnaaGreatLf0
import Derived.Test.YtipjgmjmfkhcnaaGreatLf1
set_option linter.unusedVariables false
set_option linter.unusedSimpArgs false
set_option maxRecDepth 100000
set_option maxHeartbeats 4000000
namespace Go.Proofs.YtipjgmjmfkhcnaaGreat
open Go.Ev Go.RowKit

theorem ldT32 (ρ : Addr → Option Value) (H : Heap) (x : AV) : loadA (cx ρ) H 32 x = ldN ρ H 2 x := by kernel_rfl
theorem ldT140 (ρ : Addr → Option Value) (H : Heap) (x : AV) : loadA (cx ρ) H 140 x = ldN ρ H 4 x := by kernel_rfl
theorem ldT225 (ρ : Addr → Option Value) (H : Heap) (x : AV) : loadA (cx ρ) H 225 x = ldN ρ H 3 x := by kernel_rfl
noncomputable def tr3 (ρ : Addr → Option Value) (c : CallF) (y : YieldF) (k : Nat) : DT := .node 3 (ar2 (fun lim a0 a1 H => L3 ρ c y lim k a0 a1 H) (fun lim args H => slowF (cx ρ) c y k lim 3 args H)) .leaf .leaf
theorem tr3_all (ρ : Addr → Option Value) (k : Nat) : (tr3 ρ (evCY (cx ρ) k).1 (evCY (cx ρ) k).2 k).All fun f h => h = fun lim args H => (evCY (cx ρ) (k + 1)).1 lim f args H :=
  ⟨ar2_eq (F := fun lim args H => (evCY (cx ρ) (k + 1)).1 lim 3 args H) (slow_at (cx ρ) k 3) (fun lim a0 a1 H => E3 ρ k lim a0 a1 H), trivial, trivial⟩
noncomputable def tr4 (ρ : Addr → Option Value) (c : CallF) (y : YieldF) (k : Nat) : DT := .node 4 (ar0 (fun lim H => L4 ρ c y lim k H) (fun lim args H => slowF (cx ρ) c y k lim 4 args H)) (tr3 ρ c y k) .leaf
theorem tr4_all (ρ : Addr → Option Value) (k : Nat) : (tr4 ρ (evCY (cx ρ) k).1 (evCY (cx ρ) k).2 k).All fun f h => h = fun lim args H => (evCY (cx ρ) (k + 1)).1 lim f args H :=
  ⟨ar0_eq (F := fun lim args H => (evCY (cx ρ) (k + 1)).1 lim 4 args H) (slow_at (cx ρ) k 4) (fun lim H => E4 ρ k lim H), tr3_all ρ k, trivial⟩
noncomputable def tr6 (ρ : Addr → Option Value) (c : CallF) (y : YieldF) (k : Nat) : DT := .node 6 (ar1 (fun lim a0 H => L6 ρ c y lim k a0 H) (fun lim args H => slowF (cx ρ) c y k lim 6 args H)) .leaf .leaf
theorem tr6_all (ρ : Addr → Option Value) (k : Nat) : (tr6 ρ (evCY (cx ρ) k).1 (evCY (cx ρ) k).2 k).All fun f h => h = fun lim args H => (evCY (cx ρ) (k + 1)).1 lim f args H :=
  ⟨ar1_eq (F := fun lim args H => (evCY (cx ρ) (k + 1)).1 lim 6 args H) (slow_at (cx ρ) k 6) (fun lim a0 H => E6 ρ k lim a0 H), trivial, trivial⟩
noncomputable def tr7 (ρ : Addr → Option Value) (c : CallF) (y : YieldF) (k : Nat) : DT := .node 7 (ar1 (fun lim a0 H => L7 ρ c y lim k a0 H) (fun lim args H => slowF (cx ρ) c y k lim 7 args H)) (tr6 ρ c y k) .leaf
theorem tr7_all (ρ : Addr → Option Value) (k : Nat) : (tr7 ρ (evCY (cx ρ) k).1 (evCY (cx ρ) k).2 k).All fun f h => h = fun lim args H => (evCY (cx ρ) (k + 1)).1 lim f args H :=
  ⟨ar1_eq (F := fun lim args H => (evCY (cx ρ) (k + 1)).1 lim 7 args H) (slow_at (cx ρ) k 7) (fun lim a0 H => E7 ρ k lim a0 H), tr6_all ρ k, trivial⟩
noncomputable def tr5 (ρ : Addr → Option Value) (c : CallF) (y : YieldF) (k : Nat) : DT := .node 5 (ar2 (fun lim a0 a1 H => L5 ρ c y lim k a0 a1 H) (fun lim args H => slowF (cx ρ) c y k lim 5 args H)) (tr4 ρ c y k) (tr7 ρ c y k)
theorem tr5_all (ρ : Addr → Option Value) (k : Nat) : (tr5 ρ (evCY (cx ρ) k).1 (evCY (cx ρ) k).2 k).All fun f h => h = fun lim args H => (evCY (cx ρ) (k + 1)).1 lim f args H :=
  ⟨ar2_eq (F := fun lim args H => (evCY (cx ρ) (k + 1)).1 lim 5 args H) (slow_at (cx ρ) k 5) (fun lim a0 a1 H => E5 ρ k lim a0 a1 H), tr4_all ρ k, tr7_all ρ k⟩
noncomputable def tr9 (ρ : Addr → Option Value) (c : CallF) (y : YieldF) (k : Nat) : DT := .node 9 (ar3 (fun lim a0 a1 a2 H => L9 ρ c y lim k a0 a1 a2 H) (fun lim args H => slowF (cx ρ) c y k lim 9 args H)) .leaf .leaf
theorem tr9_all (ρ : Addr → Option Value) (k : Nat) : (tr9 ρ (evCY (cx ρ) k).1 (evCY (cx ρ) k).2 k).All fun f h => h = fun lim args H => (evCY (cx ρ) (k + 1)).1 lim f args H :=
  ⟨ar3_eq (F := fun lim args H => (evCY (cx ρ) (k + 1)).1 lim 9 args H) (slow_at (cx ρ) k 9) (fun lim a0 a1 a2 H => E9 ρ k lim a0 a1 a2 H), trivial, trivial⟩
noncomputable def tr10 (ρ : Addr → Option Value) (c : CallF) (y : YieldF) (k : Nat) : DT := .node 10 (ar1 (fun lim a0 H => L10 ρ c y lim k a0 H) (fun lim args H => slowF (cx ρ) c y k lim 10 args H)) (tr9 ρ c y k) .leaf
theorem tr10_all (ρ : Addr → Option Value) (k : Nat) : (tr10 ρ (evCY (cx ρ) k).1 (evCY (cx ρ) k).2 k).All fun f h => h = fun lim args H => (evCY (cx ρ) (k + 1)).1 lim f args H :=
  ⟨ar1_eq (F := fun lim args H => (evCY (cx ρ) (k + 1)).1 lim 10 args H) (slow_at (cx ρ) k 10) (fun lim a0 H => E10 ρ k lim a0 H), tr9_all ρ k, trivial⟩
noncomputable def tr12 (ρ : Addr → Option Value) (c : CallF) (y : YieldF) (k : Nat) : DT := .node 12 (ar1 (fun lim a0 H => L12 ρ c y lim k a0 H) (fun lim args H => slowF (cx ρ) c y k lim 12 args H)) .leaf .leaf
theorem tr12_all (ρ : Addr → Option Value) (k : Nat) : (tr12 ρ (evCY (cx ρ) k).1 (evCY (cx ρ) k).2 k).All fun f h => h = fun lim args H => (evCY (cx ρ) (k + 1)).1 lim f args H :=
  ⟨ar1_eq (F := fun lim args H => (evCY (cx ρ) (k + 1)).1 lim 12 args H) (slow_at (cx ρ) k 12) (fun lim a0 H => E12 ρ k lim a0 H), trivial, trivial⟩
noncomputable def tr11 (ρ : Addr → Option Value) (c : CallF) (y : YieldF) (k : Nat) : DT := .node 11 (ar2 (fun lim a0 a1 H => L11 ρ c y lim k a0 a1 H) (fun lim args H => slowF (cx ρ) c y k lim 11 args H)) (tr10 ρ c y k) (tr12 ρ c y k)
theorem tr11_all (ρ : Addr → Option Value) (k : Nat) : (tr11 ρ (evCY (cx ρ) k).1 (evCY (cx ρ) k).2 k).All fun f h => h = fun lim args H => (evCY (cx ρ) (k + 1)).1 lim f args H :=
  ⟨ar2_eq (F := fun lim args H => (evCY (cx ρ) (k + 1)).1 lim 11 args H) (slow_at (cx ρ) k 11) (fun lim a0 a1 H => E11 ρ k lim a0 a1 H), tr10_all ρ k, tr12_all ρ k⟩
noncomputable def tr8 (ρ : Addr → Option Value) (c : CallF) (y : YieldF) (k : Nat) : DT := .node 8 (ar2 (fun lim a0 a1 H => L8 ρ c y lim k a0 a1 H) (fun lim args H => slowF (cx ρ) c y k lim 8 args H)) (tr5 ρ c y k) (tr11 ρ c y k)
theorem tr8_all (ρ : Addr → Option Value) (k : Nat) : (tr8 ρ (evCY (cx ρ) k).1 (evCY (cx ρ) k).2 k).All fun f h => h = fun lim args H => (evCY (cx ρ) (k + 1)).1 lim f args H :=
  ⟨ar2_eq (F := fun lim args H => (evCY (cx ρ) (k + 1)).1 lim 8 args H) (slow_at (cx ρ) k 8) (fun lim a0 a1 H => E8 ρ k lim a0 a1 H), tr5_all ρ k, tr11_all ρ k⟩
noncomputable def tr14 (ρ : Addr → Option Value) (c : CallF) (y : YieldF) (k : Nat) : DT := .node 14 (ar1 (fun lim a0 H => L14 ρ c y lim k a0 H) (fun lim args H => slowF (cx ρ) c y k lim 14 args H)) .leaf .leaf
theorem tr14_all (ρ : Addr → Option Value) (k : Nat) : (tr14 ρ (evCY (cx ρ) k).1 (evCY (cx ρ) k).2 k).All fun f h => h = fun lim args H => (evCY (cx ρ) (k + 1)).1 lim f args H :=
  ⟨ar1_eq (F := fun lim args H => (evCY (cx ρ) (k + 1)).1 lim 14 args H) (slow_at (cx ρ) k 14) (fun lim a0 H => E14 ρ k lim a0 H), trivial, trivial⟩
noncomputable def tr15 (ρ : Addr → Option Value) (c : CallF) (y : YieldF) (k : Nat) : DT := .node 15 (ar1 (fun lim a0 H => L15 ρ c y lim k a0 H) (fun lim args H => slowF (cx ρ) c y k lim 15 args H)) (tr14 ρ c y k) .leaf
theorem tr15_all (ρ : Addr → Option Value) (k : Nat) : (tr15 ρ (evCY (cx ρ) k).1 (evCY (cx ρ) k).2 k).All fun f h => h = fun lim args H => (evCY (cx ρ) (k + 1)).1 lim f args H :=
  ⟨ar1_eq (F := fun lim args H => (evCY (cx ρ) (k + 1)).1 lim 15 args H) (slow_at (cx ρ) k 15) (fun lim a0 H => E15 ρ k lim a0 H), tr14_all ρ k, trivial⟩
noncomputable def tr17 (ρ : Addr → Option Value) (c : CallF) (y : YieldF) (k : Nat) : DT := .node 17 (ar5 (fun lim a0 a1 a2 a3 a4 H => L17 ρ c y lim k a0 a1 a2 a3 a4 H) (fun lim args H => slowF (cx ρ) c y k lim 17 args H)) .leaf .leaf
theorem tr17_all (ρ : Addr → Option Value) (k : Nat) : (tr17 ρ (evCY (cx ρ) k).1 (evCY (cx ρ) k).2 k).All fun f h => h = fun lim args H => (evCY (cx ρ) (k + 1)).1 lim f args H :=
  ⟨ar5_eq (F := fun lim args H => (evCY (cx ρ) (k + 1)).1 lim 17 args H) (slow_at (cx ρ) k 17) (fun lim a0 a1 a2 a3 a4 H => E17 ρ k lim a0 a1 a2 a3 a4 H), trivial, trivial⟩
noncomputable def tr18 (ρ : Addr → Option Value) (c : CallF) (y : YieldF) (k : Nat) : DT := .node 18 (ar1 (fun lim a0 H => L18 ρ c y lim k a0 H) (fun lim args H => slowF (cx ρ) c y k lim 18 args H)) (tr17 ρ c y k) .leaf
theorem tr18_all (ρ : Addr → Option Value) (k : Nat) : (tr18 ρ (evCY (cx ρ) k).1 (evCY (cx ρ) k).2 k).All fun f h => h = fun lim args H => (evCY (cx ρ) (k + 1)).1 lim f args H :=
  ⟨ar1_eq (F := fun lim args H => (evCY (cx ρ) (k + 1)).1 lim 18 args H) (slow_at (cx ρ) k 18) (fun lim a0 H => E18 ρ k lim a0 H), tr17_all ρ k, trivial⟩
noncomputable def tr16 (ρ : Addr → Option Value) (c : CallF) (y : YieldF) (k : Nat) : DT := .node 16 (ar1 (fun lim a0 H => L16 ρ c y lim k a0 H) (fun lim args H => slowF (cx ρ) c y k lim 16 args H)) (tr15 ρ c y k) (tr18 ρ c y k)
theorem tr16_all (ρ : Addr → Option Value) (k : Nat) : (tr16 ρ (evCY (cx ρ) k).1 (evCY (cx ρ) k).2 k).All fun f h => h = fun lim args H => (evCY (cx ρ) (k + 1)).1 lim f args H :=
  ⟨ar1_eq (F := fun lim args H => (evCY (cx ρ) (k + 1)).1 lim 16 args H) (slow_at (cx ρ) k 16) (fun lim a0 H => E16 ρ k lim a0 H), tr15_all ρ k, tr18_all ρ k⟩
noncomputable def tr20 (ρ : Addr → Option Value) (c : CallF) (y : YieldF) (k : Nat) : DT := .node 20 (ar1 (fun lim a0 H => L20 ρ c y lim k a0 H) (fun lim args H => slowF (cx ρ) c y k lim 20 args H)) .leaf .leaf
theorem tr20_all (ρ : Addr → Option Value) (k : Nat) : (tr20 ρ (evCY (cx ρ) k).1 (evCY (cx ρ) k).2 k).All fun f h => h = fun lim args H => (evCY (cx ρ) (k + 1)).1 lim f args H :=
  ⟨ar1_eq (F := fun lim args H => (evCY (cx ρ) (k + 1)).1 lim 20 args H) (slow_at (cx ρ) k 20) (fun lim a0 H => E20 ρ k lim a0 H), trivial, trivial⟩
noncomputable def tr21 (ρ : Addr → Option Value) (c : CallF) (y : YieldF) (k : Nat) : DT := .node 21 (ar2 (fun lim a0 a1 H => L21 ρ c y lim k a0 a1 H) (fun lim args H => slowF (cx ρ) c y k lim 21 args H)) (tr20 ρ c y k) .leaf
theorem tr21_all (ρ : Addr → Option Value) (k : Nat) : (tr21 ρ (evCY (cx ρ) k).1 (evCY (cx ρ) k).2 k).All fun f h => h = fun lim args H => (evCY (cx ρ) (k + 1)).1 lim f args H :=
  ⟨ar2_eq (F := fun lim args H => (evCY (cx ρ) (k + 1)).1 lim 21 args H) (slow_at (cx ρ) k 21) (fun lim a0 a1 H => E21 ρ k lim a0 a1 H), tr20_all ρ k, trivial⟩
noncomputable def tr23 (ρ : Addr → Option Value) (c : CallF) (y : YieldF) (k : Nat) : DT := .node 23 (ar1 (fun lim a0 H => L23 ρ c y lim k a0 H) (fun lim args H => slowF (cx ρ) c y k lim 23 args H)) .leaf .leaf
theorem tr23_all (ρ : Addr → Option Value) (k : Nat) : (tr23 ρ (evCY (cx ρ) k).1 (evCY (cx ρ) k).2 k).All fun f h => h = fun lim args H => (evCY (cx ρ) (k + 1)).1 lim f args H :=
  ⟨ar1_eq (F := fun lim args H => (evCY (cx ρ) (k + 1)).1 lim 23 args H) (slow_at (cx ρ) k 23) (fun lim a0 H => E23 ρ k lim a0 H), trivial, trivial⟩
noncomputable def tr22 (ρ : Addr → Option Value) (c : CallF) (y : YieldF) (k : Nat) : DT := .node 22 (ar2 (fun lim a0 a1 H => L22 ρ c y lim k a0 a1 H) (fun lim args H => slowF (cx ρ) c y k lim 22 args H)) (tr21 ρ c y k) (tr23 ρ c y k)
theorem tr22_all (ρ : Addr → Option Value) (k : Nat) : (tr22 ρ (evCY (cx ρ) k).1 (evCY (cx ρ) k).2 k).All fun f h => h = fun lim args H => (evCY (cx ρ) (k + 1)).1 lim f args H :=
  ⟨ar2_eq (F := fun lim args H => (evCY (cx ρ) (k + 1)).1 lim 22 args H) (slow_at (cx ρ) k 22) (fun lim a0 a1 H => E22 ρ k lim a0 a1 H), tr21_all ρ k, tr23_all ρ k⟩
noncomputable def tr19 (ρ : Addr → Option Value) (c : CallF) (y : YieldF) (k : Nat) : DT := .node 19 (ar2 (fun lim a0 a1 H => L19 ρ c y lim k a0 a1 H) (fun lim args H => slowF (cx ρ) c y k lim 19 args H)) (tr16 ρ c y k) (tr22 ρ c y k)
theorem tr19_all (ρ : Addr → Option Value) (k : Nat) : (tr19 ρ (evCY (cx ρ) k).1 (evCY (cx ρ) k).2 k).All fun f h => h = fun lim args H => (evCY (cx ρ) (k + 1)).1 lim f args H :=
  ⟨ar2_eq (F := fun lim args H => (evCY (cx ρ) (k + 1)).1 lim 19 args H) (slow_at (cx ρ) k 19) (fun lim a0 a1 H => E19 ρ k lim a0 a1 H), tr16_all ρ k, tr22_all ρ k⟩
noncomputable def tr13 (ρ : Addr → Option Value) (c : CallF) (y : YieldF) (k : Nat) : DT := .node 13 (ar1 (fun lim a0 H => L13 ρ c y lim k a0 H) (fun lim args H => slowF (cx ρ) c y k lim 13 args H)) (tr8 ρ c y k) (tr19 ρ c y k)
theorem tr13_all (ρ : Addr → Option Value) (k : Nat) : (tr13 ρ (evCY (cx ρ) k).1 (evCY (cx ρ) k).2 k).All fun f h => h = fun lim args H => (evCY (cx ρ) (k + 1)).1 lim f args H :=
  ⟨ar1_eq (F := fun lim args H => (evCY (cx ρ) (k + 1)).1 lim 13 args H) (slow_at (cx ρ) k 13) (fun lim a0 H => E13 ρ k lim a0 H), tr8_all ρ k, tr19_all ρ k⟩
noncomputable def tr25 (ρ : Addr → Option Value) (c : CallF) (y : YieldF) (k : Nat) : DT := .node 25 (ar1 (fun lim a0 H => L25 ρ c y lim k a0 H) (fun lim args H => slowF (cx ρ) c y k lim 25 args H)) .leaf .leaf
theorem tr25_all (ρ : Addr → Option Value) (k : Nat) : (tr25 ρ (evCY (cx ρ) k).1 (evCY (cx ρ) k).2 k).All fun f h => h = fun lim args H => (evCY (cx ρ) (k + 1)).1 lim f args H :=
  ⟨ar1_eq (F := fun lim args H => (evCY (cx ρ) (k + 1)).1 lim 25 args H) (slow_at (cx ρ) k 25) (fun lim a0 H => E25 ρ k lim a0 H), trivial, trivial⟩
noncomputable def tr31 (ρ : Addr → Option Value) (c : CallF) (y : YieldF) (k : Nat) : DT := .node 31 (ar2 (fun lim a0 a1 H => L31 ρ c y lim k a0 a1 H) (fun lim args H => slowF (cx ρ) c y k lim 31 args H)) (tr25 ρ c y k) .leaf
theorem tr31_all (ρ : Addr → Option Value) (k : Nat) : (tr31 ρ (evCY (cx ρ) k).1 (evCY (cx ρ) k).2 k).All fun f h => h = fun lim args H => (evCY (cx ρ) (k + 1)).1 lim f args H :=
  ⟨ar2_eq (F := fun lim args H => (evCY (cx ρ) (k + 1)).1 lim 31 args H) (slow_at (cx ρ) k 31) (fun lim a0 a1 H => E31 ρ k lim a0 a1 H), tr25_all ρ k, trivial⟩
noncomputable def tr33 (ρ : Addr → Option Value) (c : CallF) (y : YieldF) (k : Nat) : DT := .node 33 (ar2 (fun lim a0 a1 H => L33 ρ c y lim k a0 a1 H) (fun lim args H => slowF (cx ρ) c y k lim 33 args H)) .leaf .leaf
theorem tr33_all (ρ : Addr → Option Value) (k : Nat) : (tr33 ρ (evCY (cx ρ) k).1 (evCY (cx ρ) k).2 k).All fun f h => h = fun lim args H => (evCY (cx ρ) (k + 1)).1 lim f args H :=
  ⟨ar2_eq (F := fun lim args H => (evCY (cx ρ) (k + 1)).1 lim 33 args H) (slow_at (cx ρ) k 33) (fun lim a0 a1 H => E33 ρ k lim a0 a1 H), trivial, trivial⟩
noncomputable def tr34 (ρ : Addr → Option Value) (c : CallF) (y : YieldF) (k : Nat) : DT := .node 34 (ar1 (fun lim a0 H => L34 ρ c y lim k a0 H) (fun lim args H => slowF (cx ρ) c y k lim 34 args H)) (tr33 ρ c y k) .leaf
theorem tr34_all (ρ : Addr → Option Value) (k : Nat) : (tr34 ρ (evCY (cx ρ) k).1 (evCY (cx ρ) k).2 k).All fun f h => h = fun lim args H => (evCY (cx ρ) (k + 1)).1 lim f args H :=
  ⟨ar1_eq (F := fun lim args H => (evCY (cx ρ) (k + 1)).1 lim 34 args H) (slow_at (cx ρ) k 34) (fun lim a0 H => E34 ρ k lim a0 H), tr33_all ρ k, trivial⟩
noncomputable def tr32 (ρ : Addr → Option Value) (c : CallF) (y : YieldF) (k : Nat) : DT := .node 32 (ar0 (fun lim H => L32 ρ c y lim k H) (fun lim args H => slowF (cx ρ) c y k lim 32 args H)) (tr31 ρ c y k) (tr34 ρ c y k)
theorem tr32_all (ρ : Addr → Option Value) (k : Nat) : (tr32 ρ (evCY (cx ρ) k).1 (evCY (cx ρ) k).2 k).All fun f h => h = fun lim args H => (evCY (cx ρ) (k + 1)).1 lim f args H :=
  ⟨ar0_eq (F := fun lim args H => (evCY (cx ρ) (k + 1)).1 lim 32 args H) (slow_at (cx ρ) k 32) (fun lim H => E32 ρ k lim H), tr31_all ρ k, tr34_all ρ k⟩
noncomputable def tr36 (ρ : Addr → Option Value) (c : CallF) (y : YieldF) (k : Nat) : DT := .node 36 (ar1 (fun lim a0 H => L36 ρ c y lim k a0 H) (fun lim args H => slowF (cx ρ) c y k lim 36 args H)) .leaf .leaf
theorem tr36_all (ρ : Addr → Option Value) (k : Nat) : (tr36 ρ (evCY (cx ρ) k).1 (evCY (cx ρ) k).2 k).All fun f h => h = fun lim args H => (evCY (cx ρ) (k + 1)).1 lim f args H :=
  ⟨ar1_eq (F := fun lim args H => (evCY (cx ρ) (k + 1)).1 lim 36 args H) (slow_at (cx ρ) k 36) (fun lim a0 H => E36 ρ k lim a0 H), trivial, trivial⟩
noncomputable def tr37 (ρ : Addr → Option Value) (c : CallF) (y : YieldF) (k : Nat) : DT := .node 37 (ar1 (fun lim a0 H => L37 ρ c y lim k a0 H) (fun lim args H => slowF (cx ρ) c y k lim 37 args H)) (tr36 ρ c y k) .leaf
theorem tr37_all (ρ : Addr → Option Value) (k : Nat) : (tr37 ρ (evCY (cx ρ) k).1 (evCY (cx ρ) k).2 k).All fun f h => h = fun lim args H => (evCY (cx ρ) (k + 1)).1 lim f args H :=
  ⟨ar1_eq (F := fun lim args H => (evCY (cx ρ) (k + 1)).1 lim 37 args H) (slow_at (cx ρ) k 37) (fun lim a0 H => E37 ρ k lim a0 H), tr36_all ρ k, trivial⟩
noncomputable def tr39 (ρ : Addr → Option Value) (c : CallF) (y : YieldF) (k : Nat) : DT := .node 39 (ar1 (fun lim a0 H => L39 ρ c y lim k a0 H) (fun lim args H => slowF (cx ρ) c y k lim 39 args H)) .leaf .leaf
theorem tr39_all (ρ : Addr → Option Value) (k : Nat) : (tr39 ρ (evCY (cx ρ) k).1 (evCY (cx ρ) k).2 k).All fun f h => h = fun lim args H => (evCY (cx ρ) (k + 1)).1 lim f args H :=
  ⟨ar1_eq (F := fun lim args H => (evCY (cx ρ) (k + 1)).1 lim 39 args H) (slow_at (cx ρ) k 39) (fun lim a0 H => E39 ρ k lim a0 H), trivial, trivial⟩
noncomputable def tr38 (ρ : Addr → Option Value) (c : CallF) (y : YieldF) (k : Nat) : DT := .node 38 (ar1 (fun lim a0 H => L38 ρ c y lim k a0 H) (fun lim args H => slowF (cx ρ) c y k lim 38 args H)) (tr37 ρ c y k) (tr39 ρ c y k)
theorem tr38_all (ρ : Addr → Option Value) (k : Nat) : (tr38 ρ (evCY (cx ρ) k).1 (evCY (cx ρ) k).2 k).All fun f h => h = fun lim args H => (evCY (cx ρ) (k + 1)).1 lim f args H :=
  ⟨ar1_eq (F := fun lim args H => (evCY (cx ρ) (k + 1)).1 lim 38 args H) (slow_at (cx ρ) k 38) (fun lim a0 H => E38 ρ k lim a0 H), tr37_all ρ k, tr39_all ρ k⟩
noncomputable def tr35 (ρ : Addr → Option Value) (c : CallF) (y : YieldF) (k : Nat) : DT := .node 35 (ar1 (fun lim a0 H => L35 ρ c y lim k a0 H) (fun lim args H => slowF (cx ρ) c y k lim 35 args H)) (tr32 ρ c y k) (tr38 ρ c y k)
theorem tr35_all (ρ : Addr → Option Value) (k : Nat) : (tr35 ρ (evCY (cx ρ) k).1 (evCY (cx ρ) k).2 k).All fun f h => h = fun lim args H => (evCY (cx ρ) (k + 1)).1 lim f args H :=
  ⟨ar1_eq (F := fun lim args H => (evCY (cx ρ) (k + 1)).1 lim 35 args H) (slow_at (cx ρ) k 35) (fun lim a0 H => E35 ρ k lim a0 H), tr32_all ρ k, tr38_all ρ k⟩
noncomputable def tr41 (ρ : Addr → Option Value) (c : CallF) (y : YieldF) (k : Nat) : DT := .node 41 (ar2 (fun lim a0 a1 H => L41 ρ c y lim k a0 a1 H) (fun lim args H => slowF (cx ρ) c y k lim 41 args H)) .leaf .leaf
theorem tr41_all (ρ : Addr → Option Value) (k : Nat) : (tr41 ρ (evCY (cx ρ) k).1 (evCY (cx ρ) k).2 k).All fun f h => h = fun lim args H => (evCY (cx ρ) (k + 1)).1 lim f args H :=
  ⟨ar2_eq (F := fun lim args H => (evCY (cx ρ) (k + 1)).1 lim 41 args H) (slow_at (cx ρ) k 41) (fun lim a0 a1 H => E41 ρ k lim a0 a1 H), trivial, trivial⟩
noncomputable def tr42 (ρ : Addr → Option Value) (c : CallF) (y : YieldF) (k : Nat) : DT := .node 42 (ar5 (fun lim a0 a1 a2 a3 a4 H => L42 ρ c y lim k a0 a1 a2 a3 a4 H) (fun lim args H => slowF (cx ρ) c y k lim 42 args H)) (tr41 ρ c y k) .leaf
theorem tr42_all (ρ : Addr → Option Value) (k : Nat) : (tr42 ρ (evCY (cx ρ) k).1 (evCY (cx ρ) k).2 k).All fun f h => h = fun lim args H => (evCY (cx ρ) (k + 1)).1 lim f args H :=
  ⟨ar5_eq (F := fun lim args H => (evCY (cx ρ) (k + 1)).1 lim 42 args H) (slow_at (cx ρ) k 42) (fun lim a0 a1 a2 a3 a4 H => E42 ρ k lim a0 a1 a2 a3 a4 H), tr41_all ρ k, trivial⟩
noncomputable def tr45 (ρ : Addr → Option Value) (c : CallF) (y : YieldF) (k : Nat) : DT := .node 45 (ar2 (fun lim a0 a1 H => L45 ρ c y lim k a0 a1 H) (fun lim args H => slowF (cx ρ) c y k lim 45 args H)) .leaf .leaf
theorem tr45_all (ρ : Addr → Option Value) (k : Nat) : (tr45 ρ (evCY (cx ρ) k).1 (evCY (cx ρ) k).2 k).All fun f h => h = fun lim args H => (evCY (cx ρ) (k + 1)).1 lim f args H :=
  ⟨ar2_eq (F := fun lim args H => (evCY (cx ρ) (k + 1)).1 lim 45 args H) (slow_at (cx ρ) k 45) (fun lim a0 a1 H => E45 ρ k lim a0 a1 H), trivial, trivial⟩
noncomputable def tr46 (ρ : Addr → Option Value) (c : CallF) (y : YieldF) (k : Nat) : DT := .node 46 (ar1 (fun lim a0 H => L46 ρ c y lim k a0 H) (fun lim args H => slowF (cx ρ) c y k lim 46 args H)) (tr45 ρ c y k) .leaf
theorem tr46_all (ρ : Addr → Option Value) (k : Nat) : (tr46 ρ (evCY (cx ρ) k).1 (evCY (cx ρ) k).2 k).All fun f h => h = fun lim args H => (evCY (cx ρ) (k + 1)).1 lim f args H :=
  ⟨ar1_eq (F := fun lim args H => (evCY (cx ρ) (k + 1)).1 lim 46 args H) (slow_at (cx ρ) k 46) (fun lim a0 H => E46 ρ k lim a0 H), tr45_all ρ k, trivial⟩
noncomputable def tr43 (ρ : Addr → Option Value) (c : CallF) (y : YieldF) (k : Nat) : DT := .node 43 (ar1 (fun lim a0 H => L43 ρ c y lim k a0 H) (fun lim args H => slowF (cx ρ) c y k lim 43 args H)) (tr42 ρ c y k) (tr46 ρ c y k)
theorem tr43_all (ρ : Addr → Option Value) (k : Nat) : (tr43 ρ (evCY (cx ρ) k).1 (evCY (cx ρ) k).2 k).All fun f h => h = fun lim args H => (evCY (cx ρ) (k + 1)).1 lim f args H :=
  ⟨ar1_eq (F := fun lim args H => (evCY (cx ρ) (k + 1)).1 lim 43 args H) (slow_at (cx ρ) k 43) (fun lim a0 H => E43 ρ k lim a0 H), tr42_all ρ k, tr46_all ρ k⟩
noncomputable def tr55 (ρ : Addr → Option Value) (c : CallF) (y : YieldF) (k : Nat) : DT := .node 55 (ar2 (fun lim a0 a1 H => L55 ρ c y lim k a0 a1 H) (fun lim args H => slowF (cx ρ) c y k lim 55 args H)) .leaf .leaf
theorem tr55_all (ρ : Addr → Option Value) (k : Nat) : (tr55 ρ (evCY (cx ρ) k).1 (evCY (cx ρ) k).2 k).All fun f h => h = fun lim args H => (evCY (cx ρ) (k + 1)).1 lim f args H :=
  ⟨ar2_eq (F := fun lim args H => (evCY (cx ρ) (k + 1)).1 lim 55 args H) (slow_at (cx ρ) k 55) (fun lim a0 a1 H => E55 ρ k lim a0 a1 H), trivial, trivial⟩
noncomputable def tr56 (ρ : Addr → Option Value) (c : CallF) (y : YieldF) (k : Nat) : DT := .node 56 (ar1 (fun lim a0 H => L56 ρ c y lim k a0 H) (fun lim args H => slowF (cx ρ) c y k lim 56 args H)) (tr55 ρ c y k) .leaf
theorem tr56_all (ρ : Addr → Option Value) (k : Nat) : (tr56 ρ (evCY (cx ρ) k).1 (evCY (cx ρ) k).2 k).All fun f h => h = fun lim args H => (evCY (cx ρ) (k + 1)).1 lim f args H :=
  ⟨ar1_eq (F := fun lim args H => (evCY (cx ρ) (k + 1)).1 lim 56 args H) (slow_at (cx ρ) k 56) (fun lim a0 H => E56 ρ k lim a0 H), tr55_all ρ k, trivial⟩
noncomputable def tr58 (ρ : Addr → Option Value) (c : CallF) (y : YieldF) (k : Nat) : DT := .node 58 (ar0 (fun lim H => L58 ρ c y lim k H) (fun lim args H => slowF (cx ρ) c y k lim 58 args H)) .leaf .leaf
theorem tr58_all (ρ : Addr → Option Value) (k : Nat) : (tr58 ρ (evCY (cx ρ) k).1 (evCY (cx ρ) k).2 k).All fun f h => h = fun lim args H => (evCY (cx ρ) (k + 1)).1 lim f args H :=
  ⟨ar0_eq (F := fun lim args H => (evCY (cx ρ) (k + 1)).1 lim 58 args H) (slow_at (cx ρ) k 58) (fun lim H => E58 ρ k lim H), trivial, trivial⟩
noncomputable def tr57 (ρ : Addr → Option Value) (c : CallF) (y : YieldF) (k : Nat) : DT := .node 57 (ar0 (fun lim H => L57 ρ c y lim k H) (fun lim args H => slowF (cx ρ) c y k lim 57 args H)) (tr56 ρ c y k) (tr58 ρ c y k)
theorem tr57_all (ρ : Addr → Option Value) (k : Nat) : (tr57 ρ (evCY (cx ρ) k).1 (evCY (cx ρ) k).2 k).All fun f h => h = fun lim args H => (evCY (cx ρ) (k + 1)).1 lim f args H :=
  ⟨ar0_eq (F := fun lim args H => (evCY (cx ρ) (k + 1)).1 lim 57 args H) (slow_at (cx ρ) k 57) (fun lim H => E57 ρ k lim H), tr56_all ρ k, tr58_all ρ k⟩
noncomputable def tr54 (ρ : Addr → Option Value) (c : CallF) (y : YieldF) (k : Nat) : DT := .node 54 (ar2 (fun lim a0 a1 H => L54 ρ c y lim k a0 a1 H) (fun lim args H => slowF (cx ρ) c y k lim 54 args H)) (tr43 ρ c y k) (tr57 ρ c y k)
theorem tr54_all (ρ : Addr → Option Value) (k : Nat) : (tr54 ρ (evCY (cx ρ) k).1 (evCY (cx ρ) k).2 k).All fun f h => h = fun lim args H => (evCY (cx ρ) (k + 1)).1 lim f args H :=
  ⟨ar2_eq (F := fun lim args H => (evCY (cx ρ) (k + 1)).1 lim 54 args H) (slow_at (cx ρ) k 54) (fun lim a0 a1 H => E54 ρ k lim a0 a1 H), tr43_all ρ k, tr57_all ρ k⟩
noncomputable def tr40 (ρ : Addr → Option Value) (c : CallF) (y : YieldF) (k : Nat) : DT := .node 40 (ar2 (fun lim a0 a1 H => L40 ρ c y lim k a0 a1 H) (fun lim args H => slowF (cx ρ) c y k lim 40 args H)) (tr35 ρ c y k) (tr54 ρ c y k)
theorem tr40_all (ρ : Addr → Option Value) (k : Nat) : (tr40 ρ (evCY (cx ρ) k).1 (evCY (cx ρ) k).2 k).All fun f h => h = fun lim args H => (evCY (cx ρ) (k + 1)).1 lim f args H :=
  ⟨ar2_eq (F := fun lim args H => (evCY (cx ρ) (k + 1)).1 lim 40 args H) (slow_at (cx ρ) k 40) (fun lim a0 a1 H => E40 ρ k lim a0 a1 H), tr35_all ρ k, tr54_all ρ k⟩
noncomputable def tr24 (ρ : Addr → Option Value) (c : CallF) (y : YieldF) (k : Nat) : DT := .node 24 (ar2 (fun lim a0 a1 H => L24 ρ c y lim k a0 a1 H) (fun lim args H => slowF (cx ρ) c y k lim 24 args H)) (tr13 ρ c y k) (tr40 ρ c y k)
theorem tr24_all (ρ : Addr → Option Value) (k : Nat) : (tr24 ρ (evCY (cx ρ) k).1 (evCY (cx ρ) k).2 k).All fun f h => h = fun lim args H => (evCY (cx ρ) (k + 1)).1 lim f args H :=
  ⟨ar2_eq (F := fun lim args H => (evCY (cx ρ) (k + 1)).1 lim 24 args H) (slow_at (cx ρ) k 24) (fun lim a0 a1 H => E24 ρ k lim a0 a1 H), tr13_all ρ k, tr40_all ρ k⟩
noncomputable def tr60 (ρ : Addr → Option Value) (c : CallF) (y : YieldF) (k : Nat) : DT := .node 60 (ar1 (fun lim a0 H => L60 ρ c y lim k a0 H) (fun lim args H => slowF (cx ρ) c y k lim 60 args H)) .leaf .leaf
theorem tr60_all (ρ : Addr → Option Value) (k : Nat) : (tr60 ρ (evCY (cx ρ) k).1 (evCY (cx ρ) k).2 k).All fun f h => h = fun lim args H => (evCY (cx ρ) (k + 1)).1 lim f args H :=
  ⟨ar1_eq (F := fun lim args H => (evCY (cx ρ) (k + 1)).1 lim 60 args H) (slow_at (cx ρ) k 60) (fun lim a0 H => E60 ρ k lim a0 H), trivial, trivial⟩
noncomputable def tr61 (ρ : Addr → Option Value) (c : CallF) (y : YieldF) (k : Nat) : DT := .node 61 (ar1 (fun lim a0 H => L61 ρ c y lim k a0 H) (fun lim args H => slowF (cx ρ) c y k lim 61 args H)) (tr60 ρ c y k) .leaf
theorem tr61_all (ρ : Addr → Option Value) (k : Nat) : (tr61 ρ (evCY (cx ρ) k).1 (evCY (cx ρ) k).2 k).All fun f h => h = fun lim args H => (evCY (cx ρ) (k + 1)).1 lim f args H :=
  ⟨ar1_eq (F := fun lim args H => (evCY (cx ρ) (k + 1)).1 lim 61 args H) (slow_at (cx ρ) k 61) (fun lim a0 H => E61 ρ k lim a0 H), tr60_all ρ k, trivial⟩
noncomputable def tr63 (ρ : Addr → Option Value) (c : CallF) (y : YieldF) (k : Nat) : DT := .node 63 (ar2 (fun lim a0 a1 H => L63 ρ c y lim k a0 a1 H) (fun lim args H => slowF (cx ρ) c y k lim 63 args H)) .leaf .leaf
theorem tr63_all (ρ : Addr → Option Value) (k : Nat) : (tr63 ρ (evCY (cx ρ) k).1 (evCY (cx ρ) k).2 k).All fun f h => h = fun lim args H => (evCY (cx ρ) (k + 1)).1 lim f args H :=
  ⟨ar2_eq (F := fun lim args H => (evCY (cx ρ) (k + 1)).1 lim 63 args H) (slow_at (cx ρ) k 63) (fun lim a0 a1 H => E63 ρ k lim a0 a1 H), trivial, trivial⟩
noncomputable def tr64 (ρ : Addr → Option Value) (c : CallF) (y : YieldF) (k : Nat) : DT := .node 64 (ar3 (fun lim a0 a1 a2 H => L64 ρ c y lim k a0 a1 a2 H) (fun lim args H => slowF (cx ρ) c y k lim 64 args H)) (tr63 ρ c y k) .leaf
theorem tr64_all (ρ : Addr → Option Value) (k : Nat) : (tr64 ρ (evCY (cx ρ) k).1 (evCY (cx ρ) k).2 k).All fun f h => h = fun lim args H => (evCY (cx ρ) (k + 1)).1 lim f args H :=
  ⟨ar3_eq (F := fun lim args H => (evCY (cx ρ) (k + 1)).1 lim 64 args H) (slow_at (cx ρ) k 64) (fun lim a0 a1 a2 H => E64 ρ k lim a0 a1 a2 H), tr63_all ρ k, trivial⟩
noncomputable def tr62 (ρ : Addr → Option Value) (c : CallF) (y : YieldF) (k : Nat) : DT := .node 62 (ar2 (fun lim a0 a1 H => L62 ρ c y lim k a0 a1 H) (fun lim args H => slowF (cx ρ) c y k lim 62 args H)) (tr61 ρ c y k) (tr64 ρ c y k)
theorem tr62_all (ρ : Addr → Option Value) (k : Nat) : (tr62 ρ (evCY (cx ρ) k).1 (evCY (cx ρ) k).2 k).All fun f h => h = fun lim args H => (evCY (cx ρ) (k + 1)).1 lim f args H :=
  ⟨ar2_eq (F := fun lim args H => (evCY (cx ρ) (k + 1)).1 lim 62 args H) (slow_at (cx ρ) k 62) (fun lim a0 a1 H => E62 ρ k lim a0 a1 H), tr61_all ρ k, tr64_all ρ k⟩
noncomputable def tr66 (ρ : Addr → Option Value) (c : CallF) (y : YieldF) (k : Nat) : DT := .node 66 (ar2 (fun lim a0 a1 H => L66 ρ c y lim k a0 a1 H) (fun lim args H => slowF (cx ρ) c y k lim 66 args H)) .leaf .leaf
theorem tr66_all (ρ : Addr → Option Value) (k : Nat) : (tr66 ρ (evCY (cx ρ) k).1 (evCY (cx ρ) k).2 k).All fun f h => h = fun lim args H => (evCY (cx ρ) (k + 1)).1 lim f args H :=
  ⟨ar2_eq (F := fun lim args H => (evCY (cx ρ) (k + 1)).1 lim 66 args H) (slow_at (cx ρ) k 66) (fun lim a0 a1 H => E66 ρ k lim a0 a1 H), trivial, trivial⟩
noncomputable def tr70 (ρ : Addr → Option Value) (c : CallF) (y : YieldF) (k : Nat) : DT := .node 70 (ar1 (fun lim a0 H => L70 ρ c y lim k a0 H) (fun lim args H => slowF (cx ρ) c y k lim 70 args H)) (tr66 ρ c y k) .leaf
theorem tr70_all (ρ : Addr → Option Value) (k : Nat) : (tr70 ρ (evCY (cx ρ) k).1 (evCY (cx ρ) k).2 k).All fun f h => h = fun lim args H => (evCY (cx ρ) (k + 1)).1 lim f args H :=
  ⟨ar1_eq (F := fun lim args H => (evCY (cx ρ) (k + 1)).1 lim 70 args H) (slow_at (cx ρ) k 70) (fun lim a0 H => E70 ρ k lim a0 H), tr66_all ρ k, trivial⟩
noncomputable def tr72 (ρ : Addr → Option Value) (c : CallF) (y : YieldF) (k : Nat) : DT := .node 72 (ar1 (fun lim a0 H => L72 ρ c y lim k a0 H) (fun lim args H => slowF (cx ρ) c y k lim 72 args H)) .leaf .leaf
theorem tr72_all (ρ : Addr → Option Value) (k : Nat) : (tr72 ρ (evCY (cx ρ) k).1 (evCY (cx ρ) k).2 k).All fun f h => h = fun lim args H => (evCY (cx ρ) (k + 1)).1 lim f args H :=
  ⟨ar1_eq (F := fun lim args H => (evCY (cx ρ) (k + 1)).1 lim 72 args H) (slow_at (cx ρ) k 72) (fun lim a0 H => E72 ρ k lim a0 H), trivial, trivial⟩
noncomputable def tr71 (ρ : Addr → Option Value) (c : CallF) (y : YieldF) (k : Nat) : DT := .node 71 (ar2 (fun lim a0 a1 H => L71 ρ c y lim k a0 a1 H) (fun lim args H => slowF (cx ρ) c y k lim 71 args H)) (tr70 ρ c y k) (tr72 ρ c y k)
theorem tr71_all (ρ : Addr → Option Value) (k : Nat) : (tr71 ρ (evCY (cx ρ) k).1 (evCY (cx ρ) k).2 k).All fun f h => h = fun lim args H => (evCY (cx ρ) (k + 1)).1 lim f args H :=
  ⟨ar2_eq (F := fun lim args H => (evCY (cx ρ) (k + 1)).1 lim 71 args H) (slow_at (cx ρ) k 71) (fun lim a0 a1 H => E71 ρ k lim a0 a1 H), tr70_all ρ k, tr72_all ρ k⟩
noncomputable def tr65 (ρ : Addr → Option Value) (c : CallF) (y : YieldF) (k : Nat) : DT := .node 65 (ar1 (fun lim a0 H => L65 ρ c y lim k a0 H) (fun lim args H => slowF (cx ρ) c y k lim 65 args H)) (tr62 ρ c y k) (tr71 ρ c y k)
theorem tr65_all (ρ : Addr → Option Value) (k : Nat) : (tr65 ρ (evCY (cx ρ) k).1 (evCY (cx ρ) k).2 k).All fun f h => h = fun lim args H => (evCY (cx ρ) (k + 1)).1 lim f args H :=
  ⟨ar1_eq (F := fun lim args H => (evCY (cx ρ) (k + 1)).1 lim 65 args H) (slow_at (cx ρ) k 65) (fun lim a0 H => E65 ρ k lim a0 H), tr62_all ρ k, tr71_all ρ k⟩
noncomputable def tr74 (ρ : Addr → Option Value) (c : CallF) (y : YieldF) (k : Nat) : DT := .node 74 (ar1 (fun lim a0 H => L74 ρ c y lim k a0 H) (fun lim args H => slowF (cx ρ) c y k lim 74 args H)) .leaf .leaf
theorem tr74_all (ρ : Addr → Option Value) (k : Nat) : (tr74 ρ (evCY (cx ρ) k).1 (evCY (cx ρ) k).2 k).All fun f h => h = fun lim args H => (evCY (cx ρ) (k + 1)).1 lim f args H :=
  ⟨ar1_eq (F := fun lim args H => (evCY (cx ρ) (k + 1)).1 lim 74 args H) (slow_at (cx ρ) k 74) (fun lim a0 H => E74 ρ k lim a0 H), trivial, trivial⟩
noncomputable def tr85 (ρ : Addr → Option Value) (c : CallF) (y : YieldF) (k : Nat) : DT := .node 85 (ar1 (fun lim a0 H => L85 ρ c y lim k a0 H) (fun lim args H => slowF (cx ρ) c y k lim 85 args H)) (tr74 ρ c y k) .leaf
theorem tr85_all (ρ : Addr → Option Value) (k : Nat) : (tr85 ρ (evCY (cx ρ) k).1 (evCY (cx ρ) k).2 k).All fun f h => h = fun lim args H => (evCY (cx ρ) (k + 1)).1 lim f args H :=
  ⟨ar1_eq (F := fun lim args H => (evCY (cx ρ) (k + 1)).1 lim 85 args H) (slow_at (cx ρ) k 85) (fun lim a0 H => E85 ρ k lim a0 H), tr74_all ρ k, trivial⟩
noncomputable def tr92 (ρ : Addr → Option Value) (c : CallF) (y : YieldF) (k : Nat) : DT := .node 92 (ar1 (fun lim a0 H => L92 ρ c y lim k a0 H) (fun lim args H => slowF (cx ρ) c y k lim 92 args H)) .leaf .leaf
theorem tr92_all (ρ : Addr → Option Value) (k : Nat) : (tr92 ρ (evCY (cx ρ) k).1 (evCY (cx ρ) k).2 k).All fun f h => h = fun lim args H => (evCY (cx ρ) (k + 1)).1 lim f args H :=
  ⟨ar1_eq (F := fun lim args H => (evCY (cx ρ) (k + 1)).1 lim 92 args H) (slow_at (cx ρ) k 92) (fun lim a0 H => E92 ρ k lim a0 H), trivial, trivial⟩
noncomputable def tr93 (ρ : Addr → Option Value) (c : CallF) (y : YieldF) (k : Nat) : DT := .node 93 (ar2 (fun lim a0 a1 H => L93 ρ c y lim k a0 a1 H) (fun lim args H => slowF (cx ρ) c y k lim 93 args H)) (tr92 ρ c y k) .leaf
theorem tr93_all (ρ : Addr → Option Value) (k : Nat) : (tr93 ρ (evCY (cx ρ) k).1 (evCY (cx ρ) k).2 k).All fun f h => h = fun lim args H => (evCY (cx ρ) (k + 1)).1 lim f args H :=
  ⟨ar2_eq (F := fun lim args H => (evCY (cx ρ) (k + 1)).1 lim 93 args H) (slow_at (cx ρ) k 93) (fun lim a0 a1 H => E93 ρ k lim a0 a1 H), tr92_all ρ k, trivial⟩
noncomputable def tr90 (ρ : Addr → Option Value) (c : CallF) (y : YieldF) (k : Nat) : DT := .node 90 (ar3 (fun lim a0 a1 a2 H => L90 ρ c y lim k a0 a1 a2 H) (fun lim args H => slowF (cx ρ) c y k lim 90 args H)) (tr85 ρ c y k) (tr93 ρ c y k)
theorem tr90_all (ρ : Addr → Option Value) (k : Nat) : (tr90 ρ (evCY (cx ρ) k).1 (evCY (cx ρ) k).2 k).All fun f h => h = fun lim args H => (evCY (cx ρ) (k + 1)).1 lim f args H :=
  ⟨ar3_eq (F := fun lim args H => (evCY (cx ρ) (k + 1)).1 lim 90 args H) (slow_at (cx ρ) k 90) (fun lim a0 a1 a2 H => E90 ρ k lim a0 a1 a2 H), tr85_all ρ k, tr93_all ρ k⟩
noncomputable def tr95 (ρ : Addr → Option Value) (c : CallF) (y : YieldF) (k : Nat) : DT := .node 95 (ar2 (fun lim a0 a1 H => L95 ρ c y lim k a0 a1 H) (fun lim args H => slowF (cx ρ) c y k lim 95 args H)) .leaf .leaf
theorem tr95_all (ρ : Addr → Option Value) (k : Nat) : (tr95 ρ (evCY (cx ρ) k).1 (evCY (cx ρ) k).2 k).All fun f h => h = fun lim args H => (evCY (cx ρ) (k + 1)).1 lim f args H :=
  ⟨ar2_eq (F := fun lim args H => (evCY (cx ρ) (k + 1)).1 lim 95 args H) (slow_at (cx ρ) k 95) (fun lim a0 a1 H => E95 ρ k lim a0 a1 H), trivial, trivial⟩
noncomputable def tr96 (ρ : Addr → Option Value) (c : CallF) (y : YieldF) (k : Nat) : DT := .node 96 (ar4 (fun lim a0 a1 a2 a3 H => L96 ρ c y lim k a0 a1 a2 a3 H) (fun lim args H => slowF (cx ρ) c y k lim 96 args H)) (tr95 ρ c y k) .leaf
theorem tr96_all (ρ : Addr → Option Value) (k : Nat) : (tr96 ρ (evCY (cx ρ) k).1 (evCY (cx ρ) k).2 k).All fun f h => h = fun lim args H => (evCY (cx ρ) (k + 1)).1 lim f args H :=
  ⟨ar4_eq (F := fun lim args H => (evCY (cx ρ) (k + 1)).1 lim 96 args H) (slow_at (cx ρ) k 96) (fun lim a0 a1 a2 a3 H => E96 ρ k lim a0 a1 a2 a3 H), tr95_all ρ k, trivial⟩
noncomputable def tr98 (ρ : Addr → Option Value) (c : CallF) (y : YieldF) (k : Nat) : DT := .node 98 (ar3 (fun lim a0 a1 a2 H => L98 ρ c y lim k a0 a1 a2 H) (fun lim args H => slowF (cx ρ) c y k lim 98 args H)) .leaf .leaf
theorem tr98_all (ρ : Addr → Option Value) (k : Nat) : (tr98 ρ (evCY (cx ρ) k).1 (evCY (cx ρ) k).2 k).All fun f h => h = fun lim args H => (evCY (cx ρ) (k + 1)).1 lim f args H :=
  ⟨ar3_eq (F := fun lim args H => (evCY (cx ρ) (k + 1)).1 lim 98 args H) (slow_at (cx ρ) k 98) (fun lim a0 a1 a2 H => E98 ρ k lim a0 a1 a2 H), trivial, trivial⟩
noncomputable def tr97 (ρ : Addr → Option Value) (c : CallF) (y : YieldF) (k : Nat) : DT := .node 97 (ar1 (fun lim a0 H => L97 ρ c y lim k a0 H) (fun lim args H => slowF (cx ρ) c y k lim 97 args H)) (tr96 ρ c y k) (tr98 ρ c y k)
theorem tr97_all (ρ : Addr → Option Value) (k : Nat) : (tr97 ρ (evCY (cx ρ) k).1 (evCY (cx ρ) k).2 k).All fun f h => h = fun lim args H => (evCY (cx ρ) (k + 1)).1 lim f args H :=
  ⟨ar1_eq (F := fun lim args H => (evCY (cx ρ) (k + 1)).1 lim 97 args H) (slow_at (cx ρ) k 97) (fun lim a0 H => E97 ρ k lim a0 H), tr96_all ρ k, tr98_all ρ k⟩
noncomputable def tr94 (ρ : Addr → Option Value) (c : CallF) (y : YieldF) (k : Nat) : DT := .node 94 (ar2 (fun lim a0 a1 H => L94 ρ c y lim k a0 a1 H) (fun lim args H => slowF (cx ρ) c y k lim 94 args H)) (tr90 ρ c y k) (tr97 ρ c y k)
theorem tr94_all (ρ : Addr → Option Value) (k : Nat) : (tr94 ρ (evCY (cx ρ) k).1 (evCY (cx ρ) k).2 k).All fun f h => h = fun lim args H => (evCY (cx ρ) (k + 1)).1 lim f args H :=
  ⟨ar2_eq (F := fun lim args H => (evCY (cx ρ) (k + 1)).1 lim 94 args H) (slow_at (cx ρ) k 94) (fun lim a0 a1 H => E94 ρ k lim a0 a1 H), tr90_all ρ k, tr97_all ρ k⟩
noncomputable def tr73 (ρ : Addr → Option Value) (c : CallF) (y : YieldF) (k : Nat) : DT := .node 73 (ar3 (fun lim a0 a1 a2 H => L73 ρ c y lim k a0 a1 a2 H) (fun lim args H => slowF (cx ρ) c y k lim 73 args H)) (tr65 ρ c y k) (tr94 ρ c y k)
theorem tr73_all (ρ : Addr → Option Value) (k : Nat) : (tr73 ρ (evCY (cx ρ) k).1 (evCY (cx ρ) k).2 k).All fun f h => h = fun lim args H => (evCY (cx ρ) (k + 1)).1 lim f args H :=
  ⟨ar3_eq (F := fun lim args H => (evCY (cx ρ) (k + 1)).1 lim 73 args H) (slow_at (cx ρ) k 73) (fun lim a0 a1 a2 H => E73 ρ k lim a0 a1 a2 H), tr65_all ρ k, tr94_all ρ k⟩
noncomputable def tr100 (ρ : Addr → Option Value) (c : CallF) (y : YieldF) (k : Nat) : DT := .node 100 (ar2 (fun lim a0 a1 H => L100 ρ c y lim k a0 a1 H) (fun lim args H => slowF (cx ρ) c y k lim 100 args H)) .leaf .leaf
theorem tr100_all (ρ : Addr → Option Value) (k : Nat) : (tr100 ρ (evCY (cx ρ) k).1 (evCY (cx ρ) k).2 k).All fun f h => h = fun lim args H => (evCY (cx ρ) (k + 1)).1 lim f args H :=
  ⟨ar2_eq (F := fun lim args H => (evCY (cx ρ) (k + 1)).1 lim 100 args H) (slow_at (cx ρ) k 100) (fun lim a0 a1 H => E100 ρ k lim a0 a1 H), trivial, trivial⟩
noncomputable def tr101 (ρ : Addr → Option Value) (c : CallF) (y : YieldF) (k : Nat) : DT := .node 101 (ar1 (fun lim a0 H => L101 ρ c y lim k a0 H) (fun lim args H => slowF (cx ρ) c y k lim 101 args H)) (tr100 ρ c y k) .leaf
theorem tr101_all (ρ : Addr → Option Value) (k : Nat) : (tr101 ρ (evCY (cx ρ) k).1 (evCY (cx ρ) k).2 k).All fun f h => h = fun lim args H => (evCY (cx ρ) (k + 1)).1 lim f args H :=
  ⟨ar1_eq (F := fun lim args H => (evCY (cx ρ) (k + 1)).1 lim 101 args H) (slow_at (cx ρ) k 101) (fun lim a0 H => E101 ρ k lim a0 H), tr100_all ρ k, trivial⟩
noncomputable def tr103 (ρ : Addr → Option Value) (c : CallF) (y : YieldF) (k : Nat) : DT := .node 103 (ar3 (fun lim a0 a1 a2 H => L103 ρ c y lim k a0 a1 a2 H) (fun lim args H => slowF (cx ρ) c y k lim 103 args H)) .leaf .leaf
theorem tr103_all (ρ : Addr → Option Value) (k : Nat) : (tr103 ρ (evCY (cx ρ) k).1 (evCY (cx ρ) k).2 k).All fun f h => h = fun lim args H => (evCY (cx ρ) (k + 1)).1 lim f args H :=
  ⟨ar3_eq (F := fun lim args H => (evCY (cx ρ) (k + 1)).1 lim 103 args H) (slow_at (cx ρ) k 103) (fun lim a0 a1 a2 H => E103 ρ k lim a0 a1 a2 H), trivial, trivial⟩
noncomputable def tr104 (ρ : Addr → Option Value) (c : CallF) (y : YieldF) (k : Nat) : DT := .node 104 (ar2 (fun lim a0 a1 H => L104 ρ c y lim k a0 a1 H) (fun lim args H => slowF (cx ρ) c y k lim 104 args H)) (tr103 ρ c y k) .leaf
theorem tr104_all (ρ : Addr → Option Value) (k : Nat) : (tr104 ρ (evCY (cx ρ) k).1 (evCY (cx ρ) k).2 k).All fun f h => h = fun lim args H => (evCY (cx ρ) (k + 1)).1 lim f args H :=
  ⟨ar2_eq (F := fun lim args H => (evCY (cx ρ) (k + 1)).1 lim 104 args H) (slow_at (cx ρ) k 104) (fun lim a0 a1 H => E104 ρ k lim a0 a1 H), tr103_all ρ k, trivial⟩
noncomputable def tr102 (ρ : Addr → Option Value) (c : CallF) (y : YieldF) (k : Nat) : DT := .node 102 (ar2 (fun lim a0 a1 H => L102 ρ c y lim k a0 a1 H) (fun lim args H => slowF (cx ρ) c y k lim 102 args H)) (tr101 ρ c y k) (tr104 ρ c y k)
theorem tr102_all (ρ : Addr → Option Value) (k : Nat) : (tr102 ρ (evCY (cx ρ) k).1 (evCY (cx ρ) k).2 k).All fun f h => h = fun lim args H => (evCY (cx ρ) (k + 1)).1 lim f args H :=
  ⟨ar2_eq (F := fun lim args H => (evCY (cx ρ) (k + 1)).1 lim 102 args H) (slow_at (cx ρ) k 102) (fun lim a0 a1 H => E102 ρ k lim a0 a1 H), tr101_all ρ k, tr104_all ρ k⟩
noncomputable def tr106 (ρ : Addr → Option Value) (c : CallF) (y : YieldF) (k : Nat) : DT := .node 106 (ar2 (fun lim a0 a1 H => L106 ρ c y lim k a0 a1 H) (fun lim args H => slowF (cx ρ) c y k lim 106 args H)) .leaf .leaf
theorem tr106_all (ρ : Addr → Option Value) (k : Nat) : (tr106 ρ (evCY (cx ρ) k).1 (evCY (cx ρ) k).2 k).All fun f h => h = fun lim args H => (evCY (cx ρ) (k + 1)).1 lim f args H :=
  ⟨ar2_eq (F := fun lim args H => (evCY (cx ρ) (k + 1)).1 lim 106 args H) (slow_at (cx ρ) k 106) (fun lim a0 a1 H => E106 ρ k lim a0 a1 H), trivial, trivial⟩
noncomputable def tr110 (ρ : Addr → Option Value) (c : CallF) (y : YieldF) (k : Nat) : DT := .node 110 (ar2 (fun lim a0 a1 H => L110 ρ c y lim k a0 a1 H) (fun lim args H => slowF (cx ρ) c y k lim 110 args H)) (tr106 ρ c y k) .leaf
theorem tr110_all (ρ : Addr → Option Value) (k : Nat) : (tr110 ρ (evCY (cx ρ) k).1 (evCY (cx ρ) k).2 k).All fun f h => h = fun lim args H => (evCY (cx ρ) (k + 1)).1 lim f args H :=
  ⟨ar2_eq (F := fun lim args H => (evCY (cx ρ) (k + 1)).1 lim 110 args H) (slow_at (cx ρ) k 110) (fun lim a0 a1 H => E110 ρ k lim a0 a1 H), tr106_all ρ k, trivial⟩
noncomputable def tr126 (ρ : Addr → Option Value) (c : CallF) (y : YieldF) (k : Nat) : DT := .node 126 (ar2 (fun lim a0 a1 H => L126 ρ c y lim k a0 a1 H) (fun lim args H => slowF (cx ρ) c y k lim 126 args H)) .leaf .leaf
theorem tr126_all (ρ : Addr → Option Value) (k : Nat) : (tr126 ρ (evCY (cx ρ) k).1 (evCY (cx ρ) k).2 k).All fun f h => h = fun lim args H => (evCY (cx ρ) (k + 1)).1 lim f args H :=
  ⟨ar2_eq (F := fun lim args H => (evCY (cx ρ) (k + 1)).1 lim 126 args H) (slow_at (cx ρ) k 126) (fun lim a0 a1 H => E126 ρ k lim a0 a1 H), trivial, trivial⟩
noncomputable def tr111 (ρ : Addr → Option Value) (c : CallF) (y : YieldF) (k : Nat) : DT := .node 111 (ar1 (fun lim a0 H => L111 ρ c y lim k a0 H) (fun lim args H => slowF (cx ρ) c y k lim 111 args H)) (tr110 ρ c y k) (tr126 ρ c y k)
theorem tr111_all (ρ : Addr → Option Value) (k : Nat) : (tr111 ρ (evCY (cx ρ) k).1 (evCY (cx ρ) k).2 k).All fun f h => h = fun lim args H => (evCY (cx ρ) (k + 1)).1 lim f args H :=
  ⟨ar1_eq (F := fun lim args H => (evCY (cx ρ) (k + 1)).1 lim 111 args H) (slow_at (cx ρ) k 111) (fun lim a0 H => E111 ρ k lim a0 H), tr110_all ρ k, tr126_all ρ k⟩
noncomputable def tr105 (ρ : Addr → Option Value) (c : CallF) (y : YieldF) (k : Nat) : DT := .node 105 (ar1 (fun lim a0 H => L105 ρ c y lim k a0 H) (fun lim args H => slowF (cx ρ) c y k lim 105 args H)) (tr102 ρ c y k) (tr111 ρ c y k)
theorem tr105_all (ρ : Addr → Option Value) (k : Nat) : (tr105 ρ (evCY (cx ρ) k).1 (evCY (cx ρ) k).2 k).All fun f h => h = fun lim args H => (evCY (cx ρ) (k + 1)).1 lim f args H :=
  ⟨ar1_eq (F := fun lim args H => (evCY (cx ρ) (k + 1)).1 lim 105 args H) (slow_at (cx ρ) k 105) (fun lim a0 H => E105 ρ k lim a0 H), tr102_all ρ k, tr111_all ρ k⟩
noncomputable def tr138 (ρ : Addr → Option Value) (c : CallF) (y : YieldF) (k : Nat) : DT := .node 138 (ar2 (fun lim a0 a1 H => L138 ρ c y lim k a0 a1 H) (fun lim args H => slowF (cx ρ) c y k lim 138 args H)) .leaf .leaf
theorem tr138_all (ρ : Addr → Option Value) (k : Nat) : (tr138 ρ (evCY (cx ρ) k).1 (evCY (cx ρ) k).2 k).All fun f h => h = fun lim args H => (evCY (cx ρ) (k + 1)).1 lim f args H :=
  ⟨ar2_eq (F := fun lim args H => (evCY (cx ρ) (k + 1)).1 lim 138 args H) (slow_at (cx ρ) k 138) (fun lim a0 a1 H => E138 ρ k lim a0 a1 H), trivial, trivial⟩
noncomputable def tr139 (ρ : Addr → Option Value) (c : CallF) (y : YieldF) (k : Nat) : DT := .node 139 (ar1 (fun lim a0 H => L139 ρ c y lim k a0 H) (fun lim args H => slowF (cx ρ) c y k lim 139 args H)) (tr138 ρ c y k) .leaf
theorem tr139_all (ρ : Addr → Option Value) (k : Nat) : (tr139 ρ (evCY (cx ρ) k).1 (evCY (cx ρ) k).2 k).All fun f h => h = fun lim args H => (evCY (cx ρ) (k + 1)).1 lim f args H :=
  ⟨ar1_eq (F := fun lim args H => (evCY (cx ρ) (k + 1)).1 lim 139 args H) (slow_at (cx ρ) k 139) (fun lim a0 H => E139 ρ k lim a0 H), tr138_all ρ k, trivial⟩
noncomputable def tr141 (ρ : Addr → Option Value) (c : CallF) (y : YieldF) (k : Nat) : DT := .node 141 (ar2 (fun lim a0 a1 H => L141 ρ c y lim k a0 a1 H) (fun lim args H => slowF (cx ρ) c y k lim 141 args H)) .leaf .leaf
theorem tr141_all (ρ : Addr → Option Value) (k : Nat) : (tr141 ρ (evCY (cx ρ) k).1 (evCY (cx ρ) k).2 k).All fun f h => h = fun lim args H => (evCY (cx ρ) (k + 1)).1 lim f args H :=
  ⟨ar2_eq (F := fun lim args H => (evCY (cx ρ) (k + 1)).1 lim 141 args H) (slow_at (cx ρ) k 141) (fun lim a0 a1 H => E141 ρ k lim a0 a1 H), trivial, trivial⟩
noncomputable def tr140 (ρ : Addr → Option Value) (c : CallF) (y : YieldF) (k : Nat) : DT := .node 140 (ar3 (fun lim a0 a1 a2 H => L140 ρ c y lim k a0 a1 a2 H) (fun lim args H => slowF (cx ρ) c y k lim 140 args H)) (tr139 ρ c y k) (tr141 ρ c y k)
theorem tr140_all (ρ : Addr → Option Value) (k : Nat) : (tr140 ρ (evCY (cx ρ) k).1 (evCY (cx ρ) k).2 k).All fun f h => h = fun lim args H => (evCY (cx ρ) (k + 1)).1 lim f args H :=
  ⟨ar3_eq (F := fun lim args H => (evCY (cx ρ) (k + 1)).1 lim 140 args H) (slow_at (cx ρ) k 140) (fun lim a0 a1 a2 H => E140 ρ k lim a0 a1 a2 H), tr139_all ρ k, tr141_all ρ k⟩
noncomputable def tr143 (ρ : Addr → Option Value) (c : CallF) (y : YieldF) (k : Nat) : DT := .node 143 (ar1 (fun lim a0 H => L143 ρ c y lim k a0 H) (fun lim args H => slowF (cx ρ) c y k lim 143 args H)) .leaf .leaf
theorem tr143_all (ρ : Addr → Option Value) (k : Nat) : (tr143 ρ (evCY (cx ρ) k).1 (evCY (cx ρ) k).2 k).All fun f h => h = fun lim args H => (evCY (cx ρ) (k + 1)).1 lim f args H :=
  ⟨ar1_eq (F := fun lim args H => (evCY (cx ρ) (k + 1)).1 lim 143 args H) (slow_at (cx ρ) k 143) (fun lim a0 H => E143 ρ k lim a0 H), trivial, trivial⟩
noncomputable def tr144 (ρ : Addr → Option Value) (c : CallF) (y : YieldF) (k : Nat) : DT := .node 144 (ar2 (fun lim a0 a1 H => L144 ρ c y lim k a0 a1 H) (fun lim args H => slowF (cx ρ) c y k lim 144 args H)) (tr143 ρ c y k) .leaf
theorem tr144_all (ρ : Addr → Option Value) (k : Nat) : (tr144 ρ (evCY (cx ρ) k).1 (evCY (cx ρ) k).2 k).All fun f h => h = fun lim args H => (evCY (cx ρ) (k + 1)).1 lim f args H :=
  ⟨ar2_eq (F := fun lim args H => (evCY (cx ρ) (k + 1)).1 lim 144 args H) (slow_at (cx ρ) k 144) (fun lim a0 a1 H => E144 ρ k lim a0 a1 H), tr143_all ρ k, trivial⟩
noncomputable def tr161 (ρ : Addr → Option Value) (c : CallF) (y : YieldF) (k : Nat) : DT := .node 161 (ar2 (fun lim a0 a1 H => L161 ρ c y lim k a0 a1 H) (fun lim args H => slowF (cx ρ) c y k lim 161 args H)) .leaf .leaf
theorem tr161_all (ρ : Addr → Option Value) (k : Nat) : (tr161 ρ (evCY (cx ρ) k).1 (evCY (cx ρ) k).2 k).All fun f h => h = fun lim args H => (evCY (cx ρ) (k + 1)).1 lim f args H :=
  ⟨ar2_eq (F := fun lim args H => (evCY (cx ρ) (k + 1)).1 lim 161 args H) (slow_at (cx ρ) k 161) (fun lim a0 a1 H => E161 ρ k lim a0 a1 H), trivial, trivial⟩
noncomputable def tr145 (ρ : Addr → Option Value) (c : CallF) (y : YieldF) (k : Nat) : DT := .node 145 (ar1 (fun lim a0 H => L145 ρ c y lim k a0 H) (fun lim args H => slowF (cx ρ) c y k lim 145 args H)) (tr144 ρ c y k) (tr161 ρ c y k)
theorem tr145_all (ρ : Addr → Option Value) (k : Nat) : (tr145 ρ (evCY (cx ρ) k).1 (evCY (cx ρ) k).2 k).All fun f h => h = fun lim args H => (evCY (cx ρ) (k + 1)).1 lim f args H :=
  ⟨ar1_eq (F := fun lim args H => (evCY (cx ρ) (k + 1)).1 lim 145 args H) (slow_at (cx ρ) k 145) (fun lim a0 H => E145 ρ k lim a0 H), tr144_all ρ k, tr161_all ρ k⟩
noncomputable def tr142 (ρ : Addr → Option Value) (c : CallF) (y : YieldF) (k : Nat) : DT := .node 142 (ar3 (fun lim a0 a1 a2 H => L142 ρ c y lim k a0 a1 a2 H) (fun lim args H => slowF (cx ρ) c y k lim 142 args H)) (tr140 ρ c y k) (tr145 ρ c y k)
theorem tr142_all (ρ : Addr → Option Value) (k : Nat) : (tr142 ρ (evCY (cx ρ) k).1 (evCY (cx ρ) k).2 k).All fun f h => h = fun lim args H => (evCY (cx ρ) (k + 1)).1 lim f args H :=
  ⟨ar3_eq (F := fun lim args H => (evCY (cx ρ) (k + 1)).1 lim 142 args H) (slow_at (cx ρ) k 142) (fun lim a0 a1 a2 H => E142 ρ k lim a0 a1 a2 H), tr140_all ρ k, tr145_all ρ k⟩
noncomputable def tr127 (ρ : Addr → Option Value) (c : CallF) (y : YieldF) (k : Nat) : DT := .node 127 (ar2 (fun lim a0 a1 H => L127 ρ c y lim k a0 a1 H) (fun lim args H => slowF (cx ρ) c y k lim 127 args H)) (tr105 ρ c y k) (tr142 ρ c y k)
theorem tr127_all (ρ : Addr → Option Value) (k : Nat) : (tr127 ρ (evCY (cx ρ) k).1 (evCY (cx ρ) k).2 k).All fun f h => h = fun lim args H => (evCY (cx ρ) (k + 1)).1 lim f args H :=
  ⟨ar2_eq (F := fun lim args H => (evCY (cx ρ) (k + 1)).1 lim 127 args H) (slow_at (cx ρ) k 127) (fun lim a0 a1 H => E127 ρ k lim a0 a1 H), tr105_all ρ k, tr142_all ρ k⟩
noncomputable def tr99 (ρ : Addr → Option Value) (c : CallF) (y : YieldF) (k : Nat) : DT := .node 99 (ar2 (fun lim a0 a1 H => L99 ρ c y lim k a0 a1 H) (fun lim args H => slowF (cx ρ) c y k lim 99 args H)) (tr73 ρ c y k) (tr127 ρ c y k)
theorem tr99_all (ρ : Addr → Option Value) (k : Nat) : (tr99 ρ (evCY (cx ρ) k).1 (evCY (cx ρ) k).2 k).All fun f h => h = fun lim args H => (evCY (cx ρ) (k + 1)).1 lim f args H :=
  ⟨ar2_eq (F := fun lim args H => (evCY (cx ρ) (k + 1)).1 lim 99 args H) (slow_at (cx ρ) k 99) (fun lim a0 a1 H => E99 ρ k lim a0 a1 H), tr73_all ρ k, tr127_all ρ k⟩
noncomputable def tr59 (ρ : Addr → Option Value) (c : CallF) (y : YieldF) (k : Nat) : DT := .node 59 (ar2 (fun lim a0 a1 H => L59 ρ c y lim k a0 a1 H) (fun lim args H => slowF (cx ρ) c y k lim 59 args H)) (tr24 ρ c y k) (tr99 ρ c y k)
theorem tr59_all (ρ : Addr → Option Value) (k : Nat) : (tr59 ρ (evCY (cx ρ) k).1 (evCY (cx ρ) k).2 k).All fun f h => h = fun lim args H => (evCY (cx ρ) (k + 1)).1 lim f args H :=
  ⟨ar2_eq (F := fun lim args H => (evCY (cx ρ) (k + 1)).1 lim 59 args H) (slow_at (cx ρ) k 59) (fun lim a0 a1 H => E59 ρ k lim a0 a1 H), tr24_all ρ k, tr99_all ρ k⟩
noncomputable def fast (ρ : Addr → Option Value) (k : Nat) : CallF := (fastY (cx ρ) (tr59 ρ) k).1
theorem fast_eq (ρ : Addr → Option Value) (k : Nat) : fast ρ k = evCall (cx ρ) k := congrArg Prod.fst (fastY_eq (cx ρ) (tr59 ρ) (tr59_all ρ) k)
end Go.Proofs.YtipjgmjmfkhcnaaGreat
