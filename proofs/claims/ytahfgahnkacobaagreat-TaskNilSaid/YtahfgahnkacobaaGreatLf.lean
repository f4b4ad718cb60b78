/- All functions that are lifted. Printed by a program of this repo. -/
import Derived.Test.YtahfgahnkacobaaGreatLf0
set_option linter.unusedVariables false
set_option linter.unusedSimpArgs false
set_option maxRecDepth 100000
set_option maxHeartbeats 4000000
namespace Go.Proofs.YtahfgahnkacobaaGreat
open Go.Ev Go.RowKit

theorem ldT24 (ρ : Addr → Option Value) (H : Heap) (x : AV) : loadA (cx ρ) H 24 x = ldN ρ H 4 x := by kernel_rfl
theorem ldT34 (ρ : Addr → Option Value) (H : Heap) (x : AV) : loadA (cx ρ) H 34 x = ldN ρ H 2 x := by kernel_rfl
theorem ldT48 (ρ : Addr → Option Value) (H : Heap) (x : AV) : loadA (cx ρ) H 48 x = ldN ρ H 6 x := by kernel_rfl
theorem ldT111 (ρ : Addr → Option Value) (H : Heap) (x : AV) : loadA (cx ρ) H 111 x = ldN ρ H 4 x := by kernel_rfl
theorem ldT183 (ρ : Addr → Option Value) (H : Heap) (x : AV) : loadA (cx ρ) H 183 x = ldN ρ H 3 x := by kernel_rfl
noncomputable def tr3 (ρ : Addr → Option Value) (c : CallF) (y : YieldF) (k : Nat) : DT := .node 3 (ar3 (fun lim a0 a1 a2 H => L3 ρ c y lim k a0 a1 a2 H) (fun lim args H => slowF (cx ρ) c y k lim 3 args H)) .leaf .leaf
theorem tr3_all (ρ : Addr → Option Value) (k : Nat) : (tr3 ρ (evCY (cx ρ) k).1 (evCY (cx ρ) k).2 k).All fun f h => h = fun lim args H => (evCY (cx ρ) (k + 1)).1 lim f args H :=
  ⟨ar3_eq (F := fun lim args H => (evCY (cx ρ) (k + 1)).1 lim 3 args H) (slow_at (cx ρ) k 3) (fun lim a0 a1 a2 H => E3 ρ k lim a0 a1 a2 H), trivial, trivial⟩
noncomputable def tr4 (ρ : Addr → Option Value) (c : CallF) (y : YieldF) (k : Nat) : DT := .node 4 (ar0 (fun lim H => L4 ρ c y lim k H) (fun lim args H => slowF (cx ρ) c y k lim 4 args H)) (tr3 ρ c y k) .leaf
theorem tr4_all (ρ : Addr → Option Value) (k : Nat) : (tr4 ρ (evCY (cx ρ) k).1 (evCY (cx ρ) k).2 k).All fun f h => h = fun lim args H => (evCY (cx ρ) (k + 1)).1 lim f args H :=
  ⟨ar0_eq (F := fun lim args H => (evCY (cx ρ) (k + 1)).1 lim 4 args H) (slow_at (cx ρ) k 4) (fun lim H => E4 ρ k lim H), tr3_all ρ k, trivial⟩
noncomputable def tr6 (ρ : Addr → Option Value) (c : CallF) (y : YieldF) (k : Nat) : DT := .node 6 (ar1 (fun lim a0 H => L6 ρ c y lim k a0 H) (fun lim args H => slowF (cx ρ) c y k lim 6 args H)) .leaf .leaf
theorem tr6_all (ρ : Addr → Option Value) (k : Nat) : (tr6 ρ (evCY (cx ρ) k).1 (evCY (cx ρ) k).2 k).All fun f h => h = fun lim args H => (evCY (cx ρ) (k + 1)).1 lim f args H :=
  ⟨ar1_eq (F := fun lim args H => (evCY (cx ρ) (k + 1)).1 lim 6 args H) (slow_at (cx ρ) k 6) (fun lim a0 H => E6 ρ k lim a0 H), trivial, trivial⟩
noncomputable def tr5 (ρ : Addr → Option Value) (c : CallF) (y : YieldF) (k : Nat) : DT := .node 5 (ar1 (fun lim a0 H => L5 ρ c y lim k a0 H) (fun lim args H => slowF (cx ρ) c y k lim 5 args H)) (tr4 ρ c y k) (tr6 ρ c y k)
theorem tr5_all (ρ : Addr → Option Value) (k : Nat) : (tr5 ρ (evCY (cx ρ) k).1 (evCY (cx ρ) k).2 k).All fun f h => h = fun lim args H => (evCY (cx ρ) (k + 1)).1 lim f args H :=
  ⟨ar1_eq (F := fun lim args H => (evCY (cx ρ) (k + 1)).1 lim 5 args H) (slow_at (cx ρ) k 5) (fun lim a0 H => E5 ρ k lim a0 H), tr4_all ρ k, tr6_all ρ k⟩
noncomputable def tr8 (ρ : Addr → Option Value) (c : CallF) (y : YieldF) (k : Nat) : DT := .node 8 (ar5 (fun lim a0 a1 a2 a3 a4 H => L8 ρ c y lim k a0 a1 a2 a3 a4 H) (fun lim args H => slowF (cx ρ) c y k lim 8 args H)) .leaf .leaf
theorem tr8_all (ρ : Addr → Option Value) (k : Nat) : (tr8 ρ (evCY (cx ρ) k).1 (evCY (cx ρ) k).2 k).All fun f h => h = fun lim args H => (evCY (cx ρ) (k + 1)).1 lim f args H :=
  ⟨ar5_eq (F := fun lim args H => (evCY (cx ρ) (k + 1)).1 lim 8 args H) (slow_at (cx ρ) k 8) (fun lim a0 a1 a2 a3 a4 H => E8 ρ k lim a0 a1 a2 a3 a4 H), trivial, trivial⟩
noncomputable def tr9 (ρ : Addr → Option Value) (c : CallF) (y : YieldF) (k : Nat) : DT := .node 9 (ar1 (fun lim a0 H => L9 ρ c y lim k a0 H) (fun lim args H => slowF (cx ρ) c y k lim 9 args H)) (tr8 ρ c y k) .leaf
theorem tr9_all (ρ : Addr → Option Value) (k : Nat) : (tr9 ρ (evCY (cx ρ) k).1 (evCY (cx ρ) k).2 k).All fun f h => h = fun lim args H => (evCY (cx ρ) (k + 1)).1 lim f args H :=
  ⟨ar1_eq (F := fun lim args H => (evCY (cx ρ) (k + 1)).1 lim 9 args H) (slow_at (cx ρ) k 9) (fun lim a0 H => E9 ρ k lim a0 H), tr8_all ρ k, trivial⟩
noncomputable def tr11 (ρ : Addr → Option Value) (c : CallF) (y : YieldF) (k : Nat) : DT := .node 11 (ar2 (fun lim a0 a1 H => L11 ρ c y lim k a0 a1 H) (fun lim args H => slowF (cx ρ) c y k lim 11 args H)) .leaf .leaf
theorem tr11_all (ρ : Addr → Option Value) (k : Nat) : (tr11 ρ (evCY (cx ρ) k).1 (evCY (cx ρ) k).2 k).All fun f h => h = fun lim args H => (evCY (cx ρ) (k + 1)).1 lim f args H :=
  ⟨ar2_eq (F := fun lim args H => (evCY (cx ρ) (k + 1)).1 lim 11 args H) (slow_at (cx ρ) k 11) (fun lim a0 a1 H => E11 ρ k lim a0 a1 H), trivial, trivial⟩
noncomputable def tr10 (ρ : Addr → Option Value) (c : CallF) (y : YieldF) (k : Nat) : DT := .node 10 (ar1 (fun lim a0 H => L10 ρ c y lim k a0 H) (fun lim args H => slowF (cx ρ) c y k lim 10 args H)) (tr9 ρ c y k) (tr11 ρ c y k)
theorem tr10_all (ρ : Addr → Option Value) (k : Nat) : (tr10 ρ (evCY (cx ρ) k).1 (evCY (cx ρ) k).2 k).All fun f h => h = fun lim args H => (evCY (cx ρ) (k + 1)).1 lim f args H :=
  ⟨ar1_eq (F := fun lim args H => (evCY (cx ρ) (k + 1)).1 lim 10 args H) (slow_at (cx ρ) k 10) (fun lim a0 H => E10 ρ k lim a0 H), tr9_all ρ k, tr11_all ρ k⟩
noncomputable def tr7 (ρ : Addr → Option Value) (c : CallF) (y : YieldF) (k : Nat) : DT := .node 7 (ar1 (fun lim a0 H => L7 ρ c y lim k a0 H) (fun lim args H => slowF (cx ρ) c y k lim 7 args H)) (tr5 ρ c y k) (tr10 ρ c y k)
theorem tr7_all (ρ : Addr → Option Value) (k : Nat) : (tr7 ρ (evCY (cx ρ) k).1 (evCY (cx ρ) k).2 k).All fun f h => h = fun lim args H => (evCY (cx ρ) (k + 1)).1 lim f args H :=
  ⟨ar1_eq (F := fun lim args H => (evCY (cx ρ) (k + 1)).1 lim 7 args H) (slow_at (cx ρ) k 7) (fun lim a0 H => E7 ρ k lim a0 H), tr5_all ρ k, tr10_all ρ k⟩
noncomputable def tr13 (ρ : Addr → Option Value) (c : CallF) (y : YieldF) (k : Nat) : DT := .node 13 (ar1 (fun lim a0 H => L13 ρ c y lim k a0 H) (fun lim args H => slowF (cx ρ) c y k lim 13 args H)) .leaf .leaf
theorem tr13_all (ρ : Addr → Option Value) (k : Nat) : (tr13 ρ (evCY (cx ρ) k).1 (evCY (cx ρ) k).2 k).All fun f h => h = fun lim args H => (evCY (cx ρ) (k + 1)).1 lim f args H :=
  ⟨ar1_eq (F := fun lim args H => (evCY (cx ρ) (k + 1)).1 lim 13 args H) (slow_at (cx ρ) k 13) (fun lim a0 H => E13 ρ k lim a0 H), trivial, trivial⟩
noncomputable def tr14 (ρ : Addr → Option Value) (c : CallF) (y : YieldF) (k : Nat) : DT := .node 14 (ar1 (fun lim a0 H => L14 ρ c y lim k a0 H) (fun lim args H => slowF (cx ρ) c y k lim 14 args H)) (tr13 ρ c y k) .leaf
theorem tr14_all (ρ : Addr → Option Value) (k : Nat) : (tr14 ρ (evCY (cx ρ) k).1 (evCY (cx ρ) k).2 k).All fun f h => h = fun lim args H => (evCY (cx ρ) (k + 1)).1 lim f args H :=
  ⟨ar1_eq (F := fun lim args H => (evCY (cx ρ) (k + 1)).1 lim 14 args H) (slow_at (cx ρ) k 14) (fun lim a0 H => E14 ρ k lim a0 H), tr13_all ρ k, trivial⟩
noncomputable def tr16 (ρ : Addr → Option Value) (c : CallF) (y : YieldF) (k : Nat) : DT := .node 16 (ar0 (fun lim H => L16 ρ c y lim k H) (fun lim args H => slowF (cx ρ) c y k lim 16 args H)) .leaf .leaf
theorem tr16_all (ρ : Addr → Option Value) (k : Nat) : (tr16 ρ (evCY (cx ρ) k).1 (evCY (cx ρ) k).2 k).All fun f h => h = fun lim args H => (evCY (cx ρ) (k + 1)).1 lim f args H :=
  ⟨ar0_eq (F := fun lim args H => (evCY (cx ρ) (k + 1)).1 lim 16 args H) (slow_at (cx ρ) k 16) (fun lim H => E16 ρ k lim H), trivial, trivial⟩
noncomputable def tr15 (ρ : Addr → Option Value) (c : CallF) (y : YieldF) (k : Nat) : DT := .node 15 (ar2 (fun lim a0 a1 H => L15 ρ c y lim k a0 a1 H) (fun lim args H => slowF (cx ρ) c y k lim 15 args H)) (tr14 ρ c y k) (tr16 ρ c y k)
theorem tr15_all (ρ : Addr → Option Value) (k : Nat) : (tr15 ρ (evCY (cx ρ) k).1 (evCY (cx ρ) k).2 k).All fun f h => h = fun lim args H => (evCY (cx ρ) (k + 1)).1 lim f args H :=
  ⟨ar2_eq (F := fun lim args H => (evCY (cx ρ) (k + 1)).1 lim 15 args H) (slow_at (cx ρ) k 15) (fun lim a0 a1 H => E15 ρ k lim a0 a1 H), tr14_all ρ k, tr16_all ρ k⟩
noncomputable def tr18 (ρ : Addr → Option Value) (c : CallF) (y : YieldF) (k : Nat) : DT := .node 18 (ar2 (fun lim a0 a1 H => L18 ρ c y lim k a0 a1 H) (fun lim args H => slowF (cx ρ) c y k lim 18 args H)) .leaf .leaf
theorem tr18_all (ρ : Addr → Option Value) (k : Nat) : (tr18 ρ (evCY (cx ρ) k).1 (evCY (cx ρ) k).2 k).All fun f h => h = fun lim args H => (evCY (cx ρ) (k + 1)).1 lim f args H :=
  ⟨ar2_eq (F := fun lim args H => (evCY (cx ρ) (k + 1)).1 lim 18 args H) (slow_at (cx ρ) k 18) (fun lim a0 a1 H => E18 ρ k lim a0 a1 H), trivial, trivial⟩
noncomputable def tr20 (ρ : Addr → Option Value) (c : CallF) (y : YieldF) (k : Nat) : DT := .node 20 (ar2 (fun lim a0 a1 H => L20 ρ c y lim k a0 a1 H) (fun lim args H => slowF (cx ρ) c y k lim 20 args H)) .leaf .leaf
theorem tr20_all (ρ : Addr → Option Value) (k : Nat) : (tr20 ρ (evCY (cx ρ) k).1 (evCY (cx ρ) k).2 k).All fun f h => h = fun lim args H => (evCY (cx ρ) (k + 1)).1 lim f args H :=
  ⟨ar2_eq (F := fun lim args H => (evCY (cx ρ) (k + 1)).1 lim 20 args H) (slow_at (cx ρ) k 20) (fun lim a0 a1 H => E20 ρ k lim a0 a1 H), trivial, trivial⟩
noncomputable def tr19 (ρ : Addr → Option Value) (c : CallF) (y : YieldF) (k : Nat) : DT := .node 19 (ar1 (fun lim a0 H => L19 ρ c y lim k a0 H) (fun lim args H => slowF (cx ρ) c y k lim 19 args H)) (tr18 ρ c y k) (tr20 ρ c y k)
theorem tr19_all (ρ : Addr → Option Value) (k : Nat) : (tr19 ρ (evCY (cx ρ) k).1 (evCY (cx ρ) k).2 k).All fun f h => h = fun lim args H => (evCY (cx ρ) (k + 1)).1 lim f args H :=
  ⟨ar1_eq (F := fun lim args H => (evCY (cx ρ) (k + 1)).1 lim 19 args H) (slow_at (cx ρ) k 19) (fun lim a0 H => E19 ρ k lim a0 H), tr18_all ρ k, tr20_all ρ k⟩
noncomputable def tr17 (ρ : Addr → Option Value) (c : CallF) (y : YieldF) (k : Nat) : DT := .node 17 (ar0 (fun lim H => L17 ρ c y lim k H) (fun lim args H => slowF (cx ρ) c y k lim 17 args H)) (tr15 ρ c y k) (tr19 ρ c y k)
theorem tr17_all (ρ : Addr → Option Value) (k : Nat) : (tr17 ρ (evCY (cx ρ) k).1 (evCY (cx ρ) k).2 k).All fun f h => h = fun lim args H => (evCY (cx ρ) (k + 1)).1 lim f args H :=
  ⟨ar0_eq (F := fun lim args H => (evCY (cx ρ) (k + 1)).1 lim 17 args H) (slow_at (cx ρ) k 17) (fun lim H => E17 ρ k lim H), tr15_all ρ k, tr19_all ρ k⟩
noncomputable def tr12 (ρ : Addr → Option Value) (c : CallF) (y : YieldF) (k : Nat) : DT := .node 12 (ar1 (fun lim a0 H => L12 ρ c y lim k a0 H) (fun lim args H => slowF (cx ρ) c y k lim 12 args H)) (tr7 ρ c y k) (tr17 ρ c y k)
theorem tr12_all (ρ : Addr → Option Value) (k : Nat) : (tr12 ρ (evCY (cx ρ) k).1 (evCY (cx ρ) k).2 k).All fun f h => h = fun lim args H => (evCY (cx ρ) (k + 1)).1 lim f args H :=
  ⟨ar1_eq (F := fun lim args H => (evCY (cx ρ) (k + 1)).1 lim 12 args H) (slow_at (cx ρ) k 12) (fun lim a0 H => E12 ρ k lim a0 H), tr7_all ρ k, tr17_all ρ k⟩
noncomputable def tr22 (ρ : Addr → Option Value) (c : CallF) (y : YieldF) (k : Nat) : DT := .node 22 (ar2 (fun lim a0 a1 H => L22 ρ c y lim k a0 a1 H) (fun lim args H => slowF (cx ρ) c y k lim 22 args H)) .leaf .leaf
theorem tr22_all (ρ : Addr → Option Value) (k : Nat) : (tr22 ρ (evCY (cx ρ) k).1 (evCY (cx ρ) k).2 k).All fun f h => h = fun lim args H => (evCY (cx ρ) (k + 1)).1 lim f args H :=
  ⟨ar2_eq (F := fun lim args H => (evCY (cx ρ) (k + 1)).1 lim 22 args H) (slow_at (cx ρ) k 22) (fun lim a0 a1 H => E22 ρ k lim a0 a1 H), trivial, trivial⟩
noncomputable def tr23 (ρ : Addr → Option Value) (c : CallF) (y : YieldF) (k : Nat) : DT := .node 23 (ar1 (fun lim a0 H => L23 ρ c y lim k a0 H) (fun lim args H => slowF (cx ρ) c y k lim 23 args H)) (tr22 ρ c y k) .leaf
theorem tr23_all (ρ : Addr → Option Value) (k : Nat) : (tr23 ρ (evCY (cx ρ) k).1 (evCY (cx ρ) k).2 k).All fun f h => h = fun lim args H => (evCY (cx ρ) (k + 1)).1 lim f args H :=
  ⟨ar1_eq (F := fun lim args H => (evCY (cx ρ) (k + 1)).1 lim 23 args H) (slow_at (cx ρ) k 23) (fun lim a0 H => E23 ρ k lim a0 H), tr22_all ρ k, trivial⟩
noncomputable def tr25 (ρ : Addr → Option Value) (c : CallF) (y : YieldF) (k : Nat) : DT := .node 25 (ar1 (fun lim a0 H => L25 ρ c y lim k a0 H) (fun lim args H => slowF (cx ρ) c y k lim 25 args H)) .leaf .leaf
theorem tr25_all (ρ : Addr → Option Value) (k : Nat) : (tr25 ρ (evCY (cx ρ) k).1 (evCY (cx ρ) k).2 k).All fun f h => h = fun lim args H => (evCY (cx ρ) (k + 1)).1 lim f args H :=
  ⟨ar1_eq (F := fun lim args H => (evCY (cx ρ) (k + 1)).1 lim 25 args H) (slow_at (cx ρ) k 25) (fun lim a0 H => E25 ρ k lim a0 H), trivial, trivial⟩
noncomputable def tr24 (ρ : Addr → Option Value) (c : CallF) (y : YieldF) (k : Nat) : DT := .node 24 (ar1 (fun lim a0 H => L24 ρ c y lim k a0 H) (fun lim args H => slowF (cx ρ) c y k lim 24 args H)) (tr23 ρ c y k) (tr25 ρ c y k)
theorem tr24_all (ρ : Addr → Option Value) (k : Nat) : (tr24 ρ (evCY (cx ρ) k).1 (evCY (cx ρ) k).2 k).All fun f h => h = fun lim args H => (evCY (cx ρ) (k + 1)).1 lim f args H :=
  ⟨ar1_eq (F := fun lim args H => (evCY (cx ρ) (k + 1)).1 lim 24 args H) (slow_at (cx ρ) k 24) (fun lim a0 H => E24 ρ k lim a0 H), tr23_all ρ k, tr25_all ρ k⟩
noncomputable def tr33 (ρ : Addr → Option Value) (c : CallF) (y : YieldF) (k : Nat) : DT := .node 33 (ar3 (fun lim a0 a1 a2 H => L33 ρ c y lim k a0 a1 a2 H) (fun lim args H => slowF (cx ρ) c y k lim 33 args H)) .leaf .leaf
theorem tr33_all (ρ : Addr → Option Value) (k : Nat) : (tr33 ρ (evCY (cx ρ) k).1 (evCY (cx ρ) k).2 k).All fun f h => h = fun lim args H => (evCY (cx ρ) (k + 1)).1 lim f args H :=
  ⟨ar3_eq (F := fun lim args H => (evCY (cx ρ) (k + 1)).1 lim 33 args H) (slow_at (cx ρ) k 33) (fun lim a0 a1 a2 H => E33 ρ k lim a0 a1 a2 H), trivial, trivial⟩
noncomputable def tr37 (ρ : Addr → Option Value) (c : CallF) (y : YieldF) (k : Nat) : DT := .node 37 (ar2 (fun lim a0 a1 H => L37 ρ c y lim k a0 a1 H) (fun lim args H => slowF (cx ρ) c y k lim 37 args H)) .leaf .leaf
theorem tr37_all (ρ : Addr → Option Value) (k : Nat) : (tr37 ρ (evCY (cx ρ) k).1 (evCY (cx ρ) k).2 k).All fun f h => h = fun lim args H => (evCY (cx ρ) (k + 1)).1 lim f args H :=
  ⟨ar2_eq (F := fun lim args H => (evCY (cx ρ) (k + 1)).1 lim 37 args H) (slow_at (cx ρ) k 37) (fun lim a0 a1 H => E37 ρ k lim a0 a1 H), trivial, trivial⟩
noncomputable def tr36 (ρ : Addr → Option Value) (c : CallF) (y : YieldF) (k : Nat) : DT := .node 36 (ar2 (fun lim a0 a1 H => L36 ρ c y lim k a0 a1 H) (fun lim args H => slowF (cx ρ) c y k lim 36 args H)) (tr33 ρ c y k) (tr37 ρ c y k)
theorem tr36_all (ρ : Addr → Option Value) (k : Nat) : (tr36 ρ (evCY (cx ρ) k).1 (evCY (cx ρ) k).2 k).All fun f h => h = fun lim args H => (evCY (cx ρ) (k + 1)).1 lim f args H :=
  ⟨ar2_eq (F := fun lim args H => (evCY (cx ρ) (k + 1)).1 lim 36 args H) (slow_at (cx ρ) k 36) (fun lim a0 a1 H => E36 ρ k lim a0 a1 H), tr33_all ρ k, tr37_all ρ k⟩
noncomputable def tr32 (ρ : Addr → Option Value) (c : CallF) (y : YieldF) (k : Nat) : DT := .node 32 (ar2 (fun lim a0 a1 H => L32 ρ c y lim k a0 a1 H) (fun lim args H => slowF (cx ρ) c y k lim 32 args H)) (tr24 ρ c y k) (tr36 ρ c y k)
theorem tr32_all (ρ : Addr → Option Value) (k : Nat) : (tr32 ρ (evCY (cx ρ) k).1 (evCY (cx ρ) k).2 k).All fun f h => h = fun lim args H => (evCY (cx ρ) (k + 1)).1 lim f args H :=
  ⟨ar2_eq (F := fun lim args H => (evCY (cx ρ) (k + 1)).1 lim 32 args H) (slow_at (cx ρ) k 32) (fun lim a0 a1 H => E32 ρ k lim a0 a1 H), tr24_all ρ k, tr36_all ρ k⟩
noncomputable def tr39 (ρ : Addr → Option Value) (c : CallF) (y : YieldF) (k : Nat) : DT := .node 39 (ar0 (fun lim H => L39 ρ c y lim k H) (fun lim args H => slowF (cx ρ) c y k lim 39 args H)) .leaf .leaf
theorem tr39_all (ρ : Addr → Option Value) (k : Nat) : (tr39 ρ (evCY (cx ρ) k).1 (evCY (cx ρ) k).2 k).All fun f h => h = fun lim args H => (evCY (cx ρ) (k + 1)).1 lim f args H :=
  ⟨ar0_eq (F := fun lim args H => (evCY (cx ρ) (k + 1)).1 lim 39 args H) (slow_at (cx ρ) k 39) (fun lim H => E39 ρ k lim H), trivial, trivial⟩
noncomputable def tr40 (ρ : Addr → Option Value) (c : CallF) (y : YieldF) (k : Nat) : DT := .node 40 (ar0 (fun lim H => L40 ρ c y lim k H) (fun lim args H => slowF (cx ρ) c y k lim 40 args H)) (tr39 ρ c y k) .leaf
theorem tr40_all (ρ : Addr → Option Value) (k : Nat) : (tr40 ρ (evCY (cx ρ) k).1 (evCY (cx ρ) k).2 k).All fun f h => h = fun lim args H => (evCY (cx ρ) (k + 1)).1 lim f args H :=
  ⟨ar0_eq (F := fun lim args H => (evCY (cx ρ) (k + 1)).1 lim 40 args H) (slow_at (cx ρ) k 40) (fun lim H => E40 ρ k lim H), tr39_all ρ k, trivial⟩
noncomputable def tr42 (ρ : Addr → Option Value) (c : CallF) (y : YieldF) (k : Nat) : DT := .node 42 (ar1 (fun lim a0 H => L42 ρ c y lim k a0 H) (fun lim args H => slowF (cx ρ) c y k lim 42 args H)) .leaf .leaf
theorem tr42_all (ρ : Addr → Option Value) (k : Nat) : (tr42 ρ (evCY (cx ρ) k).1 (evCY (cx ρ) k).2 k).All fun f h => h = fun lim args H => (evCY (cx ρ) (k + 1)).1 lim f args H :=
  ⟨ar1_eq (F := fun lim args H => (evCY (cx ρ) (k + 1)).1 lim 42 args H) (slow_at (cx ρ) k 42) (fun lim a0 H => E42 ρ k lim a0 H), trivial, trivial⟩
noncomputable def tr41 (ρ : Addr → Option Value) (c : CallF) (y : YieldF) (k : Nat) : DT := .node 41 (ar2 (fun lim a0 a1 H => L41 ρ c y lim k a0 a1 H) (fun lim args H => slowF (cx ρ) c y k lim 41 args H)) (tr40 ρ c y k) (tr42 ρ c y k)
theorem tr41_all (ρ : Addr → Option Value) (k : Nat) : (tr41 ρ (evCY (cx ρ) k).1 (evCY (cx ρ) k).2 k).All fun f h => h = fun lim args H => (evCY (cx ρ) (k + 1)).1 lim f args H :=
  ⟨ar2_eq (F := fun lim args H => (evCY (cx ρ) (k + 1)).1 lim 41 args H) (slow_at (cx ρ) k 41) (fun lim a0 a1 H => E41 ρ k lim a0 a1 H), tr40_all ρ k, tr42_all ρ k⟩
noncomputable def tr44 (ρ : Addr → Option Value) (c : CallF) (y : YieldF) (k : Nat) : DT := .node 44 (ar5 (fun lim a0 a1 a2 a3 a4 H => L44 ρ c y lim k a0 a1 a2 a3 a4 H) (fun lim args H => slowF (cx ρ) c y k lim 44 args H)) .leaf .leaf
theorem tr44_all (ρ : Addr → Option Value) (k : Nat) : (tr44 ρ (evCY (cx ρ) k).1 (evCY (cx ρ) k).2 k).All fun f h => h = fun lim args H => (evCY (cx ρ) (k + 1)).1 lim f args H :=
  ⟨ar5_eq (F := fun lim args H => (evCY (cx ρ) (k + 1)).1 lim 44 args H) (slow_at (cx ρ) k 44) (fun lim a0 a1 a2 a3 a4 H => E44 ρ k lim a0 a1 a2 a3 a4 H), trivial, trivial⟩
noncomputable def tr46 (ρ : Addr → Option Value) (c : CallF) (y : YieldF) (k : Nat) : DT := .node 46 (ar2 (fun lim a0 a1 H => L46 ρ c y lim k a0 a1 H) (fun lim args H => slowF (cx ρ) c y k lim 46 args H)) .leaf .leaf
theorem tr46_all (ρ : Addr → Option Value) (k : Nat) : (tr46 ρ (evCY (cx ρ) k).1 (evCY (cx ρ) k).2 k).All fun f h => h = fun lim args H => (evCY (cx ρ) (k + 1)).1 lim f args H :=
  ⟨ar2_eq (F := fun lim args H => (evCY (cx ρ) (k + 1)).1 lim 46 args H) (slow_at (cx ρ) k 46) (fun lim a0 a1 H => E46 ρ k lim a0 a1 H), trivial, trivial⟩
noncomputable def tr45 (ρ : Addr → Option Value) (c : CallF) (y : YieldF) (k : Nat) : DT := .node 45 (ar1 (fun lim a0 H => L45 ρ c y lim k a0 H) (fun lim args H => slowF (cx ρ) c y k lim 45 args H)) (tr44 ρ c y k) (tr46 ρ c y k)
theorem tr45_all (ρ : Addr → Option Value) (k : Nat) : (tr45 ρ (evCY (cx ρ) k).1 (evCY (cx ρ) k).2 k).All fun f h => h = fun lim args H => (evCY (cx ρ) (k + 1)).1 lim f args H :=
  ⟨ar1_eq (F := fun lim args H => (evCY (cx ρ) (k + 1)).1 lim 45 args H) (slow_at (cx ρ) k 45) (fun lim a0 H => E45 ρ k lim a0 H), tr44_all ρ k, tr46_all ρ k⟩
noncomputable def tr43 (ρ : Addr → Option Value) (c : CallF) (y : YieldF) (k : Nat) : DT := .node 43 (ar1 (fun lim a0 H => L43 ρ c y lim k a0 H) (fun lim args H => slowF (cx ρ) c y k lim 43 args H)) (tr41 ρ c y k) (tr45 ρ c y k)
theorem tr43_all (ρ : Addr → Option Value) (k : Nat) : (tr43 ρ (evCY (cx ρ) k).1 (evCY (cx ρ) k).2 k).All fun f h => h = fun lim args H => (evCY (cx ρ) (k + 1)).1 lim f args H :=
  ⟨ar1_eq (F := fun lim args H => (evCY (cx ρ) (k + 1)).1 lim 43 args H) (slow_at (cx ρ) k 43) (fun lim a0 H => E43 ρ k lim a0 H), tr41_all ρ k, tr45_all ρ k⟩
noncomputable def tr38 (ρ : Addr → Option Value) (c : CallF) (y : YieldF) (k : Nat) : DT := .node 38 (ar1 (fun lim a0 H => L38 ρ c y lim k a0 H) (fun lim args H => slowF (cx ρ) c y k lim 38 args H)) (tr32 ρ c y k) (tr43 ρ c y k)
theorem tr38_all (ρ : Addr → Option Value) (k : Nat) : (tr38 ρ (evCY (cx ρ) k).1 (evCY (cx ρ) k).2 k).All fun f h => h = fun lim args H => (evCY (cx ρ) (k + 1)).1 lim f args H :=
  ⟨ar1_eq (F := fun lim args H => (evCY (cx ρ) (k + 1)).1 lim 38 args H) (slow_at (cx ρ) k 38) (fun lim a0 H => E38 ρ k lim a0 H), tr32_all ρ k, tr43_all ρ k⟩
noncomputable def tr21 (ρ : Addr → Option Value) (c : CallF) (y : YieldF) (k : Nat) : DT := .node 21 (ar1 (fun lim a0 H => L21 ρ c y lim k a0 H) (fun lim args H => slowF (cx ρ) c y k lim 21 args H)) (tr12 ρ c y k) (tr38 ρ c y k)
theorem tr21_all (ρ : Addr → Option Value) (k : Nat) : (tr21 ρ (evCY (cx ρ) k).1 (evCY (cx ρ) k).2 k).All fun f h => h = fun lim args H => (evCY (cx ρ) (k + 1)).1 lim f args H :=
  ⟨ar1_eq (F := fun lim args H => (evCY (cx ρ) (k + 1)).1 lim 21 args H) (slow_at (cx ρ) k 21) (fun lim a0 H => E21 ρ k lim a0 H), tr12_all ρ k, tr38_all ρ k⟩
noncomputable def tr48 (ρ : Addr → Option Value) (c : CallF) (y : YieldF) (k : Nat) : DT := .node 48 (ar2 (fun lim a0 a1 H => L48 ρ c y lim k a0 a1 H) (fun lim args H => slowF (cx ρ) c y k lim 48 args H)) .leaf .leaf
theorem tr48_all (ρ : Addr → Option Value) (k : Nat) : (tr48 ρ (evCY (cx ρ) k).1 (evCY (cx ρ) k).2 k).All fun f h => h = fun lim args H => (evCY (cx ρ) (k + 1)).1 lim f args H :=
  ⟨ar2_eq (F := fun lim args H => (evCY (cx ρ) (k + 1)).1 lim 48 args H) (slow_at (cx ρ) k 48) (fun lim a0 a1 H => E48 ρ k lim a0 a1 H), trivial, trivial⟩
noncomputable def tr49 (ρ : Addr → Option Value) (c : CallF) (y : YieldF) (k : Nat) : DT := .node 49 (ar2 (fun lim a0 a1 H => L49 ρ c y lim k a0 a1 H) (fun lim args H => slowF (cx ρ) c y k lim 49 args H)) (tr48 ρ c y k) .leaf
theorem tr49_all (ρ : Addr → Option Value) (k : Nat) : (tr49 ρ (evCY (cx ρ) k).1 (evCY (cx ρ) k).2 k).All fun f h => h = fun lim args H => (evCY (cx ρ) (k + 1)).1 lim f args H :=
  ⟨ar2_eq (F := fun lim args H => (evCY (cx ρ) (k + 1)).1 lim 49 args H) (slow_at (cx ρ) k 49) (fun lim a0 a1 H => E49 ρ k lim a0 a1 H), tr48_all ρ k, trivial⟩
noncomputable def tr51 (ρ : Addr → Option Value) (c : CallF) (y : YieldF) (k : Nat) : DT := .node 51 (ar1 (fun lim a0 H => L51 ρ c y lim k a0 H) (fun lim args H => slowF (cx ρ) c y k lim 51 args H)) .leaf .leaf
theorem tr51_all (ρ : Addr → Option Value) (k : Nat) : (tr51 ρ (evCY (cx ρ) k).1 (evCY (cx ρ) k).2 k).All fun f h => h = fun lim args H => (evCY (cx ρ) (k + 1)).1 lim f args H :=
  ⟨ar1_eq (F := fun lim args H => (evCY (cx ρ) (k + 1)).1 lim 51 args H) (slow_at (cx ρ) k 51) (fun lim a0 H => E51 ρ k lim a0 H), trivial, trivial⟩
noncomputable def tr50 (ρ : Addr → Option Value) (c : CallF) (y : YieldF) (k : Nat) : DT := .node 50 (ar3 (fun lim a0 a1 a2 H => L50 ρ c y lim k a0 a1 a2 H) (fun lim args H => slowF (cx ρ) c y k lim 50 args H)) (tr49 ρ c y k) (tr51 ρ c y k)
theorem tr50_all (ρ : Addr → Option Value) (k : Nat) : (tr50 ρ (evCY (cx ρ) k).1 (evCY (cx ρ) k).2 k).All fun f h => h = fun lim args H => (evCY (cx ρ) (k + 1)).1 lim f args H :=
  ⟨ar3_eq (F := fun lim args H => (evCY (cx ρ) (k + 1)).1 lim 50 args H) (slow_at (cx ρ) k 50) (fun lim a0 a1 a2 H => E50 ρ k lim a0 a1 a2 H), tr49_all ρ k, tr51_all ρ k⟩
noncomputable def tr67 (ρ : Addr → Option Value) (c : CallF) (y : YieldF) (k : Nat) : DT := .node 67 (ar2 (fun lim a0 a1 H => L67 ρ c y lim k a0 a1 H) (fun lim args H => slowF (cx ρ) c y k lim 67 args H)) .leaf .leaf
theorem tr67_all (ρ : Addr → Option Value) (k : Nat) : (tr67 ρ (evCY (cx ρ) k).1 (evCY (cx ρ) k).2 k).All fun f h => h = fun lim args H => (evCY (cx ρ) (k + 1)).1 lim f args H :=
  ⟨ar2_eq (F := fun lim args H => (evCY (cx ρ) (k + 1)).1 lim 67 args H) (slow_at (cx ρ) k 67) (fun lim a0 a1 H => E67 ρ k lim a0 a1 H), trivial, trivial⟩
noncomputable def tr68 (ρ : Addr → Option Value) (c : CallF) (y : YieldF) (k : Nat) : DT := .node 68 (ar3 (fun lim a0 a1 a2 H => L68 ρ c y lim k a0 a1 a2 H) (fun lim args H => slowF (cx ρ) c y k lim 68 args H)) (tr67 ρ c y k) .leaf
theorem tr68_all (ρ : Addr → Option Value) (k : Nat) : (tr68 ρ (evCY (cx ρ) k).1 (evCY (cx ρ) k).2 k).All fun f h => h = fun lim args H => (evCY (cx ρ) (k + 1)).1 lim f args H :=
  ⟨ar3_eq (F := fun lim args H => (evCY (cx ρ) (k + 1)).1 lim 68 args H) (slow_at (cx ρ) k 68) (fun lim a0 a1 a2 H => E68 ρ k lim a0 a1 a2 H), tr67_all ρ k, trivial⟩
noncomputable def tr70 (ρ : Addr → Option Value) (c : CallF) (y : YieldF) (k : Nat) : DT := .node 70 (ar2 (fun lim a0 a1 H => L70 ρ c y lim k a0 a1 H) (fun lim args H => slowF (cx ρ) c y k lim 70 args H)) .leaf .leaf
theorem tr70_all (ρ : Addr → Option Value) (k : Nat) : (tr70 ρ (evCY (cx ρ) k).1 (evCY (cx ρ) k).2 k).All fun f h => h = fun lim args H => (evCY (cx ρ) (k + 1)).1 lim f args H :=
  ⟨ar2_eq (F := fun lim args H => (evCY (cx ρ) (k + 1)).1 lim 70 args H) (slow_at (cx ρ) k 70) (fun lim a0 a1 H => E70 ρ k lim a0 a1 H), trivial, trivial⟩
noncomputable def tr69 (ρ : Addr → Option Value) (c : CallF) (y : YieldF) (k : Nat) : DT := .node 69 (ar2 (fun lim a0 a1 H => L69 ρ c y lim k a0 a1 H) (fun lim args H => slowF (cx ρ) c y k lim 69 args H)) (tr68 ρ c y k) (tr70 ρ c y k)
theorem tr69_all (ρ : Addr → Option Value) (k : Nat) : (tr69 ρ (evCY (cx ρ) k).1 (evCY (cx ρ) k).2 k).All fun f h => h = fun lim args H => (evCY (cx ρ) (k + 1)).1 lim f args H :=
  ⟨ar2_eq (F := fun lim args H => (evCY (cx ρ) (k + 1)).1 lim 69 args H) (slow_at (cx ρ) k 69) (fun lim a0 a1 H => E69 ρ k lim a0 a1 H), tr68_all ρ k, tr70_all ρ k⟩
noncomputable def tr53 (ρ : Addr → Option Value) (c : CallF) (y : YieldF) (k : Nat) : DT := .node 53 (ar1 (fun lim a0 H => L53 ρ c y lim k a0 H) (fun lim args H => slowF (cx ρ) c y k lim 53 args H)) (tr50 ρ c y k) (tr69 ρ c y k)
theorem tr53_all (ρ : Addr → Option Value) (k : Nat) : (tr53 ρ (evCY (cx ρ) k).1 (evCY (cx ρ) k).2 k).All fun f h => h = fun lim args H => (evCY (cx ρ) (k + 1)).1 lim f args H :=
  ⟨ar1_eq (F := fun lim args H => (evCY (cx ρ) (k + 1)).1 lim 53 args H) (slow_at (cx ρ) k 53) (fun lim a0 H => E53 ρ k lim a0 H), tr50_all ρ k, tr69_all ρ k⟩
noncomputable def tr72 (ρ : Addr → Option Value) (c : CallF) (y : YieldF) (k : Nat) : DT := .node 72 (ar1 (fun lim a0 H => L72 ρ c y lim k a0 H) (fun lim args H => slowF (cx ρ) c y k lim 72 args H)) .leaf .leaf
theorem tr72_all (ρ : Addr → Option Value) (k : Nat) : (tr72 ρ (evCY (cx ρ) k).1 (evCY (cx ρ) k).2 k).All fun f h => h = fun lim args H => (evCY (cx ρ) (k + 1)).1 lim f args H :=
  ⟨ar1_eq (F := fun lim args H => (evCY (cx ρ) (k + 1)).1 lim 72 args H) (slow_at (cx ρ) k 72) (fun lim a0 H => E72 ρ k lim a0 H), trivial, trivial⟩
noncomputable def tr73 (ρ : Addr → Option Value) (c : CallF) (y : YieldF) (k : Nat) : DT := .node 73 (ar3 (fun lim a0 a1 a2 H => L73 ρ c y lim k a0 a1 a2 H) (fun lim args H => slowF (cx ρ) c y k lim 73 args H)) (tr72 ρ c y k) .leaf
theorem tr73_all (ρ : Addr → Option Value) (k : Nat) : (tr73 ρ (evCY (cx ρ) k).1 (evCY (cx ρ) k).2 k).All fun f h => h = fun lim args H => (evCY (cx ρ) (k + 1)).1 lim f args H :=
  ⟨ar3_eq (F := fun lim args H => (evCY (cx ρ) (k + 1)).1 lim 73 args H) (slow_at (cx ρ) k 73) (fun lim a0 a1 a2 H => E73 ρ k lim a0 a1 a2 H), tr72_all ρ k, trivial⟩
noncomputable def tr75 (ρ : Addr → Option Value) (c : CallF) (y : YieldF) (k : Nat) : DT := .node 75 (ar2 (fun lim a0 a1 H => L75 ρ c y lim k a0 a1 H) (fun lim args H => slowF (cx ρ) c y k lim 75 args H)) .leaf .leaf
theorem tr75_all (ρ : Addr → Option Value) (k : Nat) : (tr75 ρ (evCY (cx ρ) k).1 (evCY (cx ρ) k).2 k).All fun f h => h = fun lim args H => (evCY (cx ρ) (k + 1)).1 lim f args H :=
  ⟨ar2_eq (F := fun lim args H => (evCY (cx ρ) (k + 1)).1 lim 75 args H) (slow_at (cx ρ) k 75) (fun lim a0 a1 H => E75 ρ k lim a0 a1 H), trivial, trivial⟩
noncomputable def tr74 (ρ : Addr → Option Value) (c : CallF) (y : YieldF) (k : Nat) : DT := .node 74 (ar1 (fun lim a0 H => L74 ρ c y lim k a0 H) (fun lim args H => slowF (cx ρ) c y k lim 74 args H)) (tr73 ρ c y k) (tr75 ρ c y k)
theorem tr74_all (ρ : Addr → Option Value) (k : Nat) : (tr74 ρ (evCY (cx ρ) k).1 (evCY (cx ρ) k).2 k).All fun f h => h = fun lim args H => (evCY (cx ρ) (k + 1)).1 lim f args H :=
  ⟨ar1_eq (F := fun lim args H => (evCY (cx ρ) (k + 1)).1 lim 74 args H) (slow_at (cx ρ) k 74) (fun lim a0 H => E74 ρ k lim a0 H), tr73_all ρ k, tr75_all ρ k⟩
noncomputable def tr77 (ρ : Addr → Option Value) (c : CallF) (y : YieldF) (k : Nat) : DT := .node 77 (ar2 (fun lim a0 a1 H => L77 ρ c y lim k a0 a1 H) (fun lim args H => slowF (cx ρ) c y k lim 77 args H)) .leaf .leaf
theorem tr77_all (ρ : Addr → Option Value) (k : Nat) : (tr77 ρ (evCY (cx ρ) k).1 (evCY (cx ρ) k).2 k).All fun f h => h = fun lim args H => (evCY (cx ρ) (k + 1)).1 lim f args H :=
  ⟨ar2_eq (F := fun lim args H => (evCY (cx ρ) (k + 1)).1 lim 77 args H) (slow_at (cx ρ) k 77) (fun lim a0 a1 H => E77 ρ k lim a0 a1 H), trivial, trivial⟩
noncomputable def tr79 (ρ : Addr → Option Value) (c : CallF) (y : YieldF) (k : Nat) : DT := .node 79 (ar1 (fun lim a0 H => L79 ρ c y lim k a0 H) (fun lim args H => slowF (cx ρ) c y k lim 79 args H)) .leaf .leaf
theorem tr79_all (ρ : Addr → Option Value) (k : Nat) : (tr79 ρ (evCY (cx ρ) k).1 (evCY (cx ρ) k).2 k).All fun f h => h = fun lim args H => (evCY (cx ρ) (k + 1)).1 lim f args H :=
  ⟨ar1_eq (F := fun lim args H => (evCY (cx ρ) (k + 1)).1 lim 79 args H) (slow_at (cx ρ) k 79) (fun lim a0 H => E79 ρ k lim a0 H), trivial, trivial⟩
noncomputable def tr78 (ρ : Addr → Option Value) (c : CallF) (y : YieldF) (k : Nat) : DT := .node 78 (ar2 (fun lim a0 a1 H => L78 ρ c y lim k a0 a1 H) (fun lim args H => slowF (cx ρ) c y k lim 78 args H)) (tr77 ρ c y k) (tr79 ρ c y k)
theorem tr78_all (ρ : Addr → Option Value) (k : Nat) : (tr78 ρ (evCY (cx ρ) k).1 (evCY (cx ρ) k).2 k).All fun f h => h = fun lim args H => (evCY (cx ρ) (k + 1)).1 lim f args H :=
  ⟨ar2_eq (F := fun lim args H => (evCY (cx ρ) (k + 1)).1 lim 78 args H) (slow_at (cx ρ) k 78) (fun lim a0 a1 H => E78 ρ k lim a0 a1 H), tr77_all ρ k, tr79_all ρ k⟩
noncomputable def tr76 (ρ : Addr → Option Value) (c : CallF) (y : YieldF) (k : Nat) : DT := .node 76 (ar1 (fun lim a0 H => L76 ρ c y lim k a0 H) (fun lim args H => slowF (cx ρ) c y k lim 76 args H)) (tr74 ρ c y k) (tr78 ρ c y k)
theorem tr76_all (ρ : Addr → Option Value) (k : Nat) : (tr76 ρ (evCY (cx ρ) k).1 (evCY (cx ρ) k).2 k).All fun f h => h = fun lim args H => (evCY (cx ρ) (k + 1)).1 lim f args H :=
  ⟨ar1_eq (F := fun lim args H => (evCY (cx ρ) (k + 1)).1 lim 76 args H) (slow_at (cx ρ) k 76) (fun lim a0 H => E76 ρ k lim a0 H), tr74_all ρ k, tr78_all ρ k⟩
noncomputable def tr71 (ρ : Addr → Option Value) (c : CallF) (y : YieldF) (k : Nat) : DT := .node 71 (ar4 (fun lim a0 a1 a2 a3 H => L71 ρ c y lim k a0 a1 a2 a3 H) (fun lim args H => slowF (cx ρ) c y k lim 71 args H)) (tr53 ρ c y k) (tr76 ρ c y k)
theorem tr71_all (ρ : Addr → Option Value) (k : Nat) : (tr71 ρ (evCY (cx ρ) k).1 (evCY (cx ρ) k).2 k).All fun f h => h = fun lim args H => (evCY (cx ρ) (k + 1)).1 lim f args H :=
  ⟨ar4_eq (F := fun lim args H => (evCY (cx ρ) (k + 1)).1 lim 71 args H) (slow_at (cx ρ) k 71) (fun lim a0 a1 a2 a3 H => E71 ρ k lim a0 a1 a2 a3 H), tr53_all ρ k, tr76_all ρ k⟩
noncomputable def tr81 (ρ : Addr → Option Value) (c : CallF) (y : YieldF) (k : Nat) : DT := .node 81 (ar3 (fun lim a0 a1 a2 H => L81 ρ c y lim k a0 a1 a2 H) (fun lim args H => slowF (cx ρ) c y k lim 81 args H)) .leaf .leaf
theorem tr81_all (ρ : Addr → Option Value) (k : Nat) : (tr81 ρ (evCY (cx ρ) k).1 (evCY (cx ρ) k).2 k).All fun f h => h = fun lim args H => (evCY (cx ρ) (k + 1)).1 lim f args H :=
  ⟨ar3_eq (F := fun lim args H => (evCY (cx ρ) (k + 1)).1 lim 81 args H) (slow_at (cx ρ) k 81) (fun lim a0 a1 a2 H => E81 ρ k lim a0 a1 a2 H), trivial, trivial⟩
noncomputable def tr82 (ρ : Addr → Option Value) (c : CallF) (y : YieldF) (k : Nat) : DT := .node 82 (ar2 (fun lim a0 a1 H => L82 ρ c y lim k a0 a1 H) (fun lim args H => slowF (cx ρ) c y k lim 82 args H)) (tr81 ρ c y k) .leaf
theorem tr82_all (ρ : Addr → Option Value) (k : Nat) : (tr82 ρ (evCY (cx ρ) k).1 (evCY (cx ρ) k).2 k).All fun f h => h = fun lim args H => (evCY (cx ρ) (k + 1)).1 lim f args H :=
  ⟨ar2_eq (F := fun lim args H => (evCY (cx ρ) (k + 1)).1 lim 82 args H) (slow_at (cx ρ) k 82) (fun lim a0 a1 H => E82 ρ k lim a0 a1 H), tr81_all ρ k, trivial⟩
noncomputable def tr84 (ρ : Addr → Option Value) (c : CallF) (y : YieldF) (k : Nat) : DT := .node 84 (ar2 (fun lim a0 a1 H => L84 ρ c y lim k a0 a1 H) (fun lim args H => slowF (cx ρ) c y k lim 84 args H)) .leaf .leaf
theorem tr84_all (ρ : Addr → Option Value) (k : Nat) : (tr84 ρ (evCY (cx ρ) k).1 (evCY (cx ρ) k).2 k).All fun f h => h = fun lim args H => (evCY (cx ρ) (k + 1)).1 lim f args H :=
  ⟨ar2_eq (F := fun lim args H => (evCY (cx ρ) (k + 1)).1 lim 84 args H) (slow_at (cx ρ) k 84) (fun lim a0 a1 H => E84 ρ k lim a0 a1 H), trivial, trivial⟩
noncomputable def tr83 (ρ : Addr → Option Value) (c : CallF) (y : YieldF) (k : Nat) : DT := .node 83 (ar1 (fun lim a0 H => L83 ρ c y lim k a0 H) (fun lim args H => slowF (cx ρ) c y k lim 83 args H)) (tr82 ρ c y k) (tr84 ρ c y k)
theorem tr83_all (ρ : Addr → Option Value) (k : Nat) : (tr83 ρ (evCY (cx ρ) k).1 (evCY (cx ρ) k).2 k).All fun f h => h = fun lim args H => (evCY (cx ρ) (k + 1)).1 lim f args H :=
  ⟨ar1_eq (F := fun lim args H => (evCY (cx ρ) (k + 1)).1 lim 83 args H) (slow_at (cx ρ) k 83) (fun lim a0 H => E83 ρ k lim a0 H), tr82_all ρ k, tr84_all ρ k⟩
noncomputable def tr89 (ρ : Addr → Option Value) (c : CallF) (y : YieldF) (k : Nat) : DT := .node 89 (ar1 (fun lim a0 H => L89 ρ c y lim k a0 H) (fun lim args H => slowF (cx ρ) c y k lim 89 args H)) .leaf .leaf
theorem tr89_all (ρ : Addr → Option Value) (k : Nat) : (tr89 ρ (evCY (cx ρ) k).1 (evCY (cx ρ) k).2 k).All fun f h => h = fun lim args H => (evCY (cx ρ) (k + 1)).1 lim f args H :=
  ⟨ar1_eq (F := fun lim args H => (evCY (cx ρ) (k + 1)).1 lim 89 args H) (slow_at (cx ρ) k 89) (fun lim a0 H => E89 ρ k lim a0 H), trivial, trivial⟩
noncomputable def tr105 (ρ : Addr → Option Value) (c : CallF) (y : YieldF) (k : Nat) : DT := .node 105 (ar2 (fun lim a0 a1 H => L105 ρ c y lim k a0 a1 H) (fun lim args H => slowF (cx ρ) c y k lim 105 args H)) .leaf .leaf
theorem tr105_all (ρ : Addr → Option Value) (k : Nat) : (tr105 ρ (evCY (cx ρ) k).1 (evCY (cx ρ) k).2 k).All fun f h => h = fun lim args H => (evCY (cx ρ) (k + 1)).1 lim f args H :=
  ⟨ar2_eq (F := fun lim args H => (evCY (cx ρ) (k + 1)).1 lim 105 args H) (slow_at (cx ρ) k 105) (fun lim a0 a1 H => E105 ρ k lim a0 a1 H), trivial, trivial⟩
noncomputable def tr96 (ρ : Addr → Option Value) (c : CallF) (y : YieldF) (k : Nat) : DT := .node 96 (ar2 (fun lim a0 a1 H => L96 ρ c y lim k a0 a1 H) (fun lim args H => slowF (cx ρ) c y k lim 96 args H)) (tr89 ρ c y k) (tr105 ρ c y k)
theorem tr96_all (ρ : Addr → Option Value) (k : Nat) : (tr96 ρ (evCY (cx ρ) k).1 (evCY (cx ρ) k).2 k).All fun f h => h = fun lim args H => (evCY (cx ρ) (k + 1)).1 lim f args H :=
  ⟨ar2_eq (F := fun lim args H => (evCY (cx ρ) (k + 1)).1 lim 96 args H) (slow_at (cx ρ) k 96) (fun lim a0 a1 H => E96 ρ k lim a0 a1 H), tr89_all ρ k, tr105_all ρ k⟩
noncomputable def tr88 (ρ : Addr → Option Value) (c : CallF) (y : YieldF) (k : Nat) : DT := .node 88 (ar2 (fun lim a0 a1 H => L88 ρ c y lim k a0 a1 H) (fun lim args H => slowF (cx ρ) c y k lim 88 args H)) (tr83 ρ c y k) (tr96 ρ c y k)
theorem tr88_all (ρ : Addr → Option Value) (k : Nat) : (tr88 ρ (evCY (cx ρ) k).1 (evCY (cx ρ) k).2 k).All fun f h => h = fun lim args H => (evCY (cx ρ) (k + 1)).1 lim f args H :=
  ⟨ar2_eq (F := fun lim args H => (evCY (cx ρ) (k + 1)).1 lim 88 args H) (slow_at (cx ρ) k 88) (fun lim a0 a1 H => E88 ρ k lim a0 a1 H), tr83_all ρ k, tr96_all ρ k⟩
noncomputable def tr107 (ρ : Addr → Option Value) (c : CallF) (y : YieldF) (k : Nat) : DT := .node 107 (ar2 (fun lim a0 a1 H => L107 ρ c y lim k a0 a1 H) (fun lim args H => slowF (cx ρ) c y k lim 107 args H)) .leaf .leaf
theorem tr107_all (ρ : Addr → Option Value) (k : Nat) : (tr107 ρ (evCY (cx ρ) k).1 (evCY (cx ρ) k).2 k).All fun f h => h = fun lim args H => (evCY (cx ρ) (k + 1)).1 lim f args H :=
  ⟨ar2_eq (F := fun lim args H => (evCY (cx ρ) (k + 1)).1 lim 107 args H) (slow_at (cx ρ) k 107) (fun lim a0 a1 H => E107 ρ k lim a0 a1 H), trivial, trivial⟩
noncomputable def tr108 (ρ : Addr → Option Value) (c : CallF) (y : YieldF) (k : Nat) : DT := .node 108 (ar2 (fun lim a0 a1 H => L108 ρ c y lim k a0 a1 H) (fun lim args H => slowF (cx ρ) c y k lim 108 args H)) (tr107 ρ c y k) .leaf
theorem tr108_all (ρ : Addr → Option Value) (k : Nat) : (tr108 ρ (evCY (cx ρ) k).1 (evCY (cx ρ) k).2 k).All fun f h => h = fun lim args H => (evCY (cx ρ) (k + 1)).1 lim f args H :=
  ⟨ar2_eq (F := fun lim args H => (evCY (cx ρ) (k + 1)).1 lim 108 args H) (slow_at (cx ρ) k 108) (fun lim a0 a1 H => E108 ρ k lim a0 a1 H), tr107_all ρ k, trivial⟩
noncomputable def tr110 (ρ : Addr → Option Value) (c : CallF) (y : YieldF) (k : Nat) : DT := .node 110 (ar2 (fun lim a0 a1 H => L110 ρ c y lim k a0 a1 H) (fun lim args H => slowF (cx ρ) c y k lim 110 args H)) .leaf .leaf
theorem tr110_all (ρ : Addr → Option Value) (k : Nat) : (tr110 ρ (evCY (cx ρ) k).1 (evCY (cx ρ) k).2 k).All fun f h => h = fun lim args H => (evCY (cx ρ) (k + 1)).1 lim f args H :=
  ⟨ar2_eq (F := fun lim args H => (evCY (cx ρ) (k + 1)).1 lim 110 args H) (slow_at (cx ρ) k 110) (fun lim a0 a1 H => E110 ρ k lim a0 a1 H), trivial, trivial⟩
noncomputable def tr109 (ρ : Addr → Option Value) (c : CallF) (y : YieldF) (k : Nat) : DT := .node 109 (ar3 (fun lim a0 a1 a2 H => L109 ρ c y lim k a0 a1 a2 H) (fun lim args H => slowF (cx ρ) c y k lim 109 args H)) (tr108 ρ c y k) (tr110 ρ c y k)
theorem tr109_all (ρ : Addr → Option Value) (k : Nat) : (tr109 ρ (evCY (cx ρ) k).1 (evCY (cx ρ) k).2 k).All fun f h => h = fun lim args H => (evCY (cx ρ) (k + 1)).1 lim f args H :=
  ⟨ar3_eq (F := fun lim args H => (evCY (cx ρ) (k + 1)).1 lim 109 args H) (slow_at (cx ρ) k 109) (fun lim a0 a1 a2 H => E109 ρ k lim a0 a1 a2 H), tr108_all ρ k, tr110_all ρ k⟩
noncomputable def tr113 (ρ : Addr → Option Value) (c : CallF) (y : YieldF) (k : Nat) : DT := .node 113 (ar1 (fun lim a0 H => L113 ρ c y lim k a0 H) (fun lim args H => slowF (cx ρ) c y k lim 113 args H)) .leaf .leaf
theorem tr113_all (ρ : Addr → Option Value) (k : Nat) : (tr113 ρ (evCY (cx ρ) k).1 (evCY (cx ρ) k).2 k).All fun f h => h = fun lim args H => (evCY (cx ρ) (k + 1)).1 lim f args H :=
  ⟨ar1_eq (F := fun lim args H => (evCY (cx ρ) (k + 1)).1 lim 113 args H) (slow_at (cx ρ) k 113) (fun lim a0 H => E113 ρ k lim a0 H), trivial, trivial⟩
noncomputable def tr115 (ρ : Addr → Option Value) (c : CallF) (y : YieldF) (k : Nat) : DT := .node 115 (ar1 (fun lim a0 H => L115 ρ c y lim k a0 H) (fun lim args H => slowF (cx ρ) c y k lim 115 args H)) .leaf .leaf
theorem tr115_all (ρ : Addr → Option Value) (k : Nat) : (tr115 ρ (evCY (cx ρ) k).1 (evCY (cx ρ) k).2 k).All fun f h => h = fun lim args H => (evCY (cx ρ) (k + 1)).1 lim f args H :=
  ⟨ar1_eq (F := fun lim args H => (evCY (cx ρ) (k + 1)).1 lim 115 args H) (slow_at (cx ρ) k 115) (fun lim a0 H => E115 ρ k lim a0 H), trivial, trivial⟩
noncomputable def tr114 (ρ : Addr → Option Value) (c : CallF) (y : YieldF) (k : Nat) : DT := .node 114 (ar2 (fun lim a0 a1 H => L114 ρ c y lim k a0 a1 H) (fun lim args H => slowF (cx ρ) c y k lim 114 args H)) (tr113 ρ c y k) (tr115 ρ c y k)
theorem tr114_all (ρ : Addr → Option Value) (k : Nat) : (tr114 ρ (evCY (cx ρ) k).1 (evCY (cx ρ) k).2 k).All fun f h => h = fun lim args H => (evCY (cx ρ) (k + 1)).1 lim f args H :=
  ⟨ar2_eq (F := fun lim args H => (evCY (cx ρ) (k + 1)).1 lim 114 args H) (slow_at (cx ρ) k 114) (fun lim a0 a1 H => E114 ρ k lim a0 a1 H), tr113_all ρ k, tr115_all ρ k⟩
noncomputable def tr111 (ρ : Addr → Option Value) (c : CallF) (y : YieldF) (k : Nat) : DT := .node 111 (ar3 (fun lim a0 a1 a2 H => L111 ρ c y lim k a0 a1 a2 H) (fun lim args H => slowF (cx ρ) c y k lim 111 args H)) (tr109 ρ c y k) (tr114 ρ c y k)
theorem tr111_all (ρ : Addr → Option Value) (k : Nat) : (tr111 ρ (evCY (cx ρ) k).1 (evCY (cx ρ) k).2 k).All fun f h => h = fun lim args H => (evCY (cx ρ) (k + 1)).1 lim f args H :=
  ⟨ar3_eq (F := fun lim args H => (evCY (cx ρ) (k + 1)).1 lim 111 args H) (slow_at (cx ρ) k 111) (fun lim a0 a1 a2 H => E111 ρ k lim a0 a1 a2 H), tr109_all ρ k, tr114_all ρ k⟩
noncomputable def tr106 (ρ : Addr → Option Value) (c : CallF) (y : YieldF) (k : Nat) : DT := .node 106 (ar1 (fun lim a0 H => L106 ρ c y lim k a0 H) (fun lim args H => slowF (cx ρ) c y k lim 106 args H)) (tr88 ρ c y k) (tr111 ρ c y k)
theorem tr106_all (ρ : Addr → Option Value) (k : Nat) : (tr106 ρ (evCY (cx ρ) k).1 (evCY (cx ρ) k).2 k).All fun f h => h = fun lim args H => (evCY (cx ρ) (k + 1)).1 lim f args H :=
  ⟨ar1_eq (F := fun lim args H => (evCY (cx ρ) (k + 1)).1 lim 106 args H) (slow_at (cx ρ) k 106) (fun lim a0 H => E106 ρ k lim a0 H), tr88_all ρ k, tr111_all ρ k⟩
noncomputable def tr80 (ρ : Addr → Option Value) (c : CallF) (y : YieldF) (k : Nat) : DT := .node 80 (ar2 (fun lim a0 a1 H => L80 ρ c y lim k a0 a1 H) (fun lim args H => slowF (cx ρ) c y k lim 80 args H)) (tr71 ρ c y k) (tr106 ρ c y k)
theorem tr80_all (ρ : Addr → Option Value) (k : Nat) : (tr80 ρ (evCY (cx ρ) k).1 (evCY (cx ρ) k).2 k).All fun f h => h = fun lim args H => (evCY (cx ρ) (k + 1)).1 lim f args H :=
  ⟨ar2_eq (F := fun lim args H => (evCY (cx ρ) (k + 1)).1 lim 80 args H) (slow_at (cx ρ) k 80) (fun lim a0 a1 H => E80 ρ k lim a0 a1 H), tr71_all ρ k, tr106_all ρ k⟩
noncomputable def tr47 (ρ : Addr → Option Value) (c : CallF) (y : YieldF) (k : Nat) : DT := .node 47 (ar2 (fun lim a0 a1 H => L47 ρ c y lim k a0 a1 H) (fun lim args H => slowF (cx ρ) c y k lim 47 args H)) (tr21 ρ c y k) (tr80 ρ c y k)
theorem tr47_all (ρ : Addr → Option Value) (k : Nat) : (tr47 ρ (evCY (cx ρ) k).1 (evCY (cx ρ) k).2 k).All fun f h => h = fun lim args H => (evCY (cx ρ) (k + 1)).1 lim f args H :=
  ⟨ar2_eq (F := fun lim args H => (evCY (cx ρ) (k + 1)).1 lim 47 args H) (slow_at (cx ρ) k 47) (fun lim a0 a1 H => E47 ρ k lim a0 a1 H), tr21_all ρ k, tr80_all ρ k⟩
noncomputable def fast (ρ : Addr → Option Value) (k : Nat) : CallF := (fastY (cx ρ) (tr47 ρ) k).1
theorem fast_eq (ρ : Addr → Option Value) (k : Nat) : fast ρ k = evCall (cx ρ) k := congrArg Prod.fst (fastY_eq (cx ρ) (tr47 ρ) (tr47_all ρ) k)
end Go.Proofs.YtahfgahnkacobaaGreat
