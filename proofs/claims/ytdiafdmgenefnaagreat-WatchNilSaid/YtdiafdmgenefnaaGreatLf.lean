/- All functions that are lifted. Printed by a program of this repo. -/
import Derived.Test.YtdiafdmgenefnaaGreatLf0
import Derived.Test.YtdiafdmgenefnaaGreatLf1
import Derived.Test.YtdiafdmgenefnaaGreatLf2
import Derived.Test.YtdiafdmgenefnaaGreatLf3
import Derived.Test.YtdiafdmgenefnaaGreatLf4
import Derived.Test.YtdiafdmgenefnaaGreatLf5
set_option linter.unusedVariables false
set_option linter.unusedSimpArgs false
set_option maxRecDepth 100000
set_option maxHeartbeats 4000000
namespace Go.Proofs.YtdiafdmgenefnaaGreat
open Go.Ev Go.RowKit

theorem ldT47 (ρ : Addr → Option Value) (H : Heap) (x : AV) : loadA (cx ρ) H 47 x = ldN ρ H 6 x := by kernel_rfl
theorem ldT50 (ρ : Addr → Option Value) (H : Heap) (x : AV) : loadA (cx ρ) H 50 x = ldN ρ H 2 x := by kernel_rfl
theorem ldT161 (ρ : Addr → Option Value) (H : Heap) (x : AV) : loadA (cx ρ) H 161 x = ldN ρ H 4 x := by kernel_rfl
theorem ldT229 (ρ : Addr → Option Value) (H : Heap) (x : AV) : loadA (cx ρ) H 229 x = ldN ρ H 3 x := by kernel_rfl
theorem ldT267 (ρ : Addr → Option Value) (H : Heap) (x : AV) : loadA (cx ρ) H 267 x = ldN ρ H 5 x := by kernel_rfl
theorem ldT335 (ρ : Addr → Option Value) (H : Heap) (x : AV) : loadA (cx ρ) H 335 x = ldN ρ H 4 x := by kernel_rfl
theorem ldT366 (ρ : Addr → Option Value) (H : Heap) (x : AV) : loadA (cx ρ) H 366 x = ldN ρ H 3 x := by kernel_rfl
noncomputable def tr3 (ρ : Addr → Option Value) (c : CallF) (y : YieldF) (k : Nat) : DT := .node 3 (ar1 (fun lim a0 H => L3 ρ c y lim k a0 H) (fun lim args H => slowF (cx ρ) c y k lim 3 args H)) .leaf .leaf
theorem tr3_all (ρ : Addr → Option Value) (k : Nat) : (tr3 ρ (evCY (cx ρ) k).1 (evCY (cx ρ) k).2 k).All fun f h => h = fun lim args H => (evCY (cx ρ) (k + 1)).1 lim f args H :=
  ⟨ar1_eq (F := fun lim args H => (evCY (cx ρ) (k + 1)).1 lim 3 args H) (slow_at (cx ρ) k 3) (fun lim a0 H => E3 ρ k lim a0 H), trivial, trivial⟩
noncomputable def tr4 (ρ : Addr → Option Value) (c : CallF) (y : YieldF) (k : Nat) : DT := .node 4 (ar0 (fun lim H => L4 ρ c y lim k H) (fun lim args H => slowF (cx ρ) c y k lim 4 args H)) (tr3 ρ c y k) .leaf
theorem tr4_all (ρ : Addr → Option Value) (k : Nat) : (tr4 ρ (evCY (cx ρ) k).1 (evCY (cx ρ) k).2 k).All fun f h => h = fun lim args H => (evCY (cx ρ) (k + 1)).1 lim f args H :=
  ⟨ar0_eq (F := fun lim args H => (evCY (cx ρ) (k + 1)).1 lim 4 args H) (slow_at (cx ρ) k 4) (fun lim H => E4 ρ k lim H), tr3_all ρ k, trivial⟩
noncomputable def tr6 (ρ : Addr → Option Value) (c : CallF) (y : YieldF) (k : Nat) : DT := .node 6 (ar1 (fun lim a0 H => L6 ρ c y lim k a0 H) (fun lim args H => slowF (cx ρ) c y k lim 6 args H)) .leaf .leaf
theorem tr6_all (ρ : Addr → Option Value) (k : Nat) : (tr6 ρ (evCY (cx ρ) k).1 (evCY (cx ρ) k).2 k).All fun f h => h = fun lim args H => (evCY (cx ρ) (k + 1)).1 lim f args H :=
  ⟨ar1_eq (F := fun lim args H => (evCY (cx ρ) (k + 1)).1 lim 6 args H) (slow_at (cx ρ) k 6) (fun lim a0 H => E6 ρ k lim a0 H), trivial, trivial⟩
noncomputable def tr7 (ρ : Addr → Option Value) (c : CallF) (y : YieldF) (k : Nat) : DT := .node 7 (ar1 (fun lim a0 H => L7 ρ c y lim k a0 H) (fun lim args H => slowF (cx ρ) c y k lim 7 args H)) (tr6 ρ c y k) .leaf
theorem tr7_all (ρ : Addr → Option Value) (k : Nat) : (tr7 ρ (evCY (cx ρ) k).1 (evCY (cx ρ) k).2 k).All fun f h => h = fun lim args H => (evCY (cx ρ) (k + 1)).1 lim f args H :=
  ⟨ar1_eq (F := fun lim args H => (evCY (cx ρ) (k + 1)).1 lim 7 args H) (slow_at (cx ρ) k 7) (fun lim a0 H => E7 ρ k lim a0 H), tr6_all ρ k, trivial⟩
noncomputable def tr5 (ρ : Addr → Option Value) (c : CallF) (y : YieldF) (k : Nat) : DT := .node 5 (ar2 (fun lim a0 a1 H => L5 ρ c y lim k a0 a1 H) (fun lim args H => slowF (cx ρ) c y k lim 5 args H)) (tr4 ρ c y k) (tr7 ρ c y k)
theorem tr5_all (ρ : Addr → Option Value) (k : Nat) : (tr5 ρ (evCY (cx ρ) k).1 (evCY (cx ρ) k).2 k).All fun f h => h = fun lim args H => (evCY (cx ρ) (k + 1)).1 lim f args H :=
  ⟨ar2_eq (F := fun lim args H => (evCY (cx ρ) (k + 1)).1 lim 5 args H) (slow_at (cx ρ) k 5) (fun lim a0 a1 H => E5 ρ k lim a0 a1 H), tr4_all ρ k, tr7_all ρ k⟩
noncomputable def tr9 (ρ : Addr → Option Value) (c : CallF) (y : YieldF) (k : Nat) : DT := .node 9 (ar1 (fun lim a0 H => L9 ρ c y lim k a0 H) (fun lim args H => slowF (cx ρ) c y k lim 9 args H)) .leaf .leaf
theorem tr9_all (ρ : Addr → Option Value) (k : Nat) : (tr9 ρ (evCY (cx ρ) k).1 (evCY (cx ρ) k).2 k).All fun f h => h = fun lim args H => (evCY (cx ρ) (k + 1)).1 lim f args H :=
  ⟨ar1_eq (F := fun lim args H => (evCY (cx ρ) (k + 1)).1 lim 9 args H) (slow_at (cx ρ) k 9) (fun lim a0 H => E9 ρ k lim a0 H), trivial, trivial⟩
noncomputable def tr10 (ρ : Addr → Option Value) (c : CallF) (y : YieldF) (k : Nat) : DT := .node 10 (ar1 (fun lim a0 H => L10 ρ c y lim k a0 H) (fun lim args H => slowF (cx ρ) c y k lim 10 args H)) (tr9 ρ c y k) .leaf
theorem tr10_all (ρ : Addr → Option Value) (k : Nat) : (tr10 ρ (evCY (cx ρ) k).1 (evCY (cx ρ) k).2 k).All fun f h => h = fun lim args H => (evCY (cx ρ) (k + 1)).1 lim f args H :=
  ⟨ar1_eq (F := fun lim args H => (evCY (cx ρ) (k + 1)).1 lim 10 args H) (slow_at (cx ρ) k 10) (fun lim a0 H => E10 ρ k lim a0 H), tr9_all ρ k, trivial⟩
noncomputable def tr12 (ρ : Addr → Option Value) (c : CallF) (y : YieldF) (k : Nat) : DT := .node 12 (ar1 (fun lim a0 H => L12 ρ c y lim k a0 H) (fun lim args H => slowF (cx ρ) c y k lim 12 args H)) .leaf .leaf
theorem tr12_all (ρ : Addr → Option Value) (k : Nat) : (tr12 ρ (evCY (cx ρ) k).1 (evCY (cx ρ) k).2 k).All fun f h => h = fun lim args H => (evCY (cx ρ) (k + 1)).1 lim f args H :=
  ⟨ar1_eq (F := fun lim args H => (evCY (cx ρ) (k + 1)).1 lim 12 args H) (slow_at (cx ρ) k 12) (fun lim a0 H => E12 ρ k lim a0 H), trivial, trivial⟩
noncomputable def tr11 (ρ : Addr → Option Value) (c : CallF) (y : YieldF) (k : Nat) : DT := .node 11 (ar1 (fun lim a0 H => L11 ρ c y lim k a0 H) (fun lim args H => slowF (cx ρ) c y k lim 11 args H)) (tr10 ρ c y k) (tr12 ρ c y k)
theorem tr11_all (ρ : Addr → Option Value) (k : Nat) : (tr11 ρ (evCY (cx ρ) k).1 (evCY (cx ρ) k).2 k).All fun f h => h = fun lim args H => (evCY (cx ρ) (k + 1)).1 lim f args H :=
  ⟨ar1_eq (F := fun lim args H => (evCY (cx ρ) (k + 1)).1 lim 11 args H) (slow_at (cx ρ) k 11) (fun lim a0 H => E11 ρ k lim a0 H), tr10_all ρ k, tr12_all ρ k⟩
noncomputable def tr8 (ρ : Addr → Option Value) (c : CallF) (y : YieldF) (k : Nat) : DT := .node 8 (ar2 (fun lim a0 a1 H => L8 ρ c y lim k a0 a1 H) (fun lim args H => slowF (cx ρ) c y k lim 8 args H)) (tr5 ρ c y k) (tr11 ρ c y k)
theorem tr8_all (ρ : Addr → Option Value) (k : Nat) : (tr8 ρ (evCY (cx ρ) k).1 (evCY (cx ρ) k).2 k).All fun f h => h = fun lim args H => (evCY (cx ρ) (k + 1)).1 lim f args H :=
  ⟨ar2_eq (F := fun lim args H => (evCY (cx ρ) (k + 1)).1 lim 8 args H) (slow_at (cx ρ) k 8) (fun lim a0 a1 H => E8 ρ k lim a0 a1 H), tr5_all ρ k, tr11_all ρ k⟩
noncomputable def tr14 (ρ : Addr → Option Value) (c : CallF) (y : YieldF) (k : Nat) : DT := .node 14 (ar1 (fun lim a0 H => L14 ρ c y lim k a0 H) (fun lim args H => slowF (cx ρ) c y k lim 14 args H)) .leaf .leaf
theorem tr14_all (ρ : Addr → Option Value) (k : Nat) : (tr14 ρ (evCY (cx ρ) k).1 (evCY (cx ρ) k).2 k).All fun f h => h = fun lim args H => (evCY (cx ρ) (k + 1)).1 lim f args H :=
  ⟨ar1_eq (F := fun lim args H => (evCY (cx ρ) (k + 1)).1 lim 14 args H) (slow_at (cx ρ) k 14) (fun lim a0 H => E14 ρ k lim a0 H), trivial, trivial⟩
noncomputable def tr15 (ρ : Addr → Option Value) (c : CallF) (y : YieldF) (k : Nat) : DT := .node 15 (ar0 (fun lim H => L15 ρ c y lim k H) (fun lim args H => slowF (cx ρ) c y k lim 15 args H)) (tr14 ρ c y k) .leaf
theorem tr15_all (ρ : Addr → Option Value) (k : Nat) : (tr15 ρ (evCY (cx ρ) k).1 (evCY (cx ρ) k).2 k).All fun f h => h = fun lim args H => (evCY (cx ρ) (k + 1)).1 lim f args H :=
  ⟨ar0_eq (F := fun lim args H => (evCY (cx ρ) (k + 1)).1 lim 15 args H) (slow_at (cx ρ) k 15) (fun lim H => E15 ρ k lim H), tr14_all ρ k, trivial⟩
noncomputable def tr17 (ρ : Addr → Option Value) (c : CallF) (y : YieldF) (k : Nat) : DT := .node 17 (ar2 (fun lim a0 a1 H => L17 ρ c y lim k a0 a1 H) (fun lim args H => slowF (cx ρ) c y k lim 17 args H)) .leaf .leaf
theorem tr17_all (ρ : Addr → Option Value) (k : Nat) : (tr17 ρ (evCY (cx ρ) k).1 (evCY (cx ρ) k).2 k).All fun f h => h = fun lim args H => (evCY (cx ρ) (k + 1)).1 lim f args H :=
  ⟨ar2_eq (F := fun lim args H => (evCY (cx ρ) (k + 1)).1 lim 17 args H) (slow_at (cx ρ) k 17) (fun lim a0 a1 H => E17 ρ k lim a0 a1 H), trivial, trivial⟩
noncomputable def tr18 (ρ : Addr → Option Value) (c : CallF) (y : YieldF) (k : Nat) : DT := .node 18 (ar2 (fun lim a0 a1 H => L18 ρ c y lim k a0 a1 H) (fun lim args H => slowF (cx ρ) c y k lim 18 args H)) (tr17 ρ c y k) .leaf
theorem tr18_all (ρ : Addr → Option Value) (k : Nat) : (tr18 ρ (evCY (cx ρ) k).1 (evCY (cx ρ) k).2 k).All fun f h => h = fun lim args H => (evCY (cx ρ) (k + 1)).1 lim f args H :=
  ⟨ar2_eq (F := fun lim args H => (evCY (cx ρ) (k + 1)).1 lim 18 args H) (slow_at (cx ρ) k 18) (fun lim a0 a1 H => E18 ρ k lim a0 a1 H), tr17_all ρ k, trivial⟩
noncomputable def tr16 (ρ : Addr → Option Value) (c : CallF) (y : YieldF) (k : Nat) : DT := .node 16 (ar2 (fun lim a0 a1 H => L16 ρ c y lim k a0 a1 H) (fun lim args H => slowF (cx ρ) c y k lim 16 args H)) (tr15 ρ c y k) (tr18 ρ c y k)
theorem tr16_all (ρ : Addr → Option Value) (k : Nat) : (tr16 ρ (evCY (cx ρ) k).1 (evCY (cx ρ) k).2 k).All fun f h => h = fun lim args H => (evCY (cx ρ) (k + 1)).1 lim f args H :=
  ⟨ar2_eq (F := fun lim args H => (evCY (cx ρ) (k + 1)).1 lim 16 args H) (slow_at (cx ρ) k 16) (fun lim a0 a1 H => E16 ρ k lim a0 a1 H), tr15_all ρ k, tr18_all ρ k⟩
noncomputable def tr21 (ρ : Addr → Option Value) (c : CallF) (y : YieldF) (k : Nat) : DT := .node 21 (ar1 (fun lim a0 H => L21 ρ c y lim k a0 H) (fun lim args H => slowF (cx ρ) c y k lim 21 args H)) .leaf .leaf
theorem tr21_all (ρ : Addr → Option Value) (k : Nat) : (tr21 ρ (evCY (cx ρ) k).1 (evCY (cx ρ) k).2 k).All fun f h => h = fun lim args H => (evCY (cx ρ) (k + 1)).1 lim f args H :=
  ⟨ar1_eq (F := fun lim args H => (evCY (cx ρ) (k + 1)).1 lim 21 args H) (slow_at (cx ρ) k 21) (fun lim a0 H => E21 ρ k lim a0 H), trivial, trivial⟩
noncomputable def tr22 (ρ : Addr → Option Value) (c : CallF) (y : YieldF) (k : Nat) : DT := .node 22 (ar1 (fun lim a0 H => L22 ρ c y lim k a0 H) (fun lim args H => slowF (cx ρ) c y k lim 22 args H)) (tr21 ρ c y k) .leaf
theorem tr22_all (ρ : Addr → Option Value) (k : Nat) : (tr22 ρ (evCY (cx ρ) k).1 (evCY (cx ρ) k).2 k).All fun f h => h = fun lim args H => (evCY (cx ρ) (k + 1)).1 lim f args H :=
  ⟨ar1_eq (F := fun lim args H => (evCY (cx ρ) (k + 1)).1 lim 22 args H) (slow_at (cx ρ) k 22) (fun lim a0 H => E22 ρ k lim a0 H), tr21_all ρ k, trivial⟩
noncomputable def tr24 (ρ : Addr → Option Value) (c : CallF) (y : YieldF) (k : Nat) : DT := .node 24 (ar2 (fun lim a0 a1 H => L24 ρ c y lim k a0 a1 H) (fun lim args H => slowF (cx ρ) c y k lim 24 args H)) .leaf .leaf
theorem tr24_all (ρ : Addr → Option Value) (k : Nat) : (tr24 ρ (evCY (cx ρ) k).1 (evCY (cx ρ) k).2 k).All fun f h => h = fun lim args H => (evCY (cx ρ) (k + 1)).1 lim f args H :=
  ⟨ar2_eq (F := fun lim args H => (evCY (cx ρ) (k + 1)).1 lim 24 args H) (slow_at (cx ρ) k 24) (fun lim a0 a1 H => E24 ρ k lim a0 a1 H), trivial, trivial⟩
noncomputable def tr23 (ρ : Addr → Option Value) (c : CallF) (y : YieldF) (k : Nat) : DT := .node 23 (ar1 (fun lim a0 H => L23 ρ c y lim k a0 H) (fun lim args H => slowF (cx ρ) c y k lim 23 args H)) (tr22 ρ c y k) (tr24 ρ c y k)
theorem tr23_all (ρ : Addr → Option Value) (k : Nat) : (tr23 ρ (evCY (cx ρ) k).1 (evCY (cx ρ) k).2 k).All fun f h => h = fun lim args H => (evCY (cx ρ) (k + 1)).1 lim f args H :=
  ⟨ar1_eq (F := fun lim args H => (evCY (cx ρ) (k + 1)).1 lim 23 args H) (slow_at (cx ρ) k 23) (fun lim a0 H => E23 ρ k lim a0 H), tr22_all ρ k, tr24_all ρ k⟩
noncomputable def tr20 (ρ : Addr → Option Value) (c : CallF) (y : YieldF) (k : Nat) : DT := .node 20 (ar1 (fun lim a0 H => L20 ρ c y lim k a0 H) (fun lim args H => slowF (cx ρ) c y k lim 20 args H)) (tr16 ρ c y k) (tr23 ρ c y k)
theorem tr20_all (ρ : Addr → Option Value) (k : Nat) : (tr20 ρ (evCY (cx ρ) k).1 (evCY (cx ρ) k).2 k).All fun f h => h = fun lim args H => (evCY (cx ρ) (k + 1)).1 lim f args H :=
  ⟨ar1_eq (F := fun lim args H => (evCY (cx ρ) (k + 1)).1 lim 20 args H) (slow_at (cx ρ) k 20) (fun lim a0 H => E20 ρ k lim a0 H), tr16_all ρ k, tr23_all ρ k⟩
noncomputable def tr13 (ρ : Addr → Option Value) (c : CallF) (y : YieldF) (k : Nat) : DT := .node 13 (ar1 (fun lim a0 H => L13 ρ c y lim k a0 H) (fun lim args H => slowF (cx ρ) c y k lim 13 args H)) (tr8 ρ c y k) (tr20 ρ c y k)
theorem tr13_all (ρ : Addr → Option Value) (k : Nat) : (tr13 ρ (evCY (cx ρ) k).1 (evCY (cx ρ) k).2 k).All fun f h => h = fun lim args H => (evCY (cx ρ) (k + 1)).1 lim f args H :=
  ⟨ar1_eq (F := fun lim args H => (evCY (cx ρ) (k + 1)).1 lim 13 args H) (slow_at (cx ρ) k 13) (fun lim a0 H => E13 ρ k lim a0 H), tr8_all ρ k, tr20_all ρ k⟩
noncomputable def tr26 (ρ : Addr → Option Value) (c : CallF) (y : YieldF) (k : Nat) : DT := .node 26 (ar2 (fun lim a0 a1 H => L26 ρ c y lim k a0 a1 H) (fun lim args H => slowF (cx ρ) c y k lim 26 args H)) .leaf .leaf
theorem tr26_all (ρ : Addr → Option Value) (k : Nat) : (tr26 ρ (evCY (cx ρ) k).1 (evCY (cx ρ) k).2 k).All fun f h => h = fun lim args H => (evCY (cx ρ) (k + 1)).1 lim f args H :=
  ⟨ar2_eq (F := fun lim args H => (evCY (cx ρ) (k + 1)).1 lim 26 args H) (slow_at (cx ρ) k 26) (fun lim a0 a1 H => E26 ρ k lim a0 a1 H), trivial, trivial⟩
noncomputable def tr27 (ρ : Addr → Option Value) (c : CallF) (y : YieldF) (k : Nat) : DT := .node 27 (ar2 (fun lim a0 a1 H => L27 ρ c y lim k a0 a1 H) (fun lim args H => slowF (cx ρ) c y k lim 27 args H)) (tr26 ρ c y k) .leaf
theorem tr27_all (ρ : Addr → Option Value) (k : Nat) : (tr27 ρ (evCY (cx ρ) k).1 (evCY (cx ρ) k).2 k).All fun f h => h = fun lim args H => (evCY (cx ρ) (k + 1)).1 lim f args H :=
  ⟨ar2_eq (F := fun lim args H => (evCY (cx ρ) (k + 1)).1 lim 27 args H) (slow_at (cx ρ) k 27) (fun lim a0 a1 H => E27 ρ k lim a0 a1 H), tr26_all ρ k, trivial⟩
noncomputable def tr29 (ρ : Addr → Option Value) (c : CallF) (y : YieldF) (k : Nat) : DT := .node 29 (ar1 (fun lim a0 H => L29 ρ c y lim k a0 H) (fun lim args H => slowF (cx ρ) c y k lim 29 args H)) .leaf .leaf
theorem tr29_all (ρ : Addr → Option Value) (k : Nat) : (tr29 ρ (evCY (cx ρ) k).1 (evCY (cx ρ) k).2 k).All fun f h => h = fun lim args H => (evCY (cx ρ) (k + 1)).1 lim f args H :=
  ⟨ar1_eq (F := fun lim args H => (evCY (cx ρ) (k + 1)).1 lim 29 args H) (slow_at (cx ρ) k 29) (fun lim a0 H => E29 ρ k lim a0 H), trivial, trivial⟩
noncomputable def tr37 (ρ : Addr → Option Value) (c : CallF) (y : YieldF) (k : Nat) : DT := .node 37 (ar2 (fun lim a0 a1 H => L37 ρ c y lim k a0 a1 H) (fun lim args H => slowF (cx ρ) c y k lim 37 args H)) (tr29 ρ c y k) .leaf
theorem tr37_all (ρ : Addr → Option Value) (k : Nat) : (tr37 ρ (evCY (cx ρ) k).1 (evCY (cx ρ) k).2 k).All fun f h => h = fun lim args H => (evCY (cx ρ) (k + 1)).1 lim f args H :=
  ⟨ar2_eq (F := fun lim args H => (evCY (cx ρ) (k + 1)).1 lim 37 args H) (slow_at (cx ρ) k 37) (fun lim a0 a1 H => E37 ρ k lim a0 a1 H), tr29_all ρ k, trivial⟩
noncomputable def tr28 (ρ : Addr → Option Value) (c : CallF) (y : YieldF) (k : Nat) : DT := .node 28 (ar1 (fun lim a0 H => L28 ρ c y lim k a0 H) (fun lim args H => slowF (cx ρ) c y k lim 28 args H)) (tr27 ρ c y k) (tr37 ρ c y k)
theorem tr28_all (ρ : Addr → Option Value) (k : Nat) : (tr28 ρ (evCY (cx ρ) k).1 (evCY (cx ρ) k).2 k).All fun f h => h = fun lim args H => (evCY (cx ρ) (k + 1)).1 lim f args H :=
  ⟨ar1_eq (F := fun lim args H => (evCY (cx ρ) (k + 1)).1 lim 28 args H) (slow_at (cx ρ) k 28) (fun lim a0 H => E28 ρ k lim a0 H), tr27_all ρ k, tr37_all ρ k⟩
noncomputable def tr42 (ρ : Addr → Option Value) (c : CallF) (y : YieldF) (k : Nat) : DT := .node 42 (ar1 (fun lim a0 H => L42 ρ c y lim k a0 H) (fun lim args H => slowF (cx ρ) c y k lim 42 args H)) .leaf .leaf
theorem tr42_all (ρ : Addr → Option Value) (k : Nat) : (tr42 ρ (evCY (cx ρ) k).1 (evCY (cx ρ) k).2 k).All fun f h => h = fun lim args H => (evCY (cx ρ) (k + 1)).1 lim f args H :=
  ⟨ar1_eq (F := fun lim args H => (evCY (cx ρ) (k + 1)).1 lim 42 args H) (slow_at (cx ρ) k 42) (fun lim a0 H => E42 ρ k lim a0 H), trivial, trivial⟩
noncomputable def tr43 (ρ : Addr → Option Value) (c : CallF) (y : YieldF) (k : Nat) : DT := .node 43 (ar1 (fun lim a0 H => L43 ρ c y lim k a0 H) (fun lim args H => slowF (cx ρ) c y k lim 43 args H)) (tr42 ρ c y k) .leaf
theorem tr43_all (ρ : Addr → Option Value) (k : Nat) : (tr43 ρ (evCY (cx ρ) k).1 (evCY (cx ρ) k).2 k).All fun f h => h = fun lim args H => (evCY (cx ρ) (k + 1)).1 lim f args H :=
  ⟨ar1_eq (F := fun lim args H => (evCY (cx ρ) (k + 1)).1 lim 43 args H) (slow_at (cx ρ) k 43) (fun lim a0 H => E43 ρ k lim a0 H), tr42_all ρ k, trivial⟩
noncomputable def tr45 (ρ : Addr → Option Value) (c : CallF) (y : YieldF) (k : Nat) : DT := .node 45 (ar1 (fun lim a0 H => L45 ρ c y lim k a0 H) (fun lim args H => slowF (cx ρ) c y k lim 45 args H)) .leaf .leaf
theorem tr45_all (ρ : Addr → Option Value) (k : Nat) : (tr45 ρ (evCY (cx ρ) k).1 (evCY (cx ρ) k).2 k).All fun f h => h = fun lim args H => (evCY (cx ρ) (k + 1)).1 lim f args H :=
  ⟨ar1_eq (F := fun lim args H => (evCY (cx ρ) (k + 1)).1 lim 45 args H) (slow_at (cx ρ) k 45) (fun lim a0 H => E45 ρ k lim a0 H), trivial, trivial⟩
noncomputable def tr44 (ρ : Addr → Option Value) (c : CallF) (y : YieldF) (k : Nat) : DT := .node 44 (ar1 (fun lim a0 H => L44 ρ c y lim k a0 H) (fun lim args H => slowF (cx ρ) c y k lim 44 args H)) (tr43 ρ c y k) (tr45 ρ c y k)
theorem tr44_all (ρ : Addr → Option Value) (k : Nat) : (tr44 ρ (evCY (cx ρ) k).1 (evCY (cx ρ) k).2 k).All fun f h => h = fun lim args H => (evCY (cx ρ) (k + 1)).1 lim f args H :=
  ⟨ar1_eq (F := fun lim args H => (evCY (cx ρ) (k + 1)).1 lim 44 args H) (slow_at (cx ρ) k 44) (fun lim a0 H => E44 ρ k lim a0 H), tr43_all ρ k, tr45_all ρ k⟩
noncomputable def tr38 (ρ : Addr → Option Value) (c : CallF) (y : YieldF) (k : Nat) : DT := .node 38 (ar3 (fun lim a0 a1 a2 H => L38 ρ c y lim k a0 a1 a2 H) (fun lim args H => slowF (cx ρ) c y k lim 38 args H)) (tr28 ρ c y k) (tr44 ρ c y k)
theorem tr38_all (ρ : Addr → Option Value) (k : Nat) : (tr38 ρ (evCY (cx ρ) k).1 (evCY (cx ρ) k).2 k).All fun f h => h = fun lim args H => (evCY (cx ρ) (k + 1)).1 lim f args H :=
  ⟨ar3_eq (F := fun lim args H => (evCY (cx ρ) (k + 1)).1 lim 38 args H) (slow_at (cx ρ) k 38) (fun lim a0 a1 a2 H => E38 ρ k lim a0 a1 a2 H), tr28_all ρ k, tr44_all ρ k⟩
noncomputable def tr47 (ρ : Addr → Option Value) (c : CallF) (y : YieldF) (k : Nat) : DT := .node 47 (ar3 (fun lim a0 a1 a2 H => L47 ρ c y lim k a0 a1 a2 H) (fun lim args H => slowF (cx ρ) c y k lim 47 args H)) .leaf .leaf
theorem tr47_all (ρ : Addr → Option Value) (k : Nat) : (tr47 ρ (evCY (cx ρ) k).1 (evCY (cx ρ) k).2 k).All fun f h => h = fun lim args H => (evCY (cx ρ) (k + 1)).1 lim f args H :=
  ⟨ar3_eq (F := fun lim args H => (evCY (cx ρ) (k + 1)).1 lim 47 args H) (slow_at (cx ρ) k 47) (fun lim a0 a1 a2 H => E47 ρ k lim a0 a1 a2 H), trivial, trivial⟩
noncomputable def tr48 (ρ : Addr → Option Value) (c : CallF) (y : YieldF) (k : Nat) : DT := .node 48 (ar2 (fun lim a0 a1 H => L48 ρ c y lim k a0 a1 H) (fun lim args H => slowF (cx ρ) c y k lim 48 args H)) (tr47 ρ c y k) .leaf
theorem tr48_all (ρ : Addr → Option Value) (k : Nat) : (tr48 ρ (evCY (cx ρ) k).1 (evCY (cx ρ) k).2 k).All fun f h => h = fun lim args H => (evCY (cx ρ) (k + 1)).1 lim f args H :=
  ⟨ar2_eq (F := fun lim args H => (evCY (cx ρ) (k + 1)).1 lim 48 args H) (slow_at (cx ρ) k 48) (fun lim a0 a1 H => E48 ρ k lim a0 a1 H), tr47_all ρ k, trivial⟩
noncomputable def tr50 (ρ : Addr → Option Value) (c : CallF) (y : YieldF) (k : Nat) : DT := .node 50 (ar2 (fun lim a0 a1 H => L50 ρ c y lim k a0 a1 H) (fun lim args H => slowF (cx ρ) c y k lim 50 args H)) .leaf .leaf
theorem tr50_all (ρ : Addr → Option Value) (k : Nat) : (tr50 ρ (evCY (cx ρ) k).1 (evCY (cx ρ) k).2 k).All fun f h => h = fun lim args H => (evCY (cx ρ) (k + 1)).1 lim f args H :=
  ⟨ar2_eq (F := fun lim args H => (evCY (cx ρ) (k + 1)).1 lim 50 args H) (slow_at (cx ρ) k 50) (fun lim a0 a1 H => E50 ρ k lim a0 a1 H), trivial, trivial⟩
noncomputable def tr51 (ρ : Addr → Option Value) (c : CallF) (y : YieldF) (k : Nat) : DT := .node 51 (ar1 (fun lim a0 H => L51 ρ c y lim k a0 H) (fun lim args H => slowF (cx ρ) c y k lim 51 args H)) (tr50 ρ c y k) .leaf
theorem tr51_all (ρ : Addr → Option Value) (k : Nat) : (tr51 ρ (evCY (cx ρ) k).1 (evCY (cx ρ) k).2 k).All fun f h => h = fun lim args H => (evCY (cx ρ) (k + 1)).1 lim f args H :=
  ⟨ar1_eq (F := fun lim args H => (evCY (cx ρ) (k + 1)).1 lim 51 args H) (slow_at (cx ρ) k 51) (fun lim a0 H => E51 ρ k lim a0 H), tr50_all ρ k, trivial⟩
noncomputable def tr49 (ρ : Addr → Option Value) (c : CallF) (y : YieldF) (k : Nat) : DT := .node 49 (ar1 (fun lim a0 H => L49 ρ c y lim k a0 H) (fun lim args H => slowF (cx ρ) c y k lim 49 args H)) (tr48 ρ c y k) (tr51 ρ c y k)
theorem tr49_all (ρ : Addr → Option Value) (k : Nat) : (tr49 ρ (evCY (cx ρ) k).1 (evCY (cx ρ) k).2 k).All fun f h => h = fun lim args H => (evCY (cx ρ) (k + 1)).1 lim f args H :=
  ⟨ar1_eq (F := fun lim args H => (evCY (cx ρ) (k + 1)).1 lim 49 args H) (slow_at (cx ρ) k 49) (fun lim a0 H => E49 ρ k lim a0 H), tr48_all ρ k, tr51_all ρ k⟩
noncomputable def tr53 (ρ : Addr → Option Value) (c : CallF) (y : YieldF) (k : Nat) : DT := .node 53 (ar2 (fun lim a0 a1 H => L53 ρ c y lim k a0 a1 H) (fun lim args H => slowF (cx ρ) c y k lim 53 args H)) .leaf .leaf
theorem tr53_all (ρ : Addr → Option Value) (k : Nat) : (tr53 ρ (evCY (cx ρ) k).1 (evCY (cx ρ) k).2 k).All fun f h => h = fun lim args H => (evCY (cx ρ) (k + 1)).1 lim f args H :=
  ⟨ar2_eq (F := fun lim args H => (evCY (cx ρ) (k + 1)).1 lim 53 args H) (slow_at (cx ρ) k 53) (fun lim a0 a1 H => E53 ρ k lim a0 a1 H), trivial, trivial⟩
noncomputable def tr54 (ρ : Addr → Option Value) (c : CallF) (y : YieldF) (k : Nat) : DT := .node 54 (ar1 (fun lim a0 H => L54 ρ c y lim k a0 H) (fun lim args H => slowF (cx ρ) c y k lim 54 args H)) (tr53 ρ c y k) .leaf
theorem tr54_all (ρ : Addr → Option Value) (k : Nat) : (tr54 ρ (evCY (cx ρ) k).1 (evCY (cx ρ) k).2 k).All fun f h => h = fun lim args H => (evCY (cx ρ) (k + 1)).1 lim f args H :=
  ⟨ar1_eq (F := fun lim args H => (evCY (cx ρ) (k + 1)).1 lim 54 args H) (slow_at (cx ρ) k 54) (fun lim a0 H => E54 ρ k lim a0 H), tr53_all ρ k, trivial⟩
noncomputable def tr56 (ρ : Addr → Option Value) (c : CallF) (y : YieldF) (k : Nat) : DT := .node 56 (ar1 (fun lim a0 H => L56 ρ c y lim k a0 H) (fun lim args H => slowF (cx ρ) c y k lim 56 args H)) .leaf .leaf
theorem tr56_all (ρ : Addr → Option Value) (k : Nat) : (tr56 ρ (evCY (cx ρ) k).1 (evCY (cx ρ) k).2 k).All fun f h => h = fun lim args H => (evCY (cx ρ) (k + 1)).1 lim f args H :=
  ⟨ar1_eq (F := fun lim args H => (evCY (cx ρ) (k + 1)).1 lim 56 args H) (slow_at (cx ρ) k 56) (fun lim a0 H => E56 ρ k lim a0 H), trivial, trivial⟩
noncomputable def tr55 (ρ : Addr → Option Value) (c : CallF) (y : YieldF) (k : Nat) : DT := .node 55 (ar2 (fun lim a0 a1 H => L55 ρ c y lim k a0 a1 H) (fun lim args H => slowF (cx ρ) c y k lim 55 args H)) (tr54 ρ c y k) (tr56 ρ c y k)
theorem tr55_all (ρ : Addr → Option Value) (k : Nat) : (tr55 ρ (evCY (cx ρ) k).1 (evCY (cx ρ) k).2 k).All fun f h => h = fun lim args H => (evCY (cx ρ) (k + 1)).1 lim f args H :=
  ⟨ar2_eq (F := fun lim args H => (evCY (cx ρ) (k + 1)).1 lim 55 args H) (slow_at (cx ρ) k 55) (fun lim a0 a1 H => E55 ρ k lim a0 a1 H), tr54_all ρ k, tr56_all ρ k⟩
noncomputable def tr52 (ρ : Addr → Option Value) (c : CallF) (y : YieldF) (k : Nat) : DT := .node 52 (ar2 (fun lim a0 a1 H => L52 ρ c y lim k a0 a1 H) (fun lim args H => slowF (cx ρ) c y k lim 52 args H)) (tr49 ρ c y k) (tr55 ρ c y k)
theorem tr52_all (ρ : Addr → Option Value) (k : Nat) : (tr52 ρ (evCY (cx ρ) k).1 (evCY (cx ρ) k).2 k).All fun f h => h = fun lim args H => (evCY (cx ρ) (k + 1)).1 lim f args H :=
  ⟨ar2_eq (F := fun lim args H => (evCY (cx ρ) (k + 1)).1 lim 52 args H) (slow_at (cx ρ) k 52) (fun lim a0 a1 H => E52 ρ k lim a0 a1 H), tr49_all ρ k, tr55_all ρ k⟩
noncomputable def tr46 (ρ : Addr → Option Value) (c : CallF) (y : YieldF) (k : Nat) : DT := .node 46 (ar2 (fun lim a0 a1 H => L46 ρ c y lim k a0 a1 H) (fun lim args H => slowF (cx ρ) c y k lim 46 args H)) (tr38 ρ c y k) (tr52 ρ c y k)
theorem tr46_all (ρ : Addr → Option Value) (k : Nat) : (tr46 ρ (evCY (cx ρ) k).1 (evCY (cx ρ) k).2 k).All fun f h => h = fun lim args H => (evCY (cx ρ) (k + 1)).1 lim f args H :=
  ⟨ar2_eq (F := fun lim args H => (evCY (cx ρ) (k + 1)).1 lim 46 args H) (slow_at (cx ρ) k 46) (fun lim a0 a1 H => E46 ρ k lim a0 a1 H), tr38_all ρ k, tr52_all ρ k⟩
noncomputable def tr25 (ρ : Addr → Option Value) (c : CallF) (y : YieldF) (k : Nat) : DT := .node 25 (ar0 (fun lim H => L25 ρ c y lim k H) (fun lim args H => slowF (cx ρ) c y k lim 25 args H)) (tr13 ρ c y k) (tr46 ρ c y k)
theorem tr25_all (ρ : Addr → Option Value) (k : Nat) : (tr25 ρ (evCY (cx ρ) k).1 (evCY (cx ρ) k).2 k).All fun f h => h = fun lim args H => (evCY (cx ρ) (k + 1)).1 lim f args H :=
  ⟨ar0_eq (F := fun lim args H => (evCY (cx ρ) (k + 1)).1 lim 25 args H) (slow_at (cx ρ) k 25) (fun lim H => E25 ρ k lim H), tr13_all ρ k, tr46_all ρ k⟩
noncomputable def tr75 (ρ : Addr → Option Value) (c : CallF) (y : YieldF) (k : Nat) : DT := .node 75 (ar2 (fun lim a0 a1 H => L75 ρ c y lim k a0 a1 H) (fun lim args H => slowF (cx ρ) c y k lim 75 args H)) .leaf .leaf
theorem tr75_all (ρ : Addr → Option Value) (k : Nat) : (tr75 ρ (evCY (cx ρ) k).1 (evCY (cx ρ) k).2 k).All fun f h => h = fun lim args H => (evCY (cx ρ) (k + 1)).1 lim f args H :=
  ⟨ar2_eq (F := fun lim args H => (evCY (cx ρ) (k + 1)).1 lim 75 args H) (slow_at (cx ρ) k 75) (fun lim a0 a1 H => E75 ρ k lim a0 a1 H), trivial, trivial⟩
noncomputable def tr76 (ρ : Addr → Option Value) (c : CallF) (y : YieldF) (k : Nat) : DT := .node 76 (ar2 (fun lim a0 a1 H => L76 ρ c y lim k a0 a1 H) (fun lim args H => slowF (cx ρ) c y k lim 76 args H)) (tr75 ρ c y k) .leaf
theorem tr76_all (ρ : Addr → Option Value) (k : Nat) : (tr76 ρ (evCY (cx ρ) k).1 (evCY (cx ρ) k).2 k).All fun f h => h = fun lim args H => (evCY (cx ρ) (k + 1)).1 lim f args H :=
  ⟨ar2_eq (F := fun lim args H => (evCY (cx ρ) (k + 1)).1 lim 76 args H) (slow_at (cx ρ) k 76) (fun lim a0 a1 H => E76 ρ k lim a0 a1 H), tr75_all ρ k, trivial⟩
noncomputable def tr85 (ρ : Addr → Option Value) (c : CallF) (y : YieldF) (k : Nat) : DT := .node 85 (ar1 (fun lim a0 H => L85 ρ c y lim k a0 H) (fun lim args H => slowF (cx ρ) c y k lim 85 args H)) .leaf .leaf
theorem tr85_all (ρ : Addr → Option Value) (k : Nat) : (tr85 ρ (evCY (cx ρ) k).1 (evCY (cx ρ) k).2 k).All fun f h => h = fun lim args H => (evCY (cx ρ) (k + 1)).1 lim f args H :=
  ⟨ar1_eq (F := fun lim args H => (evCY (cx ρ) (k + 1)).1 lim 85 args H) (slow_at (cx ρ) k 85) (fun lim a0 H => E85 ρ k lim a0 H), trivial, trivial⟩
noncomputable def tr86 (ρ : Addr → Option Value) (c : CallF) (y : YieldF) (k : Nat) : DT := .node 86 (ar1 (fun lim a0 H => L86 ρ c y lim k a0 H) (fun lim args H => slowF (cx ρ) c y k lim 86 args H)) (tr85 ρ c y k) .leaf
theorem tr86_all (ρ : Addr → Option Value) (k : Nat) : (tr86 ρ (evCY (cx ρ) k).1 (evCY (cx ρ) k).2 k).All fun f h => h = fun lim args H => (evCY (cx ρ) (k + 1)).1 lim f args H :=
  ⟨ar1_eq (F := fun lim args H => (evCY (cx ρ) (k + 1)).1 lim 86 args H) (slow_at (cx ρ) k 86) (fun lim a0 H => E86 ρ k lim a0 H), tr85_all ρ k, trivial⟩
noncomputable def tr84 (ρ : Addr → Option Value) (c : CallF) (y : YieldF) (k : Nat) : DT := .node 84 (ar1 (fun lim a0 H => L84 ρ c y lim k a0 H) (fun lim args H => slowF (cx ρ) c y k lim 84 args H)) (tr76 ρ c y k) (tr86 ρ c y k)
theorem tr84_all (ρ : Addr → Option Value) (k : Nat) : (tr84 ρ (evCY (cx ρ) k).1 (evCY (cx ρ) k).2 k).All fun f h => h = fun lim args H => (evCY (cx ρ) (k + 1)).1 lim f args H :=
  ⟨ar1_eq (F := fun lim args H => (evCY (cx ρ) (k + 1)).1 lim 84 args H) (slow_at (cx ρ) k 84) (fun lim a0 H => E84 ρ k lim a0 H), tr76_all ρ k, tr86_all ρ k⟩
noncomputable def tr88 (ρ : Addr → Option Value) (c : CallF) (y : YieldF) (k : Nat) : DT := .node 88 (ar1 (fun lim a0 H => L88 ρ c y lim k a0 H) (fun lim args H => slowF (cx ρ) c y k lim 88 args H)) .leaf .leaf
theorem tr88_all (ρ : Addr → Option Value) (k : Nat) : (tr88 ρ (evCY (cx ρ) k).1 (evCY (cx ρ) k).2 k).All fun f h => h = fun lim args H => (evCY (cx ρ) (k + 1)).1 lim f args H :=
  ⟨ar1_eq (F := fun lim args H => (evCY (cx ρ) (k + 1)).1 lim 88 args H) (slow_at (cx ρ) k 88) (fun lim a0 H => E88 ρ k lim a0 H), trivial, trivial⟩
noncomputable def tr89 (ρ : Addr → Option Value) (c : CallF) (y : YieldF) (k : Nat) : DT := .node 89 (ar1 (fun lim a0 H => L89 ρ c y lim k a0 H) (fun lim args H => slowF (cx ρ) c y k lim 89 args H)) (tr88 ρ c y k) .leaf
theorem tr89_all (ρ : Addr → Option Value) (k : Nat) : (tr89 ρ (evCY (cx ρ) k).1 (evCY (cx ρ) k).2 k).All fun f h => h = fun lim args H => (evCY (cx ρ) (k + 1)).1 lim f args H :=
  ⟨ar1_eq (F := fun lim args H => (evCY (cx ρ) (k + 1)).1 lim 89 args H) (slow_at (cx ρ) k 89) (fun lim a0 H => E89 ρ k lim a0 H), tr88_all ρ k, trivial⟩
noncomputable def tr92 (ρ : Addr → Option Value) (c : CallF) (y : YieldF) (k : Nat) : DT := .node 92 (ar5 (fun lim a0 a1 a2 a3 a4 H => L92 ρ c y lim k a0 a1 a2 a3 a4 H) (fun lim args H => slowF (cx ρ) c y k lim 92 args H)) .leaf .leaf
theorem tr92_all (ρ : Addr → Option Value) (k : Nat) : (tr92 ρ (evCY (cx ρ) k).1 (evCY (cx ρ) k).2 k).All fun f h => h = fun lim args H => (evCY (cx ρ) (k + 1)).1 lim f args H :=
  ⟨ar5_eq (F := fun lim args H => (evCY (cx ρ) (k + 1)).1 lim 92 args H) (slow_at (cx ρ) k 92) (fun lim a0 a1 a2 a3 a4 H => E92 ρ k lim a0 a1 a2 a3 a4 H), trivial, trivial⟩
noncomputable def tr91 (ρ : Addr → Option Value) (c : CallF) (y : YieldF) (k : Nat) : DT := .node 91 (ar2 (fun lim a0 a1 H => L91 ρ c y lim k a0 a1 H) (fun lim args H => slowF (cx ρ) c y k lim 91 args H)) (tr89 ρ c y k) (tr92 ρ c y k)
theorem tr91_all (ρ : Addr → Option Value) (k : Nat) : (tr91 ρ (evCY (cx ρ) k).1 (evCY (cx ρ) k).2 k).All fun f h => h = fun lim args H => (evCY (cx ρ) (k + 1)).1 lim f args H :=
  ⟨ar2_eq (F := fun lim args H => (evCY (cx ρ) (k + 1)).1 lim 91 args H) (slow_at (cx ρ) k 91) (fun lim a0 a1 H => E91 ρ k lim a0 a1 H), tr89_all ρ k, tr92_all ρ k⟩
noncomputable def tr87 (ρ : Addr → Option Value) (c : CallF) (y : YieldF) (k : Nat) : DT := .node 87 (ar1 (fun lim a0 H => L87 ρ c y lim k a0 H) (fun lim args H => slowF (cx ρ) c y k lim 87 args H)) (tr84 ρ c y k) (tr91 ρ c y k)
theorem tr87_all (ρ : Addr → Option Value) (k : Nat) : (tr87 ρ (evCY (cx ρ) k).1 (evCY (cx ρ) k).2 k).All fun f h => h = fun lim args H => (evCY (cx ρ) (k + 1)).1 lim f args H :=
  ⟨ar1_eq (F := fun lim args H => (evCY (cx ρ) (k + 1)).1 lim 87 args H) (slow_at (cx ρ) k 87) (fun lim a0 H => E87 ρ k lim a0 H), tr84_all ρ k, tr91_all ρ k⟩
noncomputable def tr94 (ρ : Addr → Option Value) (c : CallF) (y : YieldF) (k : Nat) : DT := .node 94 (ar1 (fun lim a0 H => L94 ρ c y lim k a0 H) (fun lim args H => slowF (cx ρ) c y k lim 94 args H)) .leaf .leaf
theorem tr94_all (ρ : Addr → Option Value) (k : Nat) : (tr94 ρ (evCY (cx ρ) k).1 (evCY (cx ρ) k).2 k).All fun f h => h = fun lim args H => (evCY (cx ρ) (k + 1)).1 lim f args H :=
  ⟨ar1_eq (F := fun lim args H => (evCY (cx ρ) (k + 1)).1 lim 94 args H) (slow_at (cx ρ) k 94) (fun lim a0 H => E94 ρ k lim a0 H), trivial, trivial⟩
noncomputable def tr95 (ρ : Addr → Option Value) (c : CallF) (y : YieldF) (k : Nat) : DT := .node 95 (ar1 (fun lim a0 H => L95 ρ c y lim k a0 H) (fun lim args H => slowF (cx ρ) c y k lim 95 args H)) (tr94 ρ c y k) .leaf
theorem tr95_all (ρ : Addr → Option Value) (k : Nat) : (tr95 ρ (evCY (cx ρ) k).1 (evCY (cx ρ) k).2 k).All fun f h => h = fun lim args H => (evCY (cx ρ) (k + 1)).1 lim f args H :=
  ⟨ar1_eq (F := fun lim args H => (evCY (cx ρ) (k + 1)).1 lim 95 args H) (slow_at (cx ρ) k 95) (fun lim a0 H => E95 ρ k lim a0 H), tr94_all ρ k, trivial⟩
noncomputable def tr97 (ρ : Addr → Option Value) (c : CallF) (y : YieldF) (k : Nat) : DT := .node 97 (ar2 (fun lim a0 a1 H => L97 ρ c y lim k a0 a1 H) (fun lim args H => slowF (cx ρ) c y k lim 97 args H)) .leaf .leaf
theorem tr97_all (ρ : Addr → Option Value) (k : Nat) : (tr97 ρ (evCY (cx ρ) k).1 (evCY (cx ρ) k).2 k).All fun f h => h = fun lim args H => (evCY (cx ρ) (k + 1)).1 lim f args H :=
  ⟨ar2_eq (F := fun lim args H => (evCY (cx ρ) (k + 1)).1 lim 97 args H) (slow_at (cx ρ) k 97) (fun lim a0 a1 H => E97 ρ k lim a0 a1 H), trivial, trivial⟩
noncomputable def tr98 (ρ : Addr → Option Value) (c : CallF) (y : YieldF) (k : Nat) : DT := .node 98 (ar5 (fun lim a0 a1 a2 a3 a4 H => L98 ρ c y lim k a0 a1 a2 a3 a4 H) (fun lim args H => slowF (cx ρ) c y k lim 98 args H)) (tr97 ρ c y k) .leaf
theorem tr98_all (ρ : Addr → Option Value) (k : Nat) : (tr98 ρ (evCY (cx ρ) k).1 (evCY (cx ρ) k).2 k).All fun f h => h = fun lim args H => (evCY (cx ρ) (k + 1)).1 lim f args H :=
  ⟨ar5_eq (F := fun lim args H => (evCY (cx ρ) (k + 1)).1 lim 98 args H) (slow_at (cx ρ) k 98) (fun lim a0 a1 a2 a3 a4 H => E98 ρ k lim a0 a1 a2 a3 a4 H), tr97_all ρ k, trivial⟩
noncomputable def tr96 (ρ : Addr → Option Value) (c : CallF) (y : YieldF) (k : Nat) : DT := .node 96 (ar2 (fun lim a0 a1 H => L96 ρ c y lim k a0 a1 H) (fun lim args H => slowF (cx ρ) c y k lim 96 args H)) (tr95 ρ c y k) (tr98 ρ c y k)
theorem tr96_all (ρ : Addr → Option Value) (k : Nat) : (tr96 ρ (evCY (cx ρ) k).1 (evCY (cx ρ) k).2 k).All fun f h => h = fun lim args H => (evCY (cx ρ) (k + 1)).1 lim f args H :=
  ⟨ar2_eq (F := fun lim args H => (evCY (cx ρ) (k + 1)).1 lim 96 args H) (slow_at (cx ρ) k 96) (fun lim a0 a1 H => E96 ρ k lim a0 a1 H), tr95_all ρ k, tr98_all ρ k⟩
noncomputable def tr101 (ρ : Addr → Option Value) (c : CallF) (y : YieldF) (k : Nat) : DT := .node 101 (ar2 (fun lim a0 a1 H => L101 ρ c y lim k a0 a1 H) (fun lim args H => slowF (cx ρ) c y k lim 101 args H)) .leaf .leaf
theorem tr101_all (ρ : Addr → Option Value) (k : Nat) : (tr101 ρ (evCY (cx ρ) k).1 (evCY (cx ρ) k).2 k).All fun f h => h = fun lim args H => (evCY (cx ρ) (k + 1)).1 lim f args H :=
  ⟨ar2_eq (F := fun lim args H => (evCY (cx ρ) (k + 1)).1 lim 101 args H) (slow_at (cx ρ) k 101) (fun lim a0 a1 H => E101 ρ k lim a0 a1 H), trivial, trivial⟩
noncomputable def tr102 (ρ : Addr → Option Value) (c : CallF) (y : YieldF) (k : Nat) : DT := .node 102 (ar1 (fun lim a0 H => L102 ρ c y lim k a0 H) (fun lim args H => slowF (cx ρ) c y k lim 102 args H)) (tr101 ρ c y k) .leaf
theorem tr102_all (ρ : Addr → Option Value) (k : Nat) : (tr102 ρ (evCY (cx ρ) k).1 (evCY (cx ρ) k).2 k).All fun f h => h = fun lim args H => (evCY (cx ρ) (k + 1)).1 lim f args H :=
  ⟨ar1_eq (F := fun lim args H => (evCY (cx ρ) (k + 1)).1 lim 102 args H) (slow_at (cx ρ) k 102) (fun lim a0 H => E102 ρ k lim a0 H), tr101_all ρ k, trivial⟩
noncomputable def tr117 (ρ : Addr → Option Value) (c : CallF) (y : YieldF) (k : Nat) : DT := .node 117 (ar2 (fun lim a0 a1 H => L117 ρ c y lim k a0 a1 H) (fun lim args H => slowF (cx ρ) c y k lim 117 args H)) .leaf .leaf
theorem tr117_all (ρ : Addr → Option Value) (k : Nat) : (tr117 ρ (evCY (cx ρ) k).1 (evCY (cx ρ) k).2 k).All fun f h => h = fun lim args H => (evCY (cx ρ) (k + 1)).1 lim f args H :=
  ⟨ar2_eq (F := fun lim args H => (evCY (cx ρ) (k + 1)).1 lim 117 args H) (slow_at (cx ρ) k 117) (fun lim a0 a1 H => E117 ρ k lim a0 a1 H), trivial, trivial⟩
noncomputable def tr115 (ρ : Addr → Option Value) (c : CallF) (y : YieldF) (k : Nat) : DT := .node 115 (ar1 (fun lim a0 H => L115 ρ c y lim k a0 H) (fun lim args H => slowF (cx ρ) c y k lim 115 args H)) (tr102 ρ c y k) (tr117 ρ c y k)
theorem tr115_all (ρ : Addr → Option Value) (k : Nat) : (tr115 ρ (evCY (cx ρ) k).1 (evCY (cx ρ) k).2 k).All fun f h => h = fun lim args H => (evCY (cx ρ) (k + 1)).1 lim f args H :=
  ⟨ar1_eq (F := fun lim args H => (evCY (cx ρ) (k + 1)).1 lim 115 args H) (slow_at (cx ρ) k 115) (fun lim a0 H => E115 ρ k lim a0 H), tr102_all ρ k, tr117_all ρ k⟩
noncomputable def tr99 (ρ : Addr → Option Value) (c : CallF) (y : YieldF) (k : Nat) : DT := .node 99 (ar1 (fun lim a0 H => L99 ρ c y lim k a0 H) (fun lim args H => slowF (cx ρ) c y k lim 99 args H)) (tr96 ρ c y k) (tr115 ρ c y k)
theorem tr99_all (ρ : Addr → Option Value) (k : Nat) : (tr99 ρ (evCY (cx ρ) k).1 (evCY (cx ρ) k).2 k).All fun f h => h = fun lim args H => (evCY (cx ρ) (k + 1)).1 lim f args H :=
  ⟨ar1_eq (F := fun lim args H => (evCY (cx ρ) (k + 1)).1 lim 99 args H) (slow_at (cx ρ) k 99) (fun lim a0 H => E99 ρ k lim a0 H), tr96_all ρ k, tr115_all ρ k⟩
noncomputable def tr93 (ρ : Addr → Option Value) (c : CallF) (y : YieldF) (k : Nat) : DT := .node 93 (ar1 (fun lim a0 H => L93 ρ c y lim k a0 H) (fun lim args H => slowF (cx ρ) c y k lim 93 args H)) (tr87 ρ c y k) (tr99 ρ c y k)
theorem tr93_all (ρ : Addr → Option Value) (k : Nat) : (tr93 ρ (evCY (cx ρ) k).1 (evCY (cx ρ) k).2 k).All fun f h => h = fun lim args H => (evCY (cx ρ) (k + 1)).1 lim f args H :=
  ⟨ar1_eq (F := fun lim args H => (evCY (cx ρ) (k + 1)).1 lim 93 args H) (slow_at (cx ρ) k 93) (fun lim a0 H => E93 ρ k lim a0 H), tr87_all ρ k, tr99_all ρ k⟩
noncomputable def tr120 (ρ : Addr → Option Value) (c : CallF) (y : YieldF) (k : Nat) : DT := .node 120 (ar2 (fun lim a0 a1 H => L120 ρ c y lim k a0 a1 H) (fun lim args H => slowF (cx ρ) c y k lim 120 args H)) .leaf .leaf
theorem tr120_all (ρ : Addr → Option Value) (k : Nat) : (tr120 ρ (evCY (cx ρ) k).1 (evCY (cx ρ) k).2 k).All fun f h => h = fun lim args H => (evCY (cx ρ) (k + 1)).1 lim f args H :=
  ⟨ar2_eq (F := fun lim args H => (evCY (cx ρ) (k + 1)).1 lim 120 args H) (slow_at (cx ρ) k 120) (fun lim a0 a1 H => E120 ρ k lim a0 a1 H), trivial, trivial⟩
noncomputable def tr138 (ρ : Addr → Option Value) (c : CallF) (y : YieldF) (k : Nat) : DT := .node 138 (ar1 (fun lim a0 H => L138 ρ c y lim k a0 H) (fun lim args H => slowF (cx ρ) c y k lim 138 args H)) (tr120 ρ c y k) .leaf
theorem tr138_all (ρ : Addr → Option Value) (k : Nat) : (tr138 ρ (evCY (cx ρ) k).1 (evCY (cx ρ) k).2 k).All fun f h => h = fun lim args H => (evCY (cx ρ) (k + 1)).1 lim f args H :=
  ⟨ar1_eq (F := fun lim args H => (evCY (cx ρ) (k + 1)).1 lim 138 args H) (slow_at (cx ρ) k 138) (fun lim a0 H => E138 ρ k lim a0 H), tr120_all ρ k, trivial⟩
noncomputable def tr144 (ρ : Addr → Option Value) (c : CallF) (y : YieldF) (k : Nat) : DT := .node 144 (ar2 (fun lim a0 a1 H => L144 ρ c y lim k a0 a1 H) (fun lim args H => slowF (cx ρ) c y k lim 144 args H)) .leaf .leaf
theorem tr144_all (ρ : Addr → Option Value) (k : Nat) : (tr144 ρ (evCY (cx ρ) k).1 (evCY (cx ρ) k).2 k).All fun f h => h = fun lim args H => (evCY (cx ρ) (k + 1)).1 lim f args H :=
  ⟨ar2_eq (F := fun lim args H => (evCY (cx ρ) (k + 1)).1 lim 144 args H) (slow_at (cx ρ) k 144) (fun lim a0 a1 H => E144 ρ k lim a0 a1 H), trivial, trivial⟩
noncomputable def tr145 (ρ : Addr → Option Value) (c : CallF) (y : YieldF) (k : Nat) : DT := .node 145 (ar2 (fun lim a0 a1 H => L145 ρ c y lim k a0 a1 H) (fun lim args H => slowF (cx ρ) c y k lim 145 args H)) (tr144 ρ c y k) .leaf
theorem tr145_all (ρ : Addr → Option Value) (k : Nat) : (tr145 ρ (evCY (cx ρ) k).1 (evCY (cx ρ) k).2 k).All fun f h => h = fun lim args H => (evCY (cx ρ) (k + 1)).1 lim f args H :=
  ⟨ar2_eq (F := fun lim args H => (evCY (cx ρ) (k + 1)).1 lim 145 args H) (slow_at (cx ρ) k 145) (fun lim a0 a1 H => E145 ρ k lim a0 a1 H), tr144_all ρ k, trivial⟩
noncomputable def tr143 (ρ : Addr → Option Value) (c : CallF) (y : YieldF) (k : Nat) : DT := .node 143 (ar1 (fun lim a0 H => L143 ρ c y lim k a0 H) (fun lim args H => slowF (cx ρ) c y k lim 143 args H)) (tr138 ρ c y k) (tr145 ρ c y k)
theorem tr143_all (ρ : Addr → Option Value) (k : Nat) : (tr143 ρ (evCY (cx ρ) k).1 (evCY (cx ρ) k).2 k).All fun f h => h = fun lim args H => (evCY (cx ρ) (k + 1)).1 lim f args H :=
  ⟨ar1_eq (F := fun lim args H => (evCY (cx ρ) (k + 1)).1 lim 143 args H) (slow_at (cx ρ) k 143) (fun lim a0 H => E143 ρ k lim a0 H), tr138_all ρ k, tr145_all ρ k⟩
noncomputable def tr147 (ρ : Addr → Option Value) (c : CallF) (y : YieldF) (k : Nat) : DT := .node 147 (ar2 (fun lim a0 a1 H => L147 ρ c y lim k a0 a1 H) (fun lim args H => slowF (cx ρ) c y k lim 147 args H)) .leaf .leaf
theorem tr147_all (ρ : Addr → Option Value) (k : Nat) : (tr147 ρ (evCY (cx ρ) k).1 (evCY (cx ρ) k).2 k).All fun f h => h = fun lim args H => (evCY (cx ρ) (k + 1)).1 lim f args H :=
  ⟨ar2_eq (F := fun lim args H => (evCY (cx ρ) (k + 1)).1 lim 147 args H) (slow_at (cx ρ) k 147) (fun lim a0 a1 H => E147 ρ k lim a0 a1 H), trivial, trivial⟩
noncomputable def tr153 (ρ : Addr → Option Value) (c : CallF) (y : YieldF) (k : Nat) : DT := .node 153 (ar2 (fun lim a0 a1 H => L153 ρ c y lim k a0 a1 H) (fun lim args H => slowF (cx ρ) c y k lim 153 args H)) (tr147 ρ c y k) .leaf
theorem tr153_all (ρ : Addr → Option Value) (k : Nat) : (tr153 ρ (evCY (cx ρ) k).1 (evCY (cx ρ) k).2 k).All fun f h => h = fun lim args H => (evCY (cx ρ) (k + 1)).1 lim f args H :=
  ⟨ar2_eq (F := fun lim args H => (evCY (cx ρ) (k + 1)).1 lim 153 args H) (slow_at (cx ρ) k 153) (fun lim a0 a1 H => E153 ρ k lim a0 a1 H), tr147_all ρ k, trivial⟩
noncomputable def tr155 (ρ : Addr → Option Value) (c : CallF) (y : YieldF) (k : Nat) : DT := .node 155 (ar3 (fun lim a0 a1 a2 H => L155 ρ c y lim k a0 a1 a2 H) (fun lim args H => slowF (cx ρ) c y k lim 155 args H)) .leaf .leaf
theorem tr155_all (ρ : Addr → Option Value) (k : Nat) : (tr155 ρ (evCY (cx ρ) k).1 (evCY (cx ρ) k).2 k).All fun f h => h = fun lim args H => (evCY (cx ρ) (k + 1)).1 lim f args H :=
  ⟨ar3_eq (F := fun lim args H => (evCY (cx ρ) (k + 1)).1 lim 155 args H) (slow_at (cx ρ) k 155) (fun lim a0 a1 a2 H => E155 ρ k lim a0 a1 a2 H), trivial, trivial⟩
noncomputable def tr154 (ρ : Addr → Option Value) (c : CallF) (y : YieldF) (k : Nat) : DT := .node 154 (ar2 (fun lim a0 a1 H => L154 ρ c y lim k a0 a1 H) (fun lim args H => slowF (cx ρ) c y k lim 154 args H)) (tr153 ρ c y k) (tr155 ρ c y k)
theorem tr154_all (ρ : Addr → Option Value) (k : Nat) : (tr154 ρ (evCY (cx ρ) k).1 (evCY (cx ρ) k).2 k).All fun f h => h = fun lim args H => (evCY (cx ρ) (k + 1)).1 lim f args H :=
  ⟨ar2_eq (F := fun lim args H => (evCY (cx ρ) (k + 1)).1 lim 154 args H) (slow_at (cx ρ) k 154) (fun lim a0 a1 H => E154 ρ k lim a0 a1 H), tr153_all ρ k, tr155_all ρ k⟩
noncomputable def tr146 (ρ : Addr → Option Value) (c : CallF) (y : YieldF) (k : Nat) : DT := .node 146 (ar1 (fun lim a0 H => L146 ρ c y lim k a0 H) (fun lim args H => slowF (cx ρ) c y k lim 146 args H)) (tr143 ρ c y k) (tr154 ρ c y k)
theorem tr146_all (ρ : Addr → Option Value) (k : Nat) : (tr146 ρ (evCY (cx ρ) k).1 (evCY (cx ρ) k).2 k).All fun f h => h = fun lim args H => (evCY (cx ρ) (k + 1)).1 lim f args H :=
  ⟨ar1_eq (F := fun lim args H => (evCY (cx ρ) (k + 1)).1 lim 146 args H) (slow_at (cx ρ) k 146) (fun lim a0 H => E146 ρ k lim a0 H), tr143_all ρ k, tr154_all ρ k⟩
noncomputable def tr157 (ρ : Addr → Option Value) (c : CallF) (y : YieldF) (k : Nat) : DT := .node 157 (ar1 (fun lim a0 H => L157 ρ c y lim k a0 H) (fun lim args H => slowF (cx ρ) c y k lim 157 args H)) .leaf .leaf
theorem tr157_all (ρ : Addr → Option Value) (k : Nat) : (tr157 ρ (evCY (cx ρ) k).1 (evCY (cx ρ) k).2 k).All fun f h => h = fun lim args H => (evCY (cx ρ) (k + 1)).1 lim f args H :=
  ⟨ar1_eq (F := fun lim args H => (evCY (cx ρ) (k + 1)).1 lim 157 args H) (slow_at (cx ρ) k 157) (fun lim a0 H => E157 ρ k lim a0 H), trivial, trivial⟩
noncomputable def tr158 (ρ : Addr → Option Value) (c : CallF) (y : YieldF) (k : Nat) : DT := .node 158 (ar1 (fun lim a0 H => L158 ρ c y lim k a0 H) (fun lim args H => slowF (cx ρ) c y k lim 158 args H)) (tr157 ρ c y k) .leaf
theorem tr158_all (ρ : Addr → Option Value) (k : Nat) : (tr158 ρ (evCY (cx ρ) k).1 (evCY (cx ρ) k).2 k).All fun f h => h = fun lim args H => (evCY (cx ρ) (k + 1)).1 lim f args H :=
  ⟨ar1_eq (F := fun lim args H => (evCY (cx ρ) (k + 1)).1 lim 158 args H) (slow_at (cx ρ) k 158) (fun lim a0 H => E158 ρ k lim a0 H), tr157_all ρ k, trivial⟩
noncomputable def tr160 (ρ : Addr → Option Value) (c : CallF) (y : YieldF) (k : Nat) : DT := .node 160 (ar2 (fun lim a0 a1 H => L160 ρ c y lim k a0 a1 H) (fun lim args H => slowF (cx ρ) c y k lim 160 args H)) .leaf .leaf
theorem tr160_all (ρ : Addr → Option Value) (k : Nat) : (tr160 ρ (evCY (cx ρ) k).1 (evCY (cx ρ) k).2 k).All fun f h => h = fun lim args H => (evCY (cx ρ) (k + 1)).1 lim f args H :=
  ⟨ar2_eq (F := fun lim args H => (evCY (cx ρ) (k + 1)).1 lim 160 args H) (slow_at (cx ρ) k 160) (fun lim a0 a1 H => E160 ρ k lim a0 a1 H), trivial, trivial⟩
noncomputable def tr161 (ρ : Addr → Option Value) (c : CallF) (y : YieldF) (k : Nat) : DT := .node 161 (ar1 (fun lim a0 H => L161 ρ c y lim k a0 H) (fun lim args H => slowF (cx ρ) c y k lim 161 args H)) (tr160 ρ c y k) .leaf
theorem tr161_all (ρ : Addr → Option Value) (k : Nat) : (tr161 ρ (evCY (cx ρ) k).1 (evCY (cx ρ) k).2 k).All fun f h => h = fun lim args H => (evCY (cx ρ) (k + 1)).1 lim f args H :=
  ⟨ar1_eq (F := fun lim args H => (evCY (cx ρ) (k + 1)).1 lim 161 args H) (slow_at (cx ρ) k 161) (fun lim a0 H => E161 ρ k lim a0 H), tr160_all ρ k, trivial⟩
noncomputable def tr159 (ρ : Addr → Option Value) (c : CallF) (y : YieldF) (k : Nat) : DT := .node 159 (ar1 (fun lim a0 H => L159 ρ c y lim k a0 H) (fun lim args H => slowF (cx ρ) c y k lim 159 args H)) (tr158 ρ c y k) (tr161 ρ c y k)
theorem tr159_all (ρ : Addr → Option Value) (k : Nat) : (tr159 ρ (evCY (cx ρ) k).1 (evCY (cx ρ) k).2 k).All fun f h => h = fun lim args H => (evCY (cx ρ) (k + 1)).1 lim f args H :=
  ⟨ar1_eq (F := fun lim args H => (evCY (cx ρ) (k + 1)).1 lim 159 args H) (slow_at (cx ρ) k 159) (fun lim a0 H => E159 ρ k lim a0 H), tr158_all ρ k, tr161_all ρ k⟩
noncomputable def tr163 (ρ : Addr → Option Value) (c : CallF) (y : YieldF) (k : Nat) : DT := .node 163 (ar1 (fun lim a0 H => L163 ρ c y lim k a0 H) (fun lim args H => slowF (cx ρ) c y k lim 163 args H)) .leaf .leaf
theorem tr163_all (ρ : Addr → Option Value) (k : Nat) : (tr163 ρ (evCY (cx ρ) k).1 (evCY (cx ρ) k).2 k).All fun f h => h = fun lim args H => (evCY (cx ρ) (k + 1)).1 lim f args H :=
  ⟨ar1_eq (F := fun lim args H => (evCY (cx ρ) (k + 1)).1 lim 163 args H) (slow_at (cx ρ) k 163) (fun lim a0 H => E163 ρ k lim a0 H), trivial, trivial⟩
noncomputable def tr165 (ρ : Addr → Option Value) (c : CallF) (y : YieldF) (k : Nat) : DT := .node 165 (ar1 (fun lim a0 H => L165 ρ c y lim k a0 H) (fun lim args H => slowF (cx ρ) c y k lim 165 args H)) (tr163 ρ c y k) .leaf
theorem tr165_all (ρ : Addr → Option Value) (k : Nat) : (tr165 ρ (evCY (cx ρ) k).1 (evCY (cx ρ) k).2 k).All fun f h => h = fun lim args H => (evCY (cx ρ) (k + 1)).1 lim f args H :=
  ⟨ar1_eq (F := fun lim args H => (evCY (cx ρ) (k + 1)).1 lim 165 args H) (slow_at (cx ρ) k 165) (fun lim a0 H => E165 ρ k lim a0 H), tr163_all ρ k, trivial⟩
noncomputable def tr168 (ρ : Addr → Option Value) (c : CallF) (y : YieldF) (k : Nat) : DT := .node 168 (ar2 (fun lim a0 a1 H => L168 ρ c y lim k a0 a1 H) (fun lim args H => slowF (cx ρ) c y k lim 168 args H)) .leaf .leaf
theorem tr168_all (ρ : Addr → Option Value) (k : Nat) : (tr168 ρ (evCY (cx ρ) k).1 (evCY (cx ρ) k).2 k).All fun f h => h = fun lim args H => (evCY (cx ρ) (k + 1)).1 lim f args H :=
  ⟨ar2_eq (F := fun lim args H => (evCY (cx ρ) (k + 1)).1 lim 168 args H) (slow_at (cx ρ) k 168) (fun lim a0 a1 H => E168 ρ k lim a0 a1 H), trivial, trivial⟩
noncomputable def tr167 (ρ : Addr → Option Value) (c : CallF) (y : YieldF) (k : Nat) : DT := .node 167 (ar1 (fun lim a0 H => L167 ρ c y lim k a0 H) (fun lim args H => slowF (cx ρ) c y k lim 167 args H)) (tr165 ρ c y k) (tr168 ρ c y k)
theorem tr167_all (ρ : Addr → Option Value) (k : Nat) : (tr167 ρ (evCY (cx ρ) k).1 (evCY (cx ρ) k).2 k).All fun f h => h = fun lim args H => (evCY (cx ρ) (k + 1)).1 lim f args H :=
  ⟨ar1_eq (F := fun lim args H => (evCY (cx ρ) (k + 1)).1 lim 167 args H) (slow_at (cx ρ) k 167) (fun lim a0 H => E167 ρ k lim a0 H), tr165_all ρ k, tr168_all ρ k⟩
noncomputable def tr162 (ρ : Addr → Option Value) (c : CallF) (y : YieldF) (k : Nat) : DT := .node 162 (ar3 (fun lim a0 a1 a2 H => L162 ρ c y lim k a0 a1 a2 H) (fun lim args H => slowF (cx ρ) c y k lim 162 args H)) (tr159 ρ c y k) (tr167 ρ c y k)
theorem tr162_all (ρ : Addr → Option Value) (k : Nat) : (tr162 ρ (evCY (cx ρ) k).1 (evCY (cx ρ) k).2 k).All fun f h => h = fun lim args H => (evCY (cx ρ) (k + 1)).1 lim f args H :=
  ⟨ar3_eq (F := fun lim args H => (evCY (cx ρ) (k + 1)).1 lim 162 args H) (slow_at (cx ρ) k 162) (fun lim a0 a1 a2 H => E162 ρ k lim a0 a1 a2 H), tr159_all ρ k, tr167_all ρ k⟩
noncomputable def tr156 (ρ : Addr → Option Value) (c : CallF) (y : YieldF) (k : Nat) : DT := .node 156 (ar1 (fun lim a0 H => L156 ρ c y lim k a0 H) (fun lim args H => slowF (cx ρ) c y k lim 156 args H)) (tr146 ρ c y k) (tr162 ρ c y k)
theorem tr156_all (ρ : Addr → Option Value) (k : Nat) : (tr156 ρ (evCY (cx ρ) k).1 (evCY (cx ρ) k).2 k).All fun f h => h = fun lim args H => (evCY (cx ρ) (k + 1)).1 lim f args H :=
  ⟨ar1_eq (F := fun lim args H => (evCY (cx ρ) (k + 1)).1 lim 156 args H) (slow_at (cx ρ) k 156) (fun lim a0 H => E156 ρ k lim a0 H), tr146_all ρ k, tr162_all ρ k⟩
noncomputable def tr118 (ρ : Addr → Option Value) (c : CallF) (y : YieldF) (k : Nat) : DT := .node 118 (ar1 (fun lim a0 H => L118 ρ c y lim k a0 H) (fun lim args H => slowF (cx ρ) c y k lim 118 args H)) (tr93 ρ c y k) (tr156 ρ c y k)
theorem tr118_all (ρ : Addr → Option Value) (k : Nat) : (tr118 ρ (evCY (cx ρ) k).1 (evCY (cx ρ) k).2 k).All fun f h => h = fun lim args H => (evCY (cx ρ) (k + 1)).1 lim f args H :=
  ⟨ar1_eq (F := fun lim args H => (evCY (cx ρ) (k + 1)).1 lim 118 args H) (slow_at (cx ρ) k 118) (fun lim a0 H => E118 ρ k lim a0 H), tr93_all ρ k, tr156_all ρ k⟩
noncomputable def tr57 (ρ : Addr → Option Value) (c : CallF) (y : YieldF) (k : Nat) : DT := .node 57 (ar1 (fun lim a0 H => L57 ρ c y lim k a0 H) (fun lim args H => slowF (cx ρ) c y k lim 57 args H)) (tr25 ρ c y k) (tr118 ρ c y k)
theorem tr57_all (ρ : Addr → Option Value) (k : Nat) : (tr57 ρ (evCY (cx ρ) k).1 (evCY (cx ρ) k).2 k).All fun f h => h = fun lim args H => (evCY (cx ρ) (k + 1)).1 lim f args H :=
  ⟨ar1_eq (F := fun lim args H => (evCY (cx ρ) (k + 1)).1 lim 57 args H) (slow_at (cx ρ) k 57) (fun lim a0 H => E57 ρ k lim a0 H), tr25_all ρ k, tr118_all ρ k⟩
noncomputable def tr172 (ρ : Addr → Option Value) (c : CallF) (y : YieldF) (k : Nat) : DT := .node 172 (ar2 (fun lim a0 a1 H => L172 ρ c y lim k a0 a1 H) (fun lim args H => slowF (cx ρ) c y k lim 172 args H)) .leaf .leaf
theorem tr172_all (ρ : Addr → Option Value) (k : Nat) : (tr172 ρ (evCY (cx ρ) k).1 (evCY (cx ρ) k).2 k).All fun f h => h = fun lim args H => (evCY (cx ρ) (k + 1)).1 lim f args H :=
  ⟨ar2_eq (F := fun lim args H => (evCY (cx ρ) (k + 1)).1 lim 172 args H) (slow_at (cx ρ) k 172) (fun lim a0 a1 H => E172 ρ k lim a0 a1 H), trivial, trivial⟩
noncomputable def tr175 (ρ : Addr → Option Value) (c : CallF) (y : YieldF) (k : Nat) : DT := .node 175 (ar2 (fun lim a0 a1 H => L175 ρ c y lim k a0 a1 H) (fun lim args H => slowF (cx ρ) c y k lim 175 args H)) (tr172 ρ c y k) .leaf
theorem tr175_all (ρ : Addr → Option Value) (k : Nat) : (tr175 ρ (evCY (cx ρ) k).1 (evCY (cx ρ) k).2 k).All fun f h => h = fun lim args H => (evCY (cx ρ) (k + 1)).1 lim f args H :=
  ⟨ar2_eq (F := fun lim args H => (evCY (cx ρ) (k + 1)).1 lim 175 args H) (slow_at (cx ρ) k 175) (fun lim a0 a1 H => E175 ρ k lim a0 a1 H), tr172_all ρ k, trivial⟩
noncomputable def tr177 (ρ : Addr → Option Value) (c : CallF) (y : YieldF) (k : Nat) : DT := .node 177 (ar2 (fun lim a0 a1 H => L177 ρ c y lim k a0 a1 H) (fun lim args H => slowF (cx ρ) c y k lim 177 args H)) .leaf .leaf
theorem tr177_all (ρ : Addr → Option Value) (k : Nat) : (tr177 ρ (evCY (cx ρ) k).1 (evCY (cx ρ) k).2 k).All fun f h => h = fun lim args H => (evCY (cx ρ) (k + 1)).1 lim f args H :=
  ⟨ar2_eq (F := fun lim args H => (evCY (cx ρ) (k + 1)).1 lim 177 args H) (slow_at (cx ρ) k 177) (fun lim a0 a1 H => E177 ρ k lim a0 a1 H), trivial, trivial⟩
noncomputable def tr178 (ρ : Addr → Option Value) (c : CallF) (y : YieldF) (k : Nat) : DT := .node 178 (ar1 (fun lim a0 H => L178 ρ c y lim k a0 H) (fun lim args H => slowF (cx ρ) c y k lim 178 args H)) (tr177 ρ c y k) .leaf
theorem tr178_all (ρ : Addr → Option Value) (k : Nat) : (tr178 ρ (evCY (cx ρ) k).1 (evCY (cx ρ) k).2 k).All fun f h => h = fun lim args H => (evCY (cx ρ) (k + 1)).1 lim f args H :=
  ⟨ar1_eq (F := fun lim args H => (evCY (cx ρ) (k + 1)).1 lim 178 args H) (slow_at (cx ρ) k 178) (fun lim a0 H => E178 ρ k lim a0 H), tr177_all ρ k, trivial⟩
noncomputable def tr176 (ρ : Addr → Option Value) (c : CallF) (y : YieldF) (k : Nat) : DT := .node 176 (ar3 (fun lim a0 a1 a2 H => L176 ρ c y lim k a0 a1 a2 H) (fun lim args H => slowF (cx ρ) c y k lim 176 args H)) (tr175 ρ c y k) (tr178 ρ c y k)
theorem tr176_all (ρ : Addr → Option Value) (k : Nat) : (tr176 ρ (evCY (cx ρ) k).1 (evCY (cx ρ) k).2 k).All fun f h => h = fun lim args H => (evCY (cx ρ) (k + 1)).1 lim f args H :=
  ⟨ar3_eq (F := fun lim args H => (evCY (cx ρ) (k + 1)).1 lim 176 args H) (slow_at (cx ρ) k 176) (fun lim a0 a1 a2 H => E176 ρ k lim a0 a1 a2 H), tr175_all ρ k, tr178_all ρ k⟩
noncomputable def tr185 (ρ : Addr → Option Value) (c : CallF) (y : YieldF) (k : Nat) : DT := .node 185 (ar1 (fun lim a0 H => L185 ρ c y lim k a0 H) (fun lim args H => slowF (cx ρ) c y k lim 185 args H)) .leaf .leaf
theorem tr185_all (ρ : Addr → Option Value) (k : Nat) : (tr185 ρ (evCY (cx ρ) k).1 (evCY (cx ρ) k).2 k).All fun f h => h = fun lim args H => (evCY (cx ρ) (k + 1)).1 lim f args H :=
  ⟨ar1_eq (F := fun lim args H => (evCY (cx ρ) (k + 1)).1 lim 185 args H) (slow_at (cx ρ) k 185) (fun lim a0 H => E185 ρ k lim a0 H), trivial, trivial⟩
noncomputable def tr186 (ρ : Addr → Option Value) (c : CallF) (y : YieldF) (k : Nat) : DT := .node 186 (ar3 (fun lim a0 a1 a2 H => L186 ρ c y lim k a0 a1 a2 H) (fun lim args H => slowF (cx ρ) c y k lim 186 args H)) (tr185 ρ c y k) .leaf
theorem tr186_all (ρ : Addr → Option Value) (k : Nat) : (tr186 ρ (evCY (cx ρ) k).1 (evCY (cx ρ) k).2 k).All fun f h => h = fun lim args H => (evCY (cx ρ) (k + 1)).1 lim f args H :=
  ⟨ar3_eq (F := fun lim args H => (evCY (cx ρ) (k + 1)).1 lim 186 args H) (slow_at (cx ρ) k 186) (fun lim a0 a1 a2 H => E186 ρ k lim a0 a1 a2 H), tr185_all ρ k, trivial⟩
noncomputable def tr218 (ρ : Addr → Option Value) (c : CallF) (y : YieldF) (k : Nat) : DT := .node 218 (ar1 (fun lim a0 H => L218 ρ c y lim k a0 H) (fun lim args H => slowF (cx ρ) c y k lim 218 args H)) .leaf .leaf
theorem tr218_all (ρ : Addr → Option Value) (k : Nat) : (tr218 ρ (evCY (cx ρ) k).1 (evCY (cx ρ) k).2 k).All fun f h => h = fun lim args H => (evCY (cx ρ) (k + 1)).1 lim f args H :=
  ⟨ar1_eq (F := fun lim args H => (evCY (cx ρ) (k + 1)).1 lim 218 args H) (slow_at (cx ρ) k 218) (fun lim a0 H => E218 ρ k lim a0 H), trivial, trivial⟩
noncomputable def tr189 (ρ : Addr → Option Value) (c : CallF) (y : YieldF) (k : Nat) : DT := .node 189 (ar2 (fun lim a0 a1 H => L189 ρ c y lim k a0 a1 H) (fun lim args H => slowF (cx ρ) c y k lim 189 args H)) (tr186 ρ c y k) (tr218 ρ c y k)
theorem tr189_all (ρ : Addr → Option Value) (k : Nat) : (tr189 ρ (evCY (cx ρ) k).1 (evCY (cx ρ) k).2 k).All fun f h => h = fun lim args H => (evCY (cx ρ) (k + 1)).1 lim f args H :=
  ⟨ar2_eq (F := fun lim args H => (evCY (cx ρ) (k + 1)).1 lim 189 args H) (slow_at (cx ρ) k 189) (fun lim a0 a1 H => E189 ρ k lim a0 a1 H), tr186_all ρ k, tr218_all ρ k⟩
noncomputable def tr181 (ρ : Addr → Option Value) (c : CallF) (y : YieldF) (k : Nat) : DT := .node 181 (ar3 (fun lim a0 a1 a2 H => L181 ρ c y lim k a0 a1 a2 H) (fun lim args H => slowF (cx ρ) c y k lim 181 args H)) (tr176 ρ c y k) (tr189 ρ c y k)
theorem tr181_all (ρ : Addr → Option Value) (k : Nat) : (tr181 ρ (evCY (cx ρ) k).1 (evCY (cx ρ) k).2 k).All fun f h => h = fun lim args H => (evCY (cx ρ) (k + 1)).1 lim f args H :=
  ⟨ar3_eq (F := fun lim args H => (evCY (cx ρ) (k + 1)).1 lim 181 args H) (slow_at (cx ρ) k 181) (fun lim a0 a1 a2 H => E181 ρ k lim a0 a1 a2 H), tr176_all ρ k, tr189_all ρ k⟩
noncomputable def tr225 (ρ : Addr → Option Value) (c : CallF) (y : YieldF) (k : Nat) : DT := .node 225 (ar3 (fun lim a0 a1 a2 H => L225 ρ c y lim k a0 a1 a2 H) (fun lim args H => slowF (cx ρ) c y k lim 225 args H)) .leaf .leaf
theorem tr225_all (ρ : Addr → Option Value) (k : Nat) : (tr225 ρ (evCY (cx ρ) k).1 (evCY (cx ρ) k).2 k).All fun f h => h = fun lim args H => (evCY (cx ρ) (k + 1)).1 lim f args H :=
  ⟨ar3_eq (F := fun lim args H => (evCY (cx ρ) (k + 1)).1 lim 225 args H) (slow_at (cx ρ) k 225) (fun lim a0 a1 a2 H => E225 ρ k lim a0 a1 a2 H), trivial, trivial⟩
noncomputable def tr233 (ρ : Addr → Option Value) (c : CallF) (y : YieldF) (k : Nat) : DT := .node 233 (ar2 (fun lim a0 a1 H => L233 ρ c y lim k a0 a1 H) (fun lim args H => slowF (cx ρ) c y k lim 233 args H)) (tr225 ρ c y k) .leaf
theorem tr233_all (ρ : Addr → Option Value) (k : Nat) : (tr233 ρ (evCY (cx ρ) k).1 (evCY (cx ρ) k).2 k).All fun f h => h = fun lim args H => (evCY (cx ρ) (k + 1)).1 lim f args H :=
  ⟨ar2_eq (F := fun lim args H => (evCY (cx ρ) (k + 1)).1 lim 233 args H) (slow_at (cx ρ) k 233) (fun lim a0 a1 H => E233 ρ k lim a0 a1 H), tr225_all ρ k, trivial⟩
noncomputable def tr235 (ρ : Addr → Option Value) (c : CallF) (y : YieldF) (k : Nat) : DT := .node 235 (ar1 (fun lim a0 H => L235 ρ c y lim k a0 H) (fun lim args H => slowF (cx ρ) c y k lim 235 args H)) .leaf .leaf
theorem tr235_all (ρ : Addr → Option Value) (k : Nat) : (tr235 ρ (evCY (cx ρ) k).1 (evCY (cx ρ) k).2 k).All fun f h => h = fun lim args H => (evCY (cx ρ) (k + 1)).1 lim f args H :=
  ⟨ar1_eq (F := fun lim args H => (evCY (cx ρ) (k + 1)).1 lim 235 args H) (slow_at (cx ρ) k 235) (fun lim a0 H => E235 ρ k lim a0 H), trivial, trivial⟩
noncomputable def tr236 (ρ : Addr → Option Value) (c : CallF) (y : YieldF) (k : Nat) : DT := .node 236 (ar0 (fun lim H => L236 ρ c y lim k H) (fun lim args H => slowF (cx ρ) c y k lim 236 args H)) (tr235 ρ c y k) .leaf
theorem tr236_all (ρ : Addr → Option Value) (k : Nat) : (tr236 ρ (evCY (cx ρ) k).1 (evCY (cx ρ) k).2 k).All fun f h => h = fun lim args H => (evCY (cx ρ) (k + 1)).1 lim f args H :=
  ⟨ar0_eq (F := fun lim args H => (evCY (cx ρ) (k + 1)).1 lim 236 args H) (slow_at (cx ρ) k 236) (fun lim H => E236 ρ k lim H), tr235_all ρ k, trivial⟩
noncomputable def tr234 (ρ : Addr → Option Value) (c : CallF) (y : YieldF) (k : Nat) : DT := .node 234 (ar2 (fun lim a0 a1 H => L234 ρ c y lim k a0 a1 H) (fun lim args H => slowF (cx ρ) c y k lim 234 args H)) (tr233 ρ c y k) (tr236 ρ c y k)
theorem tr234_all (ρ : Addr → Option Value) (k : Nat) : (tr234 ρ (evCY (cx ρ) k).1 (evCY (cx ρ) k).2 k).All fun f h => h = fun lim args H => (evCY (cx ρ) (k + 1)).1 lim f args H :=
  ⟨ar2_eq (F := fun lim args H => (evCY (cx ρ) (k + 1)).1 lim 234 args H) (slow_at (cx ρ) k 234) (fun lim a0 a1 H => E234 ρ k lim a0 a1 H), tr233_all ρ k, tr236_all ρ k⟩
noncomputable def tr238 (ρ : Addr → Option Value) (c : CallF) (y : YieldF) (k : Nat) : DT := .node 238 (ar2 (fun lim a0 a1 H => L238 ρ c y lim k a0 a1 H) (fun lim args H => slowF (cx ρ) c y k lim 238 args H)) .leaf .leaf
theorem tr238_all (ρ : Addr → Option Value) (k : Nat) : (tr238 ρ (evCY (cx ρ) k).1 (evCY (cx ρ) k).2 k).All fun f h => h = fun lim args H => (evCY (cx ρ) (k + 1)).1 lim f args H :=
  ⟨ar2_eq (F := fun lim args H => (evCY (cx ρ) (k + 1)).1 lim 238 args H) (slow_at (cx ρ) k 238) (fun lim a0 a1 H => E238 ρ k lim a0 a1 H), trivial, trivial⟩
noncomputable def tr239 (ρ : Addr → Option Value) (c : CallF) (y : YieldF) (k : Nat) : DT := .node 239 (ar1 (fun lim a0 H => L239 ρ c y lim k a0 H) (fun lim args H => slowF (cx ρ) c y k lim 239 args H)) (tr238 ρ c y k) .leaf
theorem tr239_all (ρ : Addr → Option Value) (k : Nat) : (tr239 ρ (evCY (cx ρ) k).1 (evCY (cx ρ) k).2 k).All fun f h => h = fun lim args H => (evCY (cx ρ) (k + 1)).1 lim f args H :=
  ⟨ar1_eq (F := fun lim args H => (evCY (cx ρ) (k + 1)).1 lim 239 args H) (slow_at (cx ρ) k 239) (fun lim a0 H => E239 ρ k lim a0 H), tr238_all ρ k, trivial⟩
noncomputable def tr241 (ρ : Addr → Option Value) (c : CallF) (y : YieldF) (k : Nat) : DT := .node 241 (ar2 (fun lim a0 a1 H => L241 ρ c y lim k a0 a1 H) (fun lim args H => slowF (cx ρ) c y k lim 241 args H)) .leaf .leaf
theorem tr241_all (ρ : Addr → Option Value) (k : Nat) : (tr241 ρ (evCY (cx ρ) k).1 (evCY (cx ρ) k).2 k).All fun f h => h = fun lim args H => (evCY (cx ρ) (k + 1)).1 lim f args H :=
  ⟨ar2_eq (F := fun lim args H => (evCY (cx ρ) (k + 1)).1 lim 241 args H) (slow_at (cx ρ) k 241) (fun lim a0 a1 H => E241 ρ k lim a0 a1 H), trivial, trivial⟩
noncomputable def tr240 (ρ : Addr → Option Value) (c : CallF) (y : YieldF) (k : Nat) : DT := .node 240 (ar2 (fun lim a0 a1 H => L240 ρ c y lim k a0 a1 H) (fun lim args H => slowF (cx ρ) c y k lim 240 args H)) (tr239 ρ c y k) (tr241 ρ c y k)
theorem tr240_all (ρ : Addr → Option Value) (k : Nat) : (tr240 ρ (evCY (cx ρ) k).1 (evCY (cx ρ) k).2 k).All fun f h => h = fun lim args H => (evCY (cx ρ) (k + 1)).1 lim f args H :=
  ⟨ar2_eq (F := fun lim args H => (evCY (cx ρ) (k + 1)).1 lim 240 args H) (slow_at (cx ρ) k 240) (fun lim a0 a1 H => E240 ρ k lim a0 a1 H), tr239_all ρ k, tr241_all ρ k⟩
noncomputable def tr237 (ρ : Addr → Option Value) (c : CallF) (y : YieldF) (k : Nat) : DT := .node 237 (ar0 (fun lim H => L237 ρ c y lim k H) (fun lim args H => slowF (cx ρ) c y k lim 237 args H)) (tr234 ρ c y k) (tr240 ρ c y k)
theorem tr237_all (ρ : Addr → Option Value) (k : Nat) : (tr237 ρ (evCY (cx ρ) k).1 (evCY (cx ρ) k).2 k).All fun f h => h = fun lim args H => (evCY (cx ρ) (k + 1)).1 lim f args H :=
  ⟨ar0_eq (F := fun lim args H => (evCY (cx ρ) (k + 1)).1 lim 237 args H) (slow_at (cx ρ) k 237) (fun lim H => E237 ρ k lim H), tr234_all ρ k, tr240_all ρ k⟩
noncomputable def tr221 (ρ : Addr → Option Value) (c : CallF) (y : YieldF) (k : Nat) : DT := .node 221 (ar4 (fun lim a0 a1 a2 a3 H => L221 ρ c y lim k a0 a1 a2 a3 H) (fun lim args H => slowF (cx ρ) c y k lim 221 args H)) (tr181 ρ c y k) (tr237 ρ c y k)
theorem tr221_all (ρ : Addr → Option Value) (k : Nat) : (tr221 ρ (evCY (cx ρ) k).1 (evCY (cx ρ) k).2 k).All fun f h => h = fun lim args H => (evCY (cx ρ) (k + 1)).1 lim f args H :=
  ⟨ar4_eq (F := fun lim args H => (evCY (cx ρ) (k + 1)).1 lim 221 args H) (slow_at (cx ρ) k 221) (fun lim a0 a1 a2 a3 H => E221 ρ k lim a0 a1 a2 a3 H), tr181_all ρ k, tr237_all ρ k⟩
noncomputable def tr243 (ρ : Addr → Option Value) (c : CallF) (y : YieldF) (k : Nat) : DT := .node 243 (ar1 (fun lim a0 H => L243 ρ c y lim k a0 H) (fun lim args H => slowF (cx ρ) c y k lim 243 args H)) .leaf .leaf
theorem tr243_all (ρ : Addr → Option Value) (k : Nat) : (tr243 ρ (evCY (cx ρ) k).1 (evCY (cx ρ) k).2 k).All fun f h => h = fun lim args H => (evCY (cx ρ) (k + 1)).1 lim f args H :=
  ⟨ar1_eq (F := fun lim args H => (evCY (cx ρ) (k + 1)).1 lim 243 args H) (slow_at (cx ρ) k 243) (fun lim a0 H => E243 ρ k lim a0 H), trivial, trivial⟩
noncomputable def tr246 (ρ : Addr → Option Value) (c : CallF) (y : YieldF) (k : Nat) : DT := .node 246 (ar2 (fun lim a0 a1 H => L246 ρ c y lim k a0 a1 H) (fun lim args H => slowF (cx ρ) c y k lim 246 args H)) (tr243 ρ c y k) .leaf
theorem tr246_all (ρ : Addr → Option Value) (k : Nat) : (tr246 ρ (evCY (cx ρ) k).1 (evCY (cx ρ) k).2 k).All fun f h => h = fun lim args H => (evCY (cx ρ) (k + 1)).1 lim f args H :=
  ⟨ar2_eq (F := fun lim args H => (evCY (cx ρ) (k + 1)).1 lim 246 args H) (slow_at (cx ρ) k 246) (fun lim a0 a1 H => E246 ρ k lim a0 a1 H), tr243_all ρ k, trivial⟩
noncomputable def tr248 (ρ : Addr → Option Value) (c : CallF) (y : YieldF) (k : Nat) : DT := .node 248 (ar1 (fun lim a0 H => L248 ρ c y lim k a0 H) (fun lim args H => slowF (cx ρ) c y k lim 248 args H)) .leaf .leaf
theorem tr248_all (ρ : Addr → Option Value) (k : Nat) : (tr248 ρ (evCY (cx ρ) k).1 (evCY (cx ρ) k).2 k).All fun f h => h = fun lim args H => (evCY (cx ρ) (k + 1)).1 lim f args H :=
  ⟨ar1_eq (F := fun lim args H => (evCY (cx ρ) (k + 1)).1 lim 248 args H) (slow_at (cx ρ) k 248) (fun lim a0 H => E248 ρ k lim a0 H), trivial, trivial⟩
noncomputable def tr249 (ρ : Addr → Option Value) (c : CallF) (y : YieldF) (k : Nat) : DT := .node 249 (ar4 (fun lim a0 a1 a2 a3 H => L249 ρ c y lim k a0 a1 a2 a3 H) (fun lim args H => slowF (cx ρ) c y k lim 249 args H)) (tr248 ρ c y k) .leaf
theorem tr249_all (ρ : Addr → Option Value) (k : Nat) : (tr249 ρ (evCY (cx ρ) k).1 (evCY (cx ρ) k).2 k).All fun f h => h = fun lim args H => (evCY (cx ρ) (k + 1)).1 lim f args H :=
  ⟨ar4_eq (F := fun lim args H => (evCY (cx ρ) (k + 1)).1 lim 249 args H) (slow_at (cx ρ) k 249) (fun lim a0 a1 a2 a3 H => E249 ρ k lim a0 a1 a2 a3 H), tr248_all ρ k, trivial⟩
noncomputable def tr247 (ρ : Addr → Option Value) (c : CallF) (y : YieldF) (k : Nat) : DT := .node 247 (ar2 (fun lim a0 a1 H => L247 ρ c y lim k a0 a1 H) (fun lim args H => slowF (cx ρ) c y k lim 247 args H)) (tr246 ρ c y k) (tr249 ρ c y k)
theorem tr247_all (ρ : Addr → Option Value) (k : Nat) : (tr247 ρ (evCY (cx ρ) k).1 (evCY (cx ρ) k).2 k).All fun f h => h = fun lim args H => (evCY (cx ρ) (k + 1)).1 lim f args H :=
  ⟨ar2_eq (F := fun lim args H => (evCY (cx ρ) (k + 1)).1 lim 247 args H) (slow_at (cx ρ) k 247) (fun lim a0 a1 H => E247 ρ k lim a0 a1 H), tr246_all ρ k, tr249_all ρ k⟩
noncomputable def tr255 (ρ : Addr → Option Value) (c : CallF) (y : YieldF) (k : Nat) : DT := .node 255 (ar1 (fun lim a0 H => L255 ρ c y lim k a0 H) (fun lim args H => slowF (cx ρ) c y k lim 255 args H)) .leaf .leaf
theorem tr255_all (ρ : Addr → Option Value) (k : Nat) : (tr255 ρ (evCY (cx ρ) k).1 (evCY (cx ρ) k).2 k).All fun f h => h = fun lim args H => (evCY (cx ρ) (k + 1)).1 lim f args H :=
  ⟨ar1_eq (F := fun lim args H => (evCY (cx ρ) (k + 1)).1 lim 255 args H) (slow_at (cx ρ) k 255) (fun lim a0 H => E255 ρ k lim a0 H), trivial, trivial⟩
noncomputable def tr256 (ρ : Addr → Option Value) (c : CallF) (y : YieldF) (k : Nat) : DT := .node 256 (ar1 (fun lim a0 H => L256 ρ c y lim k a0 H) (fun lim args H => slowF (cx ρ) c y k lim 256 args H)) (tr255 ρ c y k) .leaf
theorem tr256_all (ρ : Addr → Option Value) (k : Nat) : (tr256 ρ (evCY (cx ρ) k).1 (evCY (cx ρ) k).2 k).All fun f h => h = fun lim args H => (evCY (cx ρ) (k + 1)).1 lim f args H :=
  ⟨ar1_eq (F := fun lim args H => (evCY (cx ρ) (k + 1)).1 lim 256 args H) (slow_at (cx ρ) k 256) (fun lim a0 H => E256 ρ k lim a0 H), tr255_all ρ k, trivial⟩
noncomputable def tr258 (ρ : Addr → Option Value) (c : CallF) (y : YieldF) (k : Nat) : DT := .node 258 (ar1 (fun lim a0 H => L258 ρ c y lim k a0 H) (fun lim args H => slowF (cx ρ) c y k lim 258 args H)) .leaf .leaf
theorem tr258_all (ρ : Addr → Option Value) (k : Nat) : (tr258 ρ (evCY (cx ρ) k).1 (evCY (cx ρ) k).2 k).All fun f h => h = fun lim args H => (evCY (cx ρ) (k + 1)).1 lim f args H :=
  ⟨ar1_eq (F := fun lim args H => (evCY (cx ρ) (k + 1)).1 lim 258 args H) (slow_at (cx ρ) k 258) (fun lim a0 H => E258 ρ k lim a0 H), trivial, trivial⟩
noncomputable def tr257 (ρ : Addr → Option Value) (c : CallF) (y : YieldF) (k : Nat) : DT := .node 257 (ar2 (fun lim a0 a1 H => L257 ρ c y lim k a0 a1 H) (fun lim args H => slowF (cx ρ) c y k lim 257 args H)) (tr256 ρ c y k) (tr258 ρ c y k)
theorem tr257_all (ρ : Addr → Option Value) (k : Nat) : (tr257 ρ (evCY (cx ρ) k).1 (evCY (cx ρ) k).2 k).All fun f h => h = fun lim args H => (evCY (cx ρ) (k + 1)).1 lim f args H :=
  ⟨ar2_eq (F := fun lim args H => (evCY (cx ρ) (k + 1)).1 lim 257 args H) (slow_at (cx ρ) k 257) (fun lim a0 a1 H => E257 ρ k lim a0 a1 H), tr256_all ρ k, tr258_all ρ k⟩
noncomputable def tr251 (ρ : Addr → Option Value) (c : CallF) (y : YieldF) (k : Nat) : DT := .node 251 (ar2 (fun lim a0 a1 H => L251 ρ c y lim k a0 a1 H) (fun lim args H => slowF (cx ρ) c y k lim 251 args H)) (tr247 ρ c y k) (tr257 ρ c y k)
theorem tr251_all (ρ : Addr → Option Value) (k : Nat) : (tr251 ρ (evCY (cx ρ) k).1 (evCY (cx ρ) k).2 k).All fun f h => h = fun lim args H => (evCY (cx ρ) (k + 1)).1 lim f args H :=
  ⟨ar2_eq (F := fun lim args H => (evCY (cx ρ) (k + 1)).1 lim 251 args H) (slow_at (cx ρ) k 251) (fun lim a0 a1 H => E251 ρ k lim a0 a1 H), tr247_all ρ k, tr257_all ρ k⟩
noncomputable def tr267 (ρ : Addr → Option Value) (c : CallF) (y : YieldF) (k : Nat) : DT := .node 267 (ar2 (fun lim a0 a1 H => L267 ρ c y lim k a0 a1 H) (fun lim args H => slowF (cx ρ) c y k lim 267 args H)) .leaf .leaf
theorem tr267_all (ρ : Addr → Option Value) (k : Nat) : (tr267 ρ (evCY (cx ρ) k).1 (evCY (cx ρ) k).2 k).All fun f h => h = fun lim args H => (evCY (cx ρ) (k + 1)).1 lim f args H :=
  ⟨ar2_eq (F := fun lim args H => (evCY (cx ρ) (k + 1)).1 lim 267 args H) (slow_at (cx ρ) k 267) (fun lim a0 a1 H => E267 ρ k lim a0 a1 H), trivial, trivial⟩
noncomputable def tr271 (ρ : Addr → Option Value) (c : CallF) (y : YieldF) (k : Nat) : DT := .node 271 (ar1 (fun lim a0 H => L271 ρ c y lim k a0 H) (fun lim args H => slowF (cx ρ) c y k lim 271 args H)) (tr267 ρ c y k) .leaf
theorem tr271_all (ρ : Addr → Option Value) (k : Nat) : (tr271 ρ (evCY (cx ρ) k).1 (evCY (cx ρ) k).2 k).All fun f h => h = fun lim args H => (evCY (cx ρ) (k + 1)).1 lim f args H :=
  ⟨ar1_eq (F := fun lim args H => (evCY (cx ρ) (k + 1)).1 lim 271 args H) (slow_at (cx ρ) k 271) (fun lim a0 H => E271 ρ k lim a0 H), tr267_all ρ k, trivial⟩
noncomputable def tr273 (ρ : Addr → Option Value) (c : CallF) (y : YieldF) (k : Nat) : DT := .node 273 (ar1 (fun lim a0 H => L273 ρ c y lim k a0 H) (fun lim args H => slowF (cx ρ) c y k lim 273 args H)) .leaf .leaf
theorem tr273_all (ρ : Addr → Option Value) (k : Nat) : (tr273 ρ (evCY (cx ρ) k).1 (evCY (cx ρ) k).2 k).All fun f h => h = fun lim args H => (evCY (cx ρ) (k + 1)).1 lim f args H :=
  ⟨ar1_eq (F := fun lim args H => (evCY (cx ρ) (k + 1)).1 lim 273 args H) (slow_at (cx ρ) k 273) (fun lim a0 H => E273 ρ k lim a0 H), trivial, trivial⟩
noncomputable def tr274 (ρ : Addr → Option Value) (c : CallF) (y : YieldF) (k : Nat) : DT := .node 274 (ar3 (fun lim a0 a1 a2 H => L274 ρ c y lim k a0 a1 a2 H) (fun lim args H => slowF (cx ρ) c y k lim 274 args H)) (tr273 ρ c y k) .leaf
theorem tr274_all (ρ : Addr → Option Value) (k : Nat) : (tr274 ρ (evCY (cx ρ) k).1 (evCY (cx ρ) k).2 k).All fun f h => h = fun lim args H => (evCY (cx ρ) (k + 1)).1 lim f args H :=
  ⟨ar3_eq (F := fun lim args H => (evCY (cx ρ) (k + 1)).1 lim 274 args H) (slow_at (cx ρ) k 274) (fun lim a0 a1 a2 H => E274 ρ k lim a0 a1 a2 H), tr273_all ρ k, trivial⟩
noncomputable def tr272 (ρ : Addr → Option Value) (c : CallF) (y : YieldF) (k : Nat) : DT := .node 272 (ar2 (fun lim a0 a1 H => L272 ρ c y lim k a0 a1 H) (fun lim args H => slowF (cx ρ) c y k lim 272 args H)) (tr271 ρ c y k) (tr274 ρ c y k)
theorem tr272_all (ρ : Addr → Option Value) (k : Nat) : (tr272 ρ (evCY (cx ρ) k).1 (evCY (cx ρ) k).2 k).All fun f h => h = fun lim args H => (evCY (cx ρ) (k + 1)).1 lim f args H :=
  ⟨ar2_eq (F := fun lim args H => (evCY (cx ρ) (k + 1)).1 lim 272 args H) (slow_at (cx ρ) k 272) (fun lim a0 a1 H => E272 ρ k lim a0 a1 H), tr271_all ρ k, tr274_all ρ k⟩
noncomputable def tr294 (ρ : Addr → Option Value) (c : CallF) (y : YieldF) (k : Nat) : DT := .node 294 (ar4 (fun lim a0 a1 a2 a3 H => L294 ρ c y lim k a0 a1 a2 a3 H) (fun lim args H => slowF (cx ρ) c y k lim 294 args H)) .leaf .leaf
theorem tr294_all (ρ : Addr → Option Value) (k : Nat) : (tr294 ρ (evCY (cx ρ) k).1 (evCY (cx ρ) k).2 k).All fun f h => h = fun lim args H => (evCY (cx ρ) (k + 1)).1 lim f args H :=
  ⟨ar4_eq (F := fun lim args H => (evCY (cx ρ) (k + 1)).1 lim 294 args H) (slow_at (cx ρ) k 294) (fun lim a0 a1 a2 a3 H => E294 ρ k lim a0 a1 a2 a3 H), trivial, trivial⟩
noncomputable def tr298 (ρ : Addr → Option Value) (c : CallF) (y : YieldF) (k : Nat) : DT := .node 298 (ar2 (fun lim a0 a1 H => L298 ρ c y lim k a0 a1 H) (fun lim args H => slowF (cx ρ) c y k lim 298 args H)) (tr294 ρ c y k) .leaf
theorem tr298_all (ρ : Addr → Option Value) (k : Nat) : (tr298 ρ (evCY (cx ρ) k).1 (evCY (cx ρ) k).2 k).All fun f h => h = fun lim args H => (evCY (cx ρ) (k + 1)).1 lim f args H :=
  ⟨ar2_eq (F := fun lim args H => (evCY (cx ρ) (k + 1)).1 lim 298 args H) (slow_at (cx ρ) k 298) (fun lim a0 a1 H => E298 ρ k lim a0 a1 H), tr294_all ρ k, trivial⟩
noncomputable def tr302 (ρ : Addr → Option Value) (c : CallF) (y : YieldF) (k : Nat) : DT := .node 302 (ar2 (fun lim a0 a1 H => L302 ρ c y lim k a0 a1 H) (fun lim args H => slowF (cx ρ) c y k lim 302 args H)) .leaf .leaf
theorem tr302_all (ρ : Addr → Option Value) (k : Nat) : (tr302 ρ (evCY (cx ρ) k).1 (evCY (cx ρ) k).2 k).All fun f h => h = fun lim args H => (evCY (cx ρ) (k + 1)).1 lim f args H :=
  ⟨ar2_eq (F := fun lim args H => (evCY (cx ρ) (k + 1)).1 lim 302 args H) (slow_at (cx ρ) k 302) (fun lim a0 a1 H => E302 ρ k lim a0 a1 H), trivial, trivial⟩
noncomputable def tr301 (ρ : Addr → Option Value) (c : CallF) (y : YieldF) (k : Nat) : DT := .node 301 (ar4 (fun lim a0 a1 a2 a3 H => L301 ρ c y lim k a0 a1 a2 a3 H) (fun lim args H => slowF (cx ρ) c y k lim 301 args H)) (tr298 ρ c y k) (tr302 ρ c y k)
theorem tr301_all (ρ : Addr → Option Value) (k : Nat) : (tr301 ρ (evCY (cx ρ) k).1 (evCY (cx ρ) k).2 k).All fun f h => h = fun lim args H => (evCY (cx ρ) (k + 1)).1 lim f args H :=
  ⟨ar4_eq (F := fun lim args H => (evCY (cx ρ) (k + 1)).1 lim 301 args H) (slow_at (cx ρ) k 301) (fun lim a0 a1 a2 a3 H => E301 ρ k lim a0 a1 a2 a3 H), tr298_all ρ k, tr302_all ρ k⟩
noncomputable def tr284 (ρ : Addr → Option Value) (c : CallF) (y : YieldF) (k : Nat) : DT := .node 284 (ar3 (fun lim a0 a1 a2 H => L284 ρ c y lim k a0 a1 a2 H) (fun lim args H => slowF (cx ρ) c y k lim 284 args H)) (tr272 ρ c y k) (tr301 ρ c y k)
theorem tr284_all (ρ : Addr → Option Value) (k : Nat) : (tr284 ρ (evCY (cx ρ) k).1 (evCY (cx ρ) k).2 k).All fun f h => h = fun lim args H => (evCY (cx ρ) (k + 1)).1 lim f args H :=
  ⟨ar3_eq (F := fun lim args H => (evCY (cx ρ) (k + 1)).1 lim 284 args H) (slow_at (cx ρ) k 284) (fun lim a0 a1 a2 H => E284 ρ k lim a0 a1 a2 H), tr272_all ρ k, tr301_all ρ k⟩
noncomputable def tr262 (ρ : Addr → Option Value) (c : CallF) (y : YieldF) (k : Nat) : DT := .node 262 (ar2 (fun lim a0 a1 H => L262 ρ c y lim k a0 a1 H) (fun lim args H => slowF (cx ρ) c y k lim 262 args H)) (tr251 ρ c y k) (tr284 ρ c y k)
theorem tr262_all (ρ : Addr → Option Value) (k : Nat) : (tr262 ρ (evCY (cx ρ) k).1 (evCY (cx ρ) k).2 k).All fun f h => h = fun lim args H => (evCY (cx ρ) (k + 1)).1 lim f args H :=
  ⟨ar2_eq (F := fun lim args H => (evCY (cx ρ) (k + 1)).1 lim 262 args H) (slow_at (cx ρ) k 262) (fun lim a0 a1 H => E262 ρ k lim a0 a1 H), tr251_all ρ k, tr284_all ρ k⟩
noncomputable def tr242 (ρ : Addr → Option Value) (c : CallF) (y : YieldF) (k : Nat) : DT := .node 242 (ar3 (fun lim a0 a1 a2 H => L242 ρ c y lim k a0 a1 a2 H) (fun lim args H => slowF (cx ρ) c y k lim 242 args H)) (tr221 ρ c y k) (tr262 ρ c y k)
theorem tr242_all (ρ : Addr → Option Value) (k : Nat) : (tr242 ρ (evCY (cx ρ) k).1 (evCY (cx ρ) k).2 k).All fun f h => h = fun lim args H => (evCY (cx ρ) (k + 1)).1 lim f args H :=
  ⟨ar3_eq (F := fun lim args H => (evCY (cx ρ) (k + 1)).1 lim 242 args H) (slow_at (cx ρ) k 242) (fun lim a0 a1 a2 H => E242 ρ k lim a0 a1 a2 H), tr221_all ρ k, tr262_all ρ k⟩
noncomputable def tr304 (ρ : Addr → Option Value) (c : CallF) (y : YieldF) (k : Nat) : DT := .node 304 (ar2 (fun lim a0 a1 H => L304 ρ c y lim k a0 a1 H) (fun lim args H => slowF (cx ρ) c y k lim 304 args H)) .leaf .leaf
theorem tr304_all (ρ : Addr → Option Value) (k : Nat) : (tr304 ρ (evCY (cx ρ) k).1 (evCY (cx ρ) k).2 k).All fun f h => h = fun lim args H => (evCY (cx ρ) (k + 1)).1 lim f args H :=
  ⟨ar2_eq (F := fun lim args H => (evCY (cx ρ) (k + 1)).1 lim 304 args H) (slow_at (cx ρ) k 304) (fun lim a0 a1 H => E304 ρ k lim a0 a1 H), trivial, trivial⟩
noncomputable def tr305 (ρ : Addr → Option Value) (c : CallF) (y : YieldF) (k : Nat) : DT := .node 305 (ar1 (fun lim a0 H => L305 ρ c y lim k a0 H) (fun lim args H => slowF (cx ρ) c y k lim 305 args H)) (tr304 ρ c y k) .leaf
theorem tr305_all (ρ : Addr → Option Value) (k : Nat) : (tr305 ρ (evCY (cx ρ) k).1 (evCY (cx ρ) k).2 k).All fun f h => h = fun lim args H => (evCY (cx ρ) (k + 1)).1 lim f args H :=
  ⟨ar1_eq (F := fun lim args H => (evCY (cx ρ) (k + 1)).1 lim 305 args H) (slow_at (cx ρ) k 305) (fun lim a0 H => E305 ρ k lim a0 H), tr304_all ρ k, trivial⟩
noncomputable def tr307 (ρ : Addr → Option Value) (c : CallF) (y : YieldF) (k : Nat) : DT := .node 307 (ar1 (fun lim a0 H => L307 ρ c y lim k a0 H) (fun lim args H => slowF (cx ρ) c y k lim 307 args H)) .leaf .leaf
theorem tr307_all (ρ : Addr → Option Value) (k : Nat) : (tr307 ρ (evCY (cx ρ) k).1 (evCY (cx ρ) k).2 k).All fun f h => h = fun lim args H => (evCY (cx ρ) (k + 1)).1 lim f args H :=
  ⟨ar1_eq (F := fun lim args H => (evCY (cx ρ) (k + 1)).1 lim 307 args H) (slow_at (cx ρ) k 307) (fun lim a0 H => E307 ρ k lim a0 H), trivial, trivial⟩
noncomputable def tr310 (ρ : Addr → Option Value) (c : CallF) (y : YieldF) (k : Nat) : DT := .node 310 (ar2 (fun lim a0 a1 H => L310 ρ c y lim k a0 a1 H) (fun lim args H => slowF (cx ρ) c y k lim 310 args H)) (tr307 ρ c y k) .leaf
theorem tr310_all (ρ : Addr → Option Value) (k : Nat) : (tr310 ρ (evCY (cx ρ) k).1 (evCY (cx ρ) k).2 k).All fun f h => h = fun lim args H => (evCY (cx ρ) (k + 1)).1 lim f args H :=
  ⟨ar2_eq (F := fun lim args H => (evCY (cx ρ) (k + 1)).1 lim 310 args H) (slow_at (cx ρ) k 310) (fun lim a0 a1 H => E310 ρ k lim a0 a1 H), tr307_all ρ k, trivial⟩
noncomputable def tr306 (ρ : Addr → Option Value) (c : CallF) (y : YieldF) (k : Nat) : DT := .node 306 (ar2 (fun lim a0 a1 H => L306 ρ c y lim k a0 a1 H) (fun lim args H => slowF (cx ρ) c y k lim 306 args H)) (tr305 ρ c y k) (tr310 ρ c y k)
theorem tr306_all (ρ : Addr → Option Value) (k : Nat) : (tr306 ρ (evCY (cx ρ) k).1 (evCY (cx ρ) k).2 k).All fun f h => h = fun lim args H => (evCY (cx ρ) (k + 1)).1 lim f args H :=
  ⟨ar2_eq (F := fun lim args H => (evCY (cx ρ) (k + 1)).1 lim 306 args H) (slow_at (cx ρ) k 306) (fun lim a0 a1 H => E306 ρ k lim a0 a1 H), tr305_all ρ k, tr310_all ρ k⟩
noncomputable def tr317 (ρ : Addr → Option Value) (c : CallF) (y : YieldF) (k : Nat) : DT := .node 317 (ar1 (fun lim a0 H => L317 ρ c y lim k a0 H) (fun lim args H => slowF (cx ρ) c y k lim 317 args H)) .leaf .leaf
theorem tr317_all (ρ : Addr → Option Value) (k : Nat) : (tr317 ρ (evCY (cx ρ) k).1 (evCY (cx ρ) k).2 k).All fun f h => h = fun lim args H => (evCY (cx ρ) (k + 1)).1 lim f args H :=
  ⟨ar1_eq (F := fun lim args H => (evCY (cx ρ) (k + 1)).1 lim 317 args H) (slow_at (cx ρ) k 317) (fun lim a0 H => E317 ρ k lim a0 H), trivial, trivial⟩
noncomputable def tr318 (ρ : Addr → Option Value) (c : CallF) (y : YieldF) (k : Nat) : DT := .node 318 (ar2 (fun lim a0 a1 H => L318 ρ c y lim k a0 a1 H) (fun lim args H => slowF (cx ρ) c y k lim 318 args H)) (tr317 ρ c y k) .leaf
theorem tr318_all (ρ : Addr → Option Value) (k : Nat) : (tr318 ρ (evCY (cx ρ) k).1 (evCY (cx ρ) k).2 k).All fun f h => h = fun lim args H => (evCY (cx ρ) (k + 1)).1 lim f args H :=
  ⟨ar2_eq (F := fun lim args H => (evCY (cx ρ) (k + 1)).1 lim 318 args H) (slow_at (cx ρ) k 318) (fun lim a0 a1 H => E318 ρ k lim a0 a1 H), tr317_all ρ k, trivial⟩
noncomputable def tr320 (ρ : Addr → Option Value) (c : CallF) (y : YieldF) (k : Nat) : DT := .node 320 (ar2 (fun lim a0 a1 H => L320 ρ c y lim k a0 a1 H) (fun lim args H => slowF (cx ρ) c y k lim 320 args H)) .leaf .leaf
theorem tr320_all (ρ : Addr → Option Value) (k : Nat) : (tr320 ρ (evCY (cx ρ) k).1 (evCY (cx ρ) k).2 k).All fun f h => h = fun lim args H => (evCY (cx ρ) (k + 1)).1 lim f args H :=
  ⟨ar2_eq (F := fun lim args H => (evCY (cx ρ) (k + 1)).1 lim 320 args H) (slow_at (cx ρ) k 320) (fun lim a0 a1 H => E320 ρ k lim a0 a1 H), trivial, trivial⟩
noncomputable def tr319 (ρ : Addr → Option Value) (c : CallF) (y : YieldF) (k : Nat) : DT := .node 319 (ar1 (fun lim a0 H => L319 ρ c y lim k a0 H) (fun lim args H => slowF (cx ρ) c y k lim 319 args H)) (tr318 ρ c y k) (tr320 ρ c y k)
theorem tr319_all (ρ : Addr → Option Value) (k : Nat) : (tr319 ρ (evCY (cx ρ) k).1 (evCY (cx ρ) k).2 k).All fun f h => h = fun lim args H => (evCY (cx ρ) (k + 1)).1 lim f args H :=
  ⟨ar1_eq (F := fun lim args H => (evCY (cx ρ) (k + 1)).1 lim 319 args H) (slow_at (cx ρ) k 319) (fun lim a0 H => E319 ρ k lim a0 H), tr318_all ρ k, tr320_all ρ k⟩
noncomputable def tr316 (ρ : Addr → Option Value) (c : CallF) (y : YieldF) (k : Nat) : DT := .node 316 (ar2 (fun lim a0 a1 H => L316 ρ c y lim k a0 a1 H) (fun lim args H => slowF (cx ρ) c y k lim 316 args H)) (tr306 ρ c y k) (tr319 ρ c y k)
theorem tr316_all (ρ : Addr → Option Value) (k : Nat) : (tr316 ρ (evCY (cx ρ) k).1 (evCY (cx ρ) k).2 k).All fun f h => h = fun lim args H => (evCY (cx ρ) (k + 1)).1 lim f args H :=
  ⟨ar2_eq (F := fun lim args H => (evCY (cx ρ) (k + 1)).1 lim 316 args H) (slow_at (cx ρ) k 316) (fun lim a0 a1 H => E316 ρ k lim a0 a1 H), tr306_all ρ k, tr319_all ρ k⟩
noncomputable def tr322 (ρ : Addr → Option Value) (c : CallF) (y : YieldF) (k : Nat) : DT := .node 322 (ar1 (fun lim a0 H => L322 ρ c y lim k a0 H) (fun lim args H => slowF (cx ρ) c y k lim 322 args H)) .leaf .leaf
theorem tr322_all (ρ : Addr → Option Value) (k : Nat) : (tr322 ρ (evCY (cx ρ) k).1 (evCY (cx ρ) k).2 k).All fun f h => h = fun lim args H => (evCY (cx ρ) (k + 1)).1 lim f args H :=
  ⟨ar1_eq (F := fun lim args H => (evCY (cx ρ) (k + 1)).1 lim 322 args H) (slow_at (cx ρ) k 322) (fun lim a0 H => E322 ρ k lim a0 H), trivial, trivial⟩
noncomputable def tr323 (ρ : Addr → Option Value) (c : CallF) (y : YieldF) (k : Nat) : DT := .node 323 (ar3 (fun lim a0 a1 a2 H => L323 ρ c y lim k a0 a1 a2 H) (fun lim args H => slowF (cx ρ) c y k lim 323 args H)) (tr322 ρ c y k) .leaf
theorem tr323_all (ρ : Addr → Option Value) (k : Nat) : (tr323 ρ (evCY (cx ρ) k).1 (evCY (cx ρ) k).2 k).All fun f h => h = fun lim args H => (evCY (cx ρ) (k + 1)).1 lim f args H :=
  ⟨ar3_eq (F := fun lim args H => (evCY (cx ρ) (k + 1)).1 lim 323 args H) (slow_at (cx ρ) k 323) (fun lim a0 a1 a2 H => E323 ρ k lim a0 a1 a2 H), tr322_all ρ k, trivial⟩
noncomputable def tr328 (ρ : Addr → Option Value) (c : CallF) (y : YieldF) (k : Nat) : DT := .node 328 (ar1 (fun lim a0 H => L328 ρ c y lim k a0 H) (fun lim args H => slowF (cx ρ) c y k lim 328 args H)) .leaf .leaf
theorem tr328_all (ρ : Addr → Option Value) (k : Nat) : (tr328 ρ (evCY (cx ρ) k).1 (evCY (cx ρ) k).2 k).All fun f h => h = fun lim args H => (evCY (cx ρ) (k + 1)).1 lim f args H :=
  ⟨ar1_eq (F := fun lim args H => (evCY (cx ρ) (k + 1)).1 lim 328 args H) (slow_at (cx ρ) k 328) (fun lim a0 H => E328 ρ k lim a0 H), trivial, trivial⟩
noncomputable def tr334 (ρ : Addr → Option Value) (c : CallF) (y : YieldF) (k : Nat) : DT := .node 334 (ar1 (fun lim a0 H => L334 ρ c y lim k a0 H) (fun lim args H => slowF (cx ρ) c y k lim 334 args H)) (tr328 ρ c y k) .leaf
theorem tr334_all (ρ : Addr → Option Value) (k : Nat) : (tr334 ρ (evCY (cx ρ) k).1 (evCY (cx ρ) k).2 k).All fun f h => h = fun lim args H => (evCY (cx ρ) (k + 1)).1 lim f args H :=
  ⟨ar1_eq (F := fun lim args H => (evCY (cx ρ) (k + 1)).1 lim 334 args H) (slow_at (cx ρ) k 334) (fun lim a0 H => E334 ρ k lim a0 H), tr328_all ρ k, trivial⟩
noncomputable def tr324 (ρ : Addr → Option Value) (c : CallF) (y : YieldF) (k : Nat) : DT := .node 324 (ar1 (fun lim a0 H => L324 ρ c y lim k a0 H) (fun lim args H => slowF (cx ρ) c y k lim 324 args H)) (tr323 ρ c y k) (tr334 ρ c y k)
theorem tr324_all (ρ : Addr → Option Value) (k : Nat) : (tr324 ρ (evCY (cx ρ) k).1 (evCY (cx ρ) k).2 k).All fun f h => h = fun lim args H => (evCY (cx ρ) (k + 1)).1 lim f args H :=
  ⟨ar1_eq (F := fun lim args H => (evCY (cx ρ) (k + 1)).1 lim 324 args H) (slow_at (cx ρ) k 324) (fun lim a0 H => E324 ρ k lim a0 H), tr323_all ρ k, tr334_all ρ k⟩
noncomputable def tr336 (ρ : Addr → Option Value) (c : CallF) (y : YieldF) (k : Nat) : DT := .node 336 (ar1 (fun lim a0 H => L336 ρ c y lim k a0 H) (fun lim args H => slowF (cx ρ) c y k lim 336 args H)) .leaf .leaf
theorem tr336_all (ρ : Addr → Option Value) (k : Nat) : (tr336 ρ (evCY (cx ρ) k).1 (evCY (cx ρ) k).2 k).All fun f h => h = fun lim args H => (evCY (cx ρ) (k + 1)).1 lim f args H :=
  ⟨ar1_eq (F := fun lim args H => (evCY (cx ρ) (k + 1)).1 lim 336 args H) (slow_at (cx ρ) k 336) (fun lim a0 H => E336 ρ k lim a0 H), trivial, trivial⟩
noncomputable def tr342 (ρ : Addr → Option Value) (c : CallF) (y : YieldF) (k : Nat) : DT := .node 342 (ar2 (fun lim a0 a1 H => L342 ρ c y lim k a0 a1 H) (fun lim args H => slowF (cx ρ) c y k lim 342 args H)) (tr336 ρ c y k) .leaf
theorem tr342_all (ρ : Addr → Option Value) (k : Nat) : (tr342 ρ (evCY (cx ρ) k).1 (evCY (cx ρ) k).2 k).All fun f h => h = fun lim args H => (evCY (cx ρ) (k + 1)).1 lim f args H :=
  ⟨ar2_eq (F := fun lim args H => (evCY (cx ρ) (k + 1)).1 lim 342 args H) (slow_at (cx ρ) k 342) (fun lim a0 a1 H => E342 ρ k lim a0 a1 H), tr336_all ρ k, trivial⟩
noncomputable def tr344 (ρ : Addr → Option Value) (c : CallF) (y : YieldF) (k : Nat) : DT := .node 344 (ar1 (fun lim a0 H => L344 ρ c y lim k a0 H) (fun lim args H => slowF (cx ρ) c y k lim 344 args H)) .leaf .leaf
theorem tr344_all (ρ : Addr → Option Value) (k : Nat) : (tr344 ρ (evCY (cx ρ) k).1 (evCY (cx ρ) k).2 k).All fun f h => h = fun lim args H => (evCY (cx ρ) (k + 1)).1 lim f args H :=
  ⟨ar1_eq (F := fun lim args H => (evCY (cx ρ) (k + 1)).1 lim 344 args H) (slow_at (cx ρ) k 344) (fun lim a0 H => E344 ρ k lim a0 H), trivial, trivial⟩
noncomputable def tr343 (ρ : Addr → Option Value) (c : CallF) (y : YieldF) (k : Nat) : DT := .node 343 (ar2 (fun lim a0 a1 H => L343 ρ c y lim k a0 a1 H) (fun lim args H => slowF (cx ρ) c y k lim 343 args H)) (tr342 ρ c y k) (tr344 ρ c y k)
theorem tr343_all (ρ : Addr → Option Value) (k : Nat) : (tr343 ρ (evCY (cx ρ) k).1 (evCY (cx ρ) k).2 k).All fun f h => h = fun lim args H => (evCY (cx ρ) (k + 1)).1 lim f args H :=
  ⟨ar2_eq (F := fun lim args H => (evCY (cx ρ) (k + 1)).1 lim 343 args H) (slow_at (cx ρ) k 343) (fun lim a0 a1 H => E343 ρ k lim a0 a1 H), tr342_all ρ k, tr344_all ρ k⟩
noncomputable def tr335 (ρ : Addr → Option Value) (c : CallF) (y : YieldF) (k : Nat) : DT := .node 335 (ar2 (fun lim a0 a1 H => L335 ρ c y lim k a0 a1 H) (fun lim args H => slowF (cx ρ) c y k lim 335 args H)) (tr324 ρ c y k) (tr343 ρ c y k)
theorem tr335_all (ρ : Addr → Option Value) (k : Nat) : (tr335 ρ (evCY (cx ρ) k).1 (evCY (cx ρ) k).2 k).All fun f h => h = fun lim args H => (evCY (cx ρ) (k + 1)).1 lim f args H :=
  ⟨ar2_eq (F := fun lim args H => (evCY (cx ρ) (k + 1)).1 lim 335 args H) (slow_at (cx ρ) k 335) (fun lim a0 a1 H => E335 ρ k lim a0 a1 H), tr324_all ρ k, tr343_all ρ k⟩
noncomputable def tr321 (ρ : Addr → Option Value) (c : CallF) (y : YieldF) (k : Nat) : DT := .node 321 (ar2 (fun lim a0 a1 H => L321 ρ c y lim k a0 a1 H) (fun lim args H => slowF (cx ρ) c y k lim 321 args H)) (tr316 ρ c y k) (tr335 ρ c y k)
theorem tr321_all (ρ : Addr → Option Value) (k : Nat) : (tr321 ρ (evCY (cx ρ) k).1 (evCY (cx ρ) k).2 k).All fun f h => h = fun lim args H => (evCY (cx ρ) (k + 1)).1 lim f args H :=
  ⟨ar2_eq (F := fun lim args H => (evCY (cx ρ) (k + 1)).1 lim 321 args H) (slow_at (cx ρ) k 321) (fun lim a0 a1 H => E321 ρ k lim a0 a1 H), tr316_all ρ k, tr335_all ρ k⟩
noncomputable def tr347 (ρ : Addr → Option Value) (c : CallF) (y : YieldF) (k : Nat) : DT := .node 347 (ar2 (fun lim a0 a1 H => L347 ρ c y lim k a0 a1 H) (fun lim args H => slowF (cx ρ) c y k lim 347 args H)) .leaf .leaf
theorem tr347_all (ρ : Addr → Option Value) (k : Nat) : (tr347 ρ (evCY (cx ρ) k).1 (evCY (cx ρ) k).2 k).All fun f h => h = fun lim args H => (evCY (cx ρ) (k + 1)).1 lim f args H :=
  ⟨ar2_eq (F := fun lim args H => (evCY (cx ρ) (k + 1)).1 lim 347 args H) (slow_at (cx ρ) k 347) (fun lim a0 a1 H => E347 ρ k lim a0 a1 H), trivial, trivial⟩
noncomputable def tr348 (ρ : Addr → Option Value) (c : CallF) (y : YieldF) (k : Nat) : DT := .node 348 (ar3 (fun lim a0 a1 a2 H => L348 ρ c y lim k a0 a1 a2 H) (fun lim args H => slowF (cx ρ) c y k lim 348 args H)) (tr347 ρ c y k) .leaf
theorem tr348_all (ρ : Addr → Option Value) (k : Nat) : (tr348 ρ (evCY (cx ρ) k).1 (evCY (cx ρ) k).2 k).All fun f h => h = fun lim args H => (evCY (cx ρ) (k + 1)).1 lim f args H :=
  ⟨ar3_eq (F := fun lim args H => (evCY (cx ρ) (k + 1)).1 lim 348 args H) (slow_at (cx ρ) k 348) (fun lim a0 a1 a2 H => E348 ρ k lim a0 a1 a2 H), tr347_all ρ k, trivial⟩
noncomputable def tr355 (ρ : Addr → Option Value) (c : CallF) (y : YieldF) (k : Nat) : DT := .node 355 (ar1 (fun lim a0 H => L355 ρ c y lim k a0 H) (fun lim args H => slowF (cx ρ) c y k lim 355 args H)) .leaf .leaf
theorem tr355_all (ρ : Addr → Option Value) (k : Nat) : (tr355 ρ (evCY (cx ρ) k).1 (evCY (cx ρ) k).2 k).All fun f h => h = fun lim args H => (evCY (cx ρ) (k + 1)).1 lim f args H :=
  ⟨ar1_eq (F := fun lim args H => (evCY (cx ρ) (k + 1)).1 lim 355 args H) (slow_at (cx ρ) k 355) (fun lim a0 H => E355 ρ k lim a0 H), trivial, trivial⟩
noncomputable def tr360 (ρ : Addr → Option Value) (c : CallF) (y : YieldF) (k : Nat) : DT := .node 360 (ar2 (fun lim a0 a1 H => L360 ρ c y lim k a0 a1 H) (fun lim args H => slowF (cx ρ) c y k lim 360 args H)) (tr355 ρ c y k) .leaf
theorem tr360_all (ρ : Addr → Option Value) (k : Nat) : (tr360 ρ (evCY (cx ρ) k).1 (evCY (cx ρ) k).2 k).All fun f h => h = fun lim args H => (evCY (cx ρ) (k + 1)).1 lim f args H :=
  ⟨ar2_eq (F := fun lim args H => (evCY (cx ρ) (k + 1)).1 lim 360 args H) (slow_at (cx ρ) k 360) (fun lim a0 a1 H => E360 ρ k lim a0 a1 H), tr355_all ρ k, trivial⟩
noncomputable def tr351 (ρ : Addr → Option Value) (c : CallF) (y : YieldF) (k : Nat) : DT := .node 351 (ar3 (fun lim a0 a1 a2 H => L351 ρ c y lim k a0 a1 a2 H) (fun lim args H => slowF (cx ρ) c y k lim 351 args H)) (tr348 ρ c y k) (tr360 ρ c y k)
theorem tr351_all (ρ : Addr → Option Value) (k : Nat) : (tr351 ρ (evCY (cx ρ) k).1 (evCY (cx ρ) k).2 k).All fun f h => h = fun lim args H => (evCY (cx ρ) (k + 1)).1 lim f args H :=
  ⟨ar3_eq (F := fun lim args H => (evCY (cx ρ) (k + 1)).1 lim 351 args H) (slow_at (cx ρ) k 351) (fun lim a0 a1 a2 H => E351 ρ k lim a0 a1 a2 H), tr348_all ρ k, tr360_all ρ k⟩
noncomputable def tr362 (ρ : Addr → Option Value) (c : CallF) (y : YieldF) (k : Nat) : DT := .node 362 (ar1 (fun lim a0 H => L362 ρ c y lim k a0 H) (fun lim args H => slowF (cx ρ) c y k lim 362 args H)) .leaf .leaf
theorem tr362_all (ρ : Addr → Option Value) (k : Nat) : (tr362 ρ (evCY (cx ρ) k).1 (evCY (cx ρ) k).2 k).All fun f h => h = fun lim args H => (evCY (cx ρ) (k + 1)).1 lim f args H :=
  ⟨ar1_eq (F := fun lim args H => (evCY (cx ρ) (k + 1)).1 lim 362 args H) (slow_at (cx ρ) k 362) (fun lim a0 H => E362 ρ k lim a0 H), trivial, trivial⟩
noncomputable def tr363 (ρ : Addr → Option Value) (c : CallF) (y : YieldF) (k : Nat) : DT := .node 363 (ar1 (fun lim a0 H => L363 ρ c y lim k a0 H) (fun lim args H => slowF (cx ρ) c y k lim 363 args H)) (tr362 ρ c y k) .leaf
theorem tr363_all (ρ : Addr → Option Value) (k : Nat) : (tr363 ρ (evCY (cx ρ) k).1 (evCY (cx ρ) k).2 k).All fun f h => h = fun lim args H => (evCY (cx ρ) (k + 1)).1 lim f args H :=
  ⟨ar1_eq (F := fun lim args H => (evCY (cx ρ) (k + 1)).1 lim 363 args H) (slow_at (cx ρ) k 363) (fun lim a0 H => E363 ρ k lim a0 H), tr362_all ρ k, trivial⟩
noncomputable def tr372 (ρ : Addr → Option Value) (c : CallF) (y : YieldF) (k : Nat) : DT := .node 372 (ar3 (fun lim a0 a1 a2 H => L372 ρ c y lim k a0 a1 a2 H) (fun lim args H => slowF (cx ρ) c y k lim 372 args H)) .leaf .leaf
theorem tr372_all (ρ : Addr → Option Value) (k : Nat) : (tr372 ρ (evCY (cx ρ) k).1 (evCY (cx ρ) k).2 k).All fun f h => h = fun lim args H => (evCY (cx ρ) (k + 1)).1 lim f args H :=
  ⟨ar3_eq (F := fun lim args H => (evCY (cx ρ) (k + 1)).1 lim 372 args H) (slow_at (cx ρ) k 372) (fun lim a0 a1 a2 H => E372 ρ k lim a0 a1 a2 H), trivial, trivial⟩
noncomputable def tr365 (ρ : Addr → Option Value) (c : CallF) (y : YieldF) (k : Nat) : DT := .node 365 (ar4 (fun lim a0 a1 a2 a3 H => L365 ρ c y lim k a0 a1 a2 a3 H) (fun lim args H => slowF (cx ρ) c y k lim 365 args H)) (tr363 ρ c y k) (tr372 ρ c y k)
theorem tr365_all (ρ : Addr → Option Value) (k : Nat) : (tr365 ρ (evCY (cx ρ) k).1 (evCY (cx ρ) k).2 k).All fun f h => h = fun lim args H => (evCY (cx ρ) (k + 1)).1 lim f args H :=
  ⟨ar4_eq (F := fun lim args H => (evCY (cx ρ) (k + 1)).1 lim 365 args H) (slow_at (cx ρ) k 365) (fun lim a0 a1 a2 a3 H => E365 ρ k lim a0 a1 a2 a3 H), tr363_all ρ k, tr372_all ρ k⟩
noncomputable def tr361 (ρ : Addr → Option Value) (c : CallF) (y : YieldF) (k : Nat) : DT := .node 361 (ar1 (fun lim a0 H => L361 ρ c y lim k a0 H) (fun lim args H => slowF (cx ρ) c y k lim 361 args H)) (tr351 ρ c y k) (tr365 ρ c y k)
theorem tr361_all (ρ : Addr → Option Value) (k : Nat) : (tr361 ρ (evCY (cx ρ) k).1 (evCY (cx ρ) k).2 k).All fun f h => h = fun lim args H => (evCY (cx ρ) (k + 1)).1 lim f args H :=
  ⟨ar1_eq (F := fun lim args H => (evCY (cx ρ) (k + 1)).1 lim 361 args H) (slow_at (cx ρ) k 361) (fun lim a0 H => E361 ρ k lim a0 H), tr351_all ρ k, tr365_all ρ k⟩
noncomputable def tr376 (ρ : Addr → Option Value) (c : CallF) (y : YieldF) (k : Nat) : DT := .node 376 (ar1 (fun lim a0 H => L376 ρ c y lim k a0 H) (fun lim args H => slowF (cx ρ) c y k lim 376 args H)) .leaf .leaf
theorem tr376_all (ρ : Addr → Option Value) (k : Nat) : (tr376 ρ (evCY (cx ρ) k).1 (evCY (cx ρ) k).2 k).All fun f h => h = fun lim args H => (evCY (cx ρ) (k + 1)).1 lim f args H :=
  ⟨ar1_eq (F := fun lim args H => (evCY (cx ρ) (k + 1)).1 lim 376 args H) (slow_at (cx ρ) k 376) (fun lim a0 H => E376 ρ k lim a0 H), trivial, trivial⟩
noncomputable def tr378 (ρ : Addr → Option Value) (c : CallF) (y : YieldF) (k : Nat) : DT := .node 378 (ar2 (fun lim a0 a1 H => L378 ρ c y lim k a0 a1 H) (fun lim args H => slowF (cx ρ) c y k lim 378 args H)) (tr376 ρ c y k) .leaf
theorem tr378_all (ρ : Addr → Option Value) (k : Nat) : (tr378 ρ (evCY (cx ρ) k).1 (evCY (cx ρ) k).2 k).All fun f h => h = fun lim args H => (evCY (cx ρ) (k + 1)).1 lim f args H :=
  ⟨ar2_eq (F := fun lim args H => (evCY (cx ρ) (k + 1)).1 lim 378 args H) (slow_at (cx ρ) k 378) (fun lim a0 a1 H => E378 ρ k lim a0 a1 H), tr376_all ρ k, trivial⟩
noncomputable def tr384 (ρ : Addr → Option Value) (c : CallF) (y : YieldF) (k : Nat) : DT := .node 384 (ar1 (fun lim a0 H => L384 ρ c y lim k a0 H) (fun lim args H => slowF (cx ρ) c y k lim 384 args H)) .leaf .leaf
theorem tr384_all (ρ : Addr → Option Value) (k : Nat) : (tr384 ρ (evCY (cx ρ) k).1 (evCY (cx ρ) k).2 k).All fun f h => h = fun lim args H => (evCY (cx ρ) (k + 1)).1 lim f args H :=
  ⟨ar1_eq (F := fun lim args H => (evCY (cx ρ) (k + 1)).1 lim 384 args H) (slow_at (cx ρ) k 384) (fun lim a0 H => E384 ρ k lim a0 H), trivial, trivial⟩
noncomputable def tr385 (ρ : Addr → Option Value) (c : CallF) (y : YieldF) (k : Nat) : DT := .node 385 (ar4 (fun lim a0 a1 a2 a3 H => L385 ρ c y lim k a0 a1 a2 a3 H) (fun lim args H => slowF (cx ρ) c y k lim 385 args H)) (tr384 ρ c y k) .leaf
theorem tr385_all (ρ : Addr → Option Value) (k : Nat) : (tr385 ρ (evCY (cx ρ) k).1 (evCY (cx ρ) k).2 k).All fun f h => h = fun lim args H => (evCY (cx ρ) (k + 1)).1 lim f args H :=
  ⟨ar4_eq (F := fun lim args H => (evCY (cx ρ) (k + 1)).1 lim 385 args H) (slow_at (cx ρ) k 385) (fun lim a0 a1 a2 a3 H => E385 ρ k lim a0 a1 a2 a3 H), tr384_all ρ k, trivial⟩
noncomputable def tr379 (ρ : Addr → Option Value) (c : CallF) (y : YieldF) (k : Nat) : DT := .node 379 (ar3 (fun lim a0 a1 a2 H => L379 ρ c y lim k a0 a1 a2 H) (fun lim args H => slowF (cx ρ) c y k lim 379 args H)) (tr378 ρ c y k) (tr385 ρ c y k)
theorem tr379_all (ρ : Addr → Option Value) (k : Nat) : (tr379 ρ (evCY (cx ρ) k).1 (evCY (cx ρ) k).2 k).All fun f h => h = fun lim args H => (evCY (cx ρ) (k + 1)).1 lim f args H :=
  ⟨ar3_eq (F := fun lim args H => (evCY (cx ρ) (k + 1)).1 lim 379 args H) (slow_at (cx ρ) k 379) (fun lim a0 a1 a2 H => E379 ρ k lim a0 a1 a2 H), tr378_all ρ k, tr385_all ρ k⟩
noncomputable def tr387 (ρ : Addr → Option Value) (c : CallF) (y : YieldF) (k : Nat) : DT := .node 387 (ar2 (fun lim a0 a1 H => L387 ρ c y lim k a0 a1 H) (fun lim args H => slowF (cx ρ) c y k lim 387 args H)) .leaf .leaf
theorem tr387_all (ρ : Addr → Option Value) (k : Nat) : (tr387 ρ (evCY (cx ρ) k).1 (evCY (cx ρ) k).2 k).All fun f h => h = fun lim args H => (evCY (cx ρ) (k + 1)).1 lim f args H :=
  ⟨ar2_eq (F := fun lim args H => (evCY (cx ρ) (k + 1)).1 lim 387 args H) (slow_at (cx ρ) k 387) (fun lim a0 a1 H => E387 ρ k lim a0 a1 H), trivial, trivial⟩
noncomputable def tr388 (ρ : Addr → Option Value) (c : CallF) (y : YieldF) (k : Nat) : DT := .node 388 (ar1 (fun lim a0 H => L388 ρ c y lim k a0 H) (fun lim args H => slowF (cx ρ) c y k lim 388 args H)) (tr387 ρ c y k) .leaf
theorem tr388_all (ρ : Addr → Option Value) (k : Nat) : (tr388 ρ (evCY (cx ρ) k).1 (evCY (cx ρ) k).2 k).All fun f h => h = fun lim args H => (evCY (cx ρ) (k + 1)).1 lim f args H :=
  ⟨ar1_eq (F := fun lim args H => (evCY (cx ρ) (k + 1)).1 lim 388 args H) (slow_at (cx ρ) k 388) (fun lim a0 H => E388 ρ k lim a0 H), tr387_all ρ k, trivial⟩
noncomputable def tr397 (ρ : Addr → Option Value) (c : CallF) (y : YieldF) (k : Nat) : DT := .node 397 (ar3 (fun lim a0 a1 a2 H => L397 ρ c y lim k a0 a1 a2 H) (fun lim args H => slowF (cx ρ) c y k lim 397 args H)) .leaf .leaf
theorem tr397_all (ρ : Addr → Option Value) (k : Nat) : (tr397 ρ (evCY (cx ρ) k).1 (evCY (cx ρ) k).2 k).All fun f h => h = fun lim args H => (evCY (cx ρ) (k + 1)).1 lim f args H :=
  ⟨ar3_eq (F := fun lim args H => (evCY (cx ρ) (k + 1)).1 lim 397 args H) (slow_at (cx ρ) k 397) (fun lim a0 a1 a2 H => E397 ρ k lim a0 a1 a2 H), trivial, trivial⟩
noncomputable def tr389 (ρ : Addr → Option Value) (c : CallF) (y : YieldF) (k : Nat) : DT := .node 389 (ar2 (fun lim a0 a1 H => L389 ρ c y lim k a0 a1 H) (fun lim args H => slowF (cx ρ) c y k lim 389 args H)) (tr388 ρ c y k) (tr397 ρ c y k)
theorem tr389_all (ρ : Addr → Option Value) (k : Nat) : (tr389 ρ (evCY (cx ρ) k).1 (evCY (cx ρ) k).2 k).All fun f h => h = fun lim args H => (evCY (cx ρ) (k + 1)).1 lim f args H :=
  ⟨ar2_eq (F := fun lim args H => (evCY (cx ρ) (k + 1)).1 lim 389 args H) (slow_at (cx ρ) k 389) (fun lim a0 a1 H => E389 ρ k lim a0 a1 H), tr388_all ρ k, tr397_all ρ k⟩
noncomputable def tr386 (ρ : Addr → Option Value) (c : CallF) (y : YieldF) (k : Nat) : DT := .node 386 (ar2 (fun lim a0 a1 H => L386 ρ c y lim k a0 a1 H) (fun lim args H => slowF (cx ρ) c y k lim 386 args H)) (tr379 ρ c y k) (tr389 ρ c y k)
theorem tr386_all (ρ : Addr → Option Value) (k : Nat) : (tr386 ρ (evCY (cx ρ) k).1 (evCY (cx ρ) k).2 k).All fun f h => h = fun lim args H => (evCY (cx ρ) (k + 1)).1 lim f args H :=
  ⟨ar2_eq (F := fun lim args H => (evCY (cx ρ) (k + 1)).1 lim 386 args H) (slow_at (cx ρ) k 386) (fun lim a0 a1 H => E386 ρ k lim a0 a1 H), tr379_all ρ k, tr389_all ρ k⟩
noncomputable def tr375 (ρ : Addr → Option Value) (c : CallF) (y : YieldF) (k : Nat) : DT := .node 375 (ar2 (fun lim a0 a1 H => L375 ρ c y lim k a0 a1 H) (fun lim args H => slowF (cx ρ) c y k lim 375 args H)) (tr361 ρ c y k) (tr386 ρ c y k)
theorem tr375_all (ρ : Addr → Option Value) (k : Nat) : (tr375 ρ (evCY (cx ρ) k).1 (evCY (cx ρ) k).2 k).All fun f h => h = fun lim args H => (evCY (cx ρ) (k + 1)).1 lim f args H :=
  ⟨ar2_eq (F := fun lim args H => (evCY (cx ρ) (k + 1)).1 lim 375 args H) (slow_at (cx ρ) k 375) (fun lim a0 a1 H => E375 ρ k lim a0 a1 H), tr361_all ρ k, tr386_all ρ k⟩
noncomputable def tr346 (ρ : Addr → Option Value) (c : CallF) (y : YieldF) (k : Nat) : DT := .node 346 (ar3 (fun lim a0 a1 a2 H => L346 ρ c y lim k a0 a1 a2 H) (fun lim args H => slowF (cx ρ) c y k lim 346 args H)) (tr321 ρ c y k) (tr375 ρ c y k)
theorem tr346_all (ρ : Addr → Option Value) (k : Nat) : (tr346 ρ (evCY (cx ρ) k).1 (evCY (cx ρ) k).2 k).All fun f h => h = fun lim args H => (evCY (cx ρ) (k + 1)).1 lim f args H :=
  ⟨ar3_eq (F := fun lim args H => (evCY (cx ρ) (k + 1)).1 lim 346 args H) (slow_at (cx ρ) k 346) (fun lim a0 a1 a2 H => E346 ρ k lim a0 a1 a2 H), tr321_all ρ k, tr375_all ρ k⟩
noncomputable def tr303 (ρ : Addr → Option Value) (c : CallF) (y : YieldF) (k : Nat) : DT := .node 303 (ar3 (fun lim a0 a1 a2 H => L303 ρ c y lim k a0 a1 a2 H) (fun lim args H => slowF (cx ρ) c y k lim 303 args H)) (tr242 ρ c y k) (tr346 ρ c y k)
theorem tr303_all (ρ : Addr → Option Value) (k : Nat) : (tr303 ρ (evCY (cx ρ) k).1 (evCY (cx ρ) k).2 k).All fun f h => h = fun lim args H => (evCY (cx ρ) (k + 1)).1 lim f args H :=
  ⟨ar3_eq (F := fun lim args H => (evCY (cx ρ) (k + 1)).1 lim 303 args H) (slow_at (cx ρ) k 303) (fun lim a0 a1 a2 H => E303 ρ k lim a0 a1 a2 H), tr242_all ρ k, tr346_all ρ k⟩
noncomputable def tr169 (ρ : Addr → Option Value) (c : CallF) (y : YieldF) (k : Nat) : DT := .node 169 (ar1 (fun lim a0 H => L169 ρ c y lim k a0 H) (fun lim args H => slowF (cx ρ) c y k lim 169 args H)) (tr57 ρ c y k) (tr303 ρ c y k)
theorem tr169_all (ρ : Addr → Option Value) (k : Nat) : (tr169 ρ (evCY (cx ρ) k).1 (evCY (cx ρ) k).2 k).All fun f h => h = fun lim args H => (evCY (cx ρ) (k + 1)).1 lim f args H :=
  ⟨ar1_eq (F := fun lim args H => (evCY (cx ρ) (k + 1)).1 lim 169 args H) (slow_at (cx ρ) k 169) (fun lim a0 H => E169 ρ k lim a0 H), tr57_all ρ k, tr303_all ρ k⟩
noncomputable def fast (ρ : Addr → Option Value) (k : Nat) : CallF := (fastY (cx ρ) (tr169 ρ) k).1
theorem fast_eq (ρ : Addr → Option Value) (k : Nat) : fast ρ k = evCall (cx ρ) k := congrArg Prod.fst (fastY_eq (cx ρ) (tr169 ρ) (tr169_all ρ) k)
end Go.Proofs.YtdiafdmgenefnaaGreat
