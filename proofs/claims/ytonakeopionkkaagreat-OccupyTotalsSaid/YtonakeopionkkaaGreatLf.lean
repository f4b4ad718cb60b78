/- All functions that are lifted. Printed by a program of this repo. -/
import Derived.Test.YtonakeopionkkaaGreatLf0
import Derived.Test.YtonakeopionkkaaGreatLf1
import Derived.Test.YtonakeopionkkaaGreatLf2
import Derived.Test.YtonakeopionkkaaGreatLf3
set_option linter.unusedVariables false
set_option linter.unusedSimpArgs false
set_option maxRecDepth 100000
set_option maxHeartbeats 4000000
namespace Go.Proofs.YtonakeopionkkaaGreat
open Go.Ev Go.RowKit

theorem ldT30 (ρ : Addr → Option Value) (H : Heap) (x : AV) : loadA (cx ρ) H 30 x = ldN ρ H 5 x := by kernel_rfl
theorem ldT42 (ρ : Addr → Option Value) (H : Heap) (x : AV) : loadA (cx ρ) H 42 x = ldN ρ H 6 x := by kernel_rfl
theorem ldT96 (ρ : Addr → Option Value) (H : Heap) (x : AV) : loadA (cx ρ) H 96 x = ldN ρ H 4 x := by kernel_rfl
theorem ldT145 (ρ : Addr → Option Value) (H : Heap) (x : AV) : loadA (cx ρ) H 145 x = ldN ρ H 3 x := by kernel_rfl
noncomputable def tr4 (ρ : Addr → Option Value) (c : CallF) (y : YieldF) (k : Nat) : DT := .node 4 (ar2 (fun lim a0 a1 H => L4 ρ c y lim k a0 a1 H) (fun lim args H => slowF (cx ρ) c y k lim 4 args H)) .leaf .leaf
theorem tr4_all (ρ : Addr → Option Value) (k : Nat) : (tr4 ρ (evCY (cx ρ) k).1 (evCY (cx ρ) k).2 k).All fun f h => h = fun lim args H => (evCY (cx ρ) (k + 1)).1 lim f args H :=
  ⟨ar2_eq (F := fun lim args H => (evCY (cx ρ) (k + 1)).1 lim 4 args H) (slow_at (cx ρ) k 4) (fun lim a0 a1 H => E4 ρ k lim a0 a1 H), trivial, trivial⟩
noncomputable def tr5 (ρ : Addr → Option Value) (c : CallF) (y : YieldF) (k : Nat) : DT := .node 5 (ar0 (fun lim H => L5 ρ c y lim k H) (fun lim args H => slowF (cx ρ) c y k lim 5 args H)) (tr4 ρ c y k) .leaf
theorem tr5_all (ρ : Addr → Option Value) (k : Nat) : (tr5 ρ (evCY (cx ρ) k).1 (evCY (cx ρ) k).2 k).All fun f h => h = fun lim args H => (evCY (cx ρ) (k + 1)).1 lim f args H :=
  ⟨ar0_eq (F := fun lim args H => (evCY (cx ρ) (k + 1)).1 lim 5 args H) (slow_at (cx ρ) k 5) (fun lim H => E5 ρ k lim H), tr4_all ρ k, trivial⟩
noncomputable def tr7 (ρ : Addr → Option Value) (c : CallF) (y : YieldF) (k : Nat) : DT := .node 7 (ar1 (fun lim a0 H => L7 ρ c y lim k a0 H) (fun lim args H => slowF (cx ρ) c y k lim 7 args H)) .leaf .leaf
theorem tr7_all (ρ : Addr → Option Value) (k : Nat) : (tr7 ρ (evCY (cx ρ) k).1 (evCY (cx ρ) k).2 k).All fun f h => h = fun lim args H => (evCY (cx ρ) (k + 1)).1 lim f args H :=
  ⟨ar1_eq (F := fun lim args H => (evCY (cx ρ) (k + 1)).1 lim 7 args H) (slow_at (cx ρ) k 7) (fun lim a0 H => E7 ρ k lim a0 H), trivial, trivial⟩
noncomputable def tr6 (ρ : Addr → Option Value) (c : CallF) (y : YieldF) (k : Nat) : DT := .node 6 (ar1 (fun lim a0 H => L6 ρ c y lim k a0 H) (fun lim args H => slowF (cx ρ) c y k lim 6 args H)) (tr5 ρ c y k) (tr7 ρ c y k)
theorem tr6_all (ρ : Addr → Option Value) (k : Nat) : (tr6 ρ (evCY (cx ρ) k).1 (evCY (cx ρ) k).2 k).All fun f h => h = fun lim args H => (evCY (cx ρ) (k + 1)).1 lim f args H :=
  ⟨ar1_eq (F := fun lim args H => (evCY (cx ρ) (k + 1)).1 lim 6 args H) (slow_at (cx ρ) k 6) (fun lim a0 H => E6 ρ k lim a0 H), tr5_all ρ k, tr7_all ρ k⟩
noncomputable def tr9 (ρ : Addr → Option Value) (c : CallF) (y : YieldF) (k : Nat) : DT := .node 9 (ar2 (fun lim a0 a1 H => L9 ρ c y lim k a0 a1 H) (fun lim args H => slowF (cx ρ) c y k lim 9 args H)) .leaf .leaf
theorem tr9_all (ρ : Addr → Option Value) (k : Nat) : (tr9 ρ (evCY (cx ρ) k).1 (evCY (cx ρ) k).2 k).All fun f h => h = fun lim args H => (evCY (cx ρ) (k + 1)).1 lim f args H :=
  ⟨ar2_eq (F := fun lim args H => (evCY (cx ρ) (k + 1)).1 lim 9 args H) (slow_at (cx ρ) k 9) (fun lim a0 a1 H => E9 ρ k lim a0 a1 H), trivial, trivial⟩
noncomputable def tr11 (ρ : Addr → Option Value) (c : CallF) (y : YieldF) (k : Nat) : DT := .node 11 (ar2 (fun lim a0 a1 H => L11 ρ c y lim k a0 a1 H) (fun lim args H => slowF (cx ρ) c y k lim 11 args H)) .leaf .leaf
theorem tr11_all (ρ : Addr → Option Value) (k : Nat) : (tr11 ρ (evCY (cx ρ) k).1 (evCY (cx ρ) k).2 k).All fun f h => h = fun lim args H => (evCY (cx ρ) (k + 1)).1 lim f args H :=
  ⟨ar2_eq (F := fun lim args H => (evCY (cx ρ) (k + 1)).1 lim 11 args H) (slow_at (cx ρ) k 11) (fun lim a0 a1 H => E11 ρ k lim a0 a1 H), trivial, trivial⟩
noncomputable def tr10 (ρ : Addr → Option Value) (c : CallF) (y : YieldF) (k : Nat) : DT := .node 10 (ar1 (fun lim a0 H => L10 ρ c y lim k a0 H) (fun lim args H => slowF (cx ρ) c y k lim 10 args H)) (tr9 ρ c y k) (tr11 ρ c y k)
theorem tr10_all (ρ : Addr → Option Value) (k : Nat) : (tr10 ρ (evCY (cx ρ) k).1 (evCY (cx ρ) k).2 k).All fun f h => h = fun lim args H => (evCY (cx ρ) (k + 1)).1 lim f args H :=
  ⟨ar1_eq (F := fun lim args H => (evCY (cx ρ) (k + 1)).1 lim 10 args H) (slow_at (cx ρ) k 10) (fun lim a0 H => E10 ρ k lim a0 H), tr9_all ρ k, tr11_all ρ k⟩
noncomputable def tr8 (ρ : Addr → Option Value) (c : CallF) (y : YieldF) (k : Nat) : DT := .node 8 (ar1 (fun lim a0 H => L8 ρ c y lim k a0 H) (fun lim args H => slowF (cx ρ) c y k lim 8 args H)) (tr6 ρ c y k) (tr10 ρ c y k)
theorem tr8_all (ρ : Addr → Option Value) (k : Nat) : (tr8 ρ (evCY (cx ρ) k).1 (evCY (cx ρ) k).2 k).All fun f h => h = fun lim args H => (evCY (cx ρ) (k + 1)).1 lim f args H :=
  ⟨ar1_eq (F := fun lim args H => (evCY (cx ρ) (k + 1)).1 lim 8 args H) (slow_at (cx ρ) k 8) (fun lim a0 H => E8 ρ k lim a0 H), tr6_all ρ k, tr10_all ρ k⟩
noncomputable def tr13 (ρ : Addr → Option Value) (c : CallF) (y : YieldF) (k : Nat) : DT := .node 13 (ar0 (fun lim H => L13 ρ c y lim k H) (fun lim args H => slowF (cx ρ) c y k lim 13 args H)) .leaf .leaf
theorem tr13_all (ρ : Addr → Option Value) (k : Nat) : (tr13 ρ (evCY (cx ρ) k).1 (evCY (cx ρ) k).2 k).All fun f h => h = fun lim args H => (evCY (cx ρ) (k + 1)).1 lim f args H :=
  ⟨ar0_eq (F := fun lim args H => (evCY (cx ρ) (k + 1)).1 lim 13 args H) (slow_at (cx ρ) k 13) (fun lim H => E13 ρ k lim H), trivial, trivial⟩
noncomputable def tr14 (ρ : Addr → Option Value) (c : CallF) (y : YieldF) (k : Nat) : DT := .node 14 (ar0 (fun lim H => L14 ρ c y lim k H) (fun lim args H => slowF (cx ρ) c y k lim 14 args H)) (tr13 ρ c y k) .leaf
theorem tr14_all (ρ : Addr → Option Value) (k : Nat) : (tr14 ρ (evCY (cx ρ) k).1 (evCY (cx ρ) k).2 k).All fun f h => h = fun lim args H => (evCY (cx ρ) (k + 1)).1 lim f args H :=
  ⟨ar0_eq (F := fun lim args H => (evCY (cx ρ) (k + 1)).1 lim 14 args H) (slow_at (cx ρ) k 14) (fun lim H => E14 ρ k lim H), tr13_all ρ k, trivial⟩
noncomputable def tr16 (ρ : Addr → Option Value) (c : CallF) (y : YieldF) (k : Nat) : DT := .node 16 (ar1 (fun lim a0 H => L16 ρ c y lim k a0 H) (fun lim args H => slowF (cx ρ) c y k lim 16 args H)) .leaf .leaf
theorem tr16_all (ρ : Addr → Option Value) (k : Nat) : (tr16 ρ (evCY (cx ρ) k).1 (evCY (cx ρ) k).2 k).All fun f h => h = fun lim args H => (evCY (cx ρ) (k + 1)).1 lim f args H :=
  ⟨ar1_eq (F := fun lim args H => (evCY (cx ρ) (k + 1)).1 lim 16 args H) (slow_at (cx ρ) k 16) (fun lim a0 H => E16 ρ k lim a0 H), trivial, trivial⟩
noncomputable def tr15 (ρ : Addr → Option Value) (c : CallF) (y : YieldF) (k : Nat) : DT := .node 15 (ar1 (fun lim a0 H => L15 ρ c y lim k a0 H) (fun lim args H => slowF (cx ρ) c y k lim 15 args H)) (tr14 ρ c y k) (tr16 ρ c y k)
theorem tr15_all (ρ : Addr → Option Value) (k : Nat) : (tr15 ρ (evCY (cx ρ) k).1 (evCY (cx ρ) k).2 k).All fun f h => h = fun lim args H => (evCY (cx ρ) (k + 1)).1 lim f args H :=
  ⟨ar1_eq (F := fun lim args H => (evCY (cx ρ) (k + 1)).1 lim 15 args H) (slow_at (cx ρ) k 15) (fun lim a0 H => E15 ρ k lim a0 H), tr14_all ρ k, tr16_all ρ k⟩
noncomputable def tr18 (ρ : Addr → Option Value) (c : CallF) (y : YieldF) (k : Nat) : DT := .node 18 (ar1 (fun lim a0 H => L18 ρ c y lim k a0 H) (fun lim args H => slowF (cx ρ) c y k lim 18 args H)) .leaf .leaf
theorem tr18_all (ρ : Addr → Option Value) (k : Nat) : (tr18 ρ (evCY (cx ρ) k).1 (evCY (cx ρ) k).2 k).All fun f h => h = fun lim args H => (evCY (cx ρ) (k + 1)).1 lim f args H :=
  ⟨ar1_eq (F := fun lim args H => (evCY (cx ρ) (k + 1)).1 lim 18 args H) (slow_at (cx ρ) k 18) (fun lim a0 H => E18 ρ k lim a0 H), trivial, trivial⟩
noncomputable def tr22 (ρ : Addr → Option Value) (c : CallF) (y : YieldF) (k : Nat) : DT := .node 22 (ar1 (fun lim a0 H => L22 ρ c y lim k a0 H) (fun lim args H => slowF (cx ρ) c y k lim 22 args H)) .leaf .leaf
theorem tr22_all (ρ : Addr → Option Value) (k : Nat) : (tr22 ρ (evCY (cx ρ) k).1 (evCY (cx ρ) k).2 k).All fun f h => h = fun lim args H => (evCY (cx ρ) (k + 1)).1 lim f args H :=
  ⟨ar1_eq (F := fun lim args H => (evCY (cx ρ) (k + 1)).1 lim 22 args H) (slow_at (cx ρ) k 22) (fun lim a0 H => E22 ρ k lim a0 H), trivial, trivial⟩
noncomputable def tr21 (ρ : Addr → Option Value) (c : CallF) (y : YieldF) (k : Nat) : DT := .node 21 (ar1 (fun lim a0 H => L21 ρ c y lim k a0 H) (fun lim args H => slowF (cx ρ) c y k lim 21 args H)) (tr18 ρ c y k) (tr22 ρ c y k)
theorem tr21_all (ρ : Addr → Option Value) (k : Nat) : (tr21 ρ (evCY (cx ρ) k).1 (evCY (cx ρ) k).2 k).All fun f h => h = fun lim args H => (evCY (cx ρ) (k + 1)).1 lim f args H :=
  ⟨ar1_eq (F := fun lim args H => (evCY (cx ρ) (k + 1)).1 lim 21 args H) (slow_at (cx ρ) k 21) (fun lim a0 H => E21 ρ k lim a0 H), tr18_all ρ k, tr22_all ρ k⟩
noncomputable def tr17 (ρ : Addr → Option Value) (c : CallF) (y : YieldF) (k : Nat) : DT := .node 17 (ar1 (fun lim a0 H => L17 ρ c y lim k a0 H) (fun lim args H => slowF (cx ρ) c y k lim 17 args H)) (tr15 ρ c y k) (tr21 ρ c y k)
theorem tr17_all (ρ : Addr → Option Value) (k : Nat) : (tr17 ρ (evCY (cx ρ) k).1 (evCY (cx ρ) k).2 k).All fun f h => h = fun lim args H => (evCY (cx ρ) (k + 1)).1 lim f args H :=
  ⟨ar1_eq (F := fun lim args H => (evCY (cx ρ) (k + 1)).1 lim 17 args H) (slow_at (cx ρ) k 17) (fun lim a0 H => E17 ρ k lim a0 H), tr15_all ρ k, tr21_all ρ k⟩
noncomputable def tr12 (ρ : Addr → Option Value) (c : CallF) (y : YieldF) (k : Nat) : DT := .node 12 (ar2 (fun lim a0 a1 H => L12 ρ c y lim k a0 a1 H) (fun lim args H => slowF (cx ρ) c y k lim 12 args H)) (tr8 ρ c y k) (tr17 ρ c y k)
theorem tr12_all (ρ : Addr → Option Value) (k : Nat) : (tr12 ρ (evCY (cx ρ) k).1 (evCY (cx ρ) k).2 k).All fun f h => h = fun lim args H => (evCY (cx ρ) (k + 1)).1 lim f args H :=
  ⟨ar2_eq (F := fun lim args H => (evCY (cx ρ) (k + 1)).1 lim 12 args H) (slow_at (cx ρ) k 12) (fun lim a0 a1 H => E12 ρ k lim a0 a1 H), tr8_all ρ k, tr17_all ρ k⟩
noncomputable def tr24 (ρ : Addr → Option Value) (c : CallF) (y : YieldF) (k : Nat) : DT := .node 24 (ar1 (fun lim a0 H => L24 ρ c y lim k a0 H) (fun lim args H => slowF (cx ρ) c y k lim 24 args H)) .leaf .leaf
theorem tr24_all (ρ : Addr → Option Value) (k : Nat) : (tr24 ρ (evCY (cx ρ) k).1 (evCY (cx ρ) k).2 k).All fun f h => h = fun lim args H => (evCY (cx ρ) (k + 1)).1 lim f args H :=
  ⟨ar1_eq (F := fun lim args H => (evCY (cx ρ) (k + 1)).1 lim 24 args H) (slow_at (cx ρ) k 24) (fun lim a0 H => E24 ρ k lim a0 H), trivial, trivial⟩
noncomputable def tr25 (ρ : Addr → Option Value) (c : CallF) (y : YieldF) (k : Nat) : DT := .node 25 (ar1 (fun lim a0 H => L25 ρ c y lim k a0 H) (fun lim args H => slowF (cx ρ) c y k lim 25 args H)) (tr24 ρ c y k) .leaf
theorem tr25_all (ρ : Addr → Option Value) (k : Nat) : (tr25 ρ (evCY (cx ρ) k).1 (evCY (cx ρ) k).2 k).All fun f h => h = fun lim args H => (evCY (cx ρ) (k + 1)).1 lim f args H :=
  ⟨ar1_eq (F := fun lim args H => (evCY (cx ρ) (k + 1)).1 lim 25 args H) (slow_at (cx ρ) k 25) (fun lim a0 H => E25 ρ k lim a0 H), tr24_all ρ k, trivial⟩
noncomputable def tr27 (ρ : Addr → Option Value) (c : CallF) (y : YieldF) (k : Nat) : DT := .node 27 (ar1 (fun lim a0 H => L27 ρ c y lim k a0 H) (fun lim args H => slowF (cx ρ) c y k lim 27 args H)) .leaf .leaf
theorem tr27_all (ρ : Addr → Option Value) (k : Nat) : (tr27 ρ (evCY (cx ρ) k).1 (evCY (cx ρ) k).2 k).All fun f h => h = fun lim args H => (evCY (cx ρ) (k + 1)).1 lim f args H :=
  ⟨ar1_eq (F := fun lim args H => (evCY (cx ρ) (k + 1)).1 lim 27 args H) (slow_at (cx ρ) k 27) (fun lim a0 H => E27 ρ k lim a0 H), trivial, trivial⟩
noncomputable def tr26 (ρ : Addr → Option Value) (c : CallF) (y : YieldF) (k : Nat) : DT := .node 26 (ar1 (fun lim a0 H => L26 ρ c y lim k a0 H) (fun lim args H => slowF (cx ρ) c y k lim 26 args H)) (tr25 ρ c y k) (tr27 ρ c y k)
theorem tr26_all (ρ : Addr → Option Value) (k : Nat) : (tr26 ρ (evCY (cx ρ) k).1 (evCY (cx ρ) k).2 k).All fun f h => h = fun lim args H => (evCY (cx ρ) (k + 1)).1 lim f args H :=
  ⟨ar1_eq (F := fun lim args H => (evCY (cx ρ) (k + 1)).1 lim 26 args H) (slow_at (cx ρ) k 26) (fun lim a0 H => E26 ρ k lim a0 H), tr25_all ρ k, tr27_all ρ k⟩
noncomputable def tr29 (ρ : Addr → Option Value) (c : CallF) (y : YieldF) (k : Nat) : DT := .node 29 (ar1 (fun lim a0 H => L29 ρ c y lim k a0 H) (fun lim args H => slowF (cx ρ) c y k lim 29 args H)) .leaf .leaf
theorem tr29_all (ρ : Addr → Option Value) (k : Nat) : (tr29 ρ (evCY (cx ρ) k).1 (evCY (cx ρ) k).2 k).All fun f h => h = fun lim args H => (evCY (cx ρ) (k + 1)).1 lim f args H :=
  ⟨ar1_eq (F := fun lim args H => (evCY (cx ρ) (k + 1)).1 lim 29 args H) (slow_at (cx ρ) k 29) (fun lim a0 H => E29 ρ k lim a0 H), trivial, trivial⟩
noncomputable def tr31 (ρ : Addr → Option Value) (c : CallF) (y : YieldF) (k : Nat) : DT := .node 31 (ar2 (fun lim a0 a1 H => L31 ρ c y lim k a0 a1 H) (fun lim args H => slowF (cx ρ) c y k lim 31 args H)) .leaf .leaf
theorem tr31_all (ρ : Addr → Option Value) (k : Nat) : (tr31 ρ (evCY (cx ρ) k).1 (evCY (cx ρ) k).2 k).All fun f h => h = fun lim args H => (evCY (cx ρ) (k + 1)).1 lim f args H :=
  ⟨ar2_eq (F := fun lim args H => (evCY (cx ρ) (k + 1)).1 lim 31 args H) (slow_at (cx ρ) k 31) (fun lim a0 a1 H => E31 ρ k lim a0 a1 H), trivial, trivial⟩
noncomputable def tr30 (ρ : Addr → Option Value) (c : CallF) (y : YieldF) (k : Nat) : DT := .node 30 (ar2 (fun lim a0 a1 H => L30 ρ c y lim k a0 a1 H) (fun lim args H => slowF (cx ρ) c y k lim 30 args H)) (tr29 ρ c y k) (tr31 ρ c y k)
theorem tr30_all (ρ : Addr → Option Value) (k : Nat) : (tr30 ρ (evCY (cx ρ) k).1 (evCY (cx ρ) k).2 k).All fun f h => h = fun lim args H => (evCY (cx ρ) (k + 1)).1 lim f args H :=
  ⟨ar2_eq (F := fun lim args H => (evCY (cx ρ) (k + 1)).1 lim 30 args H) (slow_at (cx ρ) k 30) (fun lim a0 a1 H => E30 ρ k lim a0 a1 H), tr29_all ρ k, tr31_all ρ k⟩
noncomputable def tr28 (ρ : Addr → Option Value) (c : CallF) (y : YieldF) (k : Nat) : DT := .node 28 (ar1 (fun lim a0 H => L28 ρ c y lim k a0 H) (fun lim args H => slowF (cx ρ) c y k lim 28 args H)) (tr26 ρ c y k) (tr30 ρ c y k)
theorem tr28_all (ρ : Addr → Option Value) (k : Nat) : (tr28 ρ (evCY (cx ρ) k).1 (evCY (cx ρ) k).2 k).All fun f h => h = fun lim args H => (evCY (cx ρ) (k + 1)).1 lim f args H :=
  ⟨ar1_eq (F := fun lim args H => (evCY (cx ρ) (k + 1)).1 lim 28 args H) (slow_at (cx ρ) k 28) (fun lim a0 H => E28 ρ k lim a0 H), tr26_all ρ k, tr30_all ρ k⟩
noncomputable def tr38 (ρ : Addr → Option Value) (c : CallF) (y : YieldF) (k : Nat) : DT := .node 38 (ar3 (fun lim a0 a1 a2 H => L38 ρ c y lim k a0 a1 a2 H) (fun lim args H => slowF (cx ρ) c y k lim 38 args H)) .leaf .leaf
theorem tr38_all (ρ : Addr → Option Value) (k : Nat) : (tr38 ρ (evCY (cx ρ) k).1 (evCY (cx ρ) k).2 k).All fun f h => h = fun lim args H => (evCY (cx ρ) (k + 1)).1 lim f args H :=
  ⟨ar3_eq (F := fun lim args H => (evCY (cx ρ) (k + 1)).1 lim 38 args H) (slow_at (cx ρ) k 38) (fun lim a0 a1 a2 H => E38 ρ k lim a0 a1 a2 H), trivial, trivial⟩
noncomputable def tr40 (ρ : Addr → Option Value) (c : CallF) (y : YieldF) (k : Nat) : DT := .node 40 (ar1 (fun lim a0 H => L40 ρ c y lim k a0 H) (fun lim args H => slowF (cx ρ) c y k lim 40 args H)) .leaf .leaf
theorem tr40_all (ρ : Addr → Option Value) (k : Nat) : (tr40 ρ (evCY (cx ρ) k).1 (evCY (cx ρ) k).2 k).All fun f h => h = fun lim args H => (evCY (cx ρ) (k + 1)).1 lim f args H :=
  ⟨ar1_eq (F := fun lim args H => (evCY (cx ρ) (k + 1)).1 lim 40 args H) (slow_at (cx ρ) k 40) (fun lim a0 H => E40 ρ k lim a0 H), trivial, trivial⟩
noncomputable def tr39 (ρ : Addr → Option Value) (c : CallF) (y : YieldF) (k : Nat) : DT := .node 39 (ar1 (fun lim a0 H => L39 ρ c y lim k a0 H) (fun lim args H => slowF (cx ρ) c y k lim 39 args H)) (tr38 ρ c y k) (tr40 ρ c y k)
theorem tr39_all (ρ : Addr → Option Value) (k : Nat) : (tr39 ρ (evCY (cx ρ) k).1 (evCY (cx ρ) k).2 k).All fun f h => h = fun lim args H => (evCY (cx ρ) (k + 1)).1 lim f args H :=
  ⟨ar1_eq (F := fun lim args H => (evCY (cx ρ) (k + 1)).1 lim 39 args H) (slow_at (cx ρ) k 39) (fun lim a0 H => E39 ρ k lim a0 H), tr38_all ρ k, tr40_all ρ k⟩
noncomputable def tr43 (ρ : Addr → Option Value) (c : CallF) (y : YieldF) (k : Nat) : DT := .node 43 (ar2 (fun lim a0 a1 H => L43 ρ c y lim k a0 a1 H) (fun lim args H => slowF (cx ρ) c y k lim 43 args H)) .leaf .leaf
theorem tr43_all (ρ : Addr → Option Value) (k : Nat) : (tr43 ρ (evCY (cx ρ) k).1 (evCY (cx ρ) k).2 k).All fun f h => h = fun lim args H => (evCY (cx ρ) (k + 1)).1 lim f args H :=
  ⟨ar2_eq (F := fun lim args H => (evCY (cx ρ) (k + 1)).1 lim 43 args H) (slow_at (cx ρ) k 43) (fun lim a0 a1 H => E43 ρ k lim a0 a1 H), trivial, trivial⟩
noncomputable def tr45 (ρ : Addr → Option Value) (c : CallF) (y : YieldF) (k : Nat) : DT := .node 45 (ar1 (fun lim a0 H => L45 ρ c y lim k a0 H) (fun lim args H => slowF (cx ρ) c y k lim 45 args H)) .leaf .leaf
theorem tr45_all (ρ : Addr → Option Value) (k : Nat) : (tr45 ρ (evCY (cx ρ) k).1 (evCY (cx ρ) k).2 k).All fun f h => h = fun lim args H => (evCY (cx ρ) (k + 1)).1 lim f args H :=
  ⟨ar1_eq (F := fun lim args H => (evCY (cx ρ) (k + 1)).1 lim 45 args H) (slow_at (cx ρ) k 45) (fun lim a0 H => E45 ρ k lim a0 H), trivial, trivial⟩
noncomputable def tr44 (ρ : Addr → Option Value) (c : CallF) (y : YieldF) (k : Nat) : DT := .node 44 (ar1 (fun lim a0 H => L44 ρ c y lim k a0 H) (fun lim args H => slowF (cx ρ) c y k lim 44 args H)) (tr43 ρ c y k) (tr45 ρ c y k)
theorem tr44_all (ρ : Addr → Option Value) (k : Nat) : (tr44 ρ (evCY (cx ρ) k).1 (evCY (cx ρ) k).2 k).All fun f h => h = fun lim args H => (evCY (cx ρ) (k + 1)).1 lim f args H :=
  ⟨ar1_eq (F := fun lim args H => (evCY (cx ρ) (k + 1)).1 lim 44 args H) (slow_at (cx ρ) k 44) (fun lim a0 H => E44 ρ k lim a0 H), tr43_all ρ k, tr45_all ρ k⟩
noncomputable def tr41 (ρ : Addr → Option Value) (c : CallF) (y : YieldF) (k : Nat) : DT := .node 41 (ar1 (fun lim a0 H => L41 ρ c y lim k a0 H) (fun lim args H => slowF (cx ρ) c y k lim 41 args H)) (tr39 ρ c y k) (tr44 ρ c y k)
theorem tr41_all (ρ : Addr → Option Value) (k : Nat) : (tr41 ρ (evCY (cx ρ) k).1 (evCY (cx ρ) k).2 k).All fun f h => h = fun lim args H => (evCY (cx ρ) (k + 1)).1 lim f args H :=
  ⟨ar1_eq (F := fun lim args H => (evCY (cx ρ) (k + 1)).1 lim 41 args H) (slow_at (cx ρ) k 41) (fun lim a0 H => E41 ρ k lim a0 H), tr39_all ρ k, tr44_all ρ k⟩
noncomputable def tr37 (ρ : Addr → Option Value) (c : CallF) (y : YieldF) (k : Nat) : DT := .node 37 (ar1 (fun lim a0 H => L37 ρ c y lim k a0 H) (fun lim args H => slowF (cx ρ) c y k lim 37 args H)) (tr28 ρ c y k) (tr41 ρ c y k)
theorem tr37_all (ρ : Addr → Option Value) (k : Nat) : (tr37 ρ (evCY (cx ρ) k).1 (evCY (cx ρ) k).2 k).All fun f h => h = fun lim args H => (evCY (cx ρ) (k + 1)).1 lim f args H :=
  ⟨ar1_eq (F := fun lim args H => (evCY (cx ρ) (k + 1)).1 lim 37 args H) (slow_at (cx ρ) k 37) (fun lim a0 H => E37 ρ k lim a0 H), tr28_all ρ k, tr41_all ρ k⟩
noncomputable def tr23 (ρ : Addr → Option Value) (c : CallF) (y : YieldF) (k : Nat) : DT := .node 23 (ar2 (fun lim a0 a1 H => L23 ρ c y lim k a0 a1 H) (fun lim args H => slowF (cx ρ) c y k lim 23 args H)) (tr12 ρ c y k) (tr37 ρ c y k)
theorem tr23_all (ρ : Addr → Option Value) (k : Nat) : (tr23 ρ (evCY (cx ρ) k).1 (evCY (cx ρ) k).2 k).All fun f h => h = fun lim args H => (evCY (cx ρ) (k + 1)).1 lim f args H :=
  ⟨ar2_eq (F := fun lim args H => (evCY (cx ρ) (k + 1)).1 lim 23 args H) (slow_at (cx ρ) k 23) (fun lim a0 a1 H => E23 ρ k lim a0 a1 H), tr12_all ρ k, tr37_all ρ k⟩
noncomputable def tr47 (ρ : Addr → Option Value) (c : CallF) (y : YieldF) (k : Nat) : DT := .node 47 (ar2 (fun lim a0 a1 H => L47 ρ c y lim k a0 a1 H) (fun lim args H => slowF (cx ρ) c y k lim 47 args H)) .leaf .leaf
theorem tr47_all (ρ : Addr → Option Value) (k : Nat) : (tr47 ρ (evCY (cx ρ) k).1 (evCY (cx ρ) k).2 k).All fun f h => h = fun lim args H => (evCY (cx ρ) (k + 1)).1 lim f args H :=
  ⟨ar2_eq (F := fun lim args H => (evCY (cx ρ) (k + 1)).1 lim 47 args H) (slow_at (cx ρ) k 47) (fun lim a0 a1 H => E47 ρ k lim a0 a1 H), trivial, trivial⟩
noncomputable def tr48 (ρ : Addr → Option Value) (c : CallF) (y : YieldF) (k : Nat) : DT := .node 48 (ar1 (fun lim a0 H => L48 ρ c y lim k a0 H) (fun lim args H => slowF (cx ρ) c y k lim 48 args H)) (tr47 ρ c y k) .leaf
theorem tr48_all (ρ : Addr → Option Value) (k : Nat) : (tr48 ρ (evCY (cx ρ) k).1 (evCY (cx ρ) k).2 k).All fun f h => h = fun lim args H => (evCY (cx ρ) (k + 1)).1 lim f args H :=
  ⟨ar1_eq (F := fun lim args H => (evCY (cx ρ) (k + 1)).1 lim 48 args H) (slow_at (cx ρ) k 48) (fun lim a0 H => E48 ρ k lim a0 H), tr47_all ρ k, trivial⟩
noncomputable def tr56 (ρ : Addr → Option Value) (c : CallF) (y : YieldF) (k : Nat) : DT := .node 56 (ar2 (fun lim a0 a1 H => L56 ρ c y lim k a0 a1 H) (fun lim args H => slowF (cx ρ) c y k lim 56 args H)) .leaf .leaf
theorem tr56_all (ρ : Addr → Option Value) (k : Nat) : (tr56 ρ (evCY (cx ρ) k).1 (evCY (cx ρ) k).2 k).All fun f h => h = fun lim args H => (evCY (cx ρ) (k + 1)).1 lim f args H :=
  ⟨ar2_eq (F := fun lim args H => (evCY (cx ρ) (k + 1)).1 lim 56 args H) (slow_at (cx ρ) k 56) (fun lim a0 a1 H => E56 ρ k lim a0 a1 H), trivial, trivial⟩
noncomputable def tr50 (ρ : Addr → Option Value) (c : CallF) (y : YieldF) (k : Nat) : DT := .node 50 (ar1 (fun lim a0 H => L50 ρ c y lim k a0 H) (fun lim args H => slowF (cx ρ) c y k lim 50 args H)) (tr48 ρ c y k) (tr56 ρ c y k)
theorem tr50_all (ρ : Addr → Option Value) (k : Nat) : (tr50 ρ (evCY (cx ρ) k).1 (evCY (cx ρ) k).2 k).All fun f h => h = fun lim args H => (evCY (cx ρ) (k + 1)).1 lim f args H :=
  ⟨ar1_eq (F := fun lim args H => (evCY (cx ρ) (k + 1)).1 lim 50 args H) (slow_at (cx ρ) k 50) (fun lim a0 H => E50 ρ k lim a0 H), tr48_all ρ k, tr56_all ρ k⟩
noncomputable def tr58 (ρ : Addr → Option Value) (c : CallF) (y : YieldF) (k : Nat) : DT := .node 58 (ar2 (fun lim a0 a1 H => L58 ρ c y lim k a0 a1 H) (fun lim args H => slowF (cx ρ) c y k lim 58 args H)) .leaf .leaf
theorem tr58_all (ρ : Addr → Option Value) (k : Nat) : (tr58 ρ (evCY (cx ρ) k).1 (evCY (cx ρ) k).2 k).All fun f h => h = fun lim args H => (evCY (cx ρ) (k + 1)).1 lim f args H :=
  ⟨ar2_eq (F := fun lim args H => (evCY (cx ρ) (k + 1)).1 lim 58 args H) (slow_at (cx ρ) k 58) (fun lim a0 a1 H => E58 ρ k lim a0 a1 H), trivial, trivial⟩
noncomputable def tr65 (ρ : Addr → Option Value) (c : CallF) (y : YieldF) (k : Nat) : DT := .node 65 (ar2 (fun lim a0 a1 H => L65 ρ c y lim k a0 a1 H) (fun lim args H => slowF (cx ρ) c y k lim 65 args H)) .leaf .leaf
theorem tr65_all (ρ : Addr → Option Value) (k : Nat) : (tr65 ρ (evCY (cx ρ) k).1 (evCY (cx ρ) k).2 k).All fun f h => h = fun lim args H => (evCY (cx ρ) (k + 1)).1 lim f args H :=
  ⟨ar2_eq (F := fun lim args H => (evCY (cx ρ) (k + 1)).1 lim 65 args H) (slow_at (cx ρ) k 65) (fun lim a0 a1 H => E65 ρ k lim a0 a1 H), trivial, trivial⟩
noncomputable def tr64 (ρ : Addr → Option Value) (c : CallF) (y : YieldF) (k : Nat) : DT := .node 64 (ar2 (fun lim a0 a1 H => L64 ρ c y lim k a0 a1 H) (fun lim args H => slowF (cx ρ) c y k lim 64 args H)) (tr58 ρ c y k) (tr65 ρ c y k)
theorem tr64_all (ρ : Addr → Option Value) (k : Nat) : (tr64 ρ (evCY (cx ρ) k).1 (evCY (cx ρ) k).2 k).All fun f h => h = fun lim args H => (evCY (cx ρ) (k + 1)).1 lim f args H :=
  ⟨ar2_eq (F := fun lim args H => (evCY (cx ρ) (k + 1)).1 lim 64 args H) (slow_at (cx ρ) k 64) (fun lim a0 a1 H => E64 ρ k lim a0 a1 H), tr58_all ρ k, tr65_all ρ k⟩
noncomputable def tr57 (ρ : Addr → Option Value) (c : CallF) (y : YieldF) (k : Nat) : DT := .node 57 (ar1 (fun lim a0 H => L57 ρ c y lim k a0 H) (fun lim args H => slowF (cx ρ) c y k lim 57 args H)) (tr50 ρ c y k) (tr64 ρ c y k)
theorem tr57_all (ρ : Addr → Option Value) (k : Nat) : (tr57 ρ (evCY (cx ρ) k).1 (evCY (cx ρ) k).2 k).All fun f h => h = fun lim args H => (evCY (cx ρ) (k + 1)).1 lim f args H :=
  ⟨ar1_eq (F := fun lim args H => (evCY (cx ρ) (k + 1)).1 lim 57 args H) (slow_at (cx ρ) k 57) (fun lim a0 H => E57 ρ k lim a0 H), tr50_all ρ k, tr64_all ρ k⟩
noncomputable def tr67 (ρ : Addr → Option Value) (c : CallF) (y : YieldF) (k : Nat) : DT := .node 67 (ar1 (fun lim a0 H => L67 ρ c y lim k a0 H) (fun lim args H => slowF (cx ρ) c y k lim 67 args H)) .leaf .leaf
theorem tr67_all (ρ : Addr → Option Value) (k : Nat) : (tr67 ρ (evCY (cx ρ) k).1 (evCY (cx ρ) k).2 k).All fun f h => h = fun lim args H => (evCY (cx ρ) (k + 1)).1 lim f args H :=
  ⟨ar1_eq (F := fun lim args H => (evCY (cx ρ) (k + 1)).1 lim 67 args H) (slow_at (cx ρ) k 67) (fun lim a0 H => E67 ρ k lim a0 H), trivial, trivial⟩
noncomputable def tr89 (ρ : Addr → Option Value) (c : CallF) (y : YieldF) (k : Nat) : DT := .node 89 (ar2 (fun lim a0 a1 H => L89 ρ c y lim k a0 a1 H) (fun lim args H => slowF (cx ρ) c y k lim 89 args H)) .leaf .leaf
theorem tr89_all (ρ : Addr → Option Value) (k : Nat) : (tr89 ρ (evCY (cx ρ) k).1 (evCY (cx ρ) k).2 k).All fun f h => h = fun lim args H => (evCY (cx ρ) (k + 1)).1 lim f args H :=
  ⟨ar2_eq (F := fun lim args H => (evCY (cx ρ) (k + 1)).1 lim 89 args H) (slow_at (cx ρ) k 89) (fun lim a0 a1 H => E89 ρ k lim a0 a1 H), trivial, trivial⟩
noncomputable def tr81 (ρ : Addr → Option Value) (c : CallF) (y : YieldF) (k : Nat) : DT := .node 81 (ar3 (fun lim a0 a1 a2 H => L81 ρ c y lim k a0 a1 a2 H) (fun lim args H => slowF (cx ρ) c y k lim 81 args H)) (tr67 ρ c y k) (tr89 ρ c y k)
theorem tr81_all (ρ : Addr → Option Value) (k : Nat) : (tr81 ρ (evCY (cx ρ) k).1 (evCY (cx ρ) k).2 k).All fun f h => h = fun lim args H => (evCY (cx ρ) (k + 1)).1 lim f args H :=
  ⟨ar3_eq (F := fun lim args H => (evCY (cx ρ) (k + 1)).1 lim 81 args H) (slow_at (cx ρ) k 81) (fun lim a0 a1 a2 H => E81 ρ k lim a0 a1 a2 H), tr67_all ρ k, tr89_all ρ k⟩
noncomputable def tr91 (ρ : Addr → Option Value) (c : CallF) (y : YieldF) (k : Nat) : DT := .node 91 (ar1 (fun lim a0 H => L91 ρ c y lim k a0 H) (fun lim args H => slowF (cx ρ) c y k lim 91 args H)) .leaf .leaf
theorem tr91_all (ρ : Addr → Option Value) (k : Nat) : (tr91 ρ (evCY (cx ρ) k).1 (evCY (cx ρ) k).2 k).All fun f h => h = fun lim args H => (evCY (cx ρ) (k + 1)).1 lim f args H :=
  ⟨ar1_eq (F := fun lim args H => (evCY (cx ρ) (k + 1)).1 lim 91 args H) (slow_at (cx ρ) k 91) (fun lim a0 H => E91 ρ k lim a0 H), trivial, trivial⟩
noncomputable def tr93 (ρ : Addr → Option Value) (c : CallF) (y : YieldF) (k : Nat) : DT := .node 93 (ar0 (fun lim H => L93 ρ c y lim k H) (fun lim args H => slowF (cx ρ) c y k lim 93 args H)) .leaf .leaf
theorem tr93_all (ρ : Addr → Option Value) (k : Nat) : (tr93 ρ (evCY (cx ρ) k).1 (evCY (cx ρ) k).2 k).All fun f h => h = fun lim args H => (evCY (cx ρ) (k + 1)).1 lim f args H :=
  ⟨ar0_eq (F := fun lim args H => (evCY (cx ρ) (k + 1)).1 lim 93 args H) (slow_at (cx ρ) k 93) (fun lim H => E93 ρ k lim H), trivial, trivial⟩
noncomputable def tr92 (ρ : Addr → Option Value) (c : CallF) (y : YieldF) (k : Nat) : DT := .node 92 (ar0 (fun lim H => L92 ρ c y lim k H) (fun lim args H => slowF (cx ρ) c y k lim 92 args H)) (tr91 ρ c y k) (tr93 ρ c y k)
theorem tr92_all (ρ : Addr → Option Value) (k : Nat) : (tr92 ρ (evCY (cx ρ) k).1 (evCY (cx ρ) k).2 k).All fun f h => h = fun lim args H => (evCY (cx ρ) (k + 1)).1 lim f args H :=
  ⟨ar0_eq (F := fun lim args H => (evCY (cx ρ) (k + 1)).1 lim 92 args H) (slow_at (cx ρ) k 92) (fun lim H => E92 ρ k lim H), tr91_all ρ k, tr93_all ρ k⟩
noncomputable def tr90 (ρ : Addr → Option Value) (c : CallF) (y : YieldF) (k : Nat) : DT := .node 90 (ar2 (fun lim a0 a1 H => L90 ρ c y lim k a0 a1 H) (fun lim args H => slowF (cx ρ) c y k lim 90 args H)) (tr81 ρ c y k) (tr92 ρ c y k)
theorem tr90_all (ρ : Addr → Option Value) (k : Nat) : (tr90 ρ (evCY (cx ρ) k).1 (evCY (cx ρ) k).2 k).All fun f h => h = fun lim args H => (evCY (cx ρ) (k + 1)).1 lim f args H :=
  ⟨ar2_eq (F := fun lim args H => (evCY (cx ρ) (k + 1)).1 lim 90 args H) (slow_at (cx ρ) k 90) (fun lim a0 a1 H => E90 ρ k lim a0 a1 H), tr81_all ρ k, tr92_all ρ k⟩
noncomputable def tr66 (ρ : Addr → Option Value) (c : CallF) (y : YieldF) (k : Nat) : DT := .node 66 (ar3 (fun lim a0 a1 a2 H => L66 ρ c y lim k a0 a1 a2 H) (fun lim args H => slowF (cx ρ) c y k lim 66 args H)) (tr57 ρ c y k) (tr90 ρ c y k)
theorem tr66_all (ρ : Addr → Option Value) (k : Nat) : (tr66 ρ (evCY (cx ρ) k).1 (evCY (cx ρ) k).2 k).All fun f h => h = fun lim args H => (evCY (cx ρ) (k + 1)).1 lim f args H :=
  ⟨ar3_eq (F := fun lim args H => (evCY (cx ρ) (k + 1)).1 lim 66 args H) (slow_at (cx ρ) k 66) (fun lim a0 a1 a2 H => E66 ρ k lim a0 a1 a2 H), tr57_all ρ k, tr90_all ρ k⟩
noncomputable def tr95 (ρ : Addr → Option Value) (c : CallF) (y : YieldF) (k : Nat) : DT := .node 95 (ar1 (fun lim a0 H => L95 ρ c y lim k a0 H) (fun lim args H => slowF (cx ρ) c y k lim 95 args H)) .leaf .leaf
theorem tr95_all (ρ : Addr → Option Value) (k : Nat) : (tr95 ρ (evCY (cx ρ) k).1 (evCY (cx ρ) k).2 k).All fun f h => h = fun lim args H => (evCY (cx ρ) (k + 1)).1 lim f args H :=
  ⟨ar1_eq (F := fun lim args H => (evCY (cx ρ) (k + 1)).1 lim 95 args H) (slow_at (cx ρ) k 95) (fun lim a0 H => E95 ρ k lim a0 H), trivial, trivial⟩
noncomputable def tr109 (ρ : Addr → Option Value) (c : CallF) (y : YieldF) (k : Nat) : DT := .node 109 (ar4 (fun lim a0 a1 a2 a3 H => L109 ρ c y lim k a0 a1 a2 a3 H) (fun lim args H => slowF (cx ρ) c y k lim 109 args H)) (tr95 ρ c y k) .leaf
theorem tr109_all (ρ : Addr → Option Value) (k : Nat) : (tr109 ρ (evCY (cx ρ) k).1 (evCY (cx ρ) k).2 k).All fun f h => h = fun lim args H => (evCY (cx ρ) (k + 1)).1 lim f args H :=
  ⟨ar4_eq (F := fun lim args H => (evCY (cx ρ) (k + 1)).1 lim 109 args H) (slow_at (cx ρ) k 109) (fun lim a0 a1 a2 a3 H => E109 ρ k lim a0 a1 a2 a3 H), tr95_all ρ k, trivial⟩
noncomputable def tr122 (ρ : Addr → Option Value) (c : CallF) (y : YieldF) (k : Nat) : DT := .node 122 (ar3 (fun lim a0 a1 a2 H => L122 ρ c y lim k a0 a1 a2 H) (fun lim args H => slowF (cx ρ) c y k lim 122 args H)) .leaf .leaf
theorem tr122_all (ρ : Addr → Option Value) (k : Nat) : (tr122 ρ (evCY (cx ρ) k).1 (evCY (cx ρ) k).2 k).All fun f h => h = fun lim args H => (evCY (cx ρ) (k + 1)).1 lim f args H :=
  ⟨ar3_eq (F := fun lim args H => (evCY (cx ρ) (k + 1)).1 lim 122 args H) (slow_at (cx ρ) k 122) (fun lim a0 a1 a2 H => E122 ρ k lim a0 a1 a2 H), trivial, trivial⟩
noncomputable def tr119 (ρ : Addr → Option Value) (c : CallF) (y : YieldF) (k : Nat) : DT := .node 119 (ar2 (fun lim a0 a1 H => L119 ρ c y lim k a0 a1 H) (fun lim args H => slowF (cx ρ) c y k lim 119 args H)) (tr109 ρ c y k) (tr122 ρ c y k)
theorem tr119_all (ρ : Addr → Option Value) (k : Nat) : (tr119 ρ (evCY (cx ρ) k).1 (evCY (cx ρ) k).2 k).All fun f h => h = fun lim args H => (evCY (cx ρ) (k + 1)).1 lim f args H :=
  ⟨ar2_eq (F := fun lim args H => (evCY (cx ρ) (k + 1)).1 lim 119 args H) (slow_at (cx ρ) k 119) (fun lim a0 a1 H => E119 ρ k lim a0 a1 H), tr109_all ρ k, tr122_all ρ k⟩
noncomputable def tr124 (ρ : Addr → Option Value) (c : CallF) (y : YieldF) (k : Nat) : DT := .node 124 (ar2 (fun lim a0 a1 H => L124 ρ c y lim k a0 a1 H) (fun lim args H => slowF (cx ρ) c y k lim 124 args H)) .leaf .leaf
theorem tr124_all (ρ : Addr → Option Value) (k : Nat) : (tr124 ρ (evCY (cx ρ) k).1 (evCY (cx ρ) k).2 k).All fun f h => h = fun lim args H => (evCY (cx ρ) (k + 1)).1 lim f args H :=
  ⟨ar2_eq (F := fun lim args H => (evCY (cx ρ) (k + 1)).1 lim 124 args H) (slow_at (cx ρ) k 124) (fun lim a0 a1 H => E124 ρ k lim a0 a1 H), trivial, trivial⟩
noncomputable def tr126 (ρ : Addr → Option Value) (c : CallF) (y : YieldF) (k : Nat) : DT := .node 126 (ar4 (fun lim a0 a1 a2 a3 H => L126 ρ c y lim k a0 a1 a2 a3 H) (fun lim args H => slowF (cx ρ) c y k lim 126 args H)) .leaf .leaf
theorem tr126_all (ρ : Addr → Option Value) (k : Nat) : (tr126 ρ (evCY (cx ρ) k).1 (evCY (cx ρ) k).2 k).All fun f h => h = fun lim args H => (evCY (cx ρ) (k + 1)).1 lim f args H :=
  ⟨ar4_eq (F := fun lim args H => (evCY (cx ρ) (k + 1)).1 lim 126 args H) (slow_at (cx ρ) k 126) (fun lim a0 a1 a2 a3 H => E126 ρ k lim a0 a1 a2 a3 H), trivial, trivial⟩
noncomputable def tr125 (ρ : Addr → Option Value) (c : CallF) (y : YieldF) (k : Nat) : DT := .node 125 (ar2 (fun lim a0 a1 H => L125 ρ c y lim k a0 a1 H) (fun lim args H => slowF (cx ρ) c y k lim 125 args H)) (tr124 ρ c y k) (tr126 ρ c y k)
theorem tr125_all (ρ : Addr → Option Value) (k : Nat) : (tr125 ρ (evCY (cx ρ) k).1 (evCY (cx ρ) k).2 k).All fun f h => h = fun lim args H => (evCY (cx ρ) (k + 1)).1 lim f args H :=
  ⟨ar2_eq (F := fun lim args H => (evCY (cx ρ) (k + 1)).1 lim 125 args H) (slow_at (cx ρ) k 125) (fun lim a0 a1 H => E125 ρ k lim a0 a1 H), tr124_all ρ k, tr126_all ρ k⟩
noncomputable def tr123 (ρ : Addr → Option Value) (c : CallF) (y : YieldF) (k : Nat) : DT := .node 123 (ar3 (fun lim a0 a1 a2 H => L123 ρ c y lim k a0 a1 a2 H) (fun lim args H => slowF (cx ρ) c y k lim 123 args H)) (tr119 ρ c y k) (tr125 ρ c y k)
theorem tr123_all (ρ : Addr → Option Value) (k : Nat) : (tr123 ρ (evCY (cx ρ) k).1 (evCY (cx ρ) k).2 k).All fun f h => h = fun lim args H => (evCY (cx ρ) (k + 1)).1 lim f args H :=
  ⟨ar3_eq (F := fun lim args H => (evCY (cx ρ) (k + 1)).1 lim 123 args H) (slow_at (cx ρ) k 123) (fun lim a0 a1 a2 H => E123 ρ k lim a0 a1 a2 H), tr119_all ρ k, tr125_all ρ k⟩
noncomputable def tr145 (ρ : Addr → Option Value) (c : CallF) (y : YieldF) (k : Nat) : DT := .node 145 (ar2 (fun lim a0 a1 H => L145 ρ c y lim k a0 a1 H) (fun lim args H => slowF (cx ρ) c y k lim 145 args H)) .leaf .leaf
theorem tr145_all (ρ : Addr → Option Value) (k : Nat) : (tr145 ρ (evCY (cx ρ) k).1 (evCY (cx ρ) k).2 k).All fun f h => h = fun lim args H => (evCY (cx ρ) (k + 1)).1 lim f args H :=
  ⟨ar2_eq (F := fun lim args H => (evCY (cx ρ) (k + 1)).1 lim 145 args H) (slow_at (cx ρ) k 145) (fun lim a0 a1 H => E145 ρ k lim a0 a1 H), trivial, trivial⟩
noncomputable def tr148 (ρ : Addr → Option Value) (c : CallF) (y : YieldF) (k : Nat) : DT := .node 148 (ar2 (fun lim a0 a1 H => L148 ρ c y lim k a0 a1 H) (fun lim args H => slowF (cx ρ) c y k lim 148 args H)) .leaf .leaf
theorem tr148_all (ρ : Addr → Option Value) (k : Nat) : (tr148 ρ (evCY (cx ρ) k).1 (evCY (cx ρ) k).2 k).All fun f h => h = fun lim args H => (evCY (cx ρ) (k + 1)).1 lim f args H :=
  ⟨ar2_eq (F := fun lim args H => (evCY (cx ρ) (k + 1)).1 lim 148 args H) (slow_at (cx ρ) k 148) (fun lim a0 a1 H => E148 ρ k lim a0 a1 H), trivial, trivial⟩
noncomputable def tr146 (ρ : Addr → Option Value) (c : CallF) (y : YieldF) (k : Nat) : DT := .node 146 (ar1 (fun lim a0 H => L146 ρ c y lim k a0 H) (fun lim args H => slowF (cx ρ) c y k lim 146 args H)) (tr145 ρ c y k) (tr148 ρ c y k)
theorem tr146_all (ρ : Addr → Option Value) (k : Nat) : (tr146 ρ (evCY (cx ρ) k).1 (evCY (cx ρ) k).2 k).All fun f h => h = fun lim args H => (evCY (cx ρ) (k + 1)).1 lim f args H :=
  ⟨ar1_eq (F := fun lim args H => (evCY (cx ρ) (k + 1)).1 lim 146 args H) (slow_at (cx ρ) k 146) (fun lim a0 H => E146 ρ k lim a0 H), tr145_all ρ k, tr148_all ρ k⟩
noncomputable def tr150 (ρ : Addr → Option Value) (c : CallF) (y : YieldF) (k : Nat) : DT := .node 150 (ar3 (fun lim a0 a1 a2 H => L150 ρ c y lim k a0 a1 a2 H) (fun lim args H => slowF (cx ρ) c y k lim 150 args H)) .leaf .leaf
theorem tr150_all (ρ : Addr → Option Value) (k : Nat) : (tr150 ρ (evCY (cx ρ) k).1 (evCY (cx ρ) k).2 k).All fun f h => h = fun lim args H => (evCY (cx ρ) (k + 1)).1 lim f args H :=
  ⟨ar3_eq (F := fun lim args H => (evCY (cx ρ) (k + 1)).1 lim 150 args H) (slow_at (cx ρ) k 150) (fun lim a0 a1 a2 H => E150 ρ k lim a0 a1 a2 H), trivial, trivial⟩
noncomputable def tr152 (ρ : Addr → Option Value) (c : CallF) (y : YieldF) (k : Nat) : DT := .node 152 (ar2 (fun lim a0 a1 H => L152 ρ c y lim k a0 a1 H) (fun lim args H => slowF (cx ρ) c y k lim 152 args H)) .leaf .leaf
theorem tr152_all (ρ : Addr → Option Value) (k : Nat) : (tr152 ρ (evCY (cx ρ) k).1 (evCY (cx ρ) k).2 k).All fun f h => h = fun lim args H => (evCY (cx ρ) (k + 1)).1 lim f args H :=
  ⟨ar2_eq (F := fun lim args H => (evCY (cx ρ) (k + 1)).1 lim 152 args H) (slow_at (cx ρ) k 152) (fun lim a0 a1 H => E152 ρ k lim a0 a1 H), trivial, trivial⟩
noncomputable def tr151 (ρ : Addr → Option Value) (c : CallF) (y : YieldF) (k : Nat) : DT := .node 151 (ar3 (fun lim a0 a1 a2 H => L151 ρ c y lim k a0 a1 a2 H) (fun lim args H => slowF (cx ρ) c y k lim 151 args H)) (tr150 ρ c y k) (tr152 ρ c y k)
theorem tr151_all (ρ : Addr → Option Value) (k : Nat) : (tr151 ρ (evCY (cx ρ) k).1 (evCY (cx ρ) k).2 k).All fun f h => h = fun lim args H => (evCY (cx ρ) (k + 1)).1 lim f args H :=
  ⟨ar3_eq (F := fun lim args H => (evCY (cx ρ) (k + 1)).1 lim 151 args H) (slow_at (cx ρ) k 151) (fun lim a0 a1 a2 H => E151 ρ k lim a0 a1 a2 H), tr150_all ρ k, tr152_all ρ k⟩
noncomputable def tr149 (ρ : Addr → Option Value) (c : CallF) (y : YieldF) (k : Nat) : DT := .node 149 (ar2 (fun lim a0 a1 H => L149 ρ c y lim k a0 a1 H) (fun lim args H => slowF (cx ρ) c y k lim 149 args H)) (tr146 ρ c y k) (tr151 ρ c y k)
theorem tr149_all (ρ : Addr → Option Value) (k : Nat) : (tr149 ρ (evCY (cx ρ) k).1 (evCY (cx ρ) k).2 k).All fun f h => h = fun lim args H => (evCY (cx ρ) (k + 1)).1 lim f args H :=
  ⟨ar2_eq (F := fun lim args H => (evCY (cx ρ) (k + 1)).1 lim 149 args H) (slow_at (cx ρ) k 149) (fun lim a0 a1 H => E149 ρ k lim a0 a1 H), tr146_all ρ k, tr151_all ρ k⟩
noncomputable def tr127 (ρ : Addr → Option Value) (c : CallF) (y : YieldF) (k : Nat) : DT := .node 127 (ar1 (fun lim a0 H => L127 ρ c y lim k a0 H) (fun lim args H => slowF (cx ρ) c y k lim 127 args H)) (tr123 ρ c y k) (tr149 ρ c y k)
theorem tr127_all (ρ : Addr → Option Value) (k : Nat) : (tr127 ρ (evCY (cx ρ) k).1 (evCY (cx ρ) k).2 k).All fun f h => h = fun lim args H => (evCY (cx ρ) (k + 1)).1 lim f args H :=
  ⟨ar1_eq (F := fun lim args H => (evCY (cx ρ) (k + 1)).1 lim 127 args H) (slow_at (cx ρ) k 127) (fun lim a0 H => E127 ρ k lim a0 H), tr123_all ρ k, tr149_all ρ k⟩
noncomputable def tr94 (ρ : Addr → Option Value) (c : CallF) (y : YieldF) (k : Nat) : DT := .node 94 (ar2 (fun lim a0 a1 H => L94 ρ c y lim k a0 a1 H) (fun lim args H => slowF (cx ρ) c y k lim 94 args H)) (tr66 ρ c y k) (tr127 ρ c y k)
theorem tr94_all (ρ : Addr → Option Value) (k : Nat) : (tr94 ρ (evCY (cx ρ) k).1 (evCY (cx ρ) k).2 k).All fun f h => h = fun lim args H => (evCY (cx ρ) (k + 1)).1 lim f args H :=
  ⟨ar2_eq (F := fun lim args H => (evCY (cx ρ) (k + 1)).1 lim 94 args H) (slow_at (cx ρ) k 94) (fun lim a0 a1 H => E94 ρ k lim a0 a1 H), tr66_all ρ k, tr127_all ρ k⟩
noncomputable def tr46 (ρ : Addr → Option Value) (c : CallF) (y : YieldF) (k : Nat) : DT := .node 46 (ar2 (fun lim a0 a1 H => L46 ρ c y lim k a0 a1 H) (fun lim args H => slowF (cx ρ) c y k lim 46 args H)) (tr23 ρ c y k) (tr94 ρ c y k)
theorem tr46_all (ρ : Addr → Option Value) (k : Nat) : (tr46 ρ (evCY (cx ρ) k).1 (evCY (cx ρ) k).2 k).All fun f h => h = fun lim args H => (evCY (cx ρ) (k + 1)).1 lim f args H :=
  ⟨ar2_eq (F := fun lim args H => (evCY (cx ρ) (k + 1)).1 lim 46 args H) (slow_at (cx ρ) k 46) (fun lim a0 a1 H => E46 ρ k lim a0 a1 H), tr23_all ρ k, tr94_all ρ k⟩
noncomputable def fast (ρ : Addr → Option Value) (k : Nat) : CallF := (fastY (cx ρ) (tr46 ρ) k).1
theorem fast_eq (ρ : Addr → Option Value) (k : Nat) : fast ρ k = evCall (cx ρ) k := congrArg Prod.fst (fastY_eq (cx ρ) (tr46 ρ) (tr46_all ρ) k)
end Go.Proofs.YtonakeopionkkaaGreat
