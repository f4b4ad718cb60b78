/- All functions that are lifted. Printed by a program of this repo. -/
import Derived.Test.YtbnhlcgbigeceaaGreatLf0
import Derived.Test.YtbnhlcgbigeceaaGreatLf1
import Derived.Test.YtbnhlcgbigeceaaGreatLf2
import Derived.Test.YtbnhlcgbigeceaaGreatLf3
set_option linter.unusedVariables false
set_option linter.unusedSimpArgs false
set_option maxRecDepth 100000
set_option maxHeartbeats 4000000
namespace Go.Proofs.YtbnhlcgbigeceaaGreat
open Go.Ev Go.RowKit

noncomputable def tr4 (ρ : Addr → Option Value) (c : CallF) (y : YieldF) (k : Nat) : DT := .node 4 (ar0 (fun lim H => L4 ⟨ρ, c, y, lim, k⟩ H) (fun lim args H => slowF (cx ρ) c y k lim 4 args H)) .leaf .leaf
theorem tr4_all (ρ : Addr → Option Value) (k : Nat) : (tr4 ρ (evCY (cx ρ) k).1 (evCY (cx ρ) k).2 k).All fun f h => h = fun lim args H => (evCY (cx ρ) (k + 1)).1 lim f args H :=
  ⟨ar0_eq (F := fun lim args H => (evCY (cx ρ) (k + 1)).1 lim 4 args H) (slow_at (cx ρ) k 4) (fun lim H => E4 ρ k lim H), trivial, trivial⟩
noncomputable def tr5 (ρ : Addr → Option Value) (c : CallF) (y : YieldF) (k : Nat) : DT := .node 5 (ar2 (fun lim a0 a1 H => L5 ⟨ρ, c, y, lim, k⟩ a0 a1 H) (fun lim args H => slowF (cx ρ) c y k lim 5 args H)) (tr4 ρ c y k) .leaf
theorem tr5_all (ρ : Addr → Option Value) (k : Nat) : (tr5 ρ (evCY (cx ρ) k).1 (evCY (cx ρ) k).2 k).All fun f h => h = fun lim args H => (evCY (cx ρ) (k + 1)).1 lim f args H :=
  ⟨ar2_eq (F := fun lim args H => (evCY (cx ρ) (k + 1)).1 lim 5 args H) (slow_at (cx ρ) k 5) (fun lim a0 a1 H => E5 ρ k lim a0 a1 H), tr4_all ρ k, trivial⟩
noncomputable def tr7 (ρ : Addr → Option Value) (c : CallF) (y : YieldF) (k : Nat) : DT := .node 7 (ar1 (fun lim a0 H => L7 ⟨ρ, c, y, lim, k⟩ a0 H) (fun lim args H => slowF (cx ρ) c y k lim 7 args H)) .leaf .leaf
theorem tr7_all (ρ : Addr → Option Value) (k : Nat) : (tr7 ρ (evCY (cx ρ) k).1 (evCY (cx ρ) k).2 k).All fun f h => h = fun lim args H => (evCY (cx ρ) (k + 1)).1 lim f args H :=
  ⟨ar1_eq (F := fun lim args H => (evCY (cx ρ) (k + 1)).1 lim 7 args H) (slow_at (cx ρ) k 7) (fun lim a0 H => E7 ρ k lim a0 H), trivial, trivial⟩
noncomputable def tr8 (ρ : Addr → Option Value) (c : CallF) (y : YieldF) (k : Nat) : DT := .node 8 (ar2 (fun lim a0 a1 H => L8 ⟨ρ, c, y, lim, k⟩ a0 a1 H) (fun lim args H => slowF (cx ρ) c y k lim 8 args H)) (tr7 ρ c y k) .leaf
theorem tr8_all (ρ : Addr → Option Value) (k : Nat) : (tr8 ρ (evCY (cx ρ) k).1 (evCY (cx ρ) k).2 k).All fun f h => h = fun lim args H => (evCY (cx ρ) (k + 1)).1 lim f args H :=
  ⟨ar2_eq (F := fun lim args H => (evCY (cx ρ) (k + 1)).1 lim 8 args H) (slow_at (cx ρ) k 8) (fun lim a0 a1 H => E8 ρ k lim a0 a1 H), tr7_all ρ k, trivial⟩
noncomputable def tr6 (ρ : Addr → Option Value) (c : CallF) (y : YieldF) (k : Nat) : DT := .node 6 (ar2 (fun lim a0 a1 H => L6 ⟨ρ, c, y, lim, k⟩ a0 a1 H) (fun lim args H => slowF (cx ρ) c y k lim 6 args H)) (tr5 ρ c y k) (tr8 ρ c y k)
theorem tr6_all (ρ : Addr → Option Value) (k : Nat) : (tr6 ρ (evCY (cx ρ) k).1 (evCY (cx ρ) k).2 k).All fun f h => h = fun lim args H => (evCY (cx ρ) (k + 1)).1 lim f args H :=
  ⟨ar2_eq (F := fun lim args H => (evCY (cx ρ) (k + 1)).1 lim 6 args H) (slow_at (cx ρ) k 6) (fun lim a0 a1 H => E6 ρ k lim a0 a1 H), tr5_all ρ k, tr8_all ρ k⟩
noncomputable def tr10 (ρ : Addr → Option Value) (c : CallF) (y : YieldF) (k : Nat) : DT := .node 10 (ar1 (fun lim a0 H => L10 ⟨ρ, c, y, lim, k⟩ a0 H) (fun lim args H => slowF (cx ρ) c y k lim 10 args H)) .leaf .leaf
theorem tr10_all (ρ : Addr → Option Value) (k : Nat) : (tr10 ρ (evCY (cx ρ) k).1 (evCY (cx ρ) k).2 k).All fun f h => h = fun lim args H => (evCY (cx ρ) (k + 1)).1 lim f args H :=
  ⟨ar1_eq (F := fun lim args H => (evCY (cx ρ) (k + 1)).1 lim 10 args H) (slow_at (cx ρ) k 10) (fun lim a0 H => E10 ρ k lim a0 H), trivial, trivial⟩
noncomputable def tr11 (ρ : Addr → Option Value) (c : CallF) (y : YieldF) (k : Nat) : DT := .node 11 (ar2 (fun lim a0 a1 H => L11 ⟨ρ, c, y, lim, k⟩ a0 a1 H) (fun lim args H => slowF (cx ρ) c y k lim 11 args H)) (tr10 ρ c y k) .leaf
theorem tr11_all (ρ : Addr → Option Value) (k : Nat) : (tr11 ρ (evCY (cx ρ) k).1 (evCY (cx ρ) k).2 k).All fun f h => h = fun lim args H => (evCY (cx ρ) (k + 1)).1 lim f args H :=
  ⟨ar2_eq (F := fun lim args H => (evCY (cx ρ) (k + 1)).1 lim 11 args H) (slow_at (cx ρ) k 11) (fun lim a0 a1 H => E11 ρ k lim a0 a1 H), tr10_all ρ k, trivial⟩
noncomputable def tr13 (ρ : Addr → Option Value) (c : CallF) (y : YieldF) (k : Nat) : DT := .node 13 (ar0 (fun lim H => L13 ⟨ρ, c, y, lim, k⟩ H) (fun lim args H => slowF (cx ρ) c y k lim 13 args H)) .leaf .leaf
theorem tr13_all (ρ : Addr → Option Value) (k : Nat) : (tr13 ρ (evCY (cx ρ) k).1 (evCY (cx ρ) k).2 k).All fun f h => h = fun lim args H => (evCY (cx ρ) (k + 1)).1 lim f args H :=
  ⟨ar0_eq (F := fun lim args H => (evCY (cx ρ) (k + 1)).1 lim 13 args H) (slow_at (cx ρ) k 13) (fun lim H => E13 ρ k lim H), trivial, trivial⟩
noncomputable def tr14 (ρ : Addr → Option Value) (c : CallF) (y : YieldF) (k : Nat) : DT := .node 14 (ar0 (fun lim H => L14 ⟨ρ, c, y, lim, k⟩ H) (fun lim args H => slowF (cx ρ) c y k lim 14 args H)) (tr13 ρ c y k) .leaf
theorem tr14_all (ρ : Addr → Option Value) (k : Nat) : (tr14 ρ (evCY (cx ρ) k).1 (evCY (cx ρ) k).2 k).All fun f h => h = fun lim args H => (evCY (cx ρ) (k + 1)).1 lim f args H :=
  ⟨ar0_eq (F := fun lim args H => (evCY (cx ρ) (k + 1)).1 lim 14 args H) (slow_at (cx ρ) k 14) (fun lim H => E14 ρ k lim H), tr13_all ρ k, trivial⟩
noncomputable def tr12 (ρ : Addr → Option Value) (c : CallF) (y : YieldF) (k : Nat) : DT := .node 12 (ar2 (fun lim a0 a1 H => L12 ⟨ρ, c, y, lim, k⟩ a0 a1 H) (fun lim args H => slowF (cx ρ) c y k lim 12 args H)) (tr11 ρ c y k) (tr14 ρ c y k)
theorem tr12_all (ρ : Addr → Option Value) (k : Nat) : (tr12 ρ (evCY (cx ρ) k).1 (evCY (cx ρ) k).2 k).All fun f h => h = fun lim args H => (evCY (cx ρ) (k + 1)).1 lim f args H :=
  ⟨ar2_eq (F := fun lim args H => (evCY (cx ρ) (k + 1)).1 lim 12 args H) (slow_at (cx ρ) k 12) (fun lim a0 a1 H => E12 ρ k lim a0 a1 H), tr11_all ρ k, tr14_all ρ k⟩
noncomputable def tr9 (ρ : Addr → Option Value) (c : CallF) (y : YieldF) (k : Nat) : DT := .node 9 (ar1 (fun lim a0 H => L9 ⟨ρ, c, y, lim, k⟩ a0 H) (fun lim args H => slowF (cx ρ) c y k lim 9 args H)) (tr6 ρ c y k) (tr12 ρ c y k)
theorem tr9_all (ρ : Addr → Option Value) (k : Nat) : (tr9 ρ (evCY (cx ρ) k).1 (evCY (cx ρ) k).2 k).All fun f h => h = fun lim args H => (evCY (cx ρ) (k + 1)).1 lim f args H :=
  ⟨ar1_eq (F := fun lim args H => (evCY (cx ρ) (k + 1)).1 lim 9 args H) (slow_at (cx ρ) k 9) (fun lim a0 H => E9 ρ k lim a0 H), tr6_all ρ k, tr12_all ρ k⟩
noncomputable def tr16 (ρ : Addr → Option Value) (c : CallF) (y : YieldF) (k : Nat) : DT := .node 16 (ar1 (fun lim a0 H => L16 ⟨ρ, c, y, lim, k⟩ a0 H) (fun lim args H => slowF (cx ρ) c y k lim 16 args H)) .leaf .leaf
theorem tr16_all (ρ : Addr → Option Value) (k : Nat) : (tr16 ρ (evCY (cx ρ) k).1 (evCY (cx ρ) k).2 k).All fun f h => h = fun lim args H => (evCY (cx ρ) (k + 1)).1 lim f args H :=
  ⟨ar1_eq (F := fun lim args H => (evCY (cx ρ) (k + 1)).1 lim 16 args H) (slow_at (cx ρ) k 16) (fun lim a0 H => E16 ρ k lim a0 H), trivial, trivial⟩
noncomputable def tr17 (ρ : Addr → Option Value) (c : CallF) (y : YieldF) (k : Nat) : DT := .node 17 (ar1 (fun lim a0 H => L17 ⟨ρ, c, y, lim, k⟩ a0 H) (fun lim args H => slowF (cx ρ) c y k lim 17 args H)) (tr16 ρ c y k) .leaf
theorem tr17_all (ρ : Addr → Option Value) (k : Nat) : (tr17 ρ (evCY (cx ρ) k).1 (evCY (cx ρ) k).2 k).All fun f h => h = fun lim args H => (evCY (cx ρ) (k + 1)).1 lim f args H :=
  ⟨ar1_eq (F := fun lim args H => (evCY (cx ρ) (k + 1)).1 lim 17 args H) (slow_at (cx ρ) k 17) (fun lim a0 H => E17 ρ k lim a0 H), tr16_all ρ k, trivial⟩
noncomputable def tr19 (ρ : Addr → Option Value) (c : CallF) (y : YieldF) (k : Nat) : DT := .node 19 (ar1 (fun lim a0 H => L19 ⟨ρ, c, y, lim, k⟩ a0 H) (fun lim args H => slowF (cx ρ) c y k lim 19 args H)) .leaf .leaf
theorem tr19_all (ρ : Addr → Option Value) (k : Nat) : (tr19 ρ (evCY (cx ρ) k).1 (evCY (cx ρ) k).2 k).All fun f h => h = fun lim args H => (evCY (cx ρ) (k + 1)).1 lim f args H :=
  ⟨ar1_eq (F := fun lim args H => (evCY (cx ρ) (k + 1)).1 lim 19 args H) (slow_at (cx ρ) k 19) (fun lim a0 H => E19 ρ k lim a0 H), trivial, trivial⟩
noncomputable def tr20 (ρ : Addr → Option Value) (c : CallF) (y : YieldF) (k : Nat) : DT := .node 20 (ar2 (fun lim a0 a1 H => L20 ⟨ρ, c, y, lim, k⟩ a0 a1 H) (fun lim args H => slowF (cx ρ) c y k lim 20 args H)) (tr19 ρ c y k) .leaf
theorem tr20_all (ρ : Addr → Option Value) (k : Nat) : (tr20 ρ (evCY (cx ρ) k).1 (evCY (cx ρ) k).2 k).All fun f h => h = fun lim args H => (evCY (cx ρ) (k + 1)).1 lim f args H :=
  ⟨ar2_eq (F := fun lim args H => (evCY (cx ρ) (k + 1)).1 lim 20 args H) (slow_at (cx ρ) k 20) (fun lim a0 a1 H => E20 ρ k lim a0 a1 H), tr19_all ρ k, trivial⟩
noncomputable def tr18 (ρ : Addr → Option Value) (c : CallF) (y : YieldF) (k : Nat) : DT := .node 18 (ar2 (fun lim a0 a1 H => L18 ⟨ρ, c, y, lim, k⟩ a0 a1 H) (fun lim args H => slowF (cx ρ) c y k lim 18 args H)) (tr17 ρ c y k) (tr20 ρ c y k)
theorem tr18_all (ρ : Addr → Option Value) (k : Nat) : (tr18 ρ (evCY (cx ρ) k).1 (evCY (cx ρ) k).2 k).All fun f h => h = fun lim args H => (evCY (cx ρ) (k + 1)).1 lim f args H :=
  ⟨ar2_eq (F := fun lim args H => (evCY (cx ρ) (k + 1)).1 lim 18 args H) (slow_at (cx ρ) k 18) (fun lim a0 a1 H => E18 ρ k lim a0 a1 H), tr17_all ρ k, tr20_all ρ k⟩
noncomputable def tr22 (ρ : Addr → Option Value) (c : CallF) (y : YieldF) (k : Nat) : DT := .node 22 (ar1 (fun lim a0 H => L22 ⟨ρ, c, y, lim, k⟩ a0 H) (fun lim args H => slowF (cx ρ) c y k lim 22 args H)) .leaf .leaf
theorem tr22_all (ρ : Addr → Option Value) (k : Nat) : (tr22 ρ (evCY (cx ρ) k).1 (evCY (cx ρ) k).2 k).All fun f h => h = fun lim args H => (evCY (cx ρ) (k + 1)).1 lim f args H :=
  ⟨ar1_eq (F := fun lim args H => (evCY (cx ρ) (k + 1)).1 lim 22 args H) (slow_at (cx ρ) k 22) (fun lim a0 H => E22 ρ k lim a0 H), trivial, trivial⟩
noncomputable def tr23 (ρ : Addr → Option Value) (c : CallF) (y : YieldF) (k : Nat) : DT := .node 23 (ar2 (fun lim a0 a1 H => L23 ⟨ρ, c, y, lim, k⟩ a0 a1 H) (fun lim args H => slowF (cx ρ) c y k lim 23 args H)) (tr22 ρ c y k) .leaf
theorem tr23_all (ρ : Addr → Option Value) (k : Nat) : (tr23 ρ (evCY (cx ρ) k).1 (evCY (cx ρ) k).2 k).All fun f h => h = fun lim args H => (evCY (cx ρ) (k + 1)).1 lim f args H :=
  ⟨ar2_eq (F := fun lim args H => (evCY (cx ρ) (k + 1)).1 lim 23 args H) (slow_at (cx ρ) k 23) (fun lim a0 a1 H => E23 ρ k lim a0 a1 H), tr22_all ρ k, trivial⟩
noncomputable def tr25 (ρ : Addr → Option Value) (c : CallF) (y : YieldF) (k : Nat) : DT := .node 25 (ar1 (fun lim a0 H => L25 ⟨ρ, c, y, lim, k⟩ a0 H) (fun lim args H => slowF (cx ρ) c y k lim 25 args H)) .leaf .leaf
theorem tr25_all (ρ : Addr → Option Value) (k : Nat) : (tr25 ρ (evCY (cx ρ) k).1 (evCY (cx ρ) k).2 k).All fun f h => h = fun lim args H => (evCY (cx ρ) (k + 1)).1 lim f args H :=
  ⟨ar1_eq (F := fun lim args H => (evCY (cx ρ) (k + 1)).1 lim 25 args H) (slow_at (cx ρ) k 25) (fun lim a0 H => E25 ρ k lim a0 H), trivial, trivial⟩
noncomputable def tr24 (ρ : Addr → Option Value) (c : CallF) (y : YieldF) (k : Nat) : DT := .node 24 (ar1 (fun lim a0 H => L24 ⟨ρ, c, y, lim, k⟩ a0 H) (fun lim args H => slowF (cx ρ) c y k lim 24 args H)) (tr23 ρ c y k) (tr25 ρ c y k)
theorem tr24_all (ρ : Addr → Option Value) (k : Nat) : (tr24 ρ (evCY (cx ρ) k).1 (evCY (cx ρ) k).2 k).All fun f h => h = fun lim args H => (evCY (cx ρ) (k + 1)).1 lim f args H :=
  ⟨ar1_eq (F := fun lim args H => (evCY (cx ρ) (k + 1)).1 lim 24 args H) (slow_at (cx ρ) k 24) (fun lim a0 H => E24 ρ k lim a0 H), tr23_all ρ k, tr25_all ρ k⟩
noncomputable def tr21 (ρ : Addr → Option Value) (c : CallF) (y : YieldF) (k : Nat) : DT := .node 21 (ar1 (fun lim a0 H => L21 ⟨ρ, c, y, lim, k⟩ a0 H) (fun lim args H => slowF (cx ρ) c y k lim 21 args H)) (tr18 ρ c y k) (tr24 ρ c y k)
theorem tr21_all (ρ : Addr → Option Value) (k : Nat) : (tr21 ρ (evCY (cx ρ) k).1 (evCY (cx ρ) k).2 k).All fun f h => h = fun lim args H => (evCY (cx ρ) (k + 1)).1 lim f args H :=
  ⟨ar1_eq (F := fun lim args H => (evCY (cx ρ) (k + 1)).1 lim 21 args H) (slow_at (cx ρ) k 21) (fun lim a0 H => E21 ρ k lim a0 H), tr18_all ρ k, tr24_all ρ k⟩
noncomputable def tr15 (ρ : Addr → Option Value) (c : CallF) (y : YieldF) (k : Nat) : DT := .node 15 (ar2 (fun lim a0 a1 H => L15 ⟨ρ, c, y, lim, k⟩ a0 a1 H) (fun lim args H => slowF (cx ρ) c y k lim 15 args H)) (tr9 ρ c y k) (tr21 ρ c y k)
theorem tr15_all (ρ : Addr → Option Value) (k : Nat) : (tr15 ρ (evCY (cx ρ) k).1 (evCY (cx ρ) k).2 k).All fun f h => h = fun lim args H => (evCY (cx ρ) (k + 1)).1 lim f args H :=
  ⟨ar2_eq (F := fun lim args H => (evCY (cx ρ) (k + 1)).1 lim 15 args H) (slow_at (cx ρ) k 15) (fun lim a0 a1 H => E15 ρ k lim a0 a1 H), tr9_all ρ k, tr21_all ρ k⟩
noncomputable def tr29 (ρ : Addr → Option Value) (c : CallF) (y : YieldF) (k : Nat) : DT := .node 29 (ar1 (fun lim a0 H => L29 ⟨ρ, c, y, lim, k⟩ a0 H) (fun lim args H => slowF (cx ρ) c y k lim 29 args H)) .leaf .leaf
theorem tr29_all (ρ : Addr → Option Value) (k : Nat) : (tr29 ρ (evCY (cx ρ) k).1 (evCY (cx ρ) k).2 k).All fun f h => h = fun lim args H => (evCY (cx ρ) (k + 1)).1 lim f args H :=
  ⟨ar1_eq (F := fun lim args H => (evCY (cx ρ) (k + 1)).1 lim 29 args H) (slow_at (cx ρ) k 29) (fun lim a0 H => E29 ρ k lim a0 H), trivial, trivial⟩
noncomputable def tr30 (ρ : Addr → Option Value) (c : CallF) (y : YieldF) (k : Nat) : DT := .node 30 (ar2 (fun lim a0 a1 H => L30 ⟨ρ, c, y, lim, k⟩ a0 a1 H) (fun lim args H => slowF (cx ρ) c y k lim 30 args H)) (tr29 ρ c y k) .leaf
theorem tr30_all (ρ : Addr → Option Value) (k : Nat) : (tr30 ρ (evCY (cx ρ) k).1 (evCY (cx ρ) k).2 k).All fun f h => h = fun lim args H => (evCY (cx ρ) (k + 1)).1 lim f args H :=
  ⟨ar2_eq (F := fun lim args H => (evCY (cx ρ) (k + 1)).1 lim 30 args H) (slow_at (cx ρ) k 30) (fun lim a0 a1 H => E30 ρ k lim a0 a1 H), tr29_all ρ k, trivial⟩
noncomputable def tr34 (ρ : Addr → Option Value) (c : CallF) (y : YieldF) (k : Nat) : DT := .node 34 (ar2 (fun lim a0 a1 H => L34 ⟨ρ, c, y, lim, k⟩ a0 a1 H) (fun lim args H => slowF (cx ρ) c y k lim 34 args H)) .leaf .leaf
theorem tr34_all (ρ : Addr → Option Value) (k : Nat) : (tr34 ρ (evCY (cx ρ) k).1 (evCY (cx ρ) k).2 k).All fun f h => h = fun lim args H => (evCY (cx ρ) (k + 1)).1 lim f args H :=
  ⟨ar2_eq (F := fun lim args H => (evCY (cx ρ) (k + 1)).1 lim 34 args H) (slow_at (cx ρ) k 34) (fun lim a0 a1 H => E34 ρ k lim a0 a1 H), trivial, trivial⟩
noncomputable def tr35 (ρ : Addr → Option Value) (c : CallF) (y : YieldF) (k : Nat) : DT := .node 35 (ar1 (fun lim a0 H => L35 ⟨ρ, c, y, lim, k⟩ a0 H) (fun lim args H => slowF (cx ρ) c y k lim 35 args H)) (tr34 ρ c y k) .leaf
theorem tr35_all (ρ : Addr → Option Value) (k : Nat) : (tr35 ρ (evCY (cx ρ) k).1 (evCY (cx ρ) k).2 k).All fun f h => h = fun lim args H => (evCY (cx ρ) (k + 1)).1 lim f args H :=
  ⟨ar1_eq (F := fun lim args H => (evCY (cx ρ) (k + 1)).1 lim 35 args H) (slow_at (cx ρ) k 35) (fun lim a0 H => E35 ρ k lim a0 H), tr34_all ρ k, trivial⟩
noncomputable def tr33 (ρ : Addr → Option Value) (c : CallF) (y : YieldF) (k : Nat) : DT := .node 33 (ar1 (fun lim a0 H => L33 ⟨ρ, c, y, lim, k⟩ a0 H) (fun lim args H => slowF (cx ρ) c y k lim 33 args H)) (tr30 ρ c y k) (tr35 ρ c y k)
theorem tr33_all (ρ : Addr → Option Value) (k : Nat) : (tr33 ρ (evCY (cx ρ) k).1 (evCY (cx ρ) k).2 k).All fun f h => h = fun lim args H => (evCY (cx ρ) (k + 1)).1 lim f args H :=
  ⟨ar1_eq (F := fun lim args H => (evCY (cx ρ) (k + 1)).1 lim 33 args H) (slow_at (cx ρ) k 33) (fun lim a0 H => E33 ρ k lim a0 H), tr30_all ρ k, tr35_all ρ k⟩
noncomputable def tr37 (ρ : Addr → Option Value) (c : CallF) (y : YieldF) (k : Nat) : DT := .node 37 (ar1 (fun lim a0 H => L37 ⟨ρ, c, y, lim, k⟩ a0 H) (fun lim args H => slowF (cx ρ) c y k lim 37 args H)) .leaf .leaf
theorem tr37_all (ρ : Addr → Option Value) (k : Nat) : (tr37 ρ (evCY (cx ρ) k).1 (evCY (cx ρ) k).2 k).All fun f h => h = fun lim args H => (evCY (cx ρ) (k + 1)).1 lim f args H :=
  ⟨ar1_eq (F := fun lim args H => (evCY (cx ρ) (k + 1)).1 lim 37 args H) (slow_at (cx ρ) k 37) (fun lim a0 H => E37 ρ k lim a0 H), trivial, trivial⟩
noncomputable def tr38 (ρ : Addr → Option Value) (c : CallF) (y : YieldF) (k : Nat) : DT := .node 38 (ar1 (fun lim a0 H => L38 ⟨ρ, c, y, lim, k⟩ a0 H) (fun lim args H => slowF (cx ρ) c y k lim 38 args H)) (tr37 ρ c y k) .leaf
theorem tr38_all (ρ : Addr → Option Value) (k : Nat) : (tr38 ρ (evCY (cx ρ) k).1 (evCY (cx ρ) k).2 k).All fun f h => h = fun lim args H => (evCY (cx ρ) (k + 1)).1 lim f args H :=
  ⟨ar1_eq (F := fun lim args H => (evCY (cx ρ) (k + 1)).1 lim 38 args H) (slow_at (cx ρ) k 38) (fun lim a0 H => E38 ρ k lim a0 H), tr37_all ρ k, trivial⟩
noncomputable def tr40 (ρ : Addr → Option Value) (c : CallF) (y : YieldF) (k : Nat) : DT := .node 40 (ar2 (fun lim a0 a1 H => L40 ⟨ρ, c, y, lim, k⟩ a0 a1 H) (fun lim args H => slowF (cx ρ) c y k lim 40 args H)) .leaf .leaf
theorem tr40_all (ρ : Addr → Option Value) (k : Nat) : (tr40 ρ (evCY (cx ρ) k).1 (evCY (cx ρ) k).2 k).All fun f h => h = fun lim args H => (evCY (cx ρ) (k + 1)).1 lim f args H :=
  ⟨ar2_eq (F := fun lim args H => (evCY (cx ρ) (k + 1)).1 lim 40 args H) (slow_at (cx ρ) k 40) (fun lim a0 a1 H => E40 ρ k lim a0 a1 H), trivial, trivial⟩
noncomputable def tr39 (ρ : Addr → Option Value) (c : CallF) (y : YieldF) (k : Nat) : DT := .node 39 (ar2 (fun lim a0 a1 H => L39 ⟨ρ, c, y, lim, k⟩ a0 a1 H) (fun lim args H => slowF (cx ρ) c y k lim 39 args H)) (tr38 ρ c y k) (tr40 ρ c y k)
theorem tr39_all (ρ : Addr → Option Value) (k : Nat) : (tr39 ρ (evCY (cx ρ) k).1 (evCY (cx ρ) k).2 k).All fun f h => h = fun lim args H => (evCY (cx ρ) (k + 1)).1 lim f args H :=
  ⟨ar2_eq (F := fun lim args H => (evCY (cx ρ) (k + 1)).1 lim 39 args H) (slow_at (cx ρ) k 39) (fun lim a0 a1 H => E39 ρ k lim a0 a1 H), tr38_all ρ k, tr40_all ρ k⟩
noncomputable def tr36 (ρ : Addr → Option Value) (c : CallF) (y : YieldF) (k : Nat) : DT := .node 36 (ar1 (fun lim a0 H => L36 ⟨ρ, c, y, lim, k⟩ a0 H) (fun lim args H => slowF (cx ρ) c y k lim 36 args H)) (tr33 ρ c y k) (tr39 ρ c y k)
theorem tr36_all (ρ : Addr → Option Value) (k : Nat) : (tr36 ρ (evCY (cx ρ) k).1 (evCY (cx ρ) k).2 k).All fun f h => h = fun lim args H => (evCY (cx ρ) (k + 1)).1 lim f args H :=
  ⟨ar1_eq (F := fun lim args H => (evCY (cx ρ) (k + 1)).1 lim 36 args H) (slow_at (cx ρ) k 36) (fun lim a0 H => E36 ρ k lim a0 H), tr33_all ρ k, tr39_all ρ k⟩
noncomputable def tr42 (ρ : Addr → Option Value) (c : CallF) (y : YieldF) (k : Nat) : DT := .node 42 (ar1 (fun lim a0 H => L42 ⟨ρ, c, y, lim, k⟩ a0 H) (fun lim args H => slowF (cx ρ) c y k lim 42 args H)) .leaf .leaf
theorem tr42_all (ρ : Addr → Option Value) (k : Nat) : (tr42 ρ (evCY (cx ρ) k).1 (evCY (cx ρ) k).2 k).All fun f h => h = fun lim args H => (evCY (cx ρ) (k + 1)).1 lim f args H :=
  ⟨ar1_eq (F := fun lim args H => (evCY (cx ρ) (k + 1)).1 lim 42 args H) (slow_at (cx ρ) k 42) (fun lim a0 H => E42 ρ k lim a0 H), trivial, trivial⟩
noncomputable def tr51 (ρ : Addr → Option Value) (c : CallF) (y : YieldF) (k : Nat) : DT := .node 51 (ar1 (fun lim a0 H => L51 ⟨ρ, c, y, lim, k⟩ a0 H) (fun lim args H => slowF (cx ρ) c y k lim 51 args H)) (tr42 ρ c y k) .leaf
theorem tr51_all (ρ : Addr → Option Value) (k : Nat) : (tr51 ρ (evCY (cx ρ) k).1 (evCY (cx ρ) k).2 k).All fun f h => h = fun lim args H => (evCY (cx ρ) (k + 1)).1 lim f args H :=
  ⟨ar1_eq (F := fun lim args H => (evCY (cx ρ) (k + 1)).1 lim 51 args H) (slow_at (cx ρ) k 51) (fun lim a0 H => E51 ρ k lim a0 H), tr42_all ρ k, trivial⟩
noncomputable def tr53 (ρ : Addr → Option Value) (c : CallF) (y : YieldF) (k : Nat) : DT := .node 53 (ar1 (fun lim a0 H => L53 ⟨ρ, c, y, lim, k⟩ a0 H) (fun lim args H => slowF (cx ρ) c y k lim 53 args H)) .leaf .leaf
theorem tr53_all (ρ : Addr → Option Value) (k : Nat) : (tr53 ρ (evCY (cx ρ) k).1 (evCY (cx ρ) k).2 k).All fun f h => h = fun lim args H => (evCY (cx ρ) (k + 1)).1 lim f args H :=
  ⟨ar1_eq (F := fun lim args H => (evCY (cx ρ) (k + 1)).1 lim 53 args H) (slow_at (cx ρ) k 53) (fun lim a0 H => E53 ρ k lim a0 H), trivial, trivial⟩
noncomputable def tr54 (ρ : Addr → Option Value) (c : CallF) (y : YieldF) (k : Nat) : DT := .node 54 (ar2 (fun lim a0 a1 H => L54 ⟨ρ, c, y, lim, k⟩ a0 a1 H) (fun lim args H => slowF (cx ρ) c y k lim 54 args H)) (tr53 ρ c y k) .leaf
theorem tr54_all (ρ : Addr → Option Value) (k : Nat) : (tr54 ρ (evCY (cx ρ) k).1 (evCY (cx ρ) k).2 k).All fun f h => h = fun lim args H => (evCY (cx ρ) (k + 1)).1 lim f args H :=
  ⟨ar2_eq (F := fun lim args H => (evCY (cx ρ) (k + 1)).1 lim 54 args H) (slow_at (cx ρ) k 54) (fun lim a0 a1 H => E54 ρ k lim a0 a1 H), tr53_all ρ k, trivial⟩
noncomputable def tr52 (ρ : Addr → Option Value) (c : CallF) (y : YieldF) (k : Nat) : DT := .node 52 (ar2 (fun lim a0 a1 H => L52 ⟨ρ, c, y, lim, k⟩ a0 a1 H) (fun lim args H => slowF (cx ρ) c y k lim 52 args H)) (tr51 ρ c y k) (tr54 ρ c y k)
theorem tr52_all (ρ : Addr → Option Value) (k : Nat) : (tr52 ρ (evCY (cx ρ) k).1 (evCY (cx ρ) k).2 k).All fun f h => h = fun lim args H => (evCY (cx ρ) (k + 1)).1 lim f args H :=
  ⟨ar2_eq (F := fun lim args H => (evCY (cx ρ) (k + 1)).1 lim 52 args H) (slow_at (cx ρ) k 52) (fun lim a0 a1 H => E52 ρ k lim a0 a1 H), tr51_all ρ k, tr54_all ρ k⟩
noncomputable def tr58 (ρ : Addr → Option Value) (c : CallF) (y : YieldF) (k : Nat) : DT := .node 58 (ar1 (fun lim a0 H => L58 ⟨ρ, c, y, lim, k⟩ a0 H) (fun lim args H => slowF (cx ρ) c y k lim 58 args H)) .leaf .leaf
theorem tr58_all (ρ : Addr → Option Value) (k : Nat) : (tr58 ρ (evCY (cx ρ) k).1 (evCY (cx ρ) k).2 k).All fun f h => h = fun lim args H => (evCY (cx ρ) (k + 1)).1 lim f args H :=
  ⟨ar1_eq (F := fun lim args H => (evCY (cx ρ) (k + 1)).1 lim 58 args H) (slow_at (cx ρ) k 58) (fun lim a0 H => E58 ρ k lim a0 H), trivial, trivial⟩
noncomputable def tr59 (ρ : Addr → Option Value) (c : CallF) (y : YieldF) (k : Nat) : DT := .node 59 (ar4 (fun lim a0 a1 a2 a3 H => L59 ⟨ρ, c, y, lim, k⟩ a0 a1 a2 a3 H) (fun lim args H => slowF (cx ρ) c y k lim 59 args H)) (tr58 ρ c y k) .leaf
theorem tr59_all (ρ : Addr → Option Value) (k : Nat) : (tr59 ρ (evCY (cx ρ) k).1 (evCY (cx ρ) k).2 k).All fun f h => h = fun lim args H => (evCY (cx ρ) (k + 1)).1 lim f args H :=
  ⟨ar4_eq (F := fun lim args H => (evCY (cx ρ) (k + 1)).1 lim 59 args H) (slow_at (cx ρ) k 59) (fun lim a0 a1 a2 a3 H => E59 ρ k lim a0 a1 a2 a3 H), tr58_all ρ k, trivial⟩
noncomputable def tr61 (ρ : Addr → Option Value) (c : CallF) (y : YieldF) (k : Nat) : DT := .node 61 (ar2 (fun lim a0 a1 H => L61 ⟨ρ, c, y, lim, k⟩ a0 a1 H) (fun lim args H => slowF (cx ρ) c y k lim 61 args H)) .leaf .leaf
theorem tr61_all (ρ : Addr → Option Value) (k : Nat) : (tr61 ρ (evCY (cx ρ) k).1 (evCY (cx ρ) k).2 k).All fun f h => h = fun lim args H => (evCY (cx ρ) (k + 1)).1 lim f args H :=
  ⟨ar2_eq (F := fun lim args H => (evCY (cx ρ) (k + 1)).1 lim 61 args H) (slow_at (cx ρ) k 61) (fun lim a0 a1 H => E61 ρ k lim a0 a1 H), trivial, trivial⟩
noncomputable def tr60 (ρ : Addr → Option Value) (c : CallF) (y : YieldF) (k : Nat) : DT := .node 60 (ar1 (fun lim a0 H => L60 ⟨ρ, c, y, lim, k⟩ a0 H) (fun lim args H => slowF (cx ρ) c y k lim 60 args H)) (tr59 ρ c y k) (tr61 ρ c y k)
theorem tr60_all (ρ : Addr → Option Value) (k : Nat) : (tr60 ρ (evCY (cx ρ) k).1 (evCY (cx ρ) k).2 k).All fun f h => h = fun lim args H => (evCY (cx ρ) (k + 1)).1 lim f args H :=
  ⟨ar1_eq (F := fun lim args H => (evCY (cx ρ) (k + 1)).1 lim 60 args H) (slow_at (cx ρ) k 60) (fun lim a0 H => E60 ρ k lim a0 H), tr59_all ρ k, tr61_all ρ k⟩
noncomputable def tr56 (ρ : Addr → Option Value) (c : CallF) (y : YieldF) (k : Nat) : DT := .node 56 (ar2 (fun lim a0 a1 H => L56 ⟨ρ, c, y, lim, k⟩ a0 a1 H) (fun lim args H => slowF (cx ρ) c y k lim 56 args H)) (tr52 ρ c y k) (tr60 ρ c y k)
theorem tr56_all (ρ : Addr → Option Value) (k : Nat) : (tr56 ρ (evCY (cx ρ) k).1 (evCY (cx ρ) k).2 k).All fun f h => h = fun lim args H => (evCY (cx ρ) (k + 1)).1 lim f args H :=
  ⟨ar2_eq (F := fun lim args H => (evCY (cx ρ) (k + 1)).1 lim 56 args H) (slow_at (cx ρ) k 56) (fun lim a0 a1 H => E56 ρ k lim a0 a1 H), tr52_all ρ k, tr60_all ρ k⟩
noncomputable def tr41 (ρ : Addr → Option Value) (c : CallF) (y : YieldF) (k : Nat) : DT := .node 41 (ar2 (fun lim a0 a1 H => L41 ⟨ρ, c, y, lim, k⟩ a0 a1 H) (fun lim args H => slowF (cx ρ) c y k lim 41 args H)) (tr36 ρ c y k) (tr56 ρ c y k)
theorem tr41_all (ρ : Addr → Option Value) (k : Nat) : (tr41 ρ (evCY (cx ρ) k).1 (evCY (cx ρ) k).2 k).All fun f h => h = fun lim args H => (evCY (cx ρ) (k + 1)).1 lim f args H :=
  ⟨ar2_eq (F := fun lim args H => (evCY (cx ρ) (k + 1)).1 lim 41 args H) (slow_at (cx ρ) k 41) (fun lim a0 a1 H => E41 ρ k lim a0 a1 H), tr36_all ρ k, tr56_all ρ k⟩
noncomputable def tr26 (ρ : Addr → Option Value) (c : CallF) (y : YieldF) (k : Nat) : DT := .node 26 (ar2 (fun lim a0 a1 H => L26 ⟨ρ, c, y, lim, k⟩ a0 a1 H) (fun lim args H => slowF (cx ρ) c y k lim 26 args H)) (tr15 ρ c y k) (tr41 ρ c y k)
theorem tr26_all (ρ : Addr → Option Value) (k : Nat) : (tr26 ρ (evCY (cx ρ) k).1 (evCY (cx ρ) k).2 k).All fun f h => h = fun lim args H => (evCY (cx ρ) (k + 1)).1 lim f args H :=
  ⟨ar2_eq (F := fun lim args H => (evCY (cx ρ) (k + 1)).1 lim 26 args H) (slow_at (cx ρ) k 26) (fun lim a0 a1 H => E26 ρ k lim a0 a1 H), tr15_all ρ k, tr41_all ρ k⟩
noncomputable def tr63 (ρ : Addr → Option Value) (c : CallF) (y : YieldF) (k : Nat) : DT := .node 63 (ar2 (fun lim a0 a1 H => L63 ⟨ρ, c, y, lim, k⟩ a0 a1 H) (fun lim args H => slowF (cx ρ) c y k lim 63 args H)) .leaf .leaf
theorem tr63_all (ρ : Addr → Option Value) (k : Nat) : (tr63 ρ (evCY (cx ρ) k).1 (evCY (cx ρ) k).2 k).All fun f h => h = fun lim args H => (evCY (cx ρ) (k + 1)).1 lim f args H :=
  ⟨ar2_eq (F := fun lim args H => (evCY (cx ρ) (k + 1)).1 lim 63 args H) (slow_at (cx ρ) k 63) (fun lim a0 a1 H => E63 ρ k lim a0 a1 H), trivial, trivial⟩
noncomputable def tr64 (ρ : Addr → Option Value) (c : CallF) (y : YieldF) (k : Nat) : DT := .node 64 (ar1 (fun lim a0 H => L64 ⟨ρ, c, y, lim, k⟩ a0 H) (fun lim args H => slowF (cx ρ) c y k lim 64 args H)) (tr63 ρ c y k) .leaf
theorem tr64_all (ρ : Addr → Option Value) (k : Nat) : (tr64 ρ (evCY (cx ρ) k).1 (evCY (cx ρ) k).2 k).All fun f h => h = fun lim args H => (evCY (cx ρ) (k + 1)).1 lim f args H :=
  ⟨ar1_eq (F := fun lim args H => (evCY (cx ρ) (k + 1)).1 lim 64 args H) (slow_at (cx ρ) k 64) (fun lim a0 H => E64 ρ k lim a0 H), tr63_all ρ k, trivial⟩
noncomputable def tr66 (ρ : Addr → Option Value) (c : CallF) (y : YieldF) (k : Nat) : DT := .node 66 (ar1 (fun lim a0 H => L66 ⟨ρ, c, y, lim, k⟩ a0 H) (fun lim args H => slowF (cx ρ) c y k lim 66 args H)) .leaf .leaf
theorem tr66_all (ρ : Addr → Option Value) (k : Nat) : (tr66 ρ (evCY (cx ρ) k).1 (evCY (cx ρ) k).2 k).All fun f h => h = fun lim args H => (evCY (cx ρ) (k + 1)).1 lim f args H :=
  ⟨ar1_eq (F := fun lim args H => (evCY (cx ρ) (k + 1)).1 lim 66 args H) (slow_at (cx ρ) k 66) (fun lim a0 H => E66 ρ k lim a0 H), trivial, trivial⟩
noncomputable def tr67 (ρ : Addr → Option Value) (c : CallF) (y : YieldF) (k : Nat) : DT := .node 67 (ar1 (fun lim a0 H => L67 ⟨ρ, c, y, lim, k⟩ a0 H) (fun lim args H => slowF (cx ρ) c y k lim 67 args H)) (tr66 ρ c y k) .leaf
theorem tr67_all (ρ : Addr → Option Value) (k : Nat) : (tr67 ρ (evCY (cx ρ) k).1 (evCY (cx ρ) k).2 k).All fun f h => h = fun lim args H => (evCY (cx ρ) (k + 1)).1 lim f args H :=
  ⟨ar1_eq (F := fun lim args H => (evCY (cx ρ) (k + 1)).1 lim 67 args H) (slow_at (cx ρ) k 67) (fun lim a0 H => E67 ρ k lim a0 H), tr66_all ρ k, trivial⟩
noncomputable def tr65 (ρ : Addr → Option Value) (c : CallF) (y : YieldF) (k : Nat) : DT := .node 65 (ar1 (fun lim a0 H => L65 ⟨ρ, c, y, lim, k⟩ a0 H) (fun lim args H => slowF (cx ρ) c y k lim 65 args H)) (tr64 ρ c y k) (tr67 ρ c y k)
theorem tr65_all (ρ : Addr → Option Value) (k : Nat) : (tr65 ρ (evCY (cx ρ) k).1 (evCY (cx ρ) k).2 k).All fun f h => h = fun lim args H => (evCY (cx ρ) (k + 1)).1 lim f args H :=
  ⟨ar1_eq (F := fun lim args H => (evCY (cx ρ) (k + 1)).1 lim 65 args H) (slow_at (cx ρ) k 65) (fun lim a0 H => E65 ρ k lim a0 H), tr64_all ρ k, tr67_all ρ k⟩
noncomputable def tr69 (ρ : Addr → Option Value) (c : CallF) (y : YieldF) (k : Nat) : DT := .node 69 (ar1 (fun lim a0 H => L69 ⟨ρ, c, y, lim, k⟩ a0 H) (fun lim args H => slowF (cx ρ) c y k lim 69 args H)) .leaf .leaf
theorem tr69_all (ρ : Addr → Option Value) (k : Nat) : (tr69 ρ (evCY (cx ρ) k).1 (evCY (cx ρ) k).2 k).All fun f h => h = fun lim args H => (evCY (cx ρ) (k + 1)).1 lim f args H :=
  ⟨ar1_eq (F := fun lim args H => (evCY (cx ρ) (k + 1)).1 lim 69 args H) (slow_at (cx ρ) k 69) (fun lim a0 H => E69 ρ k lim a0 H), trivial, trivial⟩
noncomputable def tr71 (ρ : Addr → Option Value) (c : CallF) (y : YieldF) (k : Nat) : DT := .node 71 (ar3 (fun lim a0 a1 a2 H => L71 ⟨ρ, c, y, lim, k⟩ a0 a1 a2 H) (fun lim args H => slowF (cx ρ) c y k lim 71 args H)) (tr69 ρ c y k) .leaf
theorem tr71_all (ρ : Addr → Option Value) (k : Nat) : (tr71 ρ (evCY (cx ρ) k).1 (evCY (cx ρ) k).2 k).All fun f h => h = fun lim args H => (evCY (cx ρ) (k + 1)).1 lim f args H :=
  ⟨ar3_eq (F := fun lim args H => (evCY (cx ρ) (k + 1)).1 lim 71 args H) (slow_at (cx ρ) k 71) (fun lim a0 a1 a2 H => E71 ρ k lim a0 a1 a2 H), tr69_all ρ k, trivial⟩
noncomputable def tr73 (ρ : Addr → Option Value) (c : CallF) (y : YieldF) (k : Nat) : DT := .node 73 (ar1 (fun lim a0 H => L73 ⟨ρ, c, y, lim, k⟩ a0 H) (fun lim args H => slowF (cx ρ) c y k lim 73 args H)) .leaf .leaf
theorem tr73_all (ρ : Addr → Option Value) (k : Nat) : (tr73 ρ (evCY (cx ρ) k).1 (evCY (cx ρ) k).2 k).All fun f h => h = fun lim args H => (evCY (cx ρ) (k + 1)).1 lim f args H :=
  ⟨ar1_eq (F := fun lim args H => (evCY (cx ρ) (k + 1)).1 lim 73 args H) (slow_at (cx ρ) k 73) (fun lim a0 H => E73 ρ k lim a0 H), trivial, trivial⟩
noncomputable def tr72 (ρ : Addr → Option Value) (c : CallF) (y : YieldF) (k : Nat) : DT := .node 72 (ar1 (fun lim a0 H => L72 ⟨ρ, c, y, lim, k⟩ a0 H) (fun lim args H => slowF (cx ρ) c y k lim 72 args H)) (tr71 ρ c y k) (tr73 ρ c y k)
theorem tr72_all (ρ : Addr → Option Value) (k : Nat) : (tr72 ρ (evCY (cx ρ) k).1 (evCY (cx ρ) k).2 k).All fun f h => h = fun lim args H => (evCY (cx ρ) (k + 1)).1 lim f args H :=
  ⟨ar1_eq (F := fun lim args H => (evCY (cx ρ) (k + 1)).1 lim 72 args H) (slow_at (cx ρ) k 72) (fun lim a0 H => E72 ρ k lim a0 H), tr71_all ρ k, tr73_all ρ k⟩
noncomputable def tr68 (ρ : Addr → Option Value) (c : CallF) (y : YieldF) (k : Nat) : DT := .node 68 (ar5 (fun lim a0 a1 a2 a3 a4 H => L68 ⟨ρ, c, y, lim, k⟩ a0 a1 a2 a3 a4 H) (fun lim args H => slowF (cx ρ) c y k lim 68 args H)) (tr65 ρ c y k) (tr72 ρ c y k)
theorem tr68_all (ρ : Addr → Option Value) (k : Nat) : (tr68 ρ (evCY (cx ρ) k).1 (evCY (cx ρ) k).2 k).All fun f h => h = fun lim args H => (evCY (cx ρ) (k + 1)).1 lim f args H :=
  ⟨ar5_eq (F := fun lim args H => (evCY (cx ρ) (k + 1)).1 lim 68 args H) (slow_at (cx ρ) k 68) (fun lim a0 a1 a2 a3 a4 H => E68 ρ k lim a0 a1 a2 a3 a4 H), tr65_all ρ k, tr72_all ρ k⟩
noncomputable def tr77 (ρ : Addr → Option Value) (c : CallF) (y : YieldF) (k : Nat) : DT := .node 77 (ar1 (fun lim a0 H => L77 ⟨ρ, c, y, lim, k⟩ a0 H) (fun lim args H => slowF (cx ρ) c y k lim 77 args H)) .leaf .leaf
theorem tr77_all (ρ : Addr → Option Value) (k : Nat) : (tr77 ρ (evCY (cx ρ) k).1 (evCY (cx ρ) k).2 k).All fun f h => h = fun lim args H => (evCY (cx ρ) (k + 1)).1 lim f args H :=
  ⟨ar1_eq (F := fun lim args H => (evCY (cx ρ) (k + 1)).1 lim 77 args H) (slow_at (cx ρ) k 77) (fun lim a0 H => E77 ρ k lim a0 H), trivial, trivial⟩
noncomputable def tr78 (ρ : Addr → Option Value) (c : CallF) (y : YieldF) (k : Nat) : DT := .node 78 (ar2 (fun lim a0 a1 H => L78 ⟨ρ, c, y, lim, k⟩ a0 a1 H) (fun lim args H => slowF (cx ρ) c y k lim 78 args H)) (tr77 ρ c y k) .leaf
theorem tr78_all (ρ : Addr → Option Value) (k : Nat) : (tr78 ρ (evCY (cx ρ) k).1 (evCY (cx ρ) k).2 k).All fun f h => h = fun lim args H => (evCY (cx ρ) (k + 1)).1 lim f args H :=
  ⟨ar2_eq (F := fun lim args H => (evCY (cx ρ) (k + 1)).1 lim 78 args H) (slow_at (cx ρ) k 78) (fun lim a0 a1 H => E78 ρ k lim a0 a1 H), tr77_all ρ k, trivial⟩
noncomputable def tr81 (ρ : Addr → Option Value) (c : CallF) (y : YieldF) (k : Nat) : DT := .node 81 (ar2 (fun lim a0 a1 H => L81 ⟨ρ, c, y, lim, k⟩ a0 a1 H) (fun lim args H => slowF (cx ρ) c y k lim 81 args H)) .leaf .leaf
theorem tr81_all (ρ : Addr → Option Value) (k : Nat) : (tr81 ρ (evCY (cx ρ) k).1 (evCY (cx ρ) k).2 k).All fun f h => h = fun lim args H => (evCY (cx ρ) (k + 1)).1 lim f args H :=
  ⟨ar2_eq (F := fun lim args H => (evCY (cx ρ) (k + 1)).1 lim 81 args H) (slow_at (cx ρ) k 81) (fun lim a0 a1 H => E81 ρ k lim a0 a1 H), trivial, trivial⟩
noncomputable def tr82 (ρ : Addr → Option Value) (c : CallF) (y : YieldF) (k : Nat) : DT := .node 82 (ar3 (fun lim a0 a1 a2 H => L82 ⟨ρ, c, y, lim, k⟩ a0 a1 a2 H) (fun lim args H => slowF (cx ρ) c y k lim 82 args H)) (tr81 ρ c y k) .leaf
theorem tr82_all (ρ : Addr → Option Value) (k : Nat) : (tr82 ρ (evCY (cx ρ) k).1 (evCY (cx ρ) k).2 k).All fun f h => h = fun lim args H => (evCY (cx ρ) (k + 1)).1 lim f args H :=
  ⟨ar3_eq (F := fun lim args H => (evCY (cx ρ) (k + 1)).1 lim 82 args H) (slow_at (cx ρ) k 82) (fun lim a0 a1 a2 H => E82 ρ k lim a0 a1 a2 H), tr81_all ρ k, trivial⟩
noncomputable def tr80 (ρ : Addr → Option Value) (c : CallF) (y : YieldF) (k : Nat) : DT := .node 80 (ar1 (fun lim a0 H => L80 ⟨ρ, c, y, lim, k⟩ a0 H) (fun lim args H => slowF (cx ρ) c y k lim 80 args H)) (tr78 ρ c y k) (tr82 ρ c y k)
theorem tr80_all (ρ : Addr → Option Value) (k : Nat) : (tr80 ρ (evCY (cx ρ) k).1 (evCY (cx ρ) k).2 k).All fun f h => h = fun lim args H => (evCY (cx ρ) (k + 1)).1 lim f args H :=
  ⟨ar1_eq (F := fun lim args H => (evCY (cx ρ) (k + 1)).1 lim 80 args H) (slow_at (cx ρ) k 80) (fun lim a0 H => E80 ρ k lim a0 H), tr78_all ρ k, tr82_all ρ k⟩
noncomputable def tr84 (ρ : Addr → Option Value) (c : CallF) (y : YieldF) (k : Nat) : DT := .node 84 (ar2 (fun lim a0 a1 H => L84 ⟨ρ, c, y, lim, k⟩ a0 a1 H) (fun lim args H => slowF (cx ρ) c y k lim 84 args H)) .leaf .leaf
theorem tr84_all (ρ : Addr → Option Value) (k : Nat) : (tr84 ρ (evCY (cx ρ) k).1 (evCY (cx ρ) k).2 k).All fun f h => h = fun lim args H => (evCY (cx ρ) (k + 1)).1 lim f args H :=
  ⟨ar2_eq (F := fun lim args H => (evCY (cx ρ) (k + 1)).1 lim 84 args H) (slow_at (cx ρ) k 84) (fun lim a0 a1 H => E84 ρ k lim a0 a1 H), trivial, trivial⟩
noncomputable def tr85 (ρ : Addr → Option Value) (c : CallF) (y : YieldF) (k : Nat) : DT := .node 85 (ar2 (fun lim a0 a1 H => L85 ⟨ρ, c, y, lim, k⟩ a0 a1 H) (fun lim args H => slowF (cx ρ) c y k lim 85 args H)) (tr84 ρ c y k) .leaf
theorem tr85_all (ρ : Addr → Option Value) (k : Nat) : (tr85 ρ (evCY (cx ρ) k).1 (evCY (cx ρ) k).2 k).All fun f h => h = fun lim args H => (evCY (cx ρ) (k + 1)).1 lim f args H :=
  ⟨ar2_eq (F := fun lim args H => (evCY (cx ρ) (k + 1)).1 lim 85 args H) (slow_at (cx ρ) k 85) (fun lim a0 a1 H => E85 ρ k lim a0 a1 H), tr84_all ρ k, trivial⟩
noncomputable def tr87 (ρ : Addr → Option Value) (c : CallF) (y : YieldF) (k : Nat) : DT := .node 87 (ar2 (fun lim a0 a1 H => L87 ⟨ρ, c, y, lim, k⟩ a0 a1 H) (fun lim args H => slowF (cx ρ) c y k lim 87 args H)) .leaf .leaf
theorem tr87_all (ρ : Addr → Option Value) (k : Nat) : (tr87 ρ (evCY (cx ρ) k).1 (evCY (cx ρ) k).2 k).All fun f h => h = fun lim args H => (evCY (cx ρ) (k + 1)).1 lim f args H :=
  ⟨ar2_eq (F := fun lim args H => (evCY (cx ρ) (k + 1)).1 lim 87 args H) (slow_at (cx ρ) k 87) (fun lim a0 a1 H => E87 ρ k lim a0 a1 H), trivial, trivial⟩
noncomputable def tr86 (ρ : Addr → Option Value) (c : CallF) (y : YieldF) (k : Nat) : DT := .node 86 (ar3 (fun lim a0 a1 a2 H => L86 ⟨ρ, c, y, lim, k⟩ a0 a1 a2 H) (fun lim args H => slowF (cx ρ) c y k lim 86 args H)) (tr85 ρ c y k) (tr87 ρ c y k)
theorem tr86_all (ρ : Addr → Option Value) (k : Nat) : (tr86 ρ (evCY (cx ρ) k).1 (evCY (cx ρ) k).2 k).All fun f h => h = fun lim args H => (evCY (cx ρ) (k + 1)).1 lim f args H :=
  ⟨ar3_eq (F := fun lim args H => (evCY (cx ρ) (k + 1)).1 lim 86 args H) (slow_at (cx ρ) k 86) (fun lim a0 a1 a2 H => E86 ρ k lim a0 a1 a2 H), tr85_all ρ k, tr87_all ρ k⟩
noncomputable def tr83 (ρ : Addr → Option Value) (c : CallF) (y : YieldF) (k : Nat) : DT := .node 83 (ar2 (fun lim a0 a1 H => L83 ⟨ρ, c, y, lim, k⟩ a0 a1 H) (fun lim args H => slowF (cx ρ) c y k lim 83 args H)) (tr80 ρ c y k) (tr86 ρ c y k)
theorem tr83_all (ρ : Addr → Option Value) (k : Nat) : (tr83 ρ (evCY (cx ρ) k).1 (evCY (cx ρ) k).2 k).All fun f h => h = fun lim args H => (evCY (cx ρ) (k + 1)).1 lim f args H :=
  ⟨ar2_eq (F := fun lim args H => (evCY (cx ρ) (k + 1)).1 lim 83 args H) (slow_at (cx ρ) k 83) (fun lim a0 a1 H => E83 ρ k lim a0 a1 H), tr80_all ρ k, tr86_all ρ k⟩
noncomputable def tr74 (ρ : Addr → Option Value) (c : CallF) (y : YieldF) (k : Nat) : DT := .node 74 (ar2 (fun lim a0 a1 H => L74 ⟨ρ, c, y, lim, k⟩ a0 a1 H) (fun lim args H => slowF (cx ρ) c y k lim 74 args H)) (tr68 ρ c y k) (tr83 ρ c y k)
theorem tr74_all (ρ : Addr → Option Value) (k : Nat) : (tr74 ρ (evCY (cx ρ) k).1 (evCY (cx ρ) k).2 k).All fun f h => h = fun lim args H => (evCY (cx ρ) (k + 1)).1 lim f args H :=
  ⟨ar2_eq (F := fun lim args H => (evCY (cx ρ) (k + 1)).1 lim 74 args H) (slow_at (cx ρ) k 74) (fun lim a0 a1 H => E74 ρ k lim a0 a1 H), tr68_all ρ k, tr83_all ρ k⟩
noncomputable def tr89 (ρ : Addr → Option Value) (c : CallF) (y : YieldF) (k : Nat) : DT := .node 89 (ar1 (fun lim a0 H => L89 ⟨ρ, c, y, lim, k⟩ a0 H) (fun lim args H => slowF (cx ρ) c y k lim 89 args H)) .leaf .leaf
theorem tr89_all (ρ : Addr → Option Value) (k : Nat) : (tr89 ρ (evCY (cx ρ) k).1 (evCY (cx ρ) k).2 k).All fun f h => h = fun lim args H => (evCY (cx ρ) (k + 1)).1 lim f args H :=
  ⟨ar1_eq (F := fun lim args H => (evCY (cx ρ) (k + 1)).1 lim 89 args H) (slow_at (cx ρ) k 89) (fun lim a0 H => E89 ρ k lim a0 H), trivial, trivial⟩
noncomputable def tr90 (ρ : Addr → Option Value) (c : CallF) (y : YieldF) (k : Nat) : DT := .node 90 (ar3 (fun lim a0 a1 a2 H => L90 ⟨ρ, c, y, lim, k⟩ a0 a1 a2 H) (fun lim args H => slowF (cx ρ) c y k lim 90 args H)) (tr89 ρ c y k) .leaf
theorem tr90_all (ρ : Addr → Option Value) (k : Nat) : (tr90 ρ (evCY (cx ρ) k).1 (evCY (cx ρ) k).2 k).All fun f h => h = fun lim args H => (evCY (cx ρ) (k + 1)).1 lim f args H :=
  ⟨ar3_eq (F := fun lim args H => (evCY (cx ρ) (k + 1)).1 lim 90 args H) (slow_at (cx ρ) k 90) (fun lim a0 a1 a2 H => E90 ρ k lim a0 a1 a2 H), tr89_all ρ k, trivial⟩
noncomputable def tr92 (ρ : Addr → Option Value) (c : CallF) (y : YieldF) (k : Nat) : DT := .node 92 (ar1 (fun lim a0 H => L92 ⟨ρ, c, y, lim, k⟩ a0 H) (fun lim args H => slowF (cx ρ) c y k lim 92 args H)) .leaf .leaf
theorem tr92_all (ρ : Addr → Option Value) (k : Nat) : (tr92 ρ (evCY (cx ρ) k).1 (evCY (cx ρ) k).2 k).All fun f h => h = fun lim args H => (evCY (cx ρ) (k + 1)).1 lim f args H :=
  ⟨ar1_eq (F := fun lim args H => (evCY (cx ρ) (k + 1)).1 lim 92 args H) (slow_at (cx ρ) k 92) (fun lim a0 H => E92 ρ k lim a0 H), trivial, trivial⟩
noncomputable def tr93 (ρ : Addr → Option Value) (c : CallF) (y : YieldF) (k : Nat) : DT := .node 93 (ar1 (fun lim a0 H => L93 ⟨ρ, c, y, lim, k⟩ a0 H) (fun lim args H => slowF (cx ρ) c y k lim 93 args H)) (tr92 ρ c y k) .leaf
theorem tr93_all (ρ : Addr → Option Value) (k : Nat) : (tr93 ρ (evCY (cx ρ) k).1 (evCY (cx ρ) k).2 k).All fun f h => h = fun lim args H => (evCY (cx ρ) (k + 1)).1 lim f args H :=
  ⟨ar1_eq (F := fun lim args H => (evCY (cx ρ) (k + 1)).1 lim 93 args H) (slow_at (cx ρ) k 93) (fun lim a0 H => E93 ρ k lim a0 H), tr92_all ρ k, trivial⟩
noncomputable def tr91 (ρ : Addr → Option Value) (c : CallF) (y : YieldF) (k : Nat) : DT := .node 91 (ar1 (fun lim a0 H => L91 ⟨ρ, c, y, lim, k⟩ a0 H) (fun lim args H => slowF (cx ρ) c y k lim 91 args H)) (tr90 ρ c y k) (tr93 ρ c y k)
theorem tr91_all (ρ : Addr → Option Value) (k : Nat) : (tr91 ρ (evCY (cx ρ) k).1 (evCY (cx ρ) k).2 k).All fun f h => h = fun lim args H => (evCY (cx ρ) (k + 1)).1 lim f args H :=
  ⟨ar1_eq (F := fun lim args H => (evCY (cx ρ) (k + 1)).1 lim 91 args H) (slow_at (cx ρ) k 91) (fun lim a0 H => E91 ρ k lim a0 H), tr90_all ρ k, tr93_all ρ k⟩
noncomputable def tr96 (ρ : Addr → Option Value) (c : CallF) (y : YieldF) (k : Nat) : DT := .node 96 (ar2 (fun lim a0 a1 H => L96 ⟨ρ, c, y, lim, k⟩ a0 a1 H) (fun lim args H => slowF (cx ρ) c y k lim 96 args H)) .leaf .leaf
theorem tr96_all (ρ : Addr → Option Value) (k : Nat) : (tr96 ρ (evCY (cx ρ) k).1 (evCY (cx ρ) k).2 k).All fun f h => h = fun lim args H => (evCY (cx ρ) (k + 1)).1 lim f args H :=
  ⟨ar2_eq (F := fun lim args H => (evCY (cx ρ) (k + 1)).1 lim 96 args H) (slow_at (cx ρ) k 96) (fun lim a0 a1 H => E96 ρ k lim a0 a1 H), trivial, trivial⟩
noncomputable def tr97 (ρ : Addr → Option Value) (c : CallF) (y : YieldF) (k : Nat) : DT := .node 97 (ar1 (fun lim a0 H => L97 ⟨ρ, c, y, lim, k⟩ a0 H) (fun lim args H => slowF (cx ρ) c y k lim 97 args H)) (tr96 ρ c y k) .leaf
theorem tr97_all (ρ : Addr → Option Value) (k : Nat) : (tr97 ρ (evCY (cx ρ) k).1 (evCY (cx ρ) k).2 k).All fun f h => h = fun lim args H => (evCY (cx ρ) (k + 1)).1 lim f args H :=
  ⟨ar1_eq (F := fun lim args H => (evCY (cx ρ) (k + 1)).1 lim 97 args H) (slow_at (cx ρ) k 97) (fun lim a0 H => E97 ρ k lim a0 H), tr96_all ρ k, trivial⟩
noncomputable def tr99 (ρ : Addr → Option Value) (c : CallF) (y : YieldF) (k : Nat) : DT := .node 99 (ar1 (fun lim a0 H => L99 ⟨ρ, c, y, lim, k⟩ a0 H) (fun lim args H => slowF (cx ρ) c y k lim 99 args H)) .leaf .leaf
theorem tr99_all (ρ : Addr → Option Value) (k : Nat) : (tr99 ρ (evCY (cx ρ) k).1 (evCY (cx ρ) k).2 k).All fun f h => h = fun lim args H => (evCY (cx ρ) (k + 1)).1 lim f args H :=
  ⟨ar1_eq (F := fun lim args H => (evCY (cx ρ) (k + 1)).1 lim 99 args H) (slow_at (cx ρ) k 99) (fun lim a0 H => E99 ρ k lim a0 H), trivial, trivial⟩
noncomputable def tr98 (ρ : Addr → Option Value) (c : CallF) (y : YieldF) (k : Nat) : DT := .node 98 (ar2 (fun lim a0 a1 H => L98 ⟨ρ, c, y, lim, k⟩ a0 a1 H) (fun lim args H => slowF (cx ρ) c y k lim 98 args H)) (tr97 ρ c y k) (tr99 ρ c y k)
theorem tr98_all (ρ : Addr → Option Value) (k : Nat) : (tr98 ρ (evCY (cx ρ) k).1 (evCY (cx ρ) k).2 k).All fun f h => h = fun lim args H => (evCY (cx ρ) (k + 1)).1 lim f args H :=
  ⟨ar2_eq (F := fun lim args H => (evCY (cx ρ) (k + 1)).1 lim 98 args H) (slow_at (cx ρ) k 98) (fun lim a0 a1 H => E98 ρ k lim a0 a1 H), tr97_all ρ k, tr99_all ρ k⟩
noncomputable def tr95 (ρ : Addr → Option Value) (c : CallF) (y : YieldF) (k : Nat) : DT := .node 95 (ar2 (fun lim a0 a1 H => L95 ⟨ρ, c, y, lim, k⟩ a0 a1 H) (fun lim args H => slowF (cx ρ) c y k lim 95 args H)) (tr91 ρ c y k) (tr98 ρ c y k)
theorem tr95_all (ρ : Addr → Option Value) (k : Nat) : (tr95 ρ (evCY (cx ρ) k).1 (evCY (cx ρ) k).2 k).All fun f h => h = fun lim args H => (evCY (cx ρ) (k + 1)).1 lim f args H :=
  ⟨ar2_eq (F := fun lim args H => (evCY (cx ρ) (k + 1)).1 lim 95 args H) (slow_at (cx ρ) k 95) (fun lim a0 a1 H => E95 ρ k lim a0 a1 H), tr91_all ρ k, tr98_all ρ k⟩
noncomputable def tr101 (ρ : Addr → Option Value) (c : CallF) (y : YieldF) (k : Nat) : DT := .node 101 (ar2 (fun lim a0 a1 H => L101 ⟨ρ, c, y, lim, k⟩ a0 a1 H) (fun lim args H => slowF (cx ρ) c y k lim 101 args H)) .leaf .leaf
theorem tr101_all (ρ : Addr → Option Value) (k : Nat) : (tr101 ρ (evCY (cx ρ) k).1 (evCY (cx ρ) k).2 k).All fun f h => h = fun lim args H => (evCY (cx ρ) (k + 1)).1 lim f args H :=
  ⟨ar2_eq (F := fun lim args H => (evCY (cx ρ) (k + 1)).1 lim 101 args H) (slow_at (cx ρ) k 101) (fun lim a0 a1 H => E101 ρ k lim a0 a1 H), trivial, trivial⟩
noncomputable def tr102 (ρ : Addr → Option Value) (c : CallF) (y : YieldF) (k : Nat) : DT := .node 102 (ar1 (fun lim a0 H => L102 ⟨ρ, c, y, lim, k⟩ a0 H) (fun lim args H => slowF (cx ρ) c y k lim 102 args H)) (tr101 ρ c y k) .leaf
theorem tr102_all (ρ : Addr → Option Value) (k : Nat) : (tr102 ρ (evCY (cx ρ) k).1 (evCY (cx ρ) k).2 k).All fun f h => h = fun lim args H => (evCY (cx ρ) (k + 1)).1 lim f args H :=
  ⟨ar1_eq (F := fun lim args H => (evCY (cx ρ) (k + 1)).1 lim 102 args H) (slow_at (cx ρ) k 102) (fun lim a0 H => E102 ρ k lim a0 H), tr101_all ρ k, trivial⟩
noncomputable def tr104 (ρ : Addr → Option Value) (c : CallF) (y : YieldF) (k : Nat) : DT := .node 104 (ar1 (fun lim a0 H => L104 ⟨ρ, c, y, lim, k⟩ a0 H) (fun lim args H => slowF (cx ρ) c y k lim 104 args H)) .leaf .leaf
theorem tr104_all (ρ : Addr → Option Value) (k : Nat) : (tr104 ρ (evCY (cx ρ) k).1 (evCY (cx ρ) k).2 k).All fun f h => h = fun lim args H => (evCY (cx ρ) (k + 1)).1 lim f args H :=
  ⟨ar1_eq (F := fun lim args H => (evCY (cx ρ) (k + 1)).1 lim 104 args H) (slow_at (cx ρ) k 104) (fun lim a0 H => E104 ρ k lim a0 H), trivial, trivial⟩
noncomputable def tr112 (ρ : Addr → Option Value) (c : CallF) (y : YieldF) (k : Nat) : DT := .node 112 (ar2 (fun lim a0 a1 H => L112 ⟨ρ, c, y, lim, k⟩ a0 a1 H) (fun lim args H => slowF (cx ρ) c y k lim 112 args H)) (tr104 ρ c y k) .leaf
theorem tr112_all (ρ : Addr → Option Value) (k : Nat) : (tr112 ρ (evCY (cx ρ) k).1 (evCY (cx ρ) k).2 k).All fun f h => h = fun lim args H => (evCY (cx ρ) (k + 1)).1 lim f args H :=
  ⟨ar2_eq (F := fun lim args H => (evCY (cx ρ) (k + 1)).1 lim 112 args H) (slow_at (cx ρ) k 112) (fun lim a0 a1 H => E112 ρ k lim a0 a1 H), tr104_all ρ k, trivial⟩
noncomputable def tr103 (ρ : Addr → Option Value) (c : CallF) (y : YieldF) (k : Nat) : DT := .node 103 (ar2 (fun lim a0 a1 H => L103 ⟨ρ, c, y, lim, k⟩ a0 a1 H) (fun lim args H => slowF (cx ρ) c y k lim 103 args H)) (tr102 ρ c y k) (tr112 ρ c y k)
theorem tr103_all (ρ : Addr → Option Value) (k : Nat) : (tr103 ρ (evCY (cx ρ) k).1 (evCY (cx ρ) k).2 k).All fun f h => h = fun lim args H => (evCY (cx ρ) (k + 1)).1 lim f args H :=
  ⟨ar2_eq (F := fun lim args H => (evCY (cx ρ) (k + 1)).1 lim 103 args H) (slow_at (cx ρ) k 103) (fun lim a0 a1 H => E103 ρ k lim a0 a1 H), tr102_all ρ k, tr112_all ρ k⟩
noncomputable def tr123 (ρ : Addr → Option Value) (c : CallF) (y : YieldF) (k : Nat) : DT := .node 123 (ar3 (fun lim a0 a1 a2 H => L123 ⟨ρ, c, y, lim, k⟩ a0 a1 a2 H) (fun lim args H => slowF (cx ρ) c y k lim 123 args H)) .leaf .leaf
theorem tr123_all (ρ : Addr → Option Value) (k : Nat) : (tr123 ρ (evCY (cx ρ) k).1 (evCY (cx ρ) k).2 k).All fun f h => h = fun lim args H => (evCY (cx ρ) (k + 1)).1 lim f args H :=
  ⟨ar3_eq (F := fun lim args H => (evCY (cx ρ) (k + 1)).1 lim 123 args H) (slow_at (cx ρ) k 123) (fun lim a0 a1 a2 H => E123 ρ k lim a0 a1 a2 H), trivial, trivial⟩
noncomputable def tr124 (ρ : Addr → Option Value) (c : CallF) (y : YieldF) (k : Nat) : DT := .node 124 (ar2 (fun lim a0 a1 H => L124 ⟨ρ, c, y, lim, k⟩ a0 a1 H) (fun lim args H => slowF (cx ρ) c y k lim 124 args H)) (tr123 ρ c y k) .leaf
theorem tr124_all (ρ : Addr → Option Value) (k : Nat) : (tr124 ρ (evCY (cx ρ) k).1 (evCY (cx ρ) k).2 k).All fun f h => h = fun lim args H => (evCY (cx ρ) (k + 1)).1 lim f args H :=
  ⟨ar2_eq (F := fun lim args H => (evCY (cx ρ) (k + 1)).1 lim 124 args H) (slow_at (cx ρ) k 124) (fun lim a0 a1 H => E124 ρ k lim a0 a1 H), tr123_all ρ k, trivial⟩
noncomputable def tr128 (ρ : Addr → Option Value) (c : CallF) (y : YieldF) (k : Nat) : DT := .node 128 (ar1 (fun lim a0 H => L128 ⟨ρ, c, y, lim, k⟩ a0 H) (fun lim args H => slowF (cx ρ) c y k lim 128 args H)) .leaf .leaf
theorem tr128_all (ρ : Addr → Option Value) (k : Nat) : (tr128 ρ (evCY (cx ρ) k).1 (evCY (cx ρ) k).2 k).All fun f h => h = fun lim args H => (evCY (cx ρ) (k + 1)).1 lim f args H :=
  ⟨ar1_eq (F := fun lim args H => (evCY (cx ρ) (k + 1)).1 lim 128 args H) (slow_at (cx ρ) k 128) (fun lim a0 H => E128 ρ k lim a0 H), trivial, trivial⟩
noncomputable def tr126 (ρ : Addr → Option Value) (c : CallF) (y : YieldF) (k : Nat) : DT := .node 126 (ar1 (fun lim a0 H => L126 ⟨ρ, c, y, lim, k⟩ a0 H) (fun lim args H => slowF (cx ρ) c y k lim 126 args H)) (tr124 ρ c y k) (tr128 ρ c y k)
theorem tr126_all (ρ : Addr → Option Value) (k : Nat) : (tr126 ρ (evCY (cx ρ) k).1 (evCY (cx ρ) k).2 k).All fun f h => h = fun lim args H => (evCY (cx ρ) (k + 1)).1 lim f args H :=
  ⟨ar1_eq (F := fun lim args H => (evCY (cx ρ) (k + 1)).1 lim 126 args H) (slow_at (cx ρ) k 126) (fun lim a0 H => E126 ρ k lim a0 H), tr124_all ρ k, tr128_all ρ k⟩
noncomputable def tr122 (ρ : Addr → Option Value) (c : CallF) (y : YieldF) (k : Nat) : DT := .node 122 (ar2 (fun lim a0 a1 H => L122 ⟨ρ, c, y, lim, k⟩ a0 a1 H) (fun lim args H => slowF (cx ρ) c y k lim 122 args H)) (tr103 ρ c y k) (tr126 ρ c y k)
theorem tr122_all (ρ : Addr → Option Value) (k : Nat) : (tr122 ρ (evCY (cx ρ) k).1 (evCY (cx ρ) k).2 k).All fun f h => h = fun lim args H => (evCY (cx ρ) (k + 1)).1 lim f args H :=
  ⟨ar2_eq (F := fun lim args H => (evCY (cx ρ) (k + 1)).1 lim 122 args H) (slow_at (cx ρ) k 122) (fun lim a0 a1 H => E122 ρ k lim a0 a1 H), tr103_all ρ k, tr126_all ρ k⟩
noncomputable def tr100 (ρ : Addr → Option Value) (c : CallF) (y : YieldF) (k : Nat) : DT := .node 100 (ar2 (fun lim a0 a1 H => L100 ⟨ρ, c, y, lim, k⟩ a0 a1 H) (fun lim args H => slowF (cx ρ) c y k lim 100 args H)) (tr95 ρ c y k) (tr122 ρ c y k)
theorem tr100_all (ρ : Addr → Option Value) (k : Nat) : (tr100 ρ (evCY (cx ρ) k).1 (evCY (cx ρ) k).2 k).All fun f h => h = fun lim args H => (evCY (cx ρ) (k + 1)).1 lim f args H :=
  ⟨ar2_eq (F := fun lim args H => (evCY (cx ρ) (k + 1)).1 lim 100 args H) (slow_at (cx ρ) k 100) (fun lim a0 a1 H => E100 ρ k lim a0 a1 H), tr95_all ρ k, tr122_all ρ k⟩
noncomputable def tr88 (ρ : Addr → Option Value) (c : CallF) (y : YieldF) (k : Nat) : DT := .node 88 (ar1 (fun lim a0 H => L88 ⟨ρ, c, y, lim, k⟩ a0 H) (fun lim args H => slowF (cx ρ) c y k lim 88 args H)) (tr74 ρ c y k) (tr100 ρ c y k)
theorem tr88_all (ρ : Addr → Option Value) (k : Nat) : (tr88 ρ (evCY (cx ρ) k).1 (evCY (cx ρ) k).2 k).All fun f h => h = fun lim args H => (evCY (cx ρ) (k + 1)).1 lim f args H :=
  ⟨ar1_eq (F := fun lim args H => (evCY (cx ρ) (k + 1)).1 lim 88 args H) (slow_at (cx ρ) k 88) (fun lim a0 H => E88 ρ k lim a0 H), tr74_all ρ k, tr100_all ρ k⟩
noncomputable def tr62 (ρ : Addr → Option Value) (c : CallF) (y : YieldF) (k : Nat) : DT := .node 62 (ar1 (fun lim a0 H => L62 ⟨ρ, c, y, lim, k⟩ a0 H) (fun lim args H => slowF (cx ρ) c y k lim 62 args H)) (tr26 ρ c y k) (tr88 ρ c y k)
theorem tr62_all (ρ : Addr → Option Value) (k : Nat) : (tr62 ρ (evCY (cx ρ) k).1 (evCY (cx ρ) k).2 k).All fun f h => h = fun lim args H => (evCY (cx ρ) (k + 1)).1 lim f args H :=
  ⟨ar1_eq (F := fun lim args H => (evCY (cx ρ) (k + 1)).1 lim 62 args H) (slow_at (cx ρ) k 62) (fun lim a0 H => E62 ρ k lim a0 H), tr26_all ρ k, tr88_all ρ k⟩
noncomputable def tr130 (ρ : Addr → Option Value) (c : CallF) (y : YieldF) (k : Nat) : DT := .node 130 (ar1 (fun lim a0 H => L130 ⟨ρ, c, y, lim, k⟩ a0 H) (fun lim args H => slowF (cx ρ) c y k lim 130 args H)) .leaf .leaf
theorem tr130_all (ρ : Addr → Option Value) (k : Nat) : (tr130 ρ (evCY (cx ρ) k).1 (evCY (cx ρ) k).2 k).All fun f h => h = fun lim args H => (evCY (cx ρ) (k + 1)).1 lim f args H :=
  ⟨ar1_eq (F := fun lim args H => (evCY (cx ρ) (k + 1)).1 lim 130 args H) (slow_at (cx ρ) k 130) (fun lim a0 H => E130 ρ k lim a0 H), trivial, trivial⟩
noncomputable def tr131 (ρ : Addr → Option Value) (c : CallF) (y : YieldF) (k : Nat) : DT := .node 131 (ar1 (fun lim a0 H => L131 ⟨ρ, c, y, lim, k⟩ a0 H) (fun lim args H => slowF (cx ρ) c y k lim 131 args H)) (tr130 ρ c y k) .leaf
theorem tr131_all (ρ : Addr → Option Value) (k : Nat) : (tr131 ρ (evCY (cx ρ) k).1 (evCY (cx ρ) k).2 k).All fun f h => h = fun lim args H => (evCY (cx ρ) (k + 1)).1 lim f args H :=
  ⟨ar1_eq (F := fun lim args H => (evCY (cx ρ) (k + 1)).1 lim 131 args H) (slow_at (cx ρ) k 131) (fun lim a0 H => E131 ρ k lim a0 H), tr130_all ρ k, trivial⟩
noncomputable def tr133 (ρ : Addr → Option Value) (c : CallF) (y : YieldF) (k : Nat) : DT := .node 133 (ar4 (fun lim a0 a1 a2 a3 H => L133 ⟨ρ, c, y, lim, k⟩ a0 a1 a2 a3 H) (fun lim args H => slowF (cx ρ) c y k lim 133 args H)) .leaf .leaf
theorem tr133_all (ρ : Addr → Option Value) (k : Nat) : (tr133 ρ (evCY (cx ρ) k).1 (evCY (cx ρ) k).2 k).All fun f h => h = fun lim args H => (evCY (cx ρ) (k + 1)).1 lim f args H :=
  ⟨ar4_eq (F := fun lim args H => (evCY (cx ρ) (k + 1)).1 lim 133 args H) (slow_at (cx ρ) k 133) (fun lim a0 a1 a2 a3 H => E133 ρ k lim a0 a1 a2 a3 H), trivial, trivial⟩
noncomputable def tr142 (ρ : Addr → Option Value) (c : CallF) (y : YieldF) (k : Nat) : DT := .node 142 (ar1 (fun lim a0 H => L142 ⟨ρ, c, y, lim, k⟩ a0 H) (fun lim args H => slowF (cx ρ) c y k lim 142 args H)) (tr133 ρ c y k) .leaf
theorem tr142_all (ρ : Addr → Option Value) (k : Nat) : (tr142 ρ (evCY (cx ρ) k).1 (evCY (cx ρ) k).2 k).All fun f h => h = fun lim args H => (evCY (cx ρ) (k + 1)).1 lim f args H :=
  ⟨ar1_eq (F := fun lim args H => (evCY (cx ρ) (k + 1)).1 lim 142 args H) (slow_at (cx ρ) k 142) (fun lim a0 H => E142 ρ k lim a0 H), tr133_all ρ k, trivial⟩
noncomputable def tr132 (ρ : Addr → Option Value) (c : CallF) (y : YieldF) (k : Nat) : DT := .node 132 (ar1 (fun lim a0 H => L132 ⟨ρ, c, y, lim, k⟩ a0 H) (fun lim args H => slowF (cx ρ) c y k lim 132 args H)) (tr131 ρ c y k) (tr142 ρ c y k)
theorem tr132_all (ρ : Addr → Option Value) (k : Nat) : (tr132 ρ (evCY (cx ρ) k).1 (evCY (cx ρ) k).2 k).All fun f h => h = fun lim args H => (evCY (cx ρ) (k + 1)).1 lim f args H :=
  ⟨ar1_eq (F := fun lim args H => (evCY (cx ρ) (k + 1)).1 lim 132 args H) (slow_at (cx ρ) k 132) (fun lim a0 H => E132 ρ k lim a0 H), tr131_all ρ k, tr142_all ρ k⟩
noncomputable def tr145 (ρ : Addr → Option Value) (c : CallF) (y : YieldF) (k : Nat) : DT := .node 145 (ar1 (fun lim a0 H => L145 ⟨ρ, c, y, lim, k⟩ a0 H) (fun lim args H => slowF (cx ρ) c y k lim 145 args H)) .leaf .leaf
theorem tr145_all (ρ : Addr → Option Value) (k : Nat) : (tr145 ρ (evCY (cx ρ) k).1 (evCY (cx ρ) k).2 k).All fun f h => h = fun lim args H => (evCY (cx ρ) (k + 1)).1 lim f args H :=
  ⟨ar1_eq (F := fun lim args H => (evCY (cx ρ) (k + 1)).1 lim 145 args H) (slow_at (cx ρ) k 145) (fun lim a0 H => E145 ρ k lim a0 H), trivial, trivial⟩
noncomputable def tr146 (ρ : Addr → Option Value) (c : CallF) (y : YieldF) (k : Nat) : DT := .node 146 (ar2 (fun lim a0 a1 H => L146 ⟨ρ, c, y, lim, k⟩ a0 a1 H) (fun lim args H => slowF (cx ρ) c y k lim 146 args H)) (tr145 ρ c y k) .leaf
theorem tr146_all (ρ : Addr → Option Value) (k : Nat) : (tr146 ρ (evCY (cx ρ) k).1 (evCY (cx ρ) k).2 k).All fun f h => h = fun lim args H => (evCY (cx ρ) (k + 1)).1 lim f args H :=
  ⟨ar2_eq (F := fun lim args H => (evCY (cx ρ) (k + 1)).1 lim 146 args H) (slow_at (cx ρ) k 146) (fun lim a0 a1 H => E146 ρ k lim a0 a1 H), tr145_all ρ k, trivial⟩
noncomputable def tr149 (ρ : Addr → Option Value) (c : CallF) (y : YieldF) (k : Nat) : DT := .node 149 (ar2 (fun lim a0 a1 H => L149 ⟨ρ, c, y, lim, k⟩ a0 a1 H) (fun lim args H => slowF (cx ρ) c y k lim 149 args H)) .leaf .leaf
theorem tr149_all (ρ : Addr → Option Value) (k : Nat) : (tr149 ρ (evCY (cx ρ) k).1 (evCY (cx ρ) k).2 k).All fun f h => h = fun lim args H => (evCY (cx ρ) (k + 1)).1 lim f args H :=
  ⟨ar2_eq (F := fun lim args H => (evCY (cx ρ) (k + 1)).1 lim 149 args H) (slow_at (cx ρ) k 149) (fun lim a0 a1 H => E149 ρ k lim a0 a1 H), trivial, trivial⟩
noncomputable def tr150 (ρ : Addr → Option Value) (c : CallF) (y : YieldF) (k : Nat) : DT := .node 150 (ar1 (fun lim a0 H => L150 ⟨ρ, c, y, lim, k⟩ a0 H) (fun lim args H => slowF (cx ρ) c y k lim 150 args H)) (tr149 ρ c y k) .leaf
theorem tr150_all (ρ : Addr → Option Value) (k : Nat) : (tr150 ρ (evCY (cx ρ) k).1 (evCY (cx ρ) k).2 k).All fun f h => h = fun lim args H => (evCY (cx ρ) (k + 1)).1 lim f args H :=
  ⟨ar1_eq (F := fun lim args H => (evCY (cx ρ) (k + 1)).1 lim 150 args H) (slow_at (cx ρ) k 150) (fun lim a0 H => E150 ρ k lim a0 H), tr149_all ρ k, trivial⟩
noncomputable def tr147 (ρ : Addr → Option Value) (c : CallF) (y : YieldF) (k : Nat) : DT := .node 147 (ar2 (fun lim a0 a1 H => L147 ⟨ρ, c, y, lim, k⟩ a0 a1 H) (fun lim args H => slowF (cx ρ) c y k lim 147 args H)) (tr146 ρ c y k) (tr150 ρ c y k)
theorem tr147_all (ρ : Addr → Option Value) (k : Nat) : (tr147 ρ (evCY (cx ρ) k).1 (evCY (cx ρ) k).2 k).All fun f h => h = fun lim args H => (evCY (cx ρ) (k + 1)).1 lim f args H :=
  ⟨ar2_eq (F := fun lim args H => (evCY (cx ρ) (k + 1)).1 lim 147 args H) (slow_at (cx ρ) k 147) (fun lim a0 a1 H => E147 ρ k lim a0 a1 H), tr146_all ρ k, tr150_all ρ k⟩
noncomputable def tr144 (ρ : Addr → Option Value) (c : CallF) (y : YieldF) (k : Nat) : DT := .node 144 (ar1 (fun lim a0 H => L144 ⟨ρ, c, y, lim, k⟩ a0 H) (fun lim args H => slowF (cx ρ) c y k lim 144 args H)) (tr132 ρ c y k) (tr147 ρ c y k)
theorem tr144_all (ρ : Addr → Option Value) (k : Nat) : (tr144 ρ (evCY (cx ρ) k).1 (evCY (cx ρ) k).2 k).All fun f h => h = fun lim args H => (evCY (cx ρ) (k + 1)).1 lim f args H :=
  ⟨ar1_eq (F := fun lim args H => (evCY (cx ρ) (k + 1)).1 lim 144 args H) (slow_at (cx ρ) k 144) (fun lim a0 H => E144 ρ k lim a0 H), tr132_all ρ k, tr147_all ρ k⟩
noncomputable def tr152 (ρ : Addr → Option Value) (c : CallF) (y : YieldF) (k : Nat) : DT := .node 152 (ar1 (fun lim a0 H => L152 ⟨ρ, c, y, lim, k⟩ a0 H) (fun lim args H => slowF (cx ρ) c y k lim 152 args H)) .leaf .leaf
theorem tr152_all (ρ : Addr → Option Value) (k : Nat) : (tr152 ρ (evCY (cx ρ) k).1 (evCY (cx ρ) k).2 k).All fun f h => h = fun lim args H => (evCY (cx ρ) (k + 1)).1 lim f args H :=
  ⟨ar1_eq (F := fun lim args H => (evCY (cx ρ) (k + 1)).1 lim 152 args H) (slow_at (cx ρ) k 152) (fun lim a0 H => E152 ρ k lim a0 H), trivial, trivial⟩
noncomputable def tr153 (ρ : Addr → Option Value) (c : CallF) (y : YieldF) (k : Nat) : DT := .node 153 (ar2 (fun lim a0 a1 H => L153 ⟨ρ, c, y, lim, k⟩ a0 a1 H) (fun lim args H => slowF (cx ρ) c y k lim 153 args H)) (tr152 ρ c y k) .leaf
theorem tr153_all (ρ : Addr → Option Value) (k : Nat) : (tr153 ρ (evCY (cx ρ) k).1 (evCY (cx ρ) k).2 k).All fun f h => h = fun lim args H => (evCY (cx ρ) (k + 1)).1 lim f args H :=
  ⟨ar2_eq (F := fun lim args H => (evCY (cx ρ) (k + 1)).1 lim 153 args H) (slow_at (cx ρ) k 153) (fun lim a0 a1 H => E153 ρ k lim a0 a1 H), tr152_all ρ k, trivial⟩
noncomputable def tr160 (ρ : Addr → Option Value) (c : CallF) (y : YieldF) (k : Nat) : DT := .node 160 (ar2 (fun lim a0 a1 H => L160 ⟨ρ, c, y, lim, k⟩ a0 a1 H) (fun lim args H => slowF (cx ρ) c y k lim 160 args H)) .leaf .leaf
theorem tr160_all (ρ : Addr → Option Value) (k : Nat) : (tr160 ρ (evCY (cx ρ) k).1 (evCY (cx ρ) k).2 k).All fun f h => h = fun lim args H => (evCY (cx ρ) (k + 1)).1 lim f args H :=
  ⟨ar2_eq (F := fun lim args H => (evCY (cx ρ) (k + 1)).1 lim 160 args H) (slow_at (cx ρ) k 160) (fun lim a0 a1 H => E160 ρ k lim a0 a1 H), trivial, trivial⟩
noncomputable def tr161 (ρ : Addr → Option Value) (c : CallF) (y : YieldF) (k : Nat) : DT := .node 161 (ar3 (fun lim a0 a1 a2 H => L161 ⟨ρ, c, y, lim, k⟩ a0 a1 a2 H) (fun lim args H => slowF (cx ρ) c y k lim 161 args H)) (tr160 ρ c y k) .leaf
theorem tr161_all (ρ : Addr → Option Value) (k : Nat) : (tr161 ρ (evCY (cx ρ) k).1 (evCY (cx ρ) k).2 k).All fun f h => h = fun lim args H => (evCY (cx ρ) (k + 1)).1 lim f args H :=
  ⟨ar3_eq (F := fun lim args H => (evCY (cx ρ) (k + 1)).1 lim 161 args H) (slow_at (cx ρ) k 161) (fun lim a0 a1 a2 H => E161 ρ k lim a0 a1 a2 H), tr160_all ρ k, trivial⟩
noncomputable def tr159 (ρ : Addr → Option Value) (c : CallF) (y : YieldF) (k : Nat) : DT := .node 159 (ar2 (fun lim a0 a1 H => L159 ⟨ρ, c, y, lim, k⟩ a0 a1 H) (fun lim args H => slowF (cx ρ) c y k lim 159 args H)) (tr153 ρ c y k) (tr161 ρ c y k)
theorem tr159_all (ρ : Addr → Option Value) (k : Nat) : (tr159 ρ (evCY (cx ρ) k).1 (evCY (cx ρ) k).2 k).All fun f h => h = fun lim args H => (evCY (cx ρ) (k + 1)).1 lim f args H :=
  ⟨ar2_eq (F := fun lim args H => (evCY (cx ρ) (k + 1)).1 lim 159 args H) (slow_at (cx ρ) k 159) (fun lim a0 a1 H => E159 ρ k lim a0 a1 H), tr153_all ρ k, tr161_all ρ k⟩
noncomputable def tr163 (ρ : Addr → Option Value) (c : CallF) (y : YieldF) (k : Nat) : DT := .node 163 (ar1 (fun lim a0 H => L163 ⟨ρ, c, y, lim, k⟩ a0 H) (fun lim args H => slowF (cx ρ) c y k lim 163 args H)) .leaf .leaf
theorem tr163_all (ρ : Addr → Option Value) (k : Nat) : (tr163 ρ (evCY (cx ρ) k).1 (evCY (cx ρ) k).2 k).All fun f h => h = fun lim args H => (evCY (cx ρ) (k + 1)).1 lim f args H :=
  ⟨ar1_eq (F := fun lim args H => (evCY (cx ρ) (k + 1)).1 lim 163 args H) (slow_at (cx ρ) k 163) (fun lim a0 H => E163 ρ k lim a0 H), trivial, trivial⟩
noncomputable def tr164 (ρ : Addr → Option Value) (c : CallF) (y : YieldF) (k : Nat) : DT := .node 164 (ar1 (fun lim a0 H => L164 ⟨ρ, c, y, lim, k⟩ a0 H) (fun lim args H => slowF (cx ρ) c y k lim 164 args H)) (tr163 ρ c y k) .leaf
theorem tr164_all (ρ : Addr → Option Value) (k : Nat) : (tr164 ρ (evCY (cx ρ) k).1 (evCY (cx ρ) k).2 k).All fun f h => h = fun lim args H => (evCY (cx ρ) (k + 1)).1 lim f args H :=
  ⟨ar1_eq (F := fun lim args H => (evCY (cx ρ) (k + 1)).1 lim 164 args H) (slow_at (cx ρ) k 164) (fun lim a0 H => E164 ρ k lim a0 H), tr163_all ρ k, trivial⟩
noncomputable def tr166 (ρ : Addr → Option Value) (c : CallF) (y : YieldF) (k : Nat) : DT := .node 166 (ar2 (fun lim a0 a1 H => L166 ⟨ρ, c, y, lim, k⟩ a0 a1 H) (fun lim args H => slowF (cx ρ) c y k lim 166 args H)) .leaf .leaf
theorem tr166_all (ρ : Addr → Option Value) (k : Nat) : (tr166 ρ (evCY (cx ρ) k).1 (evCY (cx ρ) k).2 k).All fun f h => h = fun lim args H => (evCY (cx ρ) (k + 1)).1 lim f args H :=
  ⟨ar2_eq (F := fun lim args H => (evCY (cx ρ) (k + 1)).1 lim 166 args H) (slow_at (cx ρ) k 166) (fun lim a0 a1 H => E166 ρ k lim a0 a1 H), trivial, trivial⟩
noncomputable def tr165 (ρ : Addr → Option Value) (c : CallF) (y : YieldF) (k : Nat) : DT := .node 165 (ar1 (fun lim a0 H => L165 ⟨ρ, c, y, lim, k⟩ a0 H) (fun lim args H => slowF (cx ρ) c y k lim 165 args H)) (tr164 ρ c y k) (tr166 ρ c y k)
theorem tr165_all (ρ : Addr → Option Value) (k : Nat) : (tr165 ρ (evCY (cx ρ) k).1 (evCY (cx ρ) k).2 k).All fun f h => h = fun lim args H => (evCY (cx ρ) (k + 1)).1 lim f args H :=
  ⟨ar1_eq (F := fun lim args H => (evCY (cx ρ) (k + 1)).1 lim 165 args H) (slow_at (cx ρ) k 165) (fun lim a0 H => E165 ρ k lim a0 H), tr164_all ρ k, tr166_all ρ k⟩
noncomputable def tr162 (ρ : Addr → Option Value) (c : CallF) (y : YieldF) (k : Nat) : DT := .node 162 (ar5 (fun lim a0 a1 a2 a3 a4 H => L162 ⟨ρ, c, y, lim, k⟩ a0 a1 a2 a3 a4 H) (fun lim args H => slowF (cx ρ) c y k lim 162 args H)) (tr159 ρ c y k) (tr165 ρ c y k)
theorem tr162_all (ρ : Addr → Option Value) (k : Nat) : (tr162 ρ (evCY (cx ρ) k).1 (evCY (cx ρ) k).2 k).All fun f h => h = fun lim args H => (evCY (cx ρ) (k + 1)).1 lim f args H :=
  ⟨ar5_eq (F := fun lim args H => (evCY (cx ρ) (k + 1)).1 lim 162 args H) (slow_at (cx ρ) k 162) (fun lim a0 a1 a2 a3 a4 H => E162 ρ k lim a0 a1 a2 a3 a4 H), tr159_all ρ k, tr165_all ρ k⟩
noncomputable def tr151 (ρ : Addr → Option Value) (c : CallF) (y : YieldF) (k : Nat) : DT := .node 151 (ar2 (fun lim a0 a1 H => L151 ⟨ρ, c, y, lim, k⟩ a0 a1 H) (fun lim args H => slowF (cx ρ) c y k lim 151 args H)) (tr144 ρ c y k) (tr162 ρ c y k)
theorem tr151_all (ρ : Addr → Option Value) (k : Nat) : (tr151 ρ (evCY (cx ρ) k).1 (evCY (cx ρ) k).2 k).All fun f h => h = fun lim args H => (evCY (cx ρ) (k + 1)).1 lim f args H :=
  ⟨ar2_eq (F := fun lim args H => (evCY (cx ρ) (k + 1)).1 lim 151 args H) (slow_at (cx ρ) k 151) (fun lim a0 a1 H => E151 ρ k lim a0 a1 H), tr144_all ρ k, tr162_all ρ k⟩
noncomputable def tr168 (ρ : Addr → Option Value) (c : CallF) (y : YieldF) (k : Nat) : DT := .node 168 (ar1 (fun lim a0 H => L168 ⟨ρ, c, y, lim, k⟩ a0 H) (fun lim args H => slowF (cx ρ) c y k lim 168 args H)) .leaf .leaf
theorem tr168_all (ρ : Addr → Option Value) (k : Nat) : (tr168 ρ (evCY (cx ρ) k).1 (evCY (cx ρ) k).2 k).All fun f h => h = fun lim args H => (evCY (cx ρ) (k + 1)).1 lim f args H :=
  ⟨ar1_eq (F := fun lim args H => (evCY (cx ρ) (k + 1)).1 lim 168 args H) (slow_at (cx ρ) k 168) (fun lim a0 H => E168 ρ k lim a0 H), trivial, trivial⟩
noncomputable def tr170 (ρ : Addr → Option Value) (c : CallF) (y : YieldF) (k : Nat) : DT := .node 170 (ar2 (fun lim a0 a1 H => L170 ⟨ρ, c, y, lim, k⟩ a0 a1 H) (fun lim args H => slowF (cx ρ) c y k lim 170 args H)) (tr168 ρ c y k) .leaf
theorem tr170_all (ρ : Addr → Option Value) (k : Nat) : (tr170 ρ (evCY (cx ρ) k).1 (evCY (cx ρ) k).2 k).All fun f h => h = fun lim args H => (evCY (cx ρ) (k + 1)).1 lim f args H :=
  ⟨ar2_eq (F := fun lim args H => (evCY (cx ρ) (k + 1)).1 lim 170 args H) (slow_at (cx ρ) k 170) (fun lim a0 a1 H => E170 ρ k lim a0 a1 H), tr168_all ρ k, trivial⟩
noncomputable def tr181 (ρ : Addr → Option Value) (c : CallF) (y : YieldF) (k : Nat) : DT := .node 181 (ar1 (fun lim a0 H => L181 ⟨ρ, c, y, lim, k⟩ a0 H) (fun lim args H => slowF (cx ρ) c y k lim 181 args H)) .leaf .leaf
theorem tr181_all (ρ : Addr → Option Value) (k : Nat) : (tr181 ρ (evCY (cx ρ) k).1 (evCY (cx ρ) k).2 k).All fun f h => h = fun lim args H => (evCY (cx ρ) (k + 1)).1 lim f args H :=
  ⟨ar1_eq (F := fun lim args H => (evCY (cx ρ) (k + 1)).1 lim 181 args H) (slow_at (cx ρ) k 181) (fun lim a0 H => E181 ρ k lim a0 H), trivial, trivial⟩
noncomputable def tr200 (ρ : Addr → Option Value) (c : CallF) (y : YieldF) (k : Nat) : DT := .node 200 (ar1 (fun lim a0 H => L200 ⟨ρ, c, y, lim, k⟩ a0 H) (fun lim args H => slowF (cx ρ) c y k lim 200 args H)) (tr181 ρ c y k) .leaf
theorem tr200_all (ρ : Addr → Option Value) (k : Nat) : (tr200 ρ (evCY (cx ρ) k).1 (evCY (cx ρ) k).2 k).All fun f h => h = fun lim args H => (evCY (cx ρ) (k + 1)).1 lim f args H :=
  ⟨ar1_eq (F := fun lim args H => (evCY (cx ρ) (k + 1)).1 lim 200 args H) (slow_at (cx ρ) k 200) (fun lim a0 H => E200 ρ k lim a0 H), tr181_all ρ k, trivial⟩
noncomputable def tr171 (ρ : Addr → Option Value) (c : CallF) (y : YieldF) (k : Nat) : DT := .node 171 (ar1 (fun lim a0 H => L171 ⟨ρ, c, y, lim, k⟩ a0 H) (fun lim args H => slowF (cx ρ) c y k lim 171 args H)) (tr170 ρ c y k) (tr200 ρ c y k)
theorem tr171_all (ρ : Addr → Option Value) (k : Nat) : (tr171 ρ (evCY (cx ρ) k).1 (evCY (cx ρ) k).2 k).All fun f h => h = fun lim args H => (evCY (cx ρ) (k + 1)).1 lim f args H :=
  ⟨ar1_eq (F := fun lim args H => (evCY (cx ρ) (k + 1)).1 lim 171 args H) (slow_at (cx ρ) k 171) (fun lim a0 H => E171 ρ k lim a0 H), tr170_all ρ k, tr200_all ρ k⟩
noncomputable def tr202 (ρ : Addr → Option Value) (c : CallF) (y : YieldF) (k : Nat) : DT := .node 202 (ar1 (fun lim a0 H => L202 ⟨ρ, c, y, lim, k⟩ a0 H) (fun lim args H => slowF (cx ρ) c y k lim 202 args H)) .leaf .leaf
theorem tr202_all (ρ : Addr → Option Value) (k : Nat) : (tr202 ρ (evCY (cx ρ) k).1 (evCY (cx ρ) k).2 k).All fun f h => h = fun lim args H => (evCY (cx ρ) (k + 1)).1 lim f args H :=
  ⟨ar1_eq (F := fun lim args H => (evCY (cx ρ) (k + 1)).1 lim 202 args H) (slow_at (cx ρ) k 202) (fun lim a0 H => E202 ρ k lim a0 H), trivial, trivial⟩
noncomputable def tr205 (ρ : Addr → Option Value) (c : CallF) (y : YieldF) (k : Nat) : DT := .node 205 (ar2 (fun lim a0 a1 H => L205 ⟨ρ, c, y, lim, k⟩ a0 a1 H) (fun lim args H => slowF (cx ρ) c y k lim 205 args H)) (tr202 ρ c y k) .leaf
theorem tr205_all (ρ : Addr → Option Value) (k : Nat) : (tr205 ρ (evCY (cx ρ) k).1 (evCY (cx ρ) k).2 k).All fun f h => h = fun lim args H => (evCY (cx ρ) (k + 1)).1 lim f args H :=
  ⟨ar2_eq (F := fun lim args H => (evCY (cx ρ) (k + 1)).1 lim 205 args H) (slow_at (cx ρ) k 205) (fun lim a0 a1 H => E205 ρ k lim a0 a1 H), tr202_all ρ k, trivial⟩
noncomputable def tr207 (ρ : Addr → Option Value) (c : CallF) (y : YieldF) (k : Nat) : DT := .node 207 (ar1 (fun lim a0 H => L207 ⟨ρ, c, y, lim, k⟩ a0 H) (fun lim args H => slowF (cx ρ) c y k lim 207 args H)) .leaf .leaf
theorem tr207_all (ρ : Addr → Option Value) (k : Nat) : (tr207 ρ (evCY (cx ρ) k).1 (evCY (cx ρ) k).2 k).All fun f h => h = fun lim args H => (evCY (cx ρ) (k + 1)).1 lim f args H :=
  ⟨ar1_eq (F := fun lim args H => (evCY (cx ρ) (k + 1)).1 lim 207 args H) (slow_at (cx ρ) k 207) (fun lim a0 H => E207 ρ k lim a0 H), trivial, trivial⟩
noncomputable def tr206 (ρ : Addr → Option Value) (c : CallF) (y : YieldF) (k : Nat) : DT := .node 206 (ar2 (fun lim a0 a1 H => L206 ⟨ρ, c, y, lim, k⟩ a0 a1 H) (fun lim args H => slowF (cx ρ) c y k lim 206 args H)) (tr205 ρ c y k) (tr207 ρ c y k)
theorem tr206_all (ρ : Addr → Option Value) (k : Nat) : (tr206 ρ (evCY (cx ρ) k).1 (evCY (cx ρ) k).2 k).All fun f h => h = fun lim args H => (evCY (cx ρ) (k + 1)).1 lim f args H :=
  ⟨ar2_eq (F := fun lim args H => (evCY (cx ρ) (k + 1)).1 lim 206 args H) (slow_at (cx ρ) k 206) (fun lim a0 a1 H => E206 ρ k lim a0 a1 H), tr205_all ρ k, tr207_all ρ k⟩
noncomputable def tr201 (ρ : Addr → Option Value) (c : CallF) (y : YieldF) (k : Nat) : DT := .node 201 (ar3 (fun lim a0 a1 a2 H => L201 ⟨ρ, c, y, lim, k⟩ a0 a1 a2 H) (fun lim args H => slowF (cx ρ) c y k lim 201 args H)) (tr171 ρ c y k) (tr206 ρ c y k)
theorem tr201_all (ρ : Addr → Option Value) (k : Nat) : (tr201 ρ (evCY (cx ρ) k).1 (evCY (cx ρ) k).2 k).All fun f h => h = fun lim args H => (evCY (cx ρ) (k + 1)).1 lim f args H :=
  ⟨ar3_eq (F := fun lim args H => (evCY (cx ρ) (k + 1)).1 lim 201 args H) (slow_at (cx ρ) k 201) (fun lim a0 a1 a2 H => E201 ρ k lim a0 a1 a2 H), tr171_all ρ k, tr206_all ρ k⟩
noncomputable def tr225 (ρ : Addr → Option Value) (c : CallF) (y : YieldF) (k : Nat) : DT := .node 225 (ar2 (fun lim a0 a1 H => L225 ⟨ρ, c, y, lim, k⟩ a0 a1 H) (fun lim args H => slowF (cx ρ) c y k lim 225 args H)) .leaf .leaf
theorem tr225_all (ρ : Addr → Option Value) (k : Nat) : (tr225 ρ (evCY (cx ρ) k).1 (evCY (cx ρ) k).2 k).All fun f h => h = fun lim args H => (evCY (cx ρ) (k + 1)).1 lim f args H :=
  ⟨ar2_eq (F := fun lim args H => (evCY (cx ρ) (k + 1)).1 lim 225 args H) (slow_at (cx ρ) k 225) (fun lim a0 a1 H => E225 ρ k lim a0 a1 H), trivial, trivial⟩
noncomputable def tr226 (ρ : Addr → Option Value) (c : CallF) (y : YieldF) (k : Nat) : DT := .node 226 (ar2 (fun lim a0 a1 H => L226 ⟨ρ, c, y, lim, k⟩ a0 a1 H) (fun lim args H => slowF (cx ρ) c y k lim 226 args H)) (tr225 ρ c y k) .leaf
theorem tr226_all (ρ : Addr → Option Value) (k : Nat) : (tr226 ρ (evCY (cx ρ) k).1 (evCY (cx ρ) k).2 k).All fun f h => h = fun lim args H => (evCY (cx ρ) (k + 1)).1 lim f args H :=
  ⟨ar2_eq (F := fun lim args H => (evCY (cx ρ) (k + 1)).1 lim 226 args H) (slow_at (cx ρ) k 226) (fun lim a0 a1 H => E226 ρ k lim a0 a1 H), tr225_all ρ k, trivial⟩
noncomputable def tr228 (ρ : Addr → Option Value) (c : CallF) (y : YieldF) (k : Nat) : DT := .node 228 (ar0 (fun lim H => L228 ⟨ρ, c, y, lim, k⟩ H) (fun lim args H => slowF (cx ρ) c y k lim 228 args H)) .leaf .leaf
theorem tr228_all (ρ : Addr → Option Value) (k : Nat) : (tr228 ρ (evCY (cx ρ) k).1 (evCY (cx ρ) k).2 k).All fun f h => h = fun lim args H => (evCY (cx ρ) (k + 1)).1 lim f args H :=
  ⟨ar0_eq (F := fun lim args H => (evCY (cx ρ) (k + 1)).1 lim 228 args H) (slow_at (cx ρ) k 228) (fun lim H => E228 ρ k lim H), trivial, trivial⟩
noncomputable def tr229 (ρ : Addr → Option Value) (c : CallF) (y : YieldF) (k : Nat) : DT := .node 229 (ar0 (fun lim H => L229 ⟨ρ, c, y, lim, k⟩ H) (fun lim args H => slowF (cx ρ) c y k lim 229 args H)) (tr228 ρ c y k) .leaf
theorem tr229_all (ρ : Addr → Option Value) (k : Nat) : (tr229 ρ (evCY (cx ρ) k).1 (evCY (cx ρ) k).2 k).All fun f h => h = fun lim args H => (evCY (cx ρ) (k + 1)).1 lim f args H :=
  ⟨ar0_eq (F := fun lim args H => (evCY (cx ρ) (k + 1)).1 lim 229 args H) (slow_at (cx ρ) k 229) (fun lim H => E229 ρ k lim H), tr228_all ρ k, trivial⟩
noncomputable def tr227 (ρ : Addr → Option Value) (c : CallF) (y : YieldF) (k : Nat) : DT := .node 227 (ar1 (fun lim a0 H => L227 ⟨ρ, c, y, lim, k⟩ a0 H) (fun lim args H => slowF (cx ρ) c y k lim 227 args H)) (tr226 ρ c y k) (tr229 ρ c y k)
theorem tr227_all (ρ : Addr → Option Value) (k : Nat) : (tr227 ρ (evCY (cx ρ) k).1 (evCY (cx ρ) k).2 k).All fun f h => h = fun lim args H => (evCY (cx ρ) (k + 1)).1 lim f args H :=
  ⟨ar1_eq (F := fun lim args H => (evCY (cx ρ) (k + 1)).1 lim 227 args H) (slow_at (cx ρ) k 227) (fun lim a0 H => E227 ρ k lim a0 H), tr226_all ρ k, tr229_all ρ k⟩
noncomputable def tr231 (ρ : Addr → Option Value) (c : CallF) (y : YieldF) (k : Nat) : DT := .node 231 (ar1 (fun lim a0 H => L231 ⟨ρ, c, y, lim, k⟩ a0 H) (fun lim args H => slowF (cx ρ) c y k lim 231 args H)) .leaf .leaf
theorem tr231_all (ρ : Addr → Option Value) (k : Nat) : (tr231 ρ (evCY (cx ρ) k).1 (evCY (cx ρ) k).2 k).All fun f h => h = fun lim args H => (evCY (cx ρ) (k + 1)).1 lim f args H :=
  ⟨ar1_eq (F := fun lim args H => (evCY (cx ρ) (k + 1)).1 lim 231 args H) (slow_at (cx ρ) k 231) (fun lim a0 H => E231 ρ k lim a0 H), trivial, trivial⟩
noncomputable def tr232 (ρ : Addr → Option Value) (c : CallF) (y : YieldF) (k : Nat) : DT := .node 232 (ar1 (fun lim a0 H => L232 ⟨ρ, c, y, lim, k⟩ a0 H) (fun lim args H => slowF (cx ρ) c y k lim 232 args H)) (tr231 ρ c y k) .leaf
theorem tr232_all (ρ : Addr → Option Value) (k : Nat) : (tr232 ρ (evCY (cx ρ) k).1 (evCY (cx ρ) k).2 k).All fun f h => h = fun lim args H => (evCY (cx ρ) (k + 1)).1 lim f args H :=
  ⟨ar1_eq (F := fun lim args H => (evCY (cx ρ) (k + 1)).1 lim 232 args H) (slow_at (cx ρ) k 232) (fun lim a0 H => E232 ρ k lim a0 H), tr231_all ρ k, trivial⟩
noncomputable def tr234 (ρ : Addr → Option Value) (c : CallF) (y : YieldF) (k : Nat) : DT := .node 234 (ar3 (fun lim a0 a1 a2 H => L234 ⟨ρ, c, y, lim, k⟩ a0 a1 a2 H) (fun lim args H => slowF (cx ρ) c y k lim 234 args H)) .leaf .leaf
theorem tr234_all (ρ : Addr → Option Value) (k : Nat) : (tr234 ρ (evCY (cx ρ) k).1 (evCY (cx ρ) k).2 k).All fun f h => h = fun lim args H => (evCY (cx ρ) (k + 1)).1 lim f args H :=
  ⟨ar3_eq (F := fun lim args H => (evCY (cx ρ) (k + 1)).1 lim 234 args H) (slow_at (cx ρ) k 234) (fun lim a0 a1 a2 H => E234 ρ k lim a0 a1 a2 H), trivial, trivial⟩
noncomputable def tr233 (ρ : Addr → Option Value) (c : CallF) (y : YieldF) (k : Nat) : DT := .node 233 (ar1 (fun lim a0 H => L233 ⟨ρ, c, y, lim, k⟩ a0 H) (fun lim args H => slowF (cx ρ) c y k lim 233 args H)) (tr232 ρ c y k) (tr234 ρ c y k)
theorem tr233_all (ρ : Addr → Option Value) (k : Nat) : (tr233 ρ (evCY (cx ρ) k).1 (evCY (cx ρ) k).2 k).All fun f h => h = fun lim args H => (evCY (cx ρ) (k + 1)).1 lim f args H :=
  ⟨ar1_eq (F := fun lim args H => (evCY (cx ρ) (k + 1)).1 lim 233 args H) (slow_at (cx ρ) k 233) (fun lim a0 H => E233 ρ k lim a0 H), tr232_all ρ k, tr234_all ρ k⟩
noncomputable def tr230 (ρ : Addr → Option Value) (c : CallF) (y : YieldF) (k : Nat) : DT := .node 230 (ar2 (fun lim a0 a1 H => L230 ⟨ρ, c, y, lim, k⟩ a0 a1 H) (fun lim args H => slowF (cx ρ) c y k lim 230 args H)) (tr227 ρ c y k) (tr233 ρ c y k)
theorem tr230_all (ρ : Addr → Option Value) (k : Nat) : (tr230 ρ (evCY (cx ρ) k).1 (evCY (cx ρ) k).2 k).All fun f h => h = fun lim args H => (evCY (cx ρ) (k + 1)).1 lim f args H :=
  ⟨ar2_eq (F := fun lim args H => (evCY (cx ρ) (k + 1)).1 lim 230 args H) (slow_at (cx ρ) k 230) (fun lim a0 a1 H => E230 ρ k lim a0 a1 H), tr227_all ρ k, tr233_all ρ k⟩
noncomputable def tr217 (ρ : Addr → Option Value) (c : CallF) (y : YieldF) (k : Nat) : DT := .node 217 (ar3 (fun lim a0 a1 a2 H => L217 ⟨ρ, c, y, lim, k⟩ a0 a1 a2 H) (fun lim args H => slowF (cx ρ) c y k lim 217 args H)) (tr201 ρ c y k) (tr230 ρ c y k)
theorem tr217_all (ρ : Addr → Option Value) (k : Nat) : (tr217 ρ (evCY (cx ρ) k).1 (evCY (cx ρ) k).2 k).All fun f h => h = fun lim args H => (evCY (cx ρ) (k + 1)).1 lim f args H :=
  ⟨ar3_eq (F := fun lim args H => (evCY (cx ρ) (k + 1)).1 lim 217 args H) (slow_at (cx ρ) k 217) (fun lim a0 a1 a2 H => E217 ρ k lim a0 a1 a2 H), tr201_all ρ k, tr230_all ρ k⟩
noncomputable def tr167 (ρ : Addr → Option Value) (c : CallF) (y : YieldF) (k : Nat) : DT := .node 167 (ar5 (fun lim a0 a1 a2 a3 a4 H => L167 ⟨ρ, c, y, lim, k⟩ a0 a1 a2 a3 a4 H) (fun lim args H => slowF (cx ρ) c y k lim 167 args H)) (tr151 ρ c y k) (tr217 ρ c y k)
theorem tr167_all (ρ : Addr → Option Value) (k : Nat) : (tr167 ρ (evCY (cx ρ) k).1 (evCY (cx ρ) k).2 k).All fun f h => h = fun lim args H => (evCY (cx ρ) (k + 1)).1 lim f args H :=
  ⟨ar5_eq (F := fun lim args H => (evCY (cx ρ) (k + 1)).1 lim 167 args H) (slow_at (cx ρ) k 167) (fun lim a0 a1 a2 a3 a4 H => E167 ρ k lim a0 a1 a2 a3 a4 H), tr151_all ρ k, tr217_all ρ k⟩
noncomputable def tr239 (ρ : Addr → Option Value) (c : CallF) (y : YieldF) (k : Nat) : DT := .node 239 (ar2 (fun lim a0 a1 H => L239 ⟨ρ, c, y, lim, k⟩ a0 a1 H) (fun lim args H => slowF (cx ρ) c y k lim 239 args H)) .leaf .leaf
theorem tr239_all (ρ : Addr → Option Value) (k : Nat) : (tr239 ρ (evCY (cx ρ) k).1 (evCY (cx ρ) k).2 k).All fun f h => h = fun lim args H => (evCY (cx ρ) (k + 1)).1 lim f args H :=
  ⟨ar2_eq (F := fun lim args H => (evCY (cx ρ) (k + 1)).1 lim 239 args H) (slow_at (cx ρ) k 239) (fun lim a0 a1 H => E239 ρ k lim a0 a1 H), trivial, trivial⟩
noncomputable def tr240 (ρ : Addr → Option Value) (c : CallF) (y : YieldF) (k : Nat) : DT := .node 240 (ar3 (fun lim a0 a1 a2 H => L240 ⟨ρ, c, y, lim, k⟩ a0 a1 a2 H) (fun lim args H => slowF (cx ρ) c y k lim 240 args H)) (tr239 ρ c y k) .leaf
theorem tr240_all (ρ : Addr → Option Value) (k : Nat) : (tr240 ρ (evCY (cx ρ) k).1 (evCY (cx ρ) k).2 k).All fun f h => h = fun lim args H => (evCY (cx ρ) (k + 1)).1 lim f args H :=
  ⟨ar3_eq (F := fun lim args H => (evCY (cx ρ) (k + 1)).1 lim 240 args H) (slow_at (cx ρ) k 240) (fun lim a0 a1 a2 H => E240 ρ k lim a0 a1 a2 H), tr239_all ρ k, trivial⟩
noncomputable def tr242 (ρ : Addr → Option Value) (c : CallF) (y : YieldF) (k : Nat) : DT := .node 242 (ar1 (fun lim a0 H => L242 ⟨ρ, c, y, lim, k⟩ a0 H) (fun lim args H => slowF (cx ρ) c y k lim 242 args H)) .leaf .leaf
theorem tr242_all (ρ : Addr → Option Value) (k : Nat) : (tr242 ρ (evCY (cx ρ) k).1 (evCY (cx ρ) k).2 k).All fun f h => h = fun lim args H => (evCY (cx ρ) (k + 1)).1 lim f args H :=
  ⟨ar1_eq (F := fun lim args H => (evCY (cx ρ) (k + 1)).1 lim 242 args H) (slow_at (cx ρ) k 242) (fun lim a0 H => E242 ρ k lim a0 H), trivial, trivial⟩
noncomputable def tr246 (ρ : Addr → Option Value) (c : CallF) (y : YieldF) (k : Nat) : DT := .node 246 (ar3 (fun lim a0 a1 a2 H => L246 ⟨ρ, c, y, lim, k⟩ a0 a1 a2 H) (fun lim args H => slowF (cx ρ) c y k lim 246 args H)) (tr242 ρ c y k) .leaf
theorem tr246_all (ρ : Addr → Option Value) (k : Nat) : (tr246 ρ (evCY (cx ρ) k).1 (evCY (cx ρ) k).2 k).All fun f h => h = fun lim args H => (evCY (cx ρ) (k + 1)).1 lim f args H :=
  ⟨ar3_eq (F := fun lim args H => (evCY (cx ρ) (k + 1)).1 lim 246 args H) (slow_at (cx ρ) k 246) (fun lim a0 a1 a2 H => E246 ρ k lim a0 a1 a2 H), tr242_all ρ k, trivial⟩
noncomputable def tr241 (ρ : Addr → Option Value) (c : CallF) (y : YieldF) (k : Nat) : DT := .node 241 (ar2 (fun lim a0 a1 H => L241 ⟨ρ, c, y, lim, k⟩ a0 a1 H) (fun lim args H => slowF (cx ρ) c y k lim 241 args H)) (tr240 ρ c y k) (tr246 ρ c y k)
theorem tr241_all (ρ : Addr → Option Value) (k : Nat) : (tr241 ρ (evCY (cx ρ) k).1 (evCY (cx ρ) k).2 k).All fun f h => h = fun lim args H => (evCY (cx ρ) (k + 1)).1 lim f args H :=
  ⟨ar2_eq (F := fun lim args H => (evCY (cx ρ) (k + 1)).1 lim 241 args H) (slow_at (cx ρ) k 241) (fun lim a0 a1 H => E241 ρ k lim a0 a1 H), tr240_all ρ k, tr246_all ρ k⟩
noncomputable def tr271 (ρ : Addr → Option Value) (c : CallF) (y : YieldF) (k : Nat) : DT := .node 271 (ar4 (fun lim a0 a1 a2 a3 H => L271 ⟨ρ, c, y, lim, k⟩ a0 a1 a2 a3 H) (fun lim args H => slowF (cx ρ) c y k lim 271 args H)) .leaf .leaf
theorem tr271_all (ρ : Addr → Option Value) (k : Nat) : (tr271 ρ (evCY (cx ρ) k).1 (evCY (cx ρ) k).2 k).All fun f h => h = fun lim args H => (evCY (cx ρ) (k + 1)).1 lim f args H :=
  ⟨ar4_eq (F := fun lim args H => (evCY (cx ρ) (k + 1)).1 lim 271 args H) (slow_at (cx ρ) k 271) (fun lim a0 a1 a2 a3 H => E271 ρ k lim a0 a1 a2 a3 H), trivial, trivial⟩
noncomputable def tr274 (ρ : Addr → Option Value) (c : CallF) (y : YieldF) (k : Nat) : DT := .node 274 (ar4 (fun lim a0 a1 a2 a3 H => L274 ⟨ρ, c, y, lim, k⟩ a0 a1 a2 a3 H) (fun lim args H => slowF (cx ρ) c y k lim 274 args H)) (tr271 ρ c y k) .leaf
theorem tr274_all (ρ : Addr → Option Value) (k : Nat) : (tr274 ρ (evCY (cx ρ) k).1 (evCY (cx ρ) k).2 k).All fun f h => h = fun lim args H => (evCY (cx ρ) (k + 1)).1 lim f args H :=
  ⟨ar4_eq (F := fun lim args H => (evCY (cx ρ) (k + 1)).1 lim 274 args H) (slow_at (cx ρ) k 274) (fun lim a0 a1 a2 a3 H => E274 ρ k lim a0 a1 a2 a3 H), tr271_all ρ k, trivial⟩
noncomputable def tr281 (ρ : Addr → Option Value) (c : CallF) (y : YieldF) (k : Nat) : DT := .node 281 (ar3 (fun lim a0 a1 a2 H => L281 ⟨ρ, c, y, lim, k⟩ a0 a1 a2 H) (fun lim args H => slowF (cx ρ) c y k lim 281 args H)) .leaf .leaf
theorem tr281_all (ρ : Addr → Option Value) (k : Nat) : (tr281 ρ (evCY (cx ρ) k).1 (evCY (cx ρ) k).2 k).All fun f h => h = fun lim args H => (evCY (cx ρ) (k + 1)).1 lim f args H :=
  ⟨ar3_eq (F := fun lim args H => (evCY (cx ρ) (k + 1)).1 lim 281 args H) (slow_at (cx ρ) k 281) (fun lim a0 a1 a2 H => E281 ρ k lim a0 a1 a2 H), trivial, trivial⟩
noncomputable def tr278 (ρ : Addr → Option Value) (c : CallF) (y : YieldF) (k : Nat) : DT := .node 278 (ar2 (fun lim a0 a1 H => L278 ⟨ρ, c, y, lim, k⟩ a0 a1 H) (fun lim args H => slowF (cx ρ) c y k lim 278 args H)) (tr274 ρ c y k) (tr281 ρ c y k)
theorem tr278_all (ρ : Addr → Option Value) (k : Nat) : (tr278 ρ (evCY (cx ρ) k).1 (evCY (cx ρ) k).2 k).All fun f h => h = fun lim args H => (evCY (cx ρ) (k + 1)).1 lim f args H :=
  ⟨ar2_eq (F := fun lim args H => (evCY (cx ρ) (k + 1)).1 lim 278 args H) (slow_at (cx ρ) k 278) (fun lim a0 a1 H => E278 ρ k lim a0 a1 H), tr274_all ρ k, tr281_all ρ k⟩
noncomputable def tr270 (ρ : Addr → Option Value) (c : CallF) (y : YieldF) (k : Nat) : DT := .node 270 (ar1 (fun lim a0 H => L270 ⟨ρ, c, y, lim, k⟩ a0 H) (fun lim args H => slowF (cx ρ) c y k lim 270 args H)) (tr241 ρ c y k) (tr278 ρ c y k)
theorem tr270_all (ρ : Addr → Option Value) (k : Nat) : (tr270 ρ (evCY (cx ρ) k).1 (evCY (cx ρ) k).2 k).All fun f h => h = fun lim args H => (evCY (cx ρ) (k + 1)).1 lim f args H :=
  ⟨ar1_eq (F := fun lim args H => (evCY (cx ρ) (k + 1)).1 lim 270 args H) (slow_at (cx ρ) k 270) (fun lim a0 H => E270 ρ k lim a0 H), tr241_all ρ k, tr278_all ρ k⟩
noncomputable def tr283 (ρ : Addr → Option Value) (c : CallF) (y : YieldF) (k : Nat) : DT := .node 283 (ar2 (fun lim a0 a1 H => L283 ⟨ρ, c, y, lim, k⟩ a0 a1 H) (fun lim args H => slowF (cx ρ) c y k lim 283 args H)) .leaf .leaf
theorem tr283_all (ρ : Addr → Option Value) (k : Nat) : (tr283 ρ (evCY (cx ρ) k).1 (evCY (cx ρ) k).2 k).All fun f h => h = fun lim args H => (evCY (cx ρ) (k + 1)).1 lim f args H :=
  ⟨ar2_eq (F := fun lim args H => (evCY (cx ρ) (k + 1)).1 lim 283 args H) (slow_at (cx ρ) k 283) (fun lim a0 a1 H => E283 ρ k lim a0 a1 H), trivial, trivial⟩
noncomputable def tr284 (ρ : Addr → Option Value) (c : CallF) (y : YieldF) (k : Nat) : DT := .node 284 (ar1 (fun lim a0 H => L284 ⟨ρ, c, y, lim, k⟩ a0 H) (fun lim args H => slowF (cx ρ) c y k lim 284 args H)) (tr283 ρ c y k) .leaf
theorem tr284_all (ρ : Addr → Option Value) (k : Nat) : (tr284 ρ (evCY (cx ρ) k).1 (evCY (cx ρ) k).2 k).All fun f h => h = fun lim args H => (evCY (cx ρ) (k + 1)).1 lim f args H :=
  ⟨ar1_eq (F := fun lim args H => (evCY (cx ρ) (k + 1)).1 lim 284 args H) (slow_at (cx ρ) k 284) (fun lim a0 H => E284 ρ k lim a0 H), tr283_all ρ k, trivial⟩
noncomputable def tr287 (ρ : Addr → Option Value) (c : CallF) (y : YieldF) (k : Nat) : DT := .node 287 (ar2 (fun lim a0 a1 H => L287 ⟨ρ, c, y, lim, k⟩ a0 a1 H) (fun lim args H => slowF (cx ρ) c y k lim 287 args H)) .leaf .leaf
theorem tr287_all (ρ : Addr → Option Value) (k : Nat) : (tr287 ρ (evCY (cx ρ) k).1 (evCY (cx ρ) k).2 k).All fun f h => h = fun lim args H => (evCY (cx ρ) (k + 1)).1 lim f args H :=
  ⟨ar2_eq (F := fun lim args H => (evCY (cx ρ) (k + 1)).1 lim 287 args H) (slow_at (cx ρ) k 287) (fun lim a0 a1 H => E287 ρ k lim a0 a1 H), trivial, trivial⟩
noncomputable def tr288 (ρ : Addr → Option Value) (c : CallF) (y : YieldF) (k : Nat) : DT := .node 288 (ar1 (fun lim a0 H => L288 ⟨ρ, c, y, lim, k⟩ a0 H) (fun lim args H => slowF (cx ρ) c y k lim 288 args H)) (tr287 ρ c y k) .leaf
theorem tr288_all (ρ : Addr → Option Value) (k : Nat) : (tr288 ρ (evCY (cx ρ) k).1 (evCY (cx ρ) k).2 k).All fun f h => h = fun lim args H => (evCY (cx ρ) (k + 1)).1 lim f args H :=
  ⟨ar1_eq (F := fun lim args H => (evCY (cx ρ) (k + 1)).1 lim 288 args H) (slow_at (cx ρ) k 288) (fun lim a0 H => E288 ρ k lim a0 H), tr287_all ρ k, trivial⟩
noncomputable def tr286 (ρ : Addr → Option Value) (c : CallF) (y : YieldF) (k : Nat) : DT := .node 286 (ar2 (fun lim a0 a1 H => L286 ⟨ρ, c, y, lim, k⟩ a0 a1 H) (fun lim args H => slowF (cx ρ) c y k lim 286 args H)) (tr284 ρ c y k) (tr288 ρ c y k)
theorem tr286_all (ρ : Addr → Option Value) (k : Nat) : (tr286 ρ (evCY (cx ρ) k).1 (evCY (cx ρ) k).2 k).All fun f h => h = fun lim args H => (evCY (cx ρ) (k + 1)).1 lim f args H :=
  ⟨ar2_eq (F := fun lim args H => (evCY (cx ρ) (k + 1)).1 lim 286 args H) (slow_at (cx ρ) k 286) (fun lim a0 a1 H => E286 ρ k lim a0 a1 H), tr284_all ρ k, tr288_all ρ k⟩
noncomputable def tr290 (ρ : Addr → Option Value) (c : CallF) (y : YieldF) (k : Nat) : DT := .node 290 (ar1 (fun lim a0 H => L290 ⟨ρ, c, y, lim, k⟩ a0 H) (fun lim args H => slowF (cx ρ) c y k lim 290 args H)) .leaf .leaf
theorem tr290_all (ρ : Addr → Option Value) (k : Nat) : (tr290 ρ (evCY (cx ρ) k).1 (evCY (cx ρ) k).2 k).All fun f h => h = fun lim args H => (evCY (cx ρ) (k + 1)).1 lim f args H :=
  ⟨ar1_eq (F := fun lim args H => (evCY (cx ρ) (k + 1)).1 lim 290 args H) (slow_at (cx ρ) k 290) (fun lim a0 H => E290 ρ k lim a0 H), trivial, trivial⟩
noncomputable def tr295 (ρ : Addr → Option Value) (c : CallF) (y : YieldF) (k : Nat) : DT := .node 295 (ar2 (fun lim a0 a1 H => L295 ⟨ρ, c, y, lim, k⟩ a0 a1 H) (fun lim args H => slowF (cx ρ) c y k lim 295 args H)) (tr290 ρ c y k) .leaf
theorem tr295_all (ρ : Addr → Option Value) (k : Nat) : (tr295 ρ (evCY (cx ρ) k).1 (evCY (cx ρ) k).2 k).All fun f h => h = fun lim args H => (evCY (cx ρ) (k + 1)).1 lim f args H :=
  ⟨ar2_eq (F := fun lim args H => (evCY (cx ρ) (k + 1)).1 lim 295 args H) (slow_at (cx ρ) k 295) (fun lim a0 a1 H => E295 ρ k lim a0 a1 H), tr290_all ρ k, trivial⟩
noncomputable def tr307 (ρ : Addr → Option Value) (c : CallF) (y : YieldF) (k : Nat) : DT := .node 307 (ar2 (fun lim a0 a1 H => L307 ⟨ρ, c, y, lim, k⟩ a0 a1 H) (fun lim args H => slowF (cx ρ) c y k lim 307 args H)) .leaf .leaf
theorem tr307_all (ρ : Addr → Option Value) (k : Nat) : (tr307 ρ (evCY (cx ρ) k).1 (evCY (cx ρ) k).2 k).All fun f h => h = fun lim args H => (evCY (cx ρ) (k + 1)).1 lim f args H :=
  ⟨ar2_eq (F := fun lim args H => (evCY (cx ρ) (k + 1)).1 lim 307 args H) (slow_at (cx ρ) k 307) (fun lim a0 a1 H => E307 ρ k lim a0 a1 H), trivial, trivial⟩
noncomputable def tr306 (ρ : Addr → Option Value) (c : CallF) (y : YieldF) (k : Nat) : DT := .node 306 (ar2 (fun lim a0 a1 H => L306 ⟨ρ, c, y, lim, k⟩ a0 a1 H) (fun lim args H => slowF (cx ρ) c y k lim 306 args H)) (tr295 ρ c y k) (tr307 ρ c y k)
theorem tr306_all (ρ : Addr → Option Value) (k : Nat) : (tr306 ρ (evCY (cx ρ) k).1 (evCY (cx ρ) k).2 k).All fun f h => h = fun lim args H => (evCY (cx ρ) (k + 1)).1 lim f args H :=
  ⟨ar2_eq (F := fun lim args H => (evCY (cx ρ) (k + 1)).1 lim 306 args H) (slow_at (cx ρ) k 306) (fun lim a0 a1 H => E306 ρ k lim a0 a1 H), tr295_all ρ k, tr307_all ρ k⟩
noncomputable def tr289 (ρ : Addr → Option Value) (c : CallF) (y : YieldF) (k : Nat) : DT := .node 289 (ar2 (fun lim a0 a1 H => L289 ⟨ρ, c, y, lim, k⟩ a0 a1 H) (fun lim args H => slowF (cx ρ) c y k lim 289 args H)) (tr286 ρ c y k) (tr306 ρ c y k)
theorem tr289_all (ρ : Addr → Option Value) (k : Nat) : (tr289 ρ (evCY (cx ρ) k).1 (evCY (cx ρ) k).2 k).All fun f h => h = fun lim args H => (evCY (cx ρ) (k + 1)).1 lim f args H :=
  ⟨ar2_eq (F := fun lim args H => (evCY (cx ρ) (k + 1)).1 lim 289 args H) (slow_at (cx ρ) k 289) (fun lim a0 a1 H => E289 ρ k lim a0 a1 H), tr286_all ρ k, tr306_all ρ k⟩
noncomputable def tr282 (ρ : Addr → Option Value) (c : CallF) (y : YieldF) (k : Nat) : DT := .node 282 (ar4 (fun lim a0 a1 a2 a3 H => L282 ⟨ρ, c, y, lim, k⟩ a0 a1 a2 a3 H) (fun lim args H => slowF (cx ρ) c y k lim 282 args H)) (tr270 ρ c y k) (tr289 ρ c y k)
theorem tr282_all (ρ : Addr → Option Value) (k : Nat) : (tr282 ρ (evCY (cx ρ) k).1 (evCY (cx ρ) k).2 k).All fun f h => h = fun lim args H => (evCY (cx ρ) (k + 1)).1 lim f args H :=
  ⟨ar4_eq (F := fun lim args H => (evCY (cx ρ) (k + 1)).1 lim 282 args H) (slow_at (cx ρ) k 282) (fun lim a0 a1 a2 a3 H => E282 ρ k lim a0 a1 a2 a3 H), tr270_all ρ k, tr289_all ρ k⟩
noncomputable def tr310 (ρ : Addr → Option Value) (c : CallF) (y : YieldF) (k : Nat) : DT := .node 310 (ar3 (fun lim a0 a1 a2 H => L310 ⟨ρ, c, y, lim, k⟩ a0 a1 a2 H) (fun lim args H => slowF (cx ρ) c y k lim 310 args H)) .leaf .leaf
theorem tr310_all (ρ : Addr → Option Value) (k : Nat) : (tr310 ρ (evCY (cx ρ) k).1 (evCY (cx ρ) k).2 k).All fun f h => h = fun lim args H => (evCY (cx ρ) (k + 1)).1 lim f args H :=
  ⟨ar3_eq (F := fun lim args H => (evCY (cx ρ) (k + 1)).1 lim 310 args H) (slow_at (cx ρ) k 310) (fun lim a0 a1 a2 H => E310 ρ k lim a0 a1 a2 H), trivial, trivial⟩
noncomputable def tr311 (ρ : Addr → Option Value) (c : CallF) (y : YieldF) (k : Nat) : DT := .node 311 (ar2 (fun lim a0 a1 H => L311 ⟨ρ, c, y, lim, k⟩ a0 a1 H) (fun lim args H => slowF (cx ρ) c y k lim 311 args H)) (tr310 ρ c y k) .leaf
theorem tr311_all (ρ : Addr → Option Value) (k : Nat) : (tr311 ρ (evCY (cx ρ) k).1 (evCY (cx ρ) k).2 k).All fun f h => h = fun lim args H => (evCY (cx ρ) (k + 1)).1 lim f args H :=
  ⟨ar2_eq (F := fun lim args H => (evCY (cx ρ) (k + 1)).1 lim 311 args H) (slow_at (cx ρ) k 311) (fun lim a0 a1 H => E311 ρ k lim a0 a1 H), tr310_all ρ k, trivial⟩
noncomputable def tr319 (ρ : Addr → Option Value) (c : CallF) (y : YieldF) (k : Nat) : DT := .node 319 (ar2 (fun lim a0 a1 H => L319 ⟨ρ, c, y, lim, k⟩ a0 a1 H) (fun lim args H => slowF (cx ρ) c y k lim 319 args H)) .leaf .leaf
theorem tr319_all (ρ : Addr → Option Value) (k : Nat) : (tr319 ρ (evCY (cx ρ) k).1 (evCY (cx ρ) k).2 k).All fun f h => h = fun lim args H => (evCY (cx ρ) (k + 1)).1 lim f args H :=
  ⟨ar2_eq (F := fun lim args H => (evCY (cx ρ) (k + 1)).1 lim 319 args H) (slow_at (cx ρ) k 319) (fun lim a0 a1 H => E319 ρ k lim a0 a1 H), trivial, trivial⟩
noncomputable def tr320 (ρ : Addr → Option Value) (c : CallF) (y : YieldF) (k : Nat) : DT := .node 320 (ar1 (fun lim a0 H => L320 ⟨ρ, c, y, lim, k⟩ a0 H) (fun lim args H => slowF (cx ρ) c y k lim 320 args H)) (tr319 ρ c y k) .leaf
theorem tr320_all (ρ : Addr → Option Value) (k : Nat) : (tr320 ρ (evCY (cx ρ) k).1 (evCY (cx ρ) k).2 k).All fun f h => h = fun lim args H => (evCY (cx ρ) (k + 1)).1 lim f args H :=
  ⟨ar1_eq (F := fun lim args H => (evCY (cx ρ) (k + 1)).1 lim 320 args H) (slow_at (cx ρ) k 320) (fun lim a0 H => E320 ρ k lim a0 H), tr319_all ρ k, trivial⟩
noncomputable def tr312 (ρ : Addr → Option Value) (c : CallF) (y : YieldF) (k : Nat) : DT := .node 312 (ar1 (fun lim a0 H => L312 ⟨ρ, c, y, lim, k⟩ a0 H) (fun lim args H => slowF (cx ρ) c y k lim 312 args H)) (tr311 ρ c y k) (tr320 ρ c y k)
theorem tr312_all (ρ : Addr → Option Value) (k : Nat) : (tr312 ρ (evCY (cx ρ) k).1 (evCY (cx ρ) k).2 k).All fun f h => h = fun lim args H => (evCY (cx ρ) (k + 1)).1 lim f args H :=
  ⟨ar1_eq (F := fun lim args H => (evCY (cx ρ) (k + 1)).1 lim 312 args H) (slow_at (cx ρ) k 312) (fun lim a0 H => E312 ρ k lim a0 H), tr311_all ρ k, tr320_all ρ k⟩
noncomputable def tr322 (ρ : Addr → Option Value) (c : CallF) (y : YieldF) (k : Nat) : DT := .node 322 (ar1 (fun lim a0 H => L322 ⟨ρ, c, y, lim, k⟩ a0 H) (fun lim args H => slowF (cx ρ) c y k lim 322 args H)) .leaf .leaf
theorem tr322_all (ρ : Addr → Option Value) (k : Nat) : (tr322 ρ (evCY (cx ρ) k).1 (evCY (cx ρ) k).2 k).All fun f h => h = fun lim args H => (evCY (cx ρ) (k + 1)).1 lim f args H :=
  ⟨ar1_eq (F := fun lim args H => (evCY (cx ρ) (k + 1)).1 lim 322 args H) (slow_at (cx ρ) k 322) (fun lim a0 H => E322 ρ k lim a0 H), trivial, trivial⟩
noncomputable def tr335 (ρ : Addr → Option Value) (c : CallF) (y : YieldF) (k : Nat) : DT := .node 335 (ar1 (fun lim a0 H => L335 ⟨ρ, c, y, lim, k⟩ a0 H) (fun lim args H => slowF (cx ρ) c y k lim 335 args H)) (tr322 ρ c y k) .leaf
theorem tr335_all (ρ : Addr → Option Value) (k : Nat) : (tr335 ρ (evCY (cx ρ) k).1 (evCY (cx ρ) k).2 k).All fun f h => h = fun lim args H => (evCY (cx ρ) (k + 1)).1 lim f args H :=
  ⟨ar1_eq (F := fun lim args H => (evCY (cx ρ) (k + 1)).1 lim 335 args H) (slow_at (cx ρ) k 335) (fun lim a0 H => E335 ρ k lim a0 H), tr322_all ρ k, trivial⟩
noncomputable def tr345 (ρ : Addr → Option Value) (c : CallF) (y : YieldF) (k : Nat) : DT := .node 345 (ar3 (fun lim a0 a1 a2 H => L345 ⟨ρ, c, y, lim, k⟩ a0 a1 a2 H) (fun lim args H => slowF (cx ρ) c y k lim 345 args H)) .leaf .leaf
theorem tr345_all (ρ : Addr → Option Value) (k : Nat) : (tr345 ρ (evCY (cx ρ) k).1 (evCY (cx ρ) k).2 k).All fun f h => h = fun lim args H => (evCY (cx ρ) (k + 1)).1 lim f args H :=
  ⟨ar3_eq (F := fun lim args H => (evCY (cx ρ) (k + 1)).1 lim 345 args H) (slow_at (cx ρ) k 345) (fun lim a0 a1 a2 H => E345 ρ k lim a0 a1 a2 H), trivial, trivial⟩
noncomputable def tr342 (ρ : Addr → Option Value) (c : CallF) (y : YieldF) (k : Nat) : DT := .node 342 (ar3 (fun lim a0 a1 a2 H => L342 ⟨ρ, c, y, lim, k⟩ a0 a1 a2 H) (fun lim args H => slowF (cx ρ) c y k lim 342 args H)) (tr335 ρ c y k) (tr345 ρ c y k)
theorem tr342_all (ρ : Addr → Option Value) (k : Nat) : (tr342 ρ (evCY (cx ρ) k).1 (evCY (cx ρ) k).2 k).All fun f h => h = fun lim args H => (evCY (cx ρ) (k + 1)).1 lim f args H :=
  ⟨ar3_eq (F := fun lim args H => (evCY (cx ρ) (k + 1)).1 lim 342 args H) (slow_at (cx ρ) k 342) (fun lim a0 a1 a2 H => E342 ρ k lim a0 a1 a2 H), tr335_all ρ k, tr345_all ρ k⟩
noncomputable def tr321 (ρ : Addr → Option Value) (c : CallF) (y : YieldF) (k : Nat) : DT := .node 321 (ar3 (fun lim a0 a1 a2 H => L321 ⟨ρ, c, y, lim, k⟩ a0 a1 a2 H) (fun lim args H => slowF (cx ρ) c y k lim 321 args H)) (tr312 ρ c y k) (tr342 ρ c y k)
theorem tr321_all (ρ : Addr → Option Value) (k : Nat) : (tr321 ρ (evCY (cx ρ) k).1 (evCY (cx ρ) k).2 k).All fun f h => h = fun lim args H => (evCY (cx ρ) (k + 1)).1 lim f args H :=
  ⟨ar3_eq (F := fun lim args H => (evCY (cx ρ) (k + 1)).1 lim 321 args H) (slow_at (cx ρ) k 321) (fun lim a0 a1 a2 H => E321 ρ k lim a0 a1 a2 H), tr312_all ρ k, tr342_all ρ k⟩
noncomputable def tr356 (ρ : Addr → Option Value) (c : CallF) (y : YieldF) (k : Nat) : DT := .node 356 (ar1 (fun lim a0 H => L356 ⟨ρ, c, y, lim, k⟩ a0 H) (fun lim args H => slowF (cx ρ) c y k lim 356 args H)) .leaf .leaf
theorem tr356_all (ρ : Addr → Option Value) (k : Nat) : (tr356 ρ (evCY (cx ρ) k).1 (evCY (cx ρ) k).2 k).All fun f h => h = fun lim args H => (evCY (cx ρ) (k + 1)).1 lim f args H :=
  ⟨ar1_eq (F := fun lim args H => (evCY (cx ρ) (k + 1)).1 lim 356 args H) (slow_at (cx ρ) k 356) (fun lim a0 H => E356 ρ k lim a0 H), trivial, trivial⟩
noncomputable def tr358 (ρ : Addr → Option Value) (c : CallF) (y : YieldF) (k : Nat) : DT := .node 358 (ar4 (fun lim a0 a1 a2 a3 H => L358 ⟨ρ, c, y, lim, k⟩ a0 a1 a2 a3 H) (fun lim args H => slowF (cx ρ) c y k lim 358 args H)) (tr356 ρ c y k) .leaf
theorem tr358_all (ρ : Addr → Option Value) (k : Nat) : (tr358 ρ (evCY (cx ρ) k).1 (evCY (cx ρ) k).2 k).All fun f h => h = fun lim args H => (evCY (cx ρ) (k + 1)).1 lim f args H :=
  ⟨ar4_eq (F := fun lim args H => (evCY (cx ρ) (k + 1)).1 lim 358 args H) (slow_at (cx ρ) k 358) (fun lim a0 a1 a2 a3 H => E358 ρ k lim a0 a1 a2 a3 H), tr356_all ρ k, trivial⟩
noncomputable def tr367 (ρ : Addr → Option Value) (c : CallF) (y : YieldF) (k : Nat) : DT := .node 367 (ar1 (fun lim a0 H => L367 ⟨ρ, c, y, lim, k⟩ a0 H) (fun lim args H => slowF (cx ρ) c y k lim 367 args H)) .leaf .leaf
theorem tr367_all (ρ : Addr → Option Value) (k : Nat) : (tr367 ρ (evCY (cx ρ) k).1 (evCY (cx ρ) k).2 k).All fun f h => h = fun lim args H => (evCY (cx ρ) (k + 1)).1 lim f args H :=
  ⟨ar1_eq (F := fun lim args H => (evCY (cx ρ) (k + 1)).1 lim 367 args H) (slow_at (cx ρ) k 367) (fun lim a0 H => E367 ρ k lim a0 H), trivial, trivial⟩
noncomputable def tr369 (ρ : Addr → Option Value) (c : CallF) (y : YieldF) (k : Nat) : DT := .node 369 (ar2 (fun lim a0 a1 H => L369 ⟨ρ, c, y, lim, k⟩ a0 a1 H) (fun lim args H => slowF (cx ρ) c y k lim 369 args H)) (tr367 ρ c y k) .leaf
theorem tr369_all (ρ : Addr → Option Value) (k : Nat) : (tr369 ρ (evCY (cx ρ) k).1 (evCY (cx ρ) k).2 k).All fun f h => h = fun lim args H => (evCY (cx ρ) (k + 1)).1 lim f args H :=
  ⟨ar2_eq (F := fun lim args H => (evCY (cx ρ) (k + 1)).1 lim 369 args H) (slow_at (cx ρ) k 369) (fun lim a0 a1 H => E369 ρ k lim a0 a1 H), tr367_all ρ k, trivial⟩
noncomputable def tr366 (ρ : Addr → Option Value) (c : CallF) (y : YieldF) (k : Nat) : DT := .node 366 (ar2 (fun lim a0 a1 H => L366 ⟨ρ, c, y, lim, k⟩ a0 a1 H) (fun lim args H => slowF (cx ρ) c y k lim 366 args H)) (tr358 ρ c y k) (tr369 ρ c y k)
theorem tr366_all (ρ : Addr → Option Value) (k : Nat) : (tr366 ρ (evCY (cx ρ) k).1 (evCY (cx ρ) k).2 k).All fun f h => h = fun lim args H => (evCY (cx ρ) (k + 1)).1 lim f args H :=
  ⟨ar2_eq (F := fun lim args H => (evCY (cx ρ) (k + 1)).1 lim 366 args H) (slow_at (cx ρ) k 366) (fun lim a0 a1 H => E366 ρ k lim a0 a1 H), tr358_all ρ k, tr369_all ρ k⟩
noncomputable def tr375 (ρ : Addr → Option Value) (c : CallF) (y : YieldF) (k : Nat) : DT := .node 375 (ar2 (fun lim a0 a1 H => L375 ⟨ρ, c, y, lim, k⟩ a0 a1 H) (fun lim args H => slowF (cx ρ) c y k lim 375 args H)) .leaf .leaf
theorem tr375_all (ρ : Addr → Option Value) (k : Nat) : (tr375 ρ (evCY (cx ρ) k).1 (evCY (cx ρ) k).2 k).All fun f h => h = fun lim args H => (evCY (cx ρ) (k + 1)).1 lim f args H :=
  ⟨ar2_eq (F := fun lim args H => (evCY (cx ρ) (k + 1)).1 lim 375 args H) (slow_at (cx ρ) k 375) (fun lim a0 a1 H => E375 ρ k lim a0 a1 H), trivial, trivial⟩
noncomputable def tr377 (ρ : Addr → Option Value) (c : CallF) (y : YieldF) (k : Nat) : DT := .node 377 (ar1 (fun lim a0 H => L377 ⟨ρ, c, y, lim, k⟩ a0 H) (fun lim args H => slowF (cx ρ) c y k lim 377 args H)) (tr375 ρ c y k) .leaf
theorem tr377_all (ρ : Addr → Option Value) (k : Nat) : (tr377 ρ (evCY (cx ρ) k).1 (evCY (cx ρ) k).2 k).All fun f h => h = fun lim args H => (evCY (cx ρ) (k + 1)).1 lim f args H :=
  ⟨ar1_eq (F := fun lim args H => (evCY (cx ρ) (k + 1)).1 lim 377 args H) (slow_at (cx ρ) k 377) (fun lim a0 H => E377 ρ k lim a0 H), tr375_all ρ k, trivial⟩
noncomputable def tr386 (ρ : Addr → Option Value) (c : CallF) (y : YieldF) (k : Nat) : DT := .node 386 (ar3 (fun lim a0 a1 a2 H => L386 ⟨ρ, c, y, lim, k⟩ a0 a1 a2 H) (fun lim args H => slowF (cx ρ) c y k lim 386 args H)) .leaf .leaf
theorem tr386_all (ρ : Addr → Option Value) (k : Nat) : (tr386 ρ (evCY (cx ρ) k).1 (evCY (cx ρ) k).2 k).All fun f h => h = fun lim args H => (evCY (cx ρ) (k + 1)).1 lim f args H :=
  ⟨ar3_eq (F := fun lim args H => (evCY (cx ρ) (k + 1)).1 lim 386 args H) (slow_at (cx ρ) k 386) (fun lim a0 a1 a2 H => E386 ρ k lim a0 a1 a2 H), trivial, trivial⟩
noncomputable def tr378 (ρ : Addr → Option Value) (c : CallF) (y : YieldF) (k : Nat) : DT := .node 378 (ar2 (fun lim a0 a1 H => L378 ⟨ρ, c, y, lim, k⟩ a0 a1 H) (fun lim args H => slowF (cx ρ) c y k lim 378 args H)) (tr377 ρ c y k) (tr386 ρ c y k)
theorem tr378_all (ρ : Addr → Option Value) (k : Nat) : (tr378 ρ (evCY (cx ρ) k).1 (evCY (cx ρ) k).2 k).All fun f h => h = fun lim args H => (evCY (cx ρ) (k + 1)).1 lim f args H :=
  ⟨ar2_eq (F := fun lim args H => (evCY (cx ρ) (k + 1)).1 lim 378 args H) (slow_at (cx ρ) k 378) (fun lim a0 a1 H => E378 ρ k lim a0 a1 H), tr377_all ρ k, tr386_all ρ k⟩
noncomputable def tr370 (ρ : Addr → Option Value) (c : CallF) (y : YieldF) (k : Nat) : DT := .node 370 (ar3 (fun lim a0 a1 a2 H => L370 ⟨ρ, c, y, lim, k⟩ a0 a1 a2 H) (fun lim args H => slowF (cx ρ) c y k lim 370 args H)) (tr366 ρ c y k) (tr378 ρ c y k)
theorem tr370_all (ρ : Addr → Option Value) (k : Nat) : (tr370 ρ (evCY (cx ρ) k).1 (evCY (cx ρ) k).2 k).All fun f h => h = fun lim args H => (evCY (cx ρ) (k + 1)).1 lim f args H :=
  ⟨ar3_eq (F := fun lim args H => (evCY (cx ρ) (k + 1)).1 lim 370 args H) (slow_at (cx ρ) k 370) (fun lim a0 a1 a2 H => E370 ρ k lim a0 a1 a2 H), tr366_all ρ k, tr378_all ρ k⟩
noncomputable def tr347 (ρ : Addr → Option Value) (c : CallF) (y : YieldF) (k : Nat) : DT := .node 347 (ar3 (fun lim a0 a1 a2 H => L347 ⟨ρ, c, y, lim, k⟩ a0 a1 a2 H) (fun lim args H => slowF (cx ρ) c y k lim 347 args H)) (tr321 ρ c y k) (tr370 ρ c y k)
theorem tr347_all (ρ : Addr → Option Value) (k : Nat) : (tr347 ρ (evCY (cx ρ) k).1 (evCY (cx ρ) k).2 k).All fun f h => h = fun lim args H => (evCY (cx ρ) (k + 1)).1 lim f args H :=
  ⟨ar3_eq (F := fun lim args H => (evCY (cx ρ) (k + 1)).1 lim 347 args H) (slow_at (cx ρ) k 347) (fun lim a0 a1 a2 H => E347 ρ k lim a0 a1 a2 H), tr321_all ρ k, tr370_all ρ k⟩
noncomputable def tr308 (ρ : Addr → Option Value) (c : CallF) (y : YieldF) (k : Nat) : DT := .node 308 (ar1 (fun lim a0 H => L308 ⟨ρ, c, y, lim, k⟩ a0 H) (fun lim args H => slowF (cx ρ) c y k lim 308 args H)) (tr282 ρ c y k) (tr347 ρ c y k)
theorem tr308_all (ρ : Addr → Option Value) (k : Nat) : (tr308 ρ (evCY (cx ρ) k).1 (evCY (cx ρ) k).2 k).All fun f h => h = fun lim args H => (evCY (cx ρ) (k + 1)).1 lim f args H :=
  ⟨ar1_eq (F := fun lim args H => (evCY (cx ρ) (k + 1)).1 lim 308 args H) (slow_at (cx ρ) k 308) (fun lim a0 H => E308 ρ k lim a0 H), tr282_all ρ k, tr347_all ρ k⟩
noncomputable def tr235 (ρ : Addr → Option Value) (c : CallF) (y : YieldF) (k : Nat) : DT := .node 235 (ar1 (fun lim a0 H => L235 ⟨ρ, c, y, lim, k⟩ a0 H) (fun lim args H => slowF (cx ρ) c y k lim 235 args H)) (tr167 ρ c y k) (tr308 ρ c y k)
theorem tr235_all (ρ : Addr → Option Value) (k : Nat) : (tr235 ρ (evCY (cx ρ) k).1 (evCY (cx ρ) k).2 k).All fun f h => h = fun lim args H => (evCY (cx ρ) (k + 1)).1 lim f args H :=
  ⟨ar1_eq (F := fun lim args H => (evCY (cx ρ) (k + 1)).1 lim 235 args H) (slow_at (cx ρ) k 235) (fun lim a0 H => E235 ρ k lim a0 H), tr167_all ρ k, tr308_all ρ k⟩
noncomputable def tr129 (ρ : Addr → Option Value) (c : CallF) (y : YieldF) (k : Nat) : DT := .node 129 (ar2 (fun lim a0 a1 H => L129 ⟨ρ, c, y, lim, k⟩ a0 a1 H) (fun lim args H => slowF (cx ρ) c y k lim 129 args H)) (tr62 ρ c y k) (tr235 ρ c y k)
theorem tr129_all (ρ : Addr → Option Value) (k : Nat) : (tr129 ρ (evCY (cx ρ) k).1 (evCY (cx ρ) k).2 k).All fun f h => h = fun lim args H => (evCY (cx ρ) (k + 1)).1 lim f args H :=
  ⟨ar2_eq (F := fun lim args H => (evCY (cx ρ) (k + 1)).1 lim 129 args H) (slow_at (cx ρ) k 129) (fun lim a0 a1 H => E129 ρ k lim a0 a1 H), tr62_all ρ k, tr235_all ρ k⟩
noncomputable def fast (ρ : Addr → Option Value) (k : Nat) : CallF := (fastY (cx ρ) (tr129 ρ) k).1
theorem fast_eq (ρ : Addr → Option Value) (k : Nat) : fast ρ k = evCall (cx ρ) k := congrArg Prod.fst (fastY_eq (cx ρ) (tr129 ρ) (tr129_all ρ) k)
end Go.Proofs.YtbnhlcgbigeceaaGreat
