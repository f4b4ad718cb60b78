/- All functions that are lifted. Printed by a program of this repo. -/
import Derived.Test.YtcjicmabhejllaaLf0
set_option linter.unusedVariables false
set_option linter.unusedSimpArgs false
set_option maxRecDepth 100000
set_option maxHeartbeats 4000000
namespace Go.Proofs.Ytcjicmabhejllaa
open Go.Ev Go.RowKit

noncomputable def tr6 (ρ : Addr → Option Value) (c : CallF) (y : YieldF) (k : Nat) : DT := .node 6 (ar3 (fun lim a0 a1 a2 H => L6 ρ c y lim k a0 a1 a2 H) (fun lim args H => slowF (cx ρ) c y k lim 6 args H)) .leaf .leaf
theorem tr6_all (ρ : Addr → Option Value) (k : Nat) : (tr6 ρ (evCY (cx ρ) k).1 (evCY (cx ρ) k).2 k).All fun f h => h = fun lim args H => (evCY (cx ρ) (k + 1)).1 lim f args H :=
  ⟨ar3_eq (F := fun lim args H => (evCY (cx ρ) (k + 1)).1 lim 6 args H) (slow_at (cx ρ) k 6) (fun lim a0 a1 a2 H => E6 ρ k lim a0 a1 a2 H), trivial, trivial⟩
noncomputable def tr9 (ρ : Addr → Option Value) (c : CallF) (y : YieldF) (k : Nat) : DT := .node 9 (ar0 (fun lim H => L9 ρ c y lim k H) (fun lim args H => slowF (cx ρ) c y k lim 9 args H)) (tr6 ρ c y k) .leaf
theorem tr9_all (ρ : Addr → Option Value) (k : Nat) : (tr9 ρ (evCY (cx ρ) k).1 (evCY (cx ρ) k).2 k).All fun f h => h = fun lim args H => (evCY (cx ρ) (k + 1)).1 lim f args H :=
  ⟨ar0_eq (F := fun lim args H => (evCY (cx ρ) (k + 1)).1 lim 9 args H) (slow_at (cx ρ) k 9) (fun lim H => E9 ρ k lim H), tr6_all ρ k, trivial⟩
noncomputable def tr22 (ρ : Addr → Option Value) (c : CallF) (y : YieldF) (k : Nat) : DT := .node 22 (ar3 (fun lim a0 a1 a2 H => L22 ρ c y lim k a0 a1 a2 H) (fun lim args H => slowF (cx ρ) c y k lim 22 args H)) .leaf .leaf
theorem tr22_all (ρ : Addr → Option Value) (k : Nat) : (tr22 ρ (evCY (cx ρ) k).1 (evCY (cx ρ) k).2 k).All fun f h => h = fun lim args H => (evCY (cx ρ) (k + 1)).1 lim f args H :=
  ⟨ar3_eq (F := fun lim args H => (evCY (cx ρ) (k + 1)).1 lim 22 args H) (slow_at (cx ρ) k 22) (fun lim a0 a1 a2 H => E22 ρ k lim a0 a1 a2 H), trivial, trivial⟩
noncomputable def tr23 (ρ : Addr → Option Value) (c : CallF) (y : YieldF) (k : Nat) : DT := .node 23 (ar3 (fun lim a0 a1 a2 H => L23 ρ c y lim k a0 a1 a2 H) (fun lim args H => slowF (cx ρ) c y k lim 23 args H)) (tr22 ρ c y k) .leaf
theorem tr23_all (ρ : Addr → Option Value) (k : Nat) : (tr23 ρ (evCY (cx ρ) k).1 (evCY (cx ρ) k).2 k).All fun f h => h = fun lim args H => (evCY (cx ρ) (k + 1)).1 lim f args H :=
  ⟨ar3_eq (F := fun lim args H => (evCY (cx ρ) (k + 1)).1 lim 23 args H) (slow_at (cx ρ) k 23) (fun lim a0 a1 a2 H => E23 ρ k lim a0 a1 a2 H), tr22_all ρ k, trivial⟩
noncomputable def tr10 (ρ : Addr → Option Value) (c : CallF) (y : YieldF) (k : Nat) : DT := .node 10 (ar1 (fun lim a0 H => L10 ρ c y lim k a0 H) (fun lim args H => slowF (cx ρ) c y k lim 10 args H)) (tr9 ρ c y k) (tr23 ρ c y k)
theorem tr10_all (ρ : Addr → Option Value) (k : Nat) : (tr10 ρ (evCY (cx ρ) k).1 (evCY (cx ρ) k).2 k).All fun f h => h = fun lim args H => (evCY (cx ρ) (k + 1)).1 lim f args H :=
  ⟨ar1_eq (F := fun lim args H => (evCY (cx ρ) (k + 1)).1 lim 10 args H) (slow_at (cx ρ) k 10) (fun lim a0 H => E10 ρ k lim a0 H), tr9_all ρ k, tr23_all ρ k⟩
noncomputable def tr34 (ρ : Addr → Option Value) (c : CallF) (y : YieldF) (k : Nat) : DT := .node 34 (ar2 (fun lim a0 a1 H => L34 ρ c y lim k a0 a1 H) (fun lim args H => slowF (cx ρ) c y k lim 34 args H)) .leaf .leaf
theorem tr34_all (ρ : Addr → Option Value) (k : Nat) : (tr34 ρ (evCY (cx ρ) k).1 (evCY (cx ρ) k).2 k).All fun f h => h = fun lim args H => (evCY (cx ρ) (k + 1)).1 lim f args H :=
  ⟨ar2_eq (F := fun lim args H => (evCY (cx ρ) (k + 1)).1 lim 34 args H) (slow_at (cx ρ) k 34) (fun lim a0 a1 H => E34 ρ k lim a0 a1 H), trivial, trivial⟩
noncomputable def tr42 (ρ : Addr → Option Value) (c : CallF) (y : YieldF) (k : Nat) : DT := .node 42 (ar2 (fun lim a0 a1 H => L42 ρ c y lim k a0 a1 H) (fun lim args H => slowF (cx ρ) c y k lim 42 args H)) (tr34 ρ c y k) .leaf
theorem tr42_all (ρ : Addr → Option Value) (k : Nat) : (tr42 ρ (evCY (cx ρ) k).1 (evCY (cx ρ) k).2 k).All fun f h => h = fun lim args H => (evCY (cx ρ) (k + 1)).1 lim f args H :=
  ⟨ar2_eq (F := fun lim args H => (evCY (cx ρ) (k + 1)).1 lim 42 args H) (slow_at (cx ρ) k 42) (fun lim a0 a1 H => E42 ρ k lim a0 a1 H), tr34_all ρ k, trivial⟩
noncomputable def tr48 (ρ : Addr → Option Value) (c : CallF) (y : YieldF) (k : Nat) : DT := .node 48 (ar2 (fun lim a0 a1 H => L48 ρ c y lim k a0 a1 H) (fun lim args H => slowF (cx ρ) c y k lim 48 args H)) .leaf .leaf
theorem tr48_all (ρ : Addr → Option Value) (k : Nat) : (tr48 ρ (evCY (cx ρ) k).1 (evCY (cx ρ) k).2 k).All fun f h => h = fun lim args H => (evCY (cx ρ) (k + 1)).1 lim f args H :=
  ⟨ar2_eq (F := fun lim args H => (evCY (cx ρ) (k + 1)).1 lim 48 args H) (slow_at (cx ρ) k 48) (fun lim a0 a1 H => E48 ρ k lim a0 a1 H), trivial, trivial⟩
noncomputable def tr43 (ρ : Addr → Option Value) (c : CallF) (y : YieldF) (k : Nat) : DT := .node 43 (ar2 (fun lim a0 a1 H => L43 ρ c y lim k a0 a1 H) (fun lim args H => slowF (cx ρ) c y k lim 43 args H)) (tr42 ρ c y k) (tr48 ρ c y k)
theorem tr43_all (ρ : Addr → Option Value) (k : Nat) : (tr43 ρ (evCY (cx ρ) k).1 (evCY (cx ρ) k).2 k).All fun f h => h = fun lim args H => (evCY (cx ρ) (k + 1)).1 lim f args H :=
  ⟨ar2_eq (F := fun lim args H => (evCY (cx ρ) (k + 1)).1 lim 43 args H) (slow_at (cx ρ) k 43) (fun lim a0 a1 H => E43 ρ k lim a0 a1 H), tr42_all ρ k, tr48_all ρ k⟩
noncomputable def tr24 (ρ : Addr → Option Value) (c : CallF) (y : YieldF) (k : Nat) : DT := .node 24 (ar3 (fun lim a0 a1 a2 H => L24 ρ c y lim k a0 a1 a2 H) (fun lim args H => slowF (cx ρ) c y k lim 24 args H)) (tr10 ρ c y k) (tr43 ρ c y k)
theorem tr24_all (ρ : Addr → Option Value) (k : Nat) : (tr24 ρ (evCY (cx ρ) k).1 (evCY (cx ρ) k).2 k).All fun f h => h = fun lim args H => (evCY (cx ρ) (k + 1)).1 lim f args H :=
  ⟨ar3_eq (F := fun lim args H => (evCY (cx ρ) (k + 1)).1 lim 24 args H) (slow_at (cx ρ) k 24) (fun lim a0 a1 a2 H => E24 ρ k lim a0 a1 a2 H), tr10_all ρ k, tr43_all ρ k⟩
noncomputable def fast (ρ : Addr → Option Value) (k : Nat) : CallF := (fastY (cx ρ) (tr24 ρ) k).1
theorem fast_eq (ρ : Addr → Option Value) (k : Nat) : fast ρ k = evCall (cx ρ) k := congrArg Prod.fst (fastY_eq (cx ρ) (tr24 ρ) (tr24_all ρ) k)
end Go.Proofs.Ytcjicmabhejllaa
