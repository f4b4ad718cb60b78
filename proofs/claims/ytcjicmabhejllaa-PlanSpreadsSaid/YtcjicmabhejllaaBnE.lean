/- Part 5 of the proof of PlanSpreads: Pn5 Pn6 Pn. -/
import Derived.Test.YtcjicmabhejllaaBnD
-- part Pn5
/- Functions, lifted. Printed by a program of this repo. -/
set_option linter.unusedVariables false
set_option linter.unusedSimpArgs false
set_option maxRecDepth 100000
set_option maxHeartbeats 4000000
namespace Go.Proofs.Ytcjicmabhejllaa
open Go.Ev Go.RowKit
-- strings.Repeat
noncomputable def c49 : Code := Code.of Try.prog 49
noncomputable def N49_7 (ρ : Addr → Option Value) (call : CallF) (yc : YieldF) (lim k : Nat) (x9 : AV) (H : Heap) (R : List AV → Heap → Res) : Res :=
  resK (call lim 55 [x9] H) fun x124_1 H =>
  R [x124_1] H
theorem N49_7_eq (ρ : Addr → Option Value) (call : CallF) (yc : YieldF) (lim k : Nat) (x9 : AV) (H : Heap) (R : List AV → Heap → Res) :
    evL (cx ρ) call yc false 49 lim k (Code.at [1, 1, 1, 1, 1, 1, 1, 1, 1, 1, 1, 1, 1, 1] c49) (sp 125 [(9, x9)]) H (kk none (fun s H => R (([4] : List Nat).map fun t => s.getD t (.tup [])) H) [] R [4]) = N49_7 ρ call yc lim k x9 H R := by
  kernel_rfl
noncomputable def N49_8b (ρ : Addr → Option Value) (call : CallF) (yc : YieldF) (lim k : Nat) (x7 x8 x9 : AV) (H : Heap) (kn : Heap → Res) (k3 : AV → Heap → Res) : Res :=
  resK (call lim 54 [x9] H) fun x111_1 H =>
  purK (binA Try.prog H .lss 3 x111_1 x7) fun x113_1 =>
  condK x113_1
  (
    resK (call lim 54 [x9] H) fun x115_1 H =>
    purK (binA Try.prog H .sub 3 x7 x115_1) fun x116_1 =>
    resK (call lim 54 [x9] H) fun x117_1 H =>
    purK (foldsA minA [x116_1, x117_1, x8]) fun x119_1 =>
    resK (call lim 55 [x9] H) fun x120_1 H =>
    purK (slT x120_1 none (some x119_1)) fun x122_1 =>
    resK (call lim 53 [x9, x122_1] H) fun x123_1 H =>
    kn H)
  (
    k3 x9 H)
theorem N49_8b_eq (ρ : Addr → Option Value) (call : CallF) (yc : YieldF) (lim k : Nat) (x7 x8 x9 : AV) (H : Heap) (kn : KS) (k3 : KS) (R : List AV → Heap → Res) :
    evL (cx ρ) call yc false 49 lim k (Code.at [1, 1, 1, 1, 1, 1, 1, 1, 1, 1, 1, 1, 1, 0, 0, 0] c49) (sp 125 [(7, x7), (8, x8), (9, x9)]) H (kk (some [7, 8, 9]) kn [(3, (some [9]), k3)] R [4]) = N49_8b ρ call yc lim k x7 x8 x9 H (fun H => kn (sp 125 [(7, x7), (8, x8), (9, x9)]) H) (fun x9 H => k3 (sp 125 [(9, x9)]) H) := by
  kernel_rfl
noncomputable def N49_8 (ρ : Addr → Option Value) (call : CallF) (yc : YieldF) (lim k : Nat) (x7 x8 x9 : AV) (H : Heap) (k3 : AV → Heap → Res) : Res :=
  loopL (fun (x : Unit) H kn => N49_8b ρ call yc lim k x7 x8 x9 H (fun H => kn () H) k3) k () H
theorem N49_8_eq (ρ : Addr → Option Value) (call : CallF) (yc : YieldF) (lim k : Nat) (x7 x8 x9 : AV) (H : Heap) (kn : KS) (k3 : KS) (R : List AV → Heap → Res) :
    evL (cx ρ) call yc false 49 lim k (Code.at [1, 1, 1, 1, 1, 1, 1, 1, 1, 1, 1, 1, 1, 0, 0] c49) (sp 125 [(7, x7), (8, x8), (9, x9)]) H (kk (some [9]) kn [(3, (some [9]), k3)] R [4]) = N49_8 ρ call yc lim k x7 x8 x9 H (fun x9 H => k3 (sp 125 [(9, x9)]) H) := by
  have e : Code.at [1, 1, 1, 1, 1, 1, 1, 1, 1, 1, 1, 1, 1, 0, 0] c49 = .loop (Code.at [1, 1, 1, 1, 1, 1, 1, 1, 1, 1, 1, 1, 1, 0, 0, 0] c49) := by kernel_rfl
  rw [e]
  unfold N49_8
  exact loop_node [7, 8, 9] (fun x : Unit => (sp 125 [(7, x7), (8, x8), (9, x9)])) (fun (x : Unit) H kn => N49_8b ρ call yc lim k x7 x8 x9 H (fun H => kn () H) (fun x9 H => k3 (sp 125 [(9, x9)]) H)) (by kernel_rfl) (fun x => by kernel_rfl) (fun x H kn => N49_8b_eq ρ call yc lim k x7 x8 x9 H kn k3 R) () (sp 125 [(7, x7), (8, x8), (9, x9)]) H (by kernel_rfl)
noncomputable def N49_6 (ρ : Addr → Option Value) (call : CallF) (yc : YieldF) (lim k : Nat) (x7 x8 x9 : AV) (H : Heap) (R : List AV → Heap → Res) : Res :=
  N49_8 ρ call yc lim k x7 x8 x9 H (fun x9_1 H =>
    N49_7 ρ call yc lim k x9_1 H R)
theorem N49_6_x (ρ : Addr → Option Value) (call : CallF) (yc : YieldF) (lim k : Nat) (J : CodeF) (x7 x8 x9 : AV) (H : Heap) (R : List AV → Heap → Res) :
    evX (cx ρ) call yc false 49 lim k J (Code.at [1, 1, 1, 1, 1, 1, 1, 1, 1, 1, 1, 1, 1] c49) (sp 125 [(7, x7), (8, x8), (9, x9)]) H (kk none (fun s H => R (([4] : List Nat).map fun t => s.getD t (.tup [])) H) [] R [4]) =
  J (Code.at [1, 1, 1, 1, 1, 1, 1, 1, 1, 1, 1, 1, 1, 0, 0] c49) (sp 125 [(7, x7), (8, x8), (9, x9)]) H (kk (some [9]) (fun s H => J (Code.at [1, 1, 1, 1, 1, 1, 1, 1, 1, 1, 1, 1, 1, 1] c49) s H (kk none (fun s H => R (([4] : List Nat).map fun t => s.getD t (.tup [])) H) [] R [4])) [(3, (some [9]), (fun s H => J (Code.at [1, 1, 1, 1, 1, 1, 1, 1, 1, 1, 1, 1, 1, 1] c49) s H (kk none (fun s H => R (([4] : List Nat).map fun t => s.getD t (.tup [])) H) [] R [4])))] R [4]) := by
  kernel_rfl
theorem N49_6_eq (ρ : Addr → Option Value) (call : CallF) (yc : YieldF) (lim k : Nat) (x7 x8 x9 : AV) (H : Heap) (R : List AV → Heap → Res) :
    evL (cx ρ) call yc false 49 lim k (Code.at [1, 1, 1, 1, 1, 1, 1, 1, 1, 1, 1, 1, 1] c49) (sp 125 [(7, x7), (8, x8), (9, x9)]) H (kk none (fun s H => R (([4] : List Nat).map fun t => s.getD t (.tup [])) H) [] R [4]) = N49_6 ρ call yc lim k x7 x8 x9 H R := by
  rw [evL_X, N49_6_x]
  simp only [← evL_X, N49_6, N49_7_eq, N49_8_eq]
noncomputable def N49_5 (ρ : Addr → Option Value) (call : CallF) (yc : YieldF) (lim k : Nat) (x0 x7 x8 : AV) (H : Heap) (R : List AV → Heap → Res) : Res :=
  effK H (some (.ptr H.sz 0 0, .new (newCells 81 false [.nilp, .nils]))) fun x9_1 H =>
  resK (call lim 52 [x9_1, x7] H) fun x108_1 H =>
  resK (call lim 53 [x9_1, x0] H) fun x110_1 H =>
  N49_6 ρ call yc lim k x7 x8 x9_1 H R
theorem N49_5_x (ρ : Addr → Option Value) (call : CallF) (yc : YieldF) (lim k : Nat) (J : CodeF) (x0 x7 x8 : AV) (H : Heap) (R : List AV → Heap → Res) :
    evX (cx ρ) call yc false 49 lim k J (Code.at [1, 1, 1, 1, 1, 1, 1, 1, 1, 1] c49) (sp 125 [(0, x0), (7, x7), (8, x8)]) H (kk none (fun s H => R (([4] : List Nat).map fun t => s.getD t (.tup [])) H) [] R [4]) =
  effK H (some (.ptr H.sz 0 0, .new (newCells 81 false [.nilp, .nils]))) fun x9_1 H =>
  resK (call lim 52 [x9_1, x7] H) fun x108_1 H =>
  resK (call lim 53 [x9_1, x0] H) fun x110_1 H =>
  J (Code.at [1, 1, 1, 1, 1, 1, 1, 1, 1, 1, 1, 1, 1] c49) (sp 125 [(7, x7), (8, x8), (9, x9_1)]) H (kk none (fun s H => R (([4] : List Nat).map fun t => s.getD t (.tup [])) H) [] R [4]) := by
  kernel_rfl
theorem N49_5_eq (ρ : Addr → Option Value) (call : CallF) (yc : YieldF) (lim k : Nat) (x0 x7 x8 : AV) (H : Heap) (R : List AV → Heap → Res) :
    evL (cx ρ) call yc false 49 lim k (Code.at [1, 1, 1, 1, 1, 1, 1, 1, 1, 1] c49) (sp 125 [(0, x0), (7, x7), (8, x8)]) H (kk none (fun s H => R (([4] : List Nat).map fun t => s.getD t (.tup [])) H) [] R [4]) = N49_5 ρ call yc lim k x0 x7 x8 H R := by
  rw [evL_X, N49_5_x]
  simp only [← evL_X, N49_5, N49_6_eq]
noncomputable def N49_4 (ρ : Addr → Option Value) (call : CallF) (yc : YieldF) (lim k : Nat) (x0 x7 x8 : AV) (H : Heap) (R : List AV → Heap → Res) : Res :=
  purK (binA Try.prog H .gtr 3 x7 (.int .i64 8192)) fun x96_1 =>
  condK x96_1
  (
    purK (lenT x0) fun x98_1 =>
    purK (binA Try.prog H .quo 3 (.int .i64 8192) x98_1) fun x99_1 =>
    purK (lenT x0) fun x101_1 =>
    purK (binA Try.prog H .mul 3 x99_1 x101_1) fun x102_1 =>
    purK (binA Try.prog H .eql 3 x102_1 (.int .i64 0)) fun x104_1 =>
    condK x104_1
    (
      purK (lenT x0) fun x106_1 =>
      N49_5 ρ call yc lim k x0 x7 x106_1 H R)
    (
      N49_5 ρ call yc lim k x0 x7 x102_1 H R))
  (
    N49_5 ρ call yc lim k x0 x7 x8 H R)
theorem N49_4_x (ρ : Addr → Option Value) (call : CallF) (yc : YieldF) (lim k : Nat) (J : CodeF) (x0 x7 x8 : AV) (H : Heap) (R : List AV → Heap → Res) :
    evX (cx ρ) call yc false 49 lim k J (Code.at [1, 1, 1, 1, 1, 1, 1, 1, 1] c49) (sp 125 [(0, x0), (7, x7), (8, x8)]) H (kk none (fun s H => R (([4] : List Nat).map fun t => s.getD t (.tup [])) H) [] R [4]) =
  purK (binA Try.prog H .gtr 3 x7 (.int .i64 8192)) fun x96_1 =>
  condK x96_1
  (
    purK (lenT x0) fun x98_1 =>
    purK (binA Try.prog H .quo 3 (.int .i64 8192) x98_1) fun x99_1 =>
    purK (lenT x0) fun x101_1 =>
    purK (binA Try.prog H .mul 3 x99_1 x101_1) fun x102_1 =>
    purK (binA Try.prog H .eql 3 x102_1 (.int .i64 0)) fun x104_1 =>
    condK x104_1
    (
      purK (lenT x0) fun x106_1 =>
      J (Code.at [1, 1, 1, 1, 1, 1, 1, 1, 1, 1] c49) (sp 125 [(0, x0), (7, x7), (8, x106_1)]) H (kk none (fun s H => R (([4] : List Nat).map fun t => s.getD t (.tup [])) H) [] R [4]))
    (
      J (Code.at [1, 1, 1, 1, 1, 1, 1, 1, 1, 1] c49) (sp 125 [(0, x0), (7, x7), (8, x102_1)]) H (kk none (fun s H => R (([4] : List Nat).map fun t => s.getD t (.tup [])) H) [] R [4])))
  (
    J (Code.at [1, 1, 1, 1, 1, 1, 1, 1, 1, 1] c49) (sp 125 [(0, x0), (7, x7), (8, x8)]) H (kk none (fun s H => R (([4] : List Nat).map fun t => s.getD t (.tup [])) H) [] R [4])) := by
  kernel_rfl
theorem N49_4_eq (ρ : Addr → Option Value) (call : CallF) (yc : YieldF) (lim k : Nat) (x0 x7 x8 : AV) (H : Heap) (R : List AV → Heap → Res) :
    evL (cx ρ) call yc false 49 lim k (Code.at [1, 1, 1, 1, 1, 1, 1, 1, 1] c49) (sp 125 [(0, x0), (7, x7), (8, x8)]) H (kk none (fun s H => R (([4] : List Nat).map fun t => s.getD t (.tup [])) H) [] R [4]) = N49_4 ρ call yc lim k x0 x7 x8 H R := by
  rw [evL_X, N49_4_x]
  simp only [← evL_X, N49_4, N49_5_eq]
noncomputable def N49_3 (ρ : Addr → Option Value) (call : CallF) (yc : YieldF) (lim k : Nat) (x0 x7 : AV) (H : Heap) (R : List AV → Heap → Res) : Res :=
  N49_4 ρ call yc lim k x0 x7 x7 H R
theorem N49_3_x (ρ : Addr → Option Value) (call : CallF) (yc : YieldF) (lim k : Nat) (J : CodeF) (x0 x7 : AV) (H : Heap) (R : List AV → Heap → Res) :
    evX (cx ρ) call yc false 49 lim k J (Code.at [1, 1, 1, 1, 1, 1, 1, 1] c49) (sp 125 [(0, x0), (7, x7)]) H (kk none (fun s H => R (([4] : List Nat).map fun t => s.getD t (.tup [])) H) [] R [4]) =
  J (Code.at [1, 1, 1, 1, 1, 1, 1, 1, 1] c49) (sp 125 [(0, x0), (7, x7), (8, x7)]) H (kk none (fun s H => R (([4] : List Nat).map fun t => s.getD t (.tup [])) H) [] R [4]) := by
  kernel_rfl
theorem N49_3_eq (ρ : Addr → Option Value) (call : CallF) (yc : YieldF) (lim k : Nat) (x0 x7 : AV) (H : Heap) (R : List AV → Heap → Res) :
    evL (cx ρ) call yc false 49 lim k (Code.at [1, 1, 1, 1, 1, 1, 1, 1] c49) (sp 125 [(0, x0), (7, x7)]) H (kk none (fun s H => R (([4] : List Nat).map fun t => s.getD t (.tup [])) H) [] R [4]) = N49_3 ρ call yc lim k x0 x7 H R := by
  rw [evL_X, N49_3_x]
  simp only [← evL_X, N49_3, N49_4_eq]
noncomputable def N49_11 (ρ : Addr → Option Value) (call : CallF) (yc : YieldF) (lim k : Nat) (x0 x7 x85 : AV) (H : Heap) (kn : AV → AV → Heap → Res) (R : List AV → Heap → Res) : Res :=
  condK x85
  (
    purK (slT (.str (ByteArray.mk #[9, 9, 9, 9, 9, 9, 9, 9, 9, 9, 9, 9, 9, 9, 9, 9, 9, 9, 9, 9, 9, 9, 9, 9, 9, 9, 9, 9, 9, 9, 9, 9, 9, 9, 9, 9, 9, 9, 9, 9, 9, 9, 9, 9, 9, 9, 9, 9, 9, 9, 9, 9, 9, 9, 9, 9, 9, 9, 9, 9, 9, 9, 9, 9])) none (some x7)) fun x93_1 =>
    R [x93_1] H)
  (
    kn x0 x7 H)
theorem N49_11_eq (ρ : Addr → Option Value) (call : CallF) (yc : YieldF) (lim k : Nat) (x0 x7 x85 : AV) (H : Heap) (kn : KS) (k2 : KS) (k1 : KS) (R : List AV → Heap → Res) :
    evL (cx ρ) call yc false 49 lim k (Code.at [1, 1, 1, 1, 1, 1, 1, 0, 1, 0, 1, 0, 0, 1, 1, 1, 1, 1, 1, 1, 1, 1] c49) (sp 125 [(0, x0), (7, x7), (85, x85)]) H (kk (some [0, 7]) kn [(2, (some [0, 7]), k2), (1, (some [0, 7]), k1)] R [4]) = N49_11 ρ call yc lim k x0 x7 x85 H (fun x0 x7 H => kn (sp 125 [(0, x0), (7, x7)]) H) R := by
  kernel_rfl
noncomputable def N49_10 (ρ : Addr → Option Value) (call : CallF) (yc : YieldF) (lim k : Nat) (x0 x7 x49 : AV) (H : Heap) (kn : AV → AV → Heap → Res) (R : List AV → Heap → Res) : Res :=
  condK x49
  (
    purK (slT (.str (ByteArray.mk #[32, 32, 32, 32, 32, 32, 32, 32, 32, 32, 32, 32, 32, 32, 32, 32, 32, 32, 32, 32, 32, 32, 32, 32, 32, 32, 32, 32, 32, 32, 32, 32, 32, 32, 32, 32, 32, 32, 32, 32, 32, 32, 32, 32, 32, 32, 32, 32, 32, 32, 32, 32, 32, 32, 32, 32, 32, 32, 32, 32, 32, 32, 32, 32, 32, 32, 32, 32, 32, 32, 32, 32, 32, 32, 32, 32, 32, 32, 32, 32, 32, 32, 32, 32, 32, 32, 32, 32, 32, 32, 32, 32, 32, 32, 32, 32, 32, 32, 32, 32, 32, 32, 32, 32, 32, 32, 32, 32, 32, 32, 32, 32, 32, 32, 32, 32, 32, 32, 32, 32, 32, 32, 32, 32, 32, 32, 32, 32])) none (some x7)) fun x57_1 =>
    R [x57_1] H)
  (
    purK (binA Try.prog H .leq 3 x7 (.int .i64 128)) fun x60_1 =>
    purK (gPur (wantV x60_1 true) (some x0)) fun x62_1 =>
    resK (gRes (wantV x60_1 true) H (call lim 51 [(.str (ByteArray.mk #[45, 45, 45, 45, 45, 45, 45, 45, 45, 45, 45, 45, 45, 45, 45, 45, 45, 45, 45, 45, 45, 45, 45, 45, 45, 45, 45, 45, 45, 45, 45, 45, 45, 45, 45, 45, 45, 45, 45, 45, 45, 45, 45, 45, 45, 45, 45, 45, 45, 45, 45, 45, 45, 45, 45, 45, 45, 45, 45, 45, 45, 45, 45, 45, 45, 45, 45, 45, 45, 45, 45, 45, 45, 45, 45, 45, 45, 45, 45, 45, 45, 45, 45, 45, 45, 45, 45, 45, 45, 45, 45, 45, 45, 45, 45, 45, 45, 45, 45, 45, 45, 45, 45, 45, 45, 45, 45, 45, 45, 45, 45, 45, 45, 45, 45, 45, 45, 45, 45, 45, 45, 45, 45, 45, 45, 45, 45, 45])), x62_1] H)) fun x63_1 H =>
    purK (pickA x60_1 x63_1 (.bool false)) fun x64_1 =>
    condK x64_1
    (
      purK (slT (.str (ByteArray.mk #[45, 45, 45, 45, 45, 45, 45, 45, 45, 45, 45, 45, 45, 45, 45, 45, 45, 45, 45, 45, 45, 45, 45, 45, 45, 45, 45, 45, 45, 45, 45, 45, 45, 45, 45, 45, 45, 45, 45, 45, 45, 45, 45, 45, 45, 45, 45, 45, 45, 45, 45, 45, 45, 45, 45, 45, 45, 45, 45, 45, 45, 45, 45, 45, 45, 45, 45, 45, 45, 45, 45, 45, 45, 45, 45, 45, 45, 45, 45, 45, 45, 45, 45, 45, 45, 45, 45, 45, 45, 45, 45, 45, 45, 45, 45, 45, 45, 45, 45, 45, 45, 45, 45, 45, 45, 45, 45, 45, 45, 45, 45, 45, 45, 45, 45, 45, 45, 45, 45, 45, 45, 45, 45, 45, 45, 45, 45, 45])) none (some x7)) fun x66_1 =>
      R [x66_1] H)
    (
      purK (binA Try.prog H .leq 3 x7 (.int .i64 64)) fun x69_1 =>
      purK (gPur (wantV x69_1 true) (some x0)) fun x71_1 =>
      resK (gRes (wantV x69_1 true) H (call lim 51 [(.str (ByteArray.mk #[48, 48, 48, 48, 48, 48, 48, 48, 48, 48, 48, 48, 48, 48, 48, 48, 48, 48, 48, 48, 48, 48, 48, 48, 48, 48, 48, 48, 48, 48, 48, 48, 48, 48, 48, 48, 48, 48, 48, 48, 48, 48, 48, 48, 48, 48, 48, 48, 48, 48, 48, 48, 48, 48, 48, 48, 48, 48, 48, 48, 48, 48, 48, 48])), x71_1] H)) fun x72_1 H =>
      purK (pickA x69_1 x72_1 (.bool false)) fun x73_1 =>
      condK x73_1
      (
        purK (slT (.str (ByteArray.mk #[48, 48, 48, 48, 48, 48, 48, 48, 48, 48, 48, 48, 48, 48, 48, 48, 48, 48, 48, 48, 48, 48, 48, 48, 48, 48, 48, 48, 48, 48, 48, 48, 48, 48, 48, 48, 48, 48, 48, 48, 48, 48, 48, 48, 48, 48, 48, 48, 48, 48, 48, 48, 48, 48, 48, 48, 48, 48, 48, 48, 48, 48, 48, 48])) none (some x7)) fun x75_1 =>
        R [x75_1] H)
      (
        purK (binA Try.prog H .leq 3 x7 (.int .i64 128)) fun x78_1 =>
        purK (gPur (wantV x78_1 true) (some x0)) fun x80_1 =>
        resK (gRes (wantV x78_1 true) H (call lim 51 [(.str (ByteArray.mk #[61, 61, 61, 61, 61, 61, 61, 61, 61, 61, 61, 61, 61, 61, 61, 61, 61, 61, 61, 61, 61, 61, 61, 61, 61, 61, 61, 61, 61, 61, 61, 61, 61, 61, 61, 61, 61, 61, 61, 61, 61, 61, 61, 61, 61, 61, 61, 61, 61, 61, 61, 61, 61, 61, 61, 61, 61, 61, 61, 61, 61, 61, 61, 61, 61, 61, 61, 61, 61, 61, 61, 61, 61, 61, 61, 61, 61, 61, 61, 61, 61, 61, 61, 61, 61, 61, 61, 61, 61, 61, 61, 61, 61, 61, 61, 61, 61, 61, 61, 61, 61, 61, 61, 61, 61, 61, 61, 61, 61, 61, 61, 61, 61, 61, 61, 61, 61, 61, 61, 61, 61, 61, 61, 61, 61, 61, 61, 61])), x80_1] H)) fun x81_1 H =>
        purK (pickA x78_1 x81_1 (.bool false)) fun x82_1 =>
        condK x82_1
        (
          purK (slT (.str (ByteArray.mk #[61, 61, 61, 61, 61, 61, 61, 61, 61, 61, 61, 61, 61, 61, 61, 61, 61, 61, 61, 61, 61, 61, 61, 61, 61, 61, 61, 61, 61, 61, 61, 61, 61, 61, 61, 61, 61, 61, 61, 61, 61, 61, 61, 61, 61, 61, 61, 61, 61, 61, 61, 61, 61, 61, 61, 61, 61, 61, 61, 61, 61, 61, 61, 61, 61, 61, 61, 61, 61, 61, 61, 61, 61, 61, 61, 61, 61, 61, 61, 61, 61, 61, 61, 61, 61, 61, 61, 61, 61, 61, 61, 61, 61, 61, 61, 61, 61, 61, 61, 61, 61, 61, 61, 61, 61, 61, 61, 61, 61, 61, 61, 61, 61, 61, 61, 61, 61, 61, 61, 61, 61, 61, 61, 61, 61, 61, 61, 61])) none (some x7)) fun x84_1 =>
          R [x84_1] H)
        (
          purK (binA Try.prog H .leq 3 x7 (.int .i64 64)) fun x87_1 =>
          purK (gPur (wantV x87_1 true) (some x0)) fun x89_1 =>
          resK (gRes (wantV x87_1 true) H (call lim 51 [(.str (ByteArray.mk #[9, 9, 9, 9, 9, 9, 9, 9, 9, 9, 9, 9, 9, 9, 9, 9, 9, 9, 9, 9, 9, 9, 9, 9, 9, 9, 9, 9, 9, 9, 9, 9, 9, 9, 9, 9, 9, 9, 9, 9, 9, 9, 9, 9, 9, 9, 9, 9, 9, 9, 9, 9, 9, 9, 9, 9, 9, 9, 9, 9, 9, 9, 9, 9])), x89_1] H)) fun x90_1 H =>
          purK (pickA x87_1 x90_1 (.bool false)) fun x91_1 =>
          N49_11 ρ call yc lim k x0 x7 x91_1 H kn R))))
theorem N49_10_x (ρ : Addr → Option Value) (call : CallF) (yc : YieldF) (lim k : Nat) (J : CodeF) (x0 x7 x49 : AV) (H : Heap) (kn : KS) (k2 : KS) (k1 : KS) (R : List AV → Heap → Res) :
    evX (cx ρ) call yc false 49 lim k J (Code.at [1, 1, 1, 1, 1, 1, 1, 0, 1, 0, 1, 0, 0, 1] c49) (sp 125 [(0, x0), (7, x7), (49, x49)]) H (kk (some [0, 7]) kn [(2, (some [0, 7]), k2), (1, (some [0, 7]), k1)] R [4]) =
  condK x49
  (
    purK (slT (.str (ByteArray.mk #[32, 32, 32, 32, 32, 32, 32, 32, 32, 32, 32, 32, 32, 32, 32, 32, 32, 32, 32, 32, 32, 32, 32, 32, 32, 32, 32, 32, 32, 32, 32, 32, 32, 32, 32, 32, 32, 32, 32, 32, 32, 32, 32, 32, 32, 32, 32, 32, 32, 32, 32, 32, 32, 32, 32, 32, 32, 32, 32, 32, 32, 32, 32, 32, 32, 32, 32, 32, 32, 32, 32, 32, 32, 32, 32, 32, 32, 32, 32, 32, 32, 32, 32, 32, 32, 32, 32, 32, 32, 32, 32, 32, 32, 32, 32, 32, 32, 32, 32, 32, 32, 32, 32, 32, 32, 32, 32, 32, 32, 32, 32, 32, 32, 32, 32, 32, 32, 32, 32, 32, 32, 32, 32, 32, 32, 32, 32, 32])) none (some x7)) fun x57_1 =>
    R [x57_1] H)
  (
    purK (binA Try.prog H .leq 3 x7 (.int .i64 128)) fun x60_1 =>
    purK (gPur (wantV x60_1 true) (some x0)) fun x62_1 =>
    resK (gRes (wantV x60_1 true) H (call lim 51 [(.str (ByteArray.mk #[45, 45, 45, 45, 45, 45, 45, 45, 45, 45, 45, 45, 45, 45, 45, 45, 45, 45, 45, 45, 45, 45, 45, 45, 45, 45, 45, 45, 45, 45, 45, 45, 45, 45, 45, 45, 45, 45, 45, 45, 45, 45, 45, 45, 45, 45, 45, 45, 45, 45, 45, 45, 45, 45, 45, 45, 45, 45, 45, 45, 45, 45, 45, 45, 45, 45, 45, 45, 45, 45, 45, 45, 45, 45, 45, 45, 45, 45, 45, 45, 45, 45, 45, 45, 45, 45, 45, 45, 45, 45, 45, 45, 45, 45, 45, 45, 45, 45, 45, 45, 45, 45, 45, 45, 45, 45, 45, 45, 45, 45, 45, 45, 45, 45, 45, 45, 45, 45, 45, 45, 45, 45, 45, 45, 45, 45, 45, 45])), x62_1] H)) fun x63_1 H =>
    purK (pickA x60_1 x63_1 (.bool false)) fun x64_1 =>
    condK x64_1
    (
      purK (slT (.str (ByteArray.mk #[45, 45, 45, 45, 45, 45, 45, 45, 45, 45, 45, 45, 45, 45, 45, 45, 45, 45, 45, 45, 45, 45, 45, 45, 45, 45, 45, 45, 45, 45, 45, 45, 45, 45, 45, 45, 45, 45, 45, 45, 45, 45, 45, 45, 45, 45, 45, 45, 45, 45, 45, 45, 45, 45, 45, 45, 45, 45, 45, 45, 45, 45, 45, 45, 45, 45, 45, 45, 45, 45, 45, 45, 45, 45, 45, 45, 45, 45, 45, 45, 45, 45, 45, 45, 45, 45, 45, 45, 45, 45, 45, 45, 45, 45, 45, 45, 45, 45, 45, 45, 45, 45, 45, 45, 45, 45, 45, 45, 45, 45, 45, 45, 45, 45, 45, 45, 45, 45, 45, 45, 45, 45, 45, 45, 45, 45, 45, 45])) none (some x7)) fun x66_1 =>
      R [x66_1] H)
    (
      purK (binA Try.prog H .leq 3 x7 (.int .i64 64)) fun x69_1 =>
      purK (gPur (wantV x69_1 true) (some x0)) fun x71_1 =>
      resK (gRes (wantV x69_1 true) H (call lim 51 [(.str (ByteArray.mk #[48, 48, 48, 48, 48, 48, 48, 48, 48, 48, 48, 48, 48, 48, 48, 48, 48, 48, 48, 48, 48, 48, 48, 48, 48, 48, 48, 48, 48, 48, 48, 48, 48, 48, 48, 48, 48, 48, 48, 48, 48, 48, 48, 48, 48, 48, 48, 48, 48, 48, 48, 48, 48, 48, 48, 48, 48, 48, 48, 48, 48, 48, 48, 48])), x71_1] H)) fun x72_1 H =>
      purK (pickA x69_1 x72_1 (.bool false)) fun x73_1 =>
      condK x73_1
      (
        purK (slT (.str (ByteArray.mk #[48, 48, 48, 48, 48, 48, 48, 48, 48, 48, 48, 48, 48, 48, 48, 48, 48, 48, 48, 48, 48, 48, 48, 48, 48, 48, 48, 48, 48, 48, 48, 48, 48, 48, 48, 48, 48, 48, 48, 48, 48, 48, 48, 48, 48, 48, 48, 48, 48, 48, 48, 48, 48, 48, 48, 48, 48, 48, 48, 48, 48, 48, 48, 48])) none (some x7)) fun x75_1 =>
        R [x75_1] H)
      (
        purK (binA Try.prog H .leq 3 x7 (.int .i64 128)) fun x78_1 =>
        purK (gPur (wantV x78_1 true) (some x0)) fun x80_1 =>
        resK (gRes (wantV x78_1 true) H (call lim 51 [(.str (ByteArray.mk #[61, 61, 61, 61, 61, 61, 61, 61, 61, 61, 61, 61, 61, 61, 61, 61, 61, 61, 61, 61, 61, 61, 61, 61, 61, 61, 61, 61, 61, 61, 61, 61, 61, 61, 61, 61, 61, 61, 61, 61, 61, 61, 61, 61, 61, 61, 61, 61, 61, 61, 61, 61, 61, 61, 61, 61, 61, 61, 61, 61, 61, 61, 61, 61, 61, 61, 61, 61, 61, 61, 61, 61, 61, 61, 61, 61, 61, 61, 61, 61, 61, 61, 61, 61, 61, 61, 61, 61, 61, 61, 61, 61, 61, 61, 61, 61, 61, 61, 61, 61, 61, 61, 61, 61, 61, 61, 61, 61, 61, 61, 61, 61, 61, 61, 61, 61, 61, 61, 61, 61, 61, 61, 61, 61, 61, 61, 61, 61])), x80_1] H)) fun x81_1 H =>
        purK (pickA x78_1 x81_1 (.bool false)) fun x82_1 =>
        condK x82_1
        (
          purK (slT (.str (ByteArray.mk #[61, 61, 61, 61, 61, 61, 61, 61, 61, 61, 61, 61, 61, 61, 61, 61, 61, 61, 61, 61, 61, 61, 61, 61, 61, 61, 61, 61, 61, 61, 61, 61, 61, 61, 61, 61, 61, 61, 61, 61, 61, 61, 61, 61, 61, 61, 61, 61, 61, 61, 61, 61, 61, 61, 61, 61, 61, 61, 61, 61, 61, 61, 61, 61, 61, 61, 61, 61, 61, 61, 61, 61, 61, 61, 61, 61, 61, 61, 61, 61, 61, 61, 61, 61, 61, 61, 61, 61, 61, 61, 61, 61, 61, 61, 61, 61, 61, 61, 61, 61, 61, 61, 61, 61, 61, 61, 61, 61, 61, 61, 61, 61, 61, 61, 61, 61, 61, 61, 61, 61, 61, 61, 61, 61, 61, 61, 61, 61])) none (some x7)) fun x84_1 =>
          R [x84_1] H)
        (
          purK (binA Try.prog H .leq 3 x7 (.int .i64 64)) fun x87_1 =>
          purK (gPur (wantV x87_1 true) (some x0)) fun x89_1 =>
          resK (gRes (wantV x87_1 true) H (call lim 51 [(.str (ByteArray.mk #[9, 9, 9, 9, 9, 9, 9, 9, 9, 9, 9, 9, 9, 9, 9, 9, 9, 9, 9, 9, 9, 9, 9, 9, 9, 9, 9, 9, 9, 9, 9, 9, 9, 9, 9, 9, 9, 9, 9, 9, 9, 9, 9, 9, 9, 9, 9, 9, 9, 9, 9, 9, 9, 9, 9, 9, 9, 9, 9, 9, 9, 9, 9, 9])), x89_1] H)) fun x90_1 H =>
          purK (pickA x87_1 x90_1 (.bool false)) fun x91_1 =>
          J (Code.at [1, 1, 1, 1, 1, 1, 1, 0, 1, 0, 1, 0, 0, 1, 1, 1, 1, 1, 1, 1, 1, 1] c49) (sp 125 [(0, x0), (7, x7), (85, x91_1)]) H (kk (some [0, 7]) kn [(2, (some [0, 7]), k2), (1, (some [0, 7]), k1)] R [4]))))) := by
  kernel_rfl
theorem N49_10_eq (ρ : Addr → Option Value) (call : CallF) (yc : YieldF) (lim k : Nat) (x0 x7 x49 : AV) (H : Heap) (kn : KS) (k2 : KS) (k1 : KS) (R : List AV → Heap → Res) :
    evL (cx ρ) call yc false 49 lim k (Code.at [1, 1, 1, 1, 1, 1, 1, 0, 1, 0, 1, 0, 0, 1] c49) (sp 125 [(0, x0), (7, x7), (49, x49)]) H (kk (some [0, 7]) kn [(2, (some [0, 7]), k2), (1, (some [0, 7]), k1)] R [4]) = N49_10 ρ call yc lim k x0 x7 x49 H (fun x0 x7 H => kn (sp 125 [(0, x0), (7, x7)]) H) R := by
  rw [evL_X, N49_10_x]
  simp only [← evL_X, N49_10, N49_11_eq]
noncomputable def N49_9 (ρ : Addr → Option Value) (call : CallF) (yc : YieldF) (lim k : Nat) (x0 x7 x43 : AV) (H : Heap) (kn : AV → AV → Heap → Res) (R : List AV → Heap → Res) : Res :=
  condK x43
  (
    purK (binA Try.prog H .leq 3 x7 (.int .i64 128)) fun x51_1 =>
    purK (gPur (wantV x51_1 true) (some x0)) fun x53_1 =>
    resK (gRes (wantV x51_1 true) H (call lim 51 [(.str (ByteArray.mk #[32, 32, 32, 32, 32, 32, 32, 32, 32, 32, 32, 32, 32, 32, 32, 32, 32, 32, 32, 32, 32, 32, 32, 32, 32, 32, 32, 32, 32, 32, 32, 32, 32, 32, 32, 32, 32, 32, 32, 32, 32, 32, 32, 32, 32, 32, 32, 32, 32, 32, 32, 32, 32, 32, 32, 32, 32, 32, 32, 32, 32, 32, 32, 32, 32, 32, 32, 32, 32, 32, 32, 32, 32, 32, 32, 32, 32, 32, 32, 32, 32, 32, 32, 32, 32, 32, 32, 32, 32, 32, 32, 32, 32, 32, 32, 32, 32, 32, 32, 32, 32, 32, 32, 32, 32, 32, 32, 32, 32, 32, 32, 32, 32, 32, 32, 32, 32, 32, 32, 32, 32, 32, 32, 32, 32, 32, 32, 32])), x53_1] H)) fun x54_1 H =>
    purK (pickA x51_1 x54_1 (.bool false)) fun x55_1 =>
    N49_10 ρ call yc lim k x0 x7 x55_1 H kn R)
  (
    kn x0 x7 H)
theorem N49_9_x (ρ : Addr → Option Value) (call : CallF) (yc : YieldF) (lim k : Nat) (J : CodeF) (x0 x7 x43 : AV) (H : Heap) (kn : KS) (k1 : KS) (R : List AV → Heap → Res) :
    evX (cx ρ) call yc false 49 lim k J (Code.at [1, 1, 1, 1, 1, 1, 1, 0, 1, 0, 1] c49) (sp 125 [(0, x0), (7, x7), (43, x43)]) H (kk (some [0, 7]) kn [(1, (some [0, 7]), k1)] R [4]) =
  condK x43
  (
    purK (binA Try.prog H .leq 3 x7 (.int .i64 128)) fun x51_1 =>
    purK (gPur (wantV x51_1 true) (some x0)) fun x53_1 =>
    resK (gRes (wantV x51_1 true) H (call lim 51 [(.str (ByteArray.mk #[32, 32, 32, 32, 32, 32, 32, 32, 32, 32, 32, 32, 32, 32, 32, 32, 32, 32, 32, 32, 32, 32, 32, 32, 32, 32, 32, 32, 32, 32, 32, 32, 32, 32, 32, 32, 32, 32, 32, 32, 32, 32, 32, 32, 32, 32, 32, 32, 32, 32, 32, 32, 32, 32, 32, 32, 32, 32, 32, 32, 32, 32, 32, 32, 32, 32, 32, 32, 32, 32, 32, 32, 32, 32, 32, 32, 32, 32, 32, 32, 32, 32, 32, 32, 32, 32, 32, 32, 32, 32, 32, 32, 32, 32, 32, 32, 32, 32, 32, 32, 32, 32, 32, 32, 32, 32, 32, 32, 32, 32, 32, 32, 32, 32, 32, 32, 32, 32, 32, 32, 32, 32, 32, 32, 32, 32, 32, 32])), x53_1] H)) fun x54_1 H =>
    purK (pickA x51_1 x54_1 (.bool false)) fun x55_1 =>
    J (Code.at [1, 1, 1, 1, 1, 1, 1, 0, 1, 0, 1, 0, 0, 1] c49) (sp 125 [(0, x0), (7, x7), (49, x55_1)]) H (kk (some [0, 7]) kn [(2, (some [0, 7]), kn), (1, (some [0, 7]), k1)] R [4]))
  (
    kn (sp 125 [(0, x0), (7, x7)]) H) := by
  kernel_rfl
theorem N49_9_eq (ρ : Addr → Option Value) (call : CallF) (yc : YieldF) (lim k : Nat) (x0 x7 x43 : AV) (H : Heap) (kn : KS) (k1 : KS) (R : List AV → Heap → Res) :
    evL (cx ρ) call yc false 49 lim k (Code.at [1, 1, 1, 1, 1, 1, 1, 0, 1, 0, 1] c49) (sp 125 [(0, x0), (7, x7), (43, x43)]) H (kk (some [0, 7]) kn [(1, (some [0, 7]), k1)] R [4]) = N49_9 ρ call yc lim k x0 x7 x43 H (fun x0 x7 H => kn (sp 125 [(0, x0), (7, x7)]) H) R := by
  rw [evL_X, N49_9_x]
  simp only [← evL_X, N49_9, N49_10_eq]
noncomputable def N49_2 (ρ : Addr → Option Value) (call : CallF) (yc : YieldF) (lim k : Nat) (x0 x6 : AV) (H : Heap) (R : List AV → Heap → Res) : Res :=
  purK (cvI .i64 x6) fun x37_1 =>
  purK (lenT x0) fun x39_1 =>
  purK (binA Try.prog H .eql 3 x39_1 (.int .i64 0)) fun x40_1 =>
  condK x40_1
  (
    R [(.str (ByteArray.mk #[]))] H)
  (
    purK (ixT x0 (.int .i64 0)) fun x42_1 =>
    purK (binA Try.prog H .eql 5 x42_1 (.int .u8 32)) fun x44_1 =>
    condK x44_1
    (
      N49_9 ρ call yc lim k x0 x37_1 x44_1 H (fun x0_1 x7_1 H =>
        N49_3 ρ call yc lim k x0_1 x7_1 H R) R)
    (
      purK (binA Try.prog H .eql 5 x42_1 (.int .u8 45)) fun x45_1 =>
      condK x45_1
      (
        N49_9 ρ call yc lim k x0 x37_1 x45_1 H (fun x0_2 x7_2 H =>
          N49_3 ρ call yc lim k x0_2 x7_2 H R) R)
      (
        purK (binA Try.prog H .eql 5 x42_1 (.int .u8 48)) fun x46_1 =>
        condK x46_1
        (
          N49_9 ρ call yc lim k x0 x37_1 x46_1 H (fun x0_3 x7_3 H =>
            N49_3 ρ call yc lim k x0_3 x7_3 H R) R)
        (
          purK (binA Try.prog H .eql 5 x42_1 (.int .u8 61)) fun x47_1 =>
          condK x47_1
          (
            N49_9 ρ call yc lim k x0 x37_1 x47_1 H (fun x0_4 x7_4 H =>
              N49_3 ρ call yc lim k x0_4 x7_4 H R) R)
          (
            purK (binA Try.prog H .eql 5 x42_1 (.int .u8 9)) fun x48_1 =>
            N49_9 ρ call yc lim k x0 x37_1 x48_1 H (fun x0_5 x7_5 H =>
              N49_3 ρ call yc lim k x0_5 x7_5 H R) R)))))
theorem N49_2_x (ρ : Addr → Option Value) (call : CallF) (yc : YieldF) (lim k : Nat) (J : CodeF) (x0 x6 : AV) (H : Heap) (R : List AV → Heap → Res) :
    evX (cx ρ) call yc false 49 lim k J (Code.at [1, 1, 1, 1, 1] c49) (sp 125 [(0, x0), (6, x6)]) H (kk none (fun s H => R (([4] : List Nat).map fun t => s.getD t (.tup [])) H) [] R [4]) =
  purK (cvI .i64 x6) fun x37_1 =>
  purK (lenT x0) fun x39_1 =>
  purK (binA Try.prog H .eql 3 x39_1 (.int .i64 0)) fun x40_1 =>
  condK x40_1
  (
    R [(.str (ByteArray.mk #[]))] H)
  (
    purK (ixT x0 (.int .i64 0)) fun x42_1 =>
    purK (binA Try.prog H .eql 5 x42_1 (.int .u8 32)) fun x44_1 =>
    condK x44_1
    (
      J (Code.at [1, 1, 1, 1, 1, 1, 1, 0, 1, 0, 1] c49) (sp 125 [(0, x0), (7, x37_1), (43, x44_1)]) H (kk (some [0, 7]) (fun s H => J (Code.at [1, 1, 1, 1, 1, 1, 1, 1] c49) s H (kk none (fun s H => R (([4] : List Nat).map fun t => s.getD t (.tup [])) H) [] R [4])) [(1, (some [0, 7]), (fun s H => J (Code.at [1, 1, 1, 1, 1, 1, 1, 1] c49) s H (kk none (fun s H => R (([4] : List Nat).map fun t => s.getD t (.tup [])) H) [] R [4])))] R [4]))
    (
      purK (binA Try.prog H .eql 5 x42_1 (.int .u8 45)) fun x45_1 =>
      condK x45_1
      (
        J (Code.at [1, 1, 1, 1, 1, 1, 1, 0, 1, 0, 1] c49) (sp 125 [(0, x0), (7, x37_1), (43, x45_1)]) H (kk (some [0, 7]) (fun s H => J (Code.at [1, 1, 1, 1, 1, 1, 1, 1] c49) s H (kk none (fun s H => R (([4] : List Nat).map fun t => s.getD t (.tup [])) H) [] R [4])) [(1, (some [0, 7]), (fun s H => J (Code.at [1, 1, 1, 1, 1, 1, 1, 1] c49) s H (kk none (fun s H => R (([4] : List Nat).map fun t => s.getD t (.tup [])) H) [] R [4])))] R [4]))
      (
        purK (binA Try.prog H .eql 5 x42_1 (.int .u8 48)) fun x46_1 =>
        condK x46_1
        (
          J (Code.at [1, 1, 1, 1, 1, 1, 1, 0, 1, 0, 1] c49) (sp 125 [(0, x0), (7, x37_1), (43, x46_1)]) H (kk (some [0, 7]) (fun s H => J (Code.at [1, 1, 1, 1, 1, 1, 1, 1] c49) s H (kk none (fun s H => R (([4] : List Nat).map fun t => s.getD t (.tup [])) H) [] R [4])) [(1, (some [0, 7]), (fun s H => J (Code.at [1, 1, 1, 1, 1, 1, 1, 1] c49) s H (kk none (fun s H => R (([4] : List Nat).map fun t => s.getD t (.tup [])) H) [] R [4])))] R [4]))
        (
          purK (binA Try.prog H .eql 5 x42_1 (.int .u8 61)) fun x47_1 =>
          condK x47_1
          (
            J (Code.at [1, 1, 1, 1, 1, 1, 1, 0, 1, 0, 1] c49) (sp 125 [(0, x0), (7, x37_1), (43, x47_1)]) H (kk (some [0, 7]) (fun s H => J (Code.at [1, 1, 1, 1, 1, 1, 1, 1] c49) s H (kk none (fun s H => R (([4] : List Nat).map fun t => s.getD t (.tup [])) H) [] R [4])) [(1, (some [0, 7]), (fun s H => J (Code.at [1, 1, 1, 1, 1, 1, 1, 1] c49) s H (kk none (fun s H => R (([4] : List Nat).map fun t => s.getD t (.tup [])) H) [] R [4])))] R [4]))
          (
            purK (binA Try.prog H .eql 5 x42_1 (.int .u8 9)) fun x48_1 =>
            J (Code.at [1, 1, 1, 1, 1, 1, 1, 0, 1, 0, 1] c49) (sp 125 [(0, x0), (7, x37_1), (43, x48_1)]) H (kk (some [0, 7]) (fun s H => J (Code.at [1, 1, 1, 1, 1, 1, 1, 1] c49) s H (kk none (fun s H => R (([4] : List Nat).map fun t => s.getD t (.tup [])) H) [] R [4])) [(1, (some [0, 7]), (fun s H => J (Code.at [1, 1, 1, 1, 1, 1, 1, 1] c49) s H (kk none (fun s H => R (([4] : List Nat).map fun t => s.getD t (.tup [])) H) [] R [4])))] R [4])))))) := by
  kernel_rfl
theorem N49_2_eq (ρ : Addr → Option Value) (call : CallF) (yc : YieldF) (lim k : Nat) (x0 x6 : AV) (H : Heap) (R : List AV → Heap → Res) :
    evL (cx ρ) call yc false 49 lim k (Code.at [1, 1, 1, 1, 1] c49) (sp 125 [(0, x0), (6, x6)]) H (kk none (fun s H => R (([4] : List Nat).map fun t => s.getD t (.tup [])) H) [] R [4]) = N49_2 ρ call yc lim k x0 x6 H R := by
  rw [evL_X, N49_2_x]
  simp only [← evL_X, N49_2, N49_3_eq, N49_9_eq]
noncomputable def N49_12 (ρ : Addr → Option Value) (call : CallF) (yc : YieldF) (lim k : Nat) (x0 x6 x34 : AV) (H : Heap) (kn : AV → AV → Heap → Res) : Res :=
  condK x34
  (
    effK H (none) fun _ H =>
    kn x0 x6 H)
  (
    kn x0 x6 H)
theorem N49_12_eq (ρ : Addr → Option Value) (call : CallF) (yc : YieldF) (lim k : Nat) (x0 x6 x34 : AV) (H : Heap) (kn : KS) (R : List AV → Heap → Res) :
    evL (cx ρ) call yc false 49 lim k (Code.at [1, 1, 1, 1, 0, 1] c49) (sp 125 [(0, x0), (6, x6), (34, x34)]) H (kk (some [0, 6]) kn [] R [4]) = N49_12 ρ call yc lim k x0 x6 x34 H (fun x0 x6 H => kn (sp 125 [(0, x0), (6, x6)]) H) := by
  kernel_rfl
noncomputable def N49_1 (ρ : Addr → Option Value) (call : CallF) (yc : YieldF) (lim k : Nat) (x0 x1 : AV) (H : Heap) (R : List AV → Heap → Res) : Res :=
  purK (lenT x0) fun x22_1 =>
  purK (cvI .u64 x22_1) fun x23_1 =>
  purK (cvI .u64 x1) fun x25_1 =>
  resK (call lim 50 [x23_1, x25_1] H) fun x26_1 H =>
  purK (extA 0 x26_1) fun x27_1 =>
  purK (extA 1 x26_1) fun x28_1 =>
  purK (binA Try.prog H .gtr 53 x27_1 (.int .u64 0)) fun x30_1 =>
  purK (gPur (wantV x30_1 false) (some x28_1)) fun x32_1 =>
  purK (gPur (wantV x30_1 false) (binA Try.prog H .gtr 53 x32_1 (.int .u64 9223372036854775807))) fun x33_1 =>
  purK (pickA x30_1 (.bool true) x33_1) fun x34_1 =>
  N49_12 ρ call yc lim k x0 x28_1 x34_1 H (fun x0_1 x6_1 H =>
    N49_2 ρ call yc lim k x0_1 x6_1 H R)
theorem N49_1_x (ρ : Addr → Option Value) (call : CallF) (yc : YieldF) (lim k : Nat) (J : CodeF) (x0 x1 : AV) (H : Heap) (R : List AV → Heap → Res) :
    evX (cx ρ) call yc false 49 lim k J (Code.at [1, 1, 1] c49) (sp 125 [(0, x0), (1, x1)]) H (kk none (fun s H => R (([4] : List Nat).map fun t => s.getD t (.tup [])) H) [] R [4]) =
  purK (lenT x0) fun x22_1 =>
  purK (cvI .u64 x22_1) fun x23_1 =>
  purK (cvI .u64 x1) fun x25_1 =>
  resK (call lim 50 [x23_1, x25_1] H) fun x26_1 H =>
  purK (extA 0 x26_1) fun x27_1 =>
  purK (extA 1 x26_1) fun x28_1 =>
  purK (binA Try.prog H .gtr 53 x27_1 (.int .u64 0)) fun x30_1 =>
  purK (gPur (wantV x30_1 false) (some x28_1)) fun x32_1 =>
  purK (gPur (wantV x30_1 false) (binA Try.prog H .gtr 53 x32_1 (.int .u64 9223372036854775807))) fun x33_1 =>
  purK (pickA x30_1 (.bool true) x33_1) fun x34_1 =>
  J (Code.at [1, 1, 1, 1, 0, 1] c49) (sp 125 [(0, x0), (6, x28_1), (34, x34_1)]) H (kk (some [0, 6]) (fun s H => J (Code.at [1, 1, 1, 1, 1] c49) s H (kk none (fun s H => R (([4] : List Nat).map fun t => s.getD t (.tup [])) H) [] R [4])) [] R [4]) := by
  kernel_rfl
theorem N49_1_eq (ρ : Addr → Option Value) (call : CallF) (yc : YieldF) (lim k : Nat) (x0 x1 : AV) (H : Heap) (R : List AV → Heap → Res) :
    evL (cx ρ) call yc false 49 lim k (Code.at [1, 1, 1] c49) (sp 125 [(0, x0), (1, x1)]) H (kk none (fun s H => R (([4] : List Nat).map fun t => s.getD t (.tup [])) H) [] R [4]) = N49_1 ρ call yc lim k x0 x1 H R := by
  rw [evL_X, N49_1_x]
  simp only [← evL_X, N49_1, N49_12_eq, N49_2_eq]
noncomputable def L49 (ρ : Addr → Option Value) (call : CallF) (yc : YieldF) (lim k : Nat) (x0 x1 : AV) (H : Heap) : Res :=
  purK (binA Try.prog H .eql 3 x1 (.int .i64 0)) fun x13 =>
  condK x13
  (
    retK [(.str (ByteArray.mk #[]))] H)
  (
    purK (binA Try.prog H .eql 3 x1 (.int .i64 1)) fun x15 =>
    condK x15
    (
      retK [x0] H)
    (
      purK (binA Try.prog H .lss 3 x1 (.int .i64 0)) fun x18 =>
      condK x18
      (
        effK H (none) fun _ H =>
        N49_1 ρ call yc lim k x0 x1 H retK)
      (
        N49_1 ρ call yc lim k x0 x1 H retK)))
theorem L49_x (ρ : Addr → Option Value) (call : CallF) (yc : YieldF) (lim k : Nat) (J : CodeF) (x0 x1 : AV) (H : Heap) :
    evX (cx ρ) call yc false 49 lim k J c49 [x0, x1, (.tup []), (.tup []), (.tup []), (.tup []), (.tup []), (.tup []), (.tup []), (.tup []), (.tup []), (.tup []), (.tup []), (.tup []), (.tup []), (.tup []), (.tup []), (.tup []), (.tup []), (.tup []), (.tup []), (.tup []), (.tup []), (.tup []), (.tup []), (.tup []), (.tup []), (.tup []), (.tup []), (.tup []), (.tup []), (.tup []), (.tup []), (.tup []), (.tup []), (.tup []), (.tup []), (.tup []), (.tup []), (.tup []), (.tup []), (.tup []), (.tup []), (.tup []), (.tup []), (.tup []), (.tup []), (.tup []), (.tup []), (.tup []), (.tup []), (.tup []), (.tup []), (.tup []), (.tup []), (.tup []), (.tup []), (.tup []), (.tup []), (.tup []), (.tup []), (.tup []), (.tup []), (.tup []), (.tup []), (.tup []), (.tup []), (.tup []), (.tup []), (.tup []), (.tup []), (.tup []), (.tup []), (.tup []), (.tup []), (.tup []), (.tup []), (.tup []), (.tup []), (.tup []), (.tup []), (.tup []), (.tup []), (.tup []), (.tup []), (.tup []), (.tup []), (.tup []), (.tup []), (.tup []), (.tup []), (.tup []), (.tup []), (.tup []), (.tup []), (.tup []), (.tup []), (.tup []), (.tup []), (.tup []), (.tup []), (.tup []), (.tup []), (.tup []), (.tup []), (.tup []), (.tup []), (.tup []), (.tup []), (.tup []), (.tup []), (.tup []), (.tup []), (.tup []), (.tup []), (.tup []), (.tup []), (.tup []), (.tup []), (.tup []), (.tup []), (.tup []), (.tup []), (.tup []), (.tup [])] H (kk none (fun s H => retK (([4] : List Nat).map fun t => s.getD t (.tup [])) H) [] retK [4]) =
  purK (binA Try.prog H .eql 3 x1 (.int .i64 0)) fun x13 =>
  condK x13
  (
    retK [(.str (ByteArray.mk #[]))] H)
  (
    purK (binA Try.prog H .eql 3 x1 (.int .i64 1)) fun x15 =>
    condK x15
    (
      retK [x0] H)
    (
      purK (binA Try.prog H .lss 3 x1 (.int .i64 0)) fun x18 =>
      condK x18
      (
        effK H (none) fun _ H =>
        J (Code.at [1, 1, 1] c49) (sp 125 [(0, x0), (1, x1)]) H (kk none (fun s H => retK (([4] : List Nat).map fun t => s.getD t (.tup [])) H) [] retK [4]))
      (
        J (Code.at [1, 1, 1] c49) (sp 125 [(0, x0), (1, x1)]) H (kk none (fun s H => retK (([4] : List Nat).map fun t => s.getD t (.tup [])) H) [] retK [4])))) := by
  kernel_rfl
theorem G49 (ρ : Addr → Option Value) (call : CallF) (yc : YieldF) (lim k : Nat) (x0 x1 : AV) (H : Heap) :
    evL (cx ρ) call yc false 49 lim k c49 [x0, x1, (.tup []), (.tup []), (.tup []), (.tup []), (.tup []), (.tup []), (.tup []), (.tup []), (.tup []), (.tup []), (.tup []), (.tup []), (.tup []), (.tup []), (.tup []), (.tup []), (.tup []), (.tup []), (.tup []), (.tup []), (.tup []), (.tup []), (.tup []), (.tup []), (.tup []), (.tup []), (.tup []), (.tup []), (.tup []), (.tup []), (.tup []), (.tup []), (.tup []), (.tup []), (.tup []), (.tup []), (.tup []), (.tup []), (.tup []), (.tup []), (.tup []), (.tup []), (.tup []), (.tup []), (.tup []), (.tup []), (.tup []), (.tup []), (.tup []), (.tup []), (.tup []), (.tup []), (.tup []), (.tup []), (.tup []), (.tup []), (.tup []), (.tup []), (.tup []), (.tup []), (.tup []), (.tup []), (.tup []), (.tup []), (.tup []), (.tup []), (.tup []), (.tup []), (.tup []), (.tup []), (.tup []), (.tup []), (.tup []), (.tup []), (.tup []), (.tup []), (.tup []), (.tup []), (.tup []), (.tup []), (.tup []), (.tup []), (.tup []), (.tup []), (.tup []), (.tup []), (.tup []), (.tup []), (.tup []), (.tup []), (.tup []), (.tup []), (.tup []), (.tup []), (.tup []), (.tup []), (.tup []), (.tup []), (.tup []), (.tup []), (.tup []), (.tup []), (.tup []), (.tup []), (.tup []), (.tup []), (.tup []), (.tup []), (.tup []), (.tup []), (.tup []), (.tup []), (.tup []), (.tup []), (.tup []), (.tup []), (.tup []), (.tup []), (.tup []), (.tup []), (.tup []), (.tup []), (.tup [])] H (kk none (fun s H => retK (([4] : List Nat).map fun t => s.getD t (.tup [])) H) [] retK [4]) = L49 ρ call yc lim k x0 x1 H := by
  rw [evL_X, L49_x]
  simp only [← evL_X, L49, N49_1_eq]
theorem E49 (ρ : Addr → Option Value) (k lim : Nat) (x0 x1 : AV) (H : Heap) : evCall (cx ρ) (k + 1) lim 49 [x0, x1] H = L49 ρ (evCall (cx ρ) k) (evCY (cx ρ) k).2 lim k x0 x1 H := by
  rw [evCall_body (cx ρ) k lim 49 _ H Try.f49 c49 [4] (by kernel_rfl) (by kernel_rfl) (by kernel_rfl) (by kernel_rfl) (by kernel_rfl)]
  exact G49 ρ (evCall (cx ρ) k) (evCY (cx ρ) k).2 lim k x0 x1 H
-- math/bits.Mul
noncomputable def c50 : Code := Code.of Try.prog 50
noncomputable def N50_1 (ρ : Addr → Option Value) (call : CallF) (yc : YieldF) (lim k : Nat) (x8 x9 : AV) (H : Heap) (R : List AV → Heap → Res) : Res :=
  R [x8, x9] H
theorem N50_1_eq (ρ : Addr → Option Value) (call : CallF) (yc : YieldF) (lim k : Nat) (x8 x9 : AV) (H : Heap) (R : List AV → Heap → Res) :
    evL (cx ρ) call yc false 50 lim k (Code.at [1, 1, 1] c50) (sp 30 [(8, x8), (9, x9)]) H (kk none (fun s H => R (([4, 5] : List Nat).map fun t => s.getD t (.tup [])) H) [] R [4, 5]) = N50_1 ρ call yc lim k x8 x9 H R := by
  kernel_rfl
noncomputable def L50 (ρ : Addr → Option Value) (call : CallF) (yc : YieldF) (lim k : Nat) (x0 x1 : AV) (H : Heap) : Res :=
  condK (.bool false)
  (
    purK (cvI .u32 x0) fun x12 =>
    purK (cvI .u32 x1) fun x14 =>
    resK (call lim 56 [x12, x14] H) fun x15 H =>
    purK (extA 0 x15) fun x16 =>
    purK (extA 1 x15) fun x17 =>
    purK (cvI .u64 x16) fun x19 =>
    purK (cvI .u64 x17) fun x21 =>
    retK [x19, x21] H)
  (
    resK (call lim 57 [x0, x1] H) fun x25 H =>
    purK (extA 0 x25) fun x26 =>
    purK (extA 1 x25) fun x27 =>
    N50_1 ρ call yc lim k x26 x27 H retK)
theorem L50_x (ρ : Addr → Option Value) (call : CallF) (yc : YieldF) (lim k : Nat) (J : CodeF) (x0 x1 : AV) (H : Heap) :
    evX (cx ρ) call yc false 50 lim k J c50 [x0, x1, (.tup []), (.tup []), (.tup []), (.tup []), (.tup []), (.tup []), (.tup []), (.tup []), (.tup []), (.tup []), (.tup []), (.tup []), (.tup []), (.tup []), (.tup []), (.tup []), (.tup []), (.tup []), (.tup []), (.tup []), (.tup []), (.tup []), (.tup []), (.tup []), (.tup []), (.tup []), (.tup []), (.tup [])] H (kk none (fun s H => retK (([4, 5] : List Nat).map fun t => s.getD t (.tup [])) H) [] retK [4, 5]) =
  condK (.bool false)
  (
    purK (cvI .u32 x0) fun x12 =>
    purK (cvI .u32 x1) fun x14 =>
    resK (call lim 56 [x12, x14] H) fun x15 H =>
    purK (extA 0 x15) fun x16 =>
    purK (extA 1 x15) fun x17 =>
    purK (cvI .u64 x16) fun x19 =>
    purK (cvI .u64 x17) fun x21 =>
    retK [x19, x21] H)
  (
    resK (call lim 57 [x0, x1] H) fun x25 H =>
    purK (extA 0 x25) fun x26 =>
    purK (extA 1 x25) fun x27 =>
    J (Code.at [1, 1, 1] c50) (sp 30 [(8, x26), (9, x27)]) H (kk none (fun s H => retK (([4, 5] : List Nat).map fun t => s.getD t (.tup [])) H) [] retK [4, 5])) := by
  kernel_rfl
theorem G50 (ρ : Addr → Option Value) (call : CallF) (yc : YieldF) (lim k : Nat) (x0 x1 : AV) (H : Heap) :
    evL (cx ρ) call yc false 50 lim k c50 [x0, x1, (.tup []), (.tup []), (.tup []), (.tup []), (.tup []), (.tup []), (.tup []), (.tup []), (.tup []), (.tup []), (.tup []), (.tup []), (.tup []), (.tup []), (.tup []), (.tup []), (.tup []), (.tup []), (.tup []), (.tup []), (.tup []), (.tup []), (.tup []), (.tup []), (.tup []), (.tup []), (.tup []), (.tup [])] H (kk none (fun s H => retK (([4, 5] : List Nat).map fun t => s.getD t (.tup [])) H) [] retK [4, 5]) = L50 ρ call yc lim k x0 x1 H := by
  rw [evL_X, L50_x]
  simp only [← evL_X, L50, N50_1_eq]
theorem E50 (ρ : Addr → Option Value) (k lim : Nat) (x0 x1 : AV) (H : Heap) : evCall (cx ρ) (k + 1) lim 50 [x0, x1] H = L50 ρ (evCall (cx ρ) k) (evCY (cx ρ) k).2 lim k x0 x1 H := by
  rw [evCall_body (cx ρ) k lim 50 _ H Try.f50 c50 [4, 5] (by kernel_rfl) (by kernel_rfl) (by kernel_rfl) (by kernel_rfl) (by kernel_rfl)]
  exact G50 ρ (evCall (cx ρ) k) (evCY (cx ρ) k).2 lim k x0 x1 H
-- strings.HasPrefix
noncomputable def c51 : Code := Code.of Try.prog 51
noncomputable def L51 (ρ : Addr → Option Value) (call : CallF) (yc : YieldF) (lim k : Nat) (x0 x1 : AV) (H : Heap) : Res :=
  resK (call lim 58 [x0, x1] H) fun x7 H =>
  retK [x7] H
theorem G51 (ρ : Addr → Option Value) (call : CallF) (yc : YieldF) (lim k : Nat) (x0 x1 : AV) (H : Heap) :
    evL (cx ρ) call yc false 51 lim k c51 [x0, x1, (.tup []), (.tup []), (.tup []), (.tup []), (.tup []), (.tup [])] H (kk none (fun s H => retK (([4] : List Nat).map fun t => s.getD t (.tup [])) H) [] retK [4]) = L51 ρ call yc lim k x0 x1 H := by
  kernel_rfl
theorem E51 (ρ : Addr → Option Value) (k lim : Nat) (x0 x1 : AV) (H : Heap) : evCall (cx ρ) (k + 1) lim 51 [x0, x1] H = L51 ρ (evCall (cx ρ) k) (evCY (cx ρ) k).2 lim k x0 x1 H := by
  rw [evCall_body (cx ρ) k lim 51 _ H Try.f51 c51 [4] (by kernel_rfl) (by kernel_rfl) (by kernel_rfl) (by kernel_rfl) (by kernel_rfl)]
  exact G51 ρ (evCall (cx ρ) k) (evCY (cx ρ) k).2 lim k x0 x1 H
-- (*strings.Builder).Grow
noncomputable def c52 : Code := Code.of Try.prog 52
noncomputable def N52_1 (ρ : Addr → Option Value) (call : CallF) (yc : YieldF) (lim k : Nat) (x0 x1 : AV) (H : Heap) (R : List AV → Heap → Res) : Res :=
  purK (nilChkA x0) fun x10_1 =>
  purK (addA 1 x10_1) fun x11_1 =>
  purK (ld1 ρ H x11_1) fun x12_1 =>
  purK (capS x12_1) fun x13_1 =>
  purK (nilChkA x0) fun x15_1 =>
  purK (addA 1 x15_1) fun x16_1 =>
  purK (ld1 ρ H x16_1) fun x17_1 =>
  purK (lenS x17_1) fun x18_1 =>
  purK (binA Try.prog H .sub 3 x13_1 x18_1) fun x19_1 =>
  purK (binA Try.prog H .lss 3 x19_1 x1) fun x21_1 =>
  condK x21_1
  (
    resK (call lim 60 [x0, x1] H) fun x24_1 H =>
    R [] H)
  (
    R [] H)
theorem N52_1_eq (ρ : Addr → Option Value) (call : CallF) (yc : YieldF) (lim k : Nat) (x0 x1 : AV) (H : Heap) (R : List AV → Heap → Res) :
    evL (cx ρ) call yc false 52 lim k (Code.at [1, 1] c52) (sp 25 [(0, x0), (1, x1)]) H (kk none (fun s H => R (([] : List Nat).map fun t => s.getD t (.tup [])) H) [] R []) = N52_1 ρ call yc lim k x0 x1 H R := by
  kernel_rfl
noncomputable def L52 (ρ : Addr → Option Value) (call : CallF) (yc : YieldF) (lim k : Nat) (x0 x1 : AV) (H : Heap) : Res :=
  resK (call lim 59 [x0] H) fun x5 H =>
  purK (binA Try.prog H .lss 3 x1 (.int .i64 0)) fun x7 =>
  condK x7
  (
    effK H (none) fun _ H =>
    N52_1 ρ call yc lim k x0 x1 H retK)
  (
    N52_1 ρ call yc lim k x0 x1 H retK)
theorem L52_x (ρ : Addr → Option Value) (call : CallF) (yc : YieldF) (lim k : Nat) (J : CodeF) (x0 x1 : AV) (H : Heap) :
    evX (cx ρ) call yc false 52 lim k J c52 [x0, x1, (.tup []), (.tup []), (.tup []), (.tup []), (.tup []), (.tup []), (.tup []), (.tup []), (.tup []), (.tup []), (.tup []), (.tup []), (.tup []), (.tup []), (.tup []), (.tup []), (.tup []), (.tup []), (.tup []), (.tup []), (.tup []), (.tup []), (.tup [])] H (kk none (fun s H => retK (([] : List Nat).map fun t => s.getD t (.tup [])) H) [] retK []) =
  resK (call lim 59 [x0] H) fun x5 H =>
  purK (binA Try.prog H .lss 3 x1 (.int .i64 0)) fun x7 =>
  condK x7
  (
    effK H (none) fun _ H =>
    J (Code.at [1, 1] c52) (sp 25 [(0, x0), (1, x1)]) H (kk none (fun s H => retK (([] : List Nat).map fun t => s.getD t (.tup [])) H) [] retK []))
  (
    J (Code.at [1, 1] c52) (sp 25 [(0, x0), (1, x1)]) H (kk none (fun s H => retK (([] : List Nat).map fun t => s.getD t (.tup [])) H) [] retK [])) := by
  kernel_rfl
theorem G52 (ρ : Addr → Option Value) (call : CallF) (yc : YieldF) (lim k : Nat) (x0 x1 : AV) (H : Heap) :
    evL (cx ρ) call yc false 52 lim k c52 [x0, x1, (.tup []), (.tup []), (.tup []), (.tup []), (.tup []), (.tup []), (.tup []), (.tup []), (.tup []), (.tup []), (.tup []), (.tup []), (.tup []), (.tup []), (.tup []), (.tup []), (.tup []), (.tup []), (.tup []), (.tup []), (.tup []), (.tup []), (.tup [])] H (kk none (fun s H => retK (([] : List Nat).map fun t => s.getD t (.tup [])) H) [] retK []) = L52 ρ call yc lim k x0 x1 H := by
  rw [evL_X, L52_x]
  simp only [← evL_X, L52, N52_1_eq]
theorem E52 (ρ : Addr → Option Value) (k lim : Nat) (x0 x1 : AV) (H : Heap) : evCall (cx ρ) (k + 1) lim 52 [x0, x1] H = L52 ρ (evCall (cx ρ) k) (evCY (cx ρ) k).2 lim k x0 x1 H := by
  rw [evCall_body (cx ρ) k lim 52 _ H Try.f52 c52 [] (by kernel_rfl) (by kernel_rfl) (by kernel_rfl) (by kernel_rfl) (by kernel_rfl)]
  exact G52 ρ (evCall (cx ρ) k) (evCY (cx ρ) k).2 lim k x0 x1 H
-- (*strings.Builder).WriteString
noncomputable def c53 : Code := Code.of Try.prog 53
noncomputable def L53 (ρ : Addr → Option Value) (call : CallF) (yc : YieldF) (lim k : Nat) (x0 x1 : AV) (H : Heap) : Res :=
  resK (call lim 59 [x0] H) fun x7 H =>
  purK (nilChkA x0) fun x10 =>
  purK (addA 1 x10) fun x11 =>
  purK (ld1 ρ H x11) fun x12 =>
  effK H (apA ρ lim H 5 1 1 x12 x1) fun x14 H =>
  purK (nilChkA x0) fun x15 =>
  purK (addA 1 x15) fun x16 =>
  effK H (stA lim H 1 x16 x14) fun _ H =>
  purK (lenT x1) fun x18 =>
  retK [x18, .nili] H
theorem G53 (ρ : Addr → Option Value) (call : CallF) (yc : YieldF) (lim k : Nat) (x0 x1 : AV) (H : Heap) :
    evL (cx ρ) call yc false 53 lim k c53 [x0, x1, (.tup []), (.tup []), (.tup []), (.tup []), (.tup []), (.tup []), (.tup []), (.tup []), (.tup []), (.tup []), (.tup []), (.tup []), (.tup []), (.tup []), (.tup []), (.tup []), (.tup [])] H (kk none (fun s H => retK (([4, 5] : List Nat).map fun t => s.getD t (.tup [])) H) [] retK [4, 5]) = L53 ρ call yc lim k x0 x1 H := by
  kernel_rfl
theorem E53 (ρ : Addr → Option Value) (k lim : Nat) (x0 x1 : AV) (H : Heap) : evCall (cx ρ) (k + 1) lim 53 [x0, x1] H = L53 ρ (evCall (cx ρ) k) (evCY (cx ρ) k).2 lim k x0 x1 H := by
  rw [evCall_body (cx ρ) k lim 53 _ H Try.f53 c53 [4, 5] (by kernel_rfl) (by kernel_rfl) (by kernel_rfl) (by kernel_rfl) (by kernel_rfl)]
  exact G53 ρ (evCall (cx ρ) k) (evCY (cx ρ) k).2 lim k x0 x1 H
-- (*strings.Builder).Len
noncomputable def c54 : Code := Code.of Try.prog 54
noncomputable def L54 (ρ : Addr → Option Value) (call : CallF) (yc : YieldF) (lim k : Nat) (x0 : AV) (H : Heap) : Res :=
  purK (nilChkA x0) fun x4 =>
  purK (addA 1 x4) fun x5 =>
  purK (ld1 ρ H x5) fun x6 =>
  purK (lenS x6) fun x7 =>
  retK [x7] H
theorem G54 (ρ : Addr → Option Value) (call : CallF) (yc : YieldF) (lim k : Nat) (x0 : AV) (H : Heap) :
    evL (cx ρ) call yc false 54 lim k c54 [x0, (.tup []), (.tup []), (.tup []), (.tup []), (.tup []), (.tup []), (.tup [])] H (kk none (fun s H => retK (([2] : List Nat).map fun t => s.getD t (.tup [])) H) [] retK [2]) = L54 ρ call yc lim k x0 H := by
  kernel_rfl
theorem E54 (ρ : Addr → Option Value) (k lim : Nat) (x0 : AV) (H : Heap) : evCall (cx ρ) (k + 1) lim 54 [x0] H = L54 ρ (evCall (cx ρ) k) (evCY (cx ρ) k).2 lim k x0 H := by
  rw [evCall_body (cx ρ) k lim 54 _ H Try.f54 c54 [2] (by kernel_rfl) (by kernel_rfl) (by kernel_rfl) (by kernel_rfl) (by kernel_rfl)]
  exact G54 ρ (evCall (cx ρ) k) (evCY (cx ρ) k).2 lim k x0 H
-- (*strings.Builder).String
noncomputable def c55 : Code := Code.of Try.prog 55
noncomputable def L55 (ρ : Addr → Option Value) (call : CallF) (yc : YieldF) (lim k : Nat) (x0 : AV) (H : Heap) : Res :=
  purK (nilChkA x0) fun x4 =>
  purK (addA 1 x4) fun x5 =>
  purK (ld1 ρ H x5) fun x6 =>
  purK (nilChkA x0) fun x9 =>
  purK (addA 1 x9) fun x10 =>
  purK (ld1 ρ H x10) fun x11 =>
  purK (lenS x11) fun x12 =>
  effK H (builtinA (cx ρ) lim H .unsafeSliceData #[65] [x6]) fun x7 H => bif (agn (lenS x11) x12 && (agn (ld1 ρ H x10) x11 && true)) then
    effK H (builtinA (cx ρ) lim H .unsafeString #[93, 3] [x7, x12]) fun x13 H =>
    retK [x13] H
  else none
theorem G55 (ρ : Addr → Option Value) (call : CallF) (yc : YieldF) (lim k : Nat) (x0 : AV) (H : Heap) :
    evL (cx ρ) call yc false 55 lim k c55 [x0, (.tup []), (.tup []), (.tup []), (.tup []), (.tup []), (.tup []), (.tup []), (.tup []), (.tup []), (.tup []), (.tup []), (.tup []), (.tup [])] H (kk none (fun s H => retK (([2] : List Nat).map fun t => s.getD t (.tup [])) H) [] retK [2]) = L55 ρ call yc lim k x0 H := by
  kernel_rfl
theorem E55 (ρ : Addr → Option Value) (k lim : Nat) (x0 : AV) (H : Heap) : evCall (cx ρ) (k + 1) lim 55 [x0] H = L55 ρ (evCall (cx ρ) k) (evCY (cx ρ) k).2 lim k x0 H := by
  rw [evCall_body (cx ρ) k lim 55 _ H Try.f55 c55 [2] (by kernel_rfl) (by kernel_rfl) (by kernel_rfl) (by kernel_rfl) (by kernel_rfl)]
  exact G55 ρ (evCall (cx ρ) k) (evCY (cx ρ) k).2 lim k x0 H
-- math/bits.Mul32
noncomputable def c56 : Code := Code.of Try.prog 56
noncomputable def L56 (ρ : Addr → Option Value) (call : CallF) (yc : YieldF) (lim k : Nat) (x0 x1 : AV) (H : Heap) : Res :=
  purK (cvI .u64 x0) fun x8 =>
  purK (cvI .u64 x1) fun x10 =>
  purK (binA Try.prog H .mul 22 x8 x10) fun x11 =>
  purK (binA Try.prog H .shr 22 x11 (.int .u64 32)) fun x13 =>
  purK (cvI .u32 x13) fun x14 =>
  purK (cvI .u32 x11) fun x16 =>
  retK [x14, x16] H
theorem G56 (ρ : Addr → Option Value) (call : CallF) (yc : YieldF) (lim k : Nat) (x0 x1 : AV) (H : Heap) :
    evL (cx ρ) call yc false 56 lim k c56 [x0, x1, (.tup []), (.tup []), (.tup []), (.tup []), (.tup []), (.tup []), (.tup []), (.tup []), (.tup []), (.tup []), (.tup []), (.tup []), (.tup []), (.tup []), (.tup [])] H (kk none (fun s H => retK (([4, 5] : List Nat).map fun t => s.getD t (.tup [])) H) [] retK [4, 5]) = L56 ρ call yc lim k x0 x1 H := by
  kernel_rfl
theorem E56 (ρ : Addr → Option Value) (k lim : Nat) (x0 x1 : AV) (H : Heap) : evCall (cx ρ) (k + 1) lim 56 [x0, x1] H = L56 ρ (evCall (cx ρ) k) (evCY (cx ρ) k).2 lim k x0 x1 H := by
  rw [evCall_body (cx ρ) k lim 56 _ H Try.f56 c56 [4, 5] (by kernel_rfl) (by kernel_rfl) (by kernel_rfl) (by kernel_rfl) (by kernel_rfl)]
  exact G56 ρ (evCall (cx ρ) k) (evCY (cx ρ) k).2 lim k x0 x1 H
-- math/bits.Mul64
noncomputable def c57 : Code := Code.of Try.prog 57
noncomputable def N57_1 (ρ : Addr → Option Value) (call : CallF) (yc : YieldF) (lim k : Nat) (x0 x1 x6 x7 x9 x11 : AV) (H : Heap) (R : List AV → Heap → Res) : Res :=
  purK (binA Try.prog H .and 22 x11 (.int .u64 4294967295)) fun x32_1 =>
  purK (binA Try.prog H .shr 22 x11 (.int .u64 32)) fun x34_1 =>
  purK (binA Try.prog H .mul 22 x6 x9) fun x38_1 =>
  purK (binA Try.prog H .add 22 x32_1 x38_1) fun x39_1 =>
  purK (binA Try.prog H .mul 22 x7 x9) fun x42_1 =>
  purK (binA Try.prog H .add 22 x42_1 x34_1) fun x44_1 =>
  purK (binA Try.prog H .shr 22 x39_1 (.int .u64 32)) fun x46_1 =>
  purK (binA Try.prog H .add 22 x44_1 x46_1) fun x47_1 =>
  purK (binA Try.prog H .mul 22 x0 x1) fun x50_1 =>
  R [x47_1, x50_1] H
theorem N57_1_eq (ρ : Addr → Option Value) (call : CallF) (yc : YieldF) (lim k : Nat) (x0 x1 x6 x7 x9 x11 : AV) (H : Heap) (R : List AV → Heap → Res) :
    evL (cx ρ) call yc false 57 lim k (Code.at [1, 1, 1, 1, 1, 1, 1] c57) (sp 51 [(0, x0), (1, x1), (6, x6), (7, x7), (9, x9), (11, x11)]) H (kk none (fun s H => R (([4, 5] : List Nat).map fun t => s.getD t (.tup [])) H) [] R [4, 5]) = N57_1 ρ call yc lim k x0 x1 x6 x7 x9 x11 H R := by
  kernel_rfl
noncomputable def L57 (ρ : Addr → Option Value) (call : CallF) (yc : YieldF) (lim k : Nat) (x0 x1 : AV) (H : Heap) : Res :=
  purK (binA Try.prog H .and 22 x0 (.int .u64 4294967295)) fun x15 =>
  purK (binA Try.prog H .shr 22 x0 (.int .u64 32)) fun x17 =>
  purK (binA Try.prog H .and 22 x1 (.int .u64 4294967295)) fun x19 =>
  purK (binA Try.prog H .shr 22 x1 (.int .u64 32)) fun x21 =>
  purK (binA Try.prog H .mul 22 x15 x19) fun x24 =>
  purK (binA Try.prog H .mul 22 x17 x19) fun x27 =>
  purK (binA Try.prog H .shr 22 x24 (.int .u64 32)) fun x29 =>
  purK (binA Try.prog H .add 22 x27 x29) fun x30 =>
  N57_1 ρ call yc lim k x0 x1 x15 x17 x21 x30 H retK
theorem L57_x (ρ : Addr → Option Value) (call : CallF) (yc : YieldF) (lim k : Nat) (J : CodeF) (x0 x1 : AV) (H : Heap) :
    evX (cx ρ) call yc false 57 lim k J c57 [x0, x1, (.tup []), (.tup []), (.tup []), (.tup []), (.tup []), (.tup []), (.tup []), (.tup []), (.tup []), (.tup []), (.tup []), (.tup []), (.tup []), (.tup []), (.tup []), (.tup []), (.tup []), (.tup []), (.tup []), (.tup []), (.tup []), (.tup []), (.tup []), (.tup []), (.tup []), (.tup []), (.tup []), (.tup []), (.tup []), (.tup []), (.tup []), (.tup []), (.tup []), (.tup []), (.tup []), (.tup []), (.tup []), (.tup []), (.tup []), (.tup []), (.tup []), (.tup []), (.tup []), (.tup []), (.tup []), (.tup []), (.tup []), (.tup []), (.tup [])] H (kk none (fun s H => retK (([4, 5] : List Nat).map fun t => s.getD t (.tup [])) H) [] retK [4, 5]) =
  purK (binA Try.prog H .and 22 x0 (.int .u64 4294967295)) fun x15 =>
  purK (binA Try.prog H .shr 22 x0 (.int .u64 32)) fun x17 =>
  purK (binA Try.prog H .and 22 x1 (.int .u64 4294967295)) fun x19 =>
  purK (binA Try.prog H .shr 22 x1 (.int .u64 32)) fun x21 =>
  purK (binA Try.prog H .mul 22 x15 x19) fun x24 =>
  purK (binA Try.prog H .mul 22 x17 x19) fun x27 =>
  purK (binA Try.prog H .shr 22 x24 (.int .u64 32)) fun x29 =>
  purK (binA Try.prog H .add 22 x27 x29) fun x30 =>
  J (Code.at [1, 1, 1, 1, 1, 1, 1] c57) (sp 51 [(0, x0), (1, x1), (6, x15), (7, x17), (9, x21), (11, x30)]) H (kk none (fun s H => retK (([4, 5] : List Nat).map fun t => s.getD t (.tup [])) H) [] retK [4, 5]) := by
  kernel_rfl
theorem G57 (ρ : Addr → Option Value) (call : CallF) (yc : YieldF) (lim k : Nat) (x0 x1 : AV) (H : Heap) :
    evL (cx ρ) call yc false 57 lim k c57 [x0, x1, (.tup []), (.tup []), (.tup []), (.tup []), (.tup []), (.tup []), (.tup []), (.tup []), (.tup []), (.tup []), (.tup []), (.tup []), (.tup []), (.tup []), (.tup []), (.tup []), (.tup []), (.tup []), (.tup []), (.tup []), (.tup []), (.tup []), (.tup []), (.tup []), (.tup []), (.tup []), (.tup []), (.tup []), (.tup []), (.tup []), (.tup []), (.tup []), (.tup []), (.tup []), (.tup []), (.tup []), (.tup []), (.tup []), (.tup []), (.tup []), (.tup []), (.tup []), (.tup []), (.tup []), (.tup []), (.tup []), (.tup []), (.tup []), (.tup [])] H (kk none (fun s H => retK (([4, 5] : List Nat).map fun t => s.getD t (.tup [])) H) [] retK [4, 5]) = L57 ρ call yc lim k x0 x1 H := by
  rw [evL_X, L57_x]
  simp only [← evL_X, L57, N57_1_eq]
theorem E57 (ρ : Addr → Option Value) (k lim : Nat) (x0 x1 : AV) (H : Heap) : evCall (cx ρ) (k + 1) lim 57 [x0, x1] H = L57 ρ (evCall (cx ρ) k) (evCY (cx ρ) k).2 lim k x0 x1 H := by
  rw [evCall_body (cx ρ) k lim 57 _ H Try.f57 c57 [4, 5] (by kernel_rfl) (by kernel_rfl) (by kernel_rfl) (by kernel_rfl) (by kernel_rfl)]
  exact G57 ρ (evCall (cx ρ) k) (evCY (cx ρ) k).2 lim k x0 x1 H
-- internal/stringslite.HasPrefix
noncomputable def c58 : Code := Code.of Try.prog 58
noncomputable def L58 (ρ : Addr → Option Value) (call : CallF) (yc : YieldF) (lim k : Nat) (x0 x1 : AV) (H : Heap) : Res :=
  purK (lenT x0) fun x6 =>
  purK (lenT x1) fun x8 =>
  purK (binA Try.prog H .geq 3 x6 x8) fun x9 =>
  purK (gPur (wantV x9 true) (some x0)) fun x11 =>
  purK (gPur (wantV x9 true) (some x1)) fun x12 =>
  purK (gPur (wantV x9 true) (lenT x12)) fun x13 =>
  purK (gPur (wantV x9 true) (slT x11 none (some x13))) fun x14 =>
  purK (gPur (wantV x9 true) (some x1)) fun x15 =>
  purK (gPur (wantV x9 true) (binA Try.prog H .eql 9 x14 x15)) fun x16 =>
  purK (pickA x9 x16 (.bool false)) fun x17 =>
  retK [x17] H
theorem G58 (ρ : Addr → Option Value) (call : CallF) (yc : YieldF) (lim k : Nat) (x0 x1 : AV) (H : Heap) :
    evL (cx ρ) call yc false 58 lim k c58 [x0, x1, (.tup []), (.tup []), (.tup []), (.tup []), (.tup []), (.tup []), (.tup []), (.tup []), (.tup []), (.tup []), (.tup []), (.tup []), (.tup []), (.tup []), (.tup []), (.tup [])] H (kk none (fun s H => retK (([4] : List Nat).map fun t => s.getD t (.tup [])) H) [] retK [4]) = L58 ρ call yc lim k x0 x1 H := by
  kernel_rfl
theorem E58 (ρ : Addr → Option Value) (k lim : Nat) (x0 x1 : AV) (H : Heap) : evCall (cx ρ) (k + 1) lim 58 [x0, x1] H = L58 ρ (evCall (cx ρ) k) (evCY (cx ρ) k).2 lim k x0 x1 H := by
  rw [evCall_body (cx ρ) k lim 58 _ H Try.f58 c58 [4] (by kernel_rfl) (by kernel_rfl) (by kernel_rfl) (by kernel_rfl) (by kernel_rfl)]
  exact G58 ρ (evCall (cx ρ) k) (evCY (cx ρ) k).2 lim k x0 x1 H
end Go.Proofs.Ytcjicmabhejllaa

-- part Pn6
/- Functions, lifted. Printed by a program of this repo. -/
set_option linter.unusedVariables false
set_option linter.unusedSimpArgs false
set_option maxRecDepth 100000
set_option maxHeartbeats 4000000
namespace Go.Proofs.Ytcjicmabhejllaa
open Go.Ev Go.RowKit
-- (*strings.Builder).copyCheck
noncomputable def c59 : Code := Code.of Try.prog 59
noncomputable def L59 (ρ : Addr → Option Value) (call : CallF) (yc : YieldF) (lim k : Nat) (x0 : AV) (H : Heap) : Res :=
  purK (nilChkA x0) fun x3 =>
  purK (addA 0 x3) fun x4 =>
  purK (ld1 ρ H x4) fun x5 =>
  purK (binA Try.prog H .eql 79 x5 .nilp) fun x6 =>
  condK x6
  (
    purK (convXA (cx ρ) H 79 94 x0) fun x9 =>
    resK (call lim 61 [x9] H) fun x10 H =>
    purK (convXA (cx ρ) H 94 79 x10) fun x11 =>
    purK (nilChkA x0) fun x12 =>
    purK (addA 0 x12) fun x13 =>
    effK H (stA lim H 1 x13 x11) fun _ H =>
    retK [] H)
  (
    purK (nilChkA x0) fun x15 =>
    purK (addA 0 x15) fun x16 =>
    purK (ld1 ρ H x16) fun x17 =>
    purK (binA Try.prog H .neq 79 x17 x0) fun x19 =>
    condK x19
    (
      none)
    (
      retK [] H))
theorem G59 (ρ : Addr → Option Value) (call : CallF) (yc : YieldF) (lim k : Nat) (x0 : AV) (H : Heap) :
    evL (cx ρ) call yc false 59 lim k c59 [x0, (.tup []), (.tup []), (.tup []), (.tup []), (.tup []), (.tup []), (.tup []), (.tup []), (.tup []), (.tup []), (.tup []), (.tup []), (.tup []), (.tup []), (.tup []), (.tup []), (.tup []), (.tup []), (.tup [])] H (kk none (fun s H => retK (([] : List Nat).map fun t => s.getD t (.tup [])) H) [] retK []) = L59 ρ call yc lim k x0 H := by
  kernel_rfl
theorem E59 (ρ : Addr → Option Value) (k lim : Nat) (x0 : AV) (H : Heap) : evCall (cx ρ) (k + 1) lim 59 [x0] H = L59 ρ (evCall (cx ρ) k) (evCY (cx ρ) k).2 lim k x0 H := by
  rw [evCall_body (cx ρ) k lim 59 _ H Try.f59 c59 [] (by kernel_rfl) (by kernel_rfl) (by kernel_rfl) (by kernel_rfl) (by kernel_rfl)]
  exact G59 ρ (evCall (cx ρ) k) (evCY (cx ρ) k).2 lim k x0 H
-- (*strings.Builder).grow
noncomputable def c60 : Code := Code.of Try.prog 60
noncomputable def L60 (ρ : Addr → Option Value) (call : CallF) (yc : YieldF) (lim k : Nat) (x0 x1 : AV) (H : Heap) : Res :=
  purK (nilChkA x0) fun x6 =>
  purK (addA 1 x6) fun x7 =>
  purK (ld1 ρ H x7) fun x8 =>
  purK (capS x8) fun x9 =>
  purK (binA Try.prog H .mul 3 (.int .i64 2) x9) fun x10 =>
  purK (binA Try.prog H .add 3 x10 x1) fun x12 =>
  purK (nilChkA x0) fun x15 =>
  purK (addA 1 x15) fun x16 =>
  purK (ld1 ρ H x16) fun x17 =>
  purK (lenS x17) fun x18 =>
  resK (call lim 62 [x12] H) fun x13 H => bif (agn (lenS x17) x18 && (agn (ld1 ρ H x16) x17 && true)) then
    purK (slS 1 x13 none (some x18) none) fun x19 =>
    purK (nilChkA x0) fun x22 =>
    purK (addA 1 x22) fun x23 =>
    purK (ld1 ρ H x23) fun x24 =>
    effK H (builtinA (cx ρ) lim H .copy #[65, 65] [x19, x24]) fun x25 H =>
    purK (nilChkA x0) fun x28 =>
    purK (addA 1 x28) fun x29 =>
    effK H (stA lim H 1 x29 x19) fun _ H =>
    retK [] H
  else none
theorem G60 (ρ : Addr → Option Value) (call : CallF) (yc : YieldF) (lim k : Nat) (x0 x1 : AV) (H : Heap) :
    evL (cx ρ) call yc false 60 lim k c60 [x0, x1, (.tup []), (.tup []), (.tup []), (.tup []), (.tup []), (.tup []), (.tup []), (.tup []), (.tup []), (.tup []), (.tup []), (.tup []), (.tup []), (.tup []), (.tup []), (.tup []), (.tup []), (.tup []), (.tup []), (.tup []), (.tup []), (.tup []), (.tup []), (.tup []), (.tup []), (.tup []), (.tup []), (.tup [])] H (kk none (fun s H => retK (([] : List Nat).map fun t => s.getD t (.tup [])) H) [] retK []) = L60 ρ call yc lim k x0 x1 H := by
  kernel_rfl
theorem E60 (ρ : Addr → Option Value) (k lim : Nat) (x0 x1 : AV) (H : Heap) : evCall (cx ρ) (k + 1) lim 60 [x0, x1] H = L60 ρ (evCall (cx ρ) k) (evCY (cx ρ) k).2 lim k x0 x1 H := by
  rw [evCall_body (cx ρ) k lim 60 _ H Try.f60 c60 [] (by kernel_rfl) (by kernel_rfl) (by kernel_rfl) (by kernel_rfl) (by kernel_rfl)]
  exact G60 ρ (evCall (cx ρ) k) (evCY (cx ρ) k).2 lim k x0 x1 H
end Go.Proofs.Ytcjicmabhejllaa

-- part Pn
/- All functions that are lifted. Printed by a program of this repo. -/
set_option linter.unusedVariables false
set_option linter.unusedSimpArgs false
set_option maxRecDepth 100000
set_option maxHeartbeats 4000000
namespace Go.Proofs.Ytcjicmabhejllaa
open Go.Ev Go.RowKit

theorem ldT39 (ρ : Addr → Option Value) (H : Heap) (x : AV) : loadA (cx ρ) H 39 x = ldN ρ H 4 x := by kernel_rfl
theorem ldT42 (ρ : Addr → Option Value) (H : Heap) (x : AV) : loadA (cx ρ) H 42 x = ldN ρ H 8 x := by kernel_rfl
noncomputable def tr7 (ρ : Addr → Option Value) (c : CallF) (y : YieldF) (k : Nat) : DT := .node 7 (ar3 (fun lim a0 a1 a2 H => L7 ρ c y lim k a0 a1 a2 H) (fun lim args H => slowF (cx ρ) c y k lim 7 args H)) .leaf .leaf
theorem tr7_all (ρ : Addr → Option Value) (k : Nat) : (tr7 ρ (evCY (cx ρ) k).1 (evCY (cx ρ) k).2 k).All fun f h => h = fun lim args H => (evCY (cx ρ) (k + 1)).1 lim f args H :=
  ⟨ar3_eq (F := fun lim args H => (evCY (cx ρ) (k + 1)).1 lim 7 args H) (slow_at (cx ρ) k 7) (fun lim a0 a1 a2 H => E7 ρ k lim a0 a1 a2 H), trivial, trivial⟩
noncomputable def tr8 (ρ : Addr → Option Value) (c : CallF) (y : YieldF) (k : Nat) : DT := .node 8 (ar4 (fun lim a0 a1 a2 a3 H => L8 ρ c y lim k a0 a1 a2 a3 H) (fun lim args H => slowF (cx ρ) c y k lim 8 args H)) (tr7 ρ c y k) .leaf
theorem tr8_all (ρ : Addr → Option Value) (k : Nat) : (tr8 ρ (evCY (cx ρ) k).1 (evCY (cx ρ) k).2 k).All fun f h => h = fun lim args H => (evCY (cx ρ) (k + 1)).1 lim f args H :=
  ⟨ar4_eq (F := fun lim args H => (evCY (cx ρ) (k + 1)).1 lim 8 args H) (slow_at (cx ρ) k 8) (fun lim a0 a1 a2 a3 H => E8 ρ k lim a0 a1 a2 a3 H), tr7_all ρ k, trivial⟩
noncomputable def tr10 (ρ : Addr → Option Value) (c : CallF) (y : YieldF) (k : Nat) : DT := .node 10 (ar1 (fun lim a0 H => L10 ρ c y lim k a0 H) (fun lim args H => slowF (cx ρ) c y k lim 10 args H)) .leaf .leaf
theorem tr10_all (ρ : Addr → Option Value) (k : Nat) : (tr10 ρ (evCY (cx ρ) k).1 (evCY (cx ρ) k).2 k).All fun f h => h = fun lim args H => (evCY (cx ρ) (k + 1)).1 lim f args H :=
  ⟨ar1_eq (F := fun lim args H => (evCY (cx ρ) (k + 1)).1 lim 10 args H) (slow_at (cx ρ) k 10) (fun lim a0 H => E10 ρ k lim a0 H), trivial, trivial⟩
noncomputable def tr11 (ρ : Addr → Option Value) (c : CallF) (y : YieldF) (k : Nat) : DT := .node 11 (ar1 (fun lim a0 H => L11 ρ c y lim k a0 H) (fun lim args H => slowF (cx ρ) c y k lim 11 args H)) (tr10 ρ c y k) .leaf
theorem tr11_all (ρ : Addr → Option Value) (k : Nat) : (tr11 ρ (evCY (cx ρ) k).1 (evCY (cx ρ) k).2 k).All fun f h => h = fun lim args H => (evCY (cx ρ) (k + 1)).1 lim f args H :=
  ⟨ar1_eq (F := fun lim args H => (evCY (cx ρ) (k + 1)).1 lim 11 args H) (slow_at (cx ρ) k 11) (fun lim a0 H => E11 ρ k lim a0 H), tr10_all ρ k, trivial⟩
noncomputable def tr9 (ρ : Addr → Option Value) (c : CallF) (y : YieldF) (k : Nat) : DT := .node 9 (ar0 (fun lim H => L9 ρ c y lim k H) (fun lim args H => slowF (cx ρ) c y k lim 9 args H)) (tr8 ρ c y k) (tr11 ρ c y k)
theorem tr9_all (ρ : Addr → Option Value) (k : Nat) : (tr9 ρ (evCY (cx ρ) k).1 (evCY (cx ρ) k).2 k).All fun f h => h = fun lim args H => (evCY (cx ρ) (k + 1)).1 lim f args H :=
  ⟨ar0_eq (F := fun lim args H => (evCY (cx ρ) (k + 1)).1 lim 9 args H) (slow_at (cx ρ) k 9) (fun lim H => E9 ρ k lim H), tr8_all ρ k, tr11_all ρ k⟩
noncomputable def tr24 (ρ : Addr → Option Value) (c : CallF) (y : YieldF) (k : Nat) : DT := .node 24 (ar3 (fun lim a0 a1 a2 H => L24 ρ c y lim k a0 a1 a2 H) (fun lim args H => slowF (cx ρ) c y k lim 24 args H)) .leaf .leaf
theorem tr24_all (ρ : Addr → Option Value) (k : Nat) : (tr24 ρ (evCY (cx ρ) k).1 (evCY (cx ρ) k).2 k).All fun f h => h = fun lim args H => (evCY (cx ρ) (k + 1)).1 lim f args H :=
  ⟨ar3_eq (F := fun lim args H => (evCY (cx ρ) (k + 1)).1 lim 24 args H) (slow_at (cx ρ) k 24) (fun lim a0 a1 a2 H => E24 ρ k lim a0 a1 a2 H), trivial, trivial⟩
noncomputable def tr25 (ρ : Addr → Option Value) (c : CallF) (y : YieldF) (k : Nat) : DT := .node 25 (ar2 (fun lim a0 a1 H => L25 ρ c y lim k a0 a1 H) (fun lim args H => slowF (cx ρ) c y k lim 25 args H)) (tr24 ρ c y k) .leaf
theorem tr25_all (ρ : Addr → Option Value) (k : Nat) : (tr25 ρ (evCY (cx ρ) k).1 (evCY (cx ρ) k).2 k).All fun f h => h = fun lim args H => (evCY (cx ρ) (k + 1)).1 lim f args H :=
  ⟨ar2_eq (F := fun lim args H => (evCY (cx ρ) (k + 1)).1 lim 25 args H) (slow_at (cx ρ) k 25) (fun lim a0 a1 H => E25 ρ k lim a0 a1 H), tr24_all ρ k, trivial⟩
noncomputable def tr27 (ρ : Addr → Option Value) (c : CallF) (y : YieldF) (k : Nat) : DT := .node 27 (ar1 (fun lim a0 H => L27 ρ c y lim k a0 H) (fun lim args H => slowF (cx ρ) c y k lim 27 args H)) .leaf .leaf
theorem tr27_all (ρ : Addr → Option Value) (k : Nat) : (tr27 ρ (evCY (cx ρ) k).1 (evCY (cx ρ) k).2 k).All fun f h => h = fun lim args H => (evCY (cx ρ) (k + 1)).1 lim f args H :=
  ⟨ar1_eq (F := fun lim args H => (evCY (cx ρ) (k + 1)).1 lim 27 args H) (slow_at (cx ρ) k 27) (fun lim a0 H => E27 ρ k lim a0 H), trivial, trivial⟩
noncomputable def tr26 (ρ : Addr → Option Value) (c : CallF) (y : YieldF) (k : Nat) : DT := .node 26 (ar1 (fun lim a0 H => L26 ρ c y lim k a0 H) (fun lim args H => slowF (cx ρ) c y k lim 26 args H)) (tr25 ρ c y k) (tr27 ρ c y k)
theorem tr26_all (ρ : Addr → Option Value) (k : Nat) : (tr26 ρ (evCY (cx ρ) k).1 (evCY (cx ρ) k).2 k).All fun f h => h = fun lim args H => (evCY (cx ρ) (k + 1)).1 lim f args H :=
  ⟨ar1_eq (F := fun lim args H => (evCY (cx ρ) (k + 1)).1 lim 26 args H) (slow_at (cx ρ) k 26) (fun lim a0 H => E26 ρ k lim a0 H), tr25_all ρ k, tr27_all ρ k⟩
noncomputable def tr23 (ρ : Addr → Option Value) (c : CallF) (y : YieldF) (k : Nat) : DT := .node 23 (ar3 (fun lim a0 a1 a2 H => L23 ρ c y lim k a0 a1 a2 H) (fun lim args H => slowF (cx ρ) c y k lim 23 args H)) (tr9 ρ c y k) (tr26 ρ c y k)
theorem tr23_all (ρ : Addr → Option Value) (k : Nat) : (tr23 ρ (evCY (cx ρ) k).1 (evCY (cx ρ) k).2 k).All fun f h => h = fun lim args H => (evCY (cx ρ) (k + 1)).1 lim f args H :=
  ⟨ar3_eq (F := fun lim args H => (evCY (cx ρ) (k + 1)).1 lim 23 args H) (slow_at (cx ρ) k 23) (fun lim a0 a1 a2 H => E23 ρ k lim a0 a1 a2 H), tr9_all ρ k, tr26_all ρ k⟩
noncomputable def tr29 (ρ : Addr → Option Value) (c : CallF) (y : YieldF) (k : Nat) : DT := .node 29 (ar2 (fun lim a0 a1 H => L29 ρ c y lim k a0 a1 H) (fun lim args H => slowF (cx ρ) c y k lim 29 args H)) .leaf .leaf
theorem tr29_all (ρ : Addr → Option Value) (k : Nat) : (tr29 ρ (evCY (cx ρ) k).1 (evCY (cx ρ) k).2 k).All fun f h => h = fun lim args H => (evCY (cx ρ) (k + 1)).1 lim f args H :=
  ⟨ar2_eq (F := fun lim args H => (evCY (cx ρ) (k + 1)).1 lim 29 args H) (slow_at (cx ρ) k 29) (fun lim a0 a1 H => E29 ρ k lim a0 a1 H), trivial, trivial⟩
noncomputable def tr30 (ρ : Addr → Option Value) (c : CallF) (y : YieldF) (k : Nat) : DT := .node 30 (ar2 (fun lim a0 a1 H => L30 ρ c y lim k a0 a1 H) (fun lim args H => slowF (cx ρ) c y k lim 30 args H)) (tr29 ρ c y k) .leaf
theorem tr30_all (ρ : Addr → Option Value) (k : Nat) : (tr30 ρ (evCY (cx ρ) k).1 (evCY (cx ρ) k).2 k).All fun f h => h = fun lim args H => (evCY (cx ρ) (k + 1)).1 lim f args H :=
  ⟨ar2_eq (F := fun lim args H => (evCY (cx ρ) (k + 1)).1 lim 30 args H) (slow_at (cx ρ) k 30) (fun lim a0 a1 H => E30 ρ k lim a0 a1 H), tr29_all ρ k, trivial⟩
noncomputable def tr32 (ρ : Addr → Option Value) (c : CallF) (y : YieldF) (k : Nat) : DT := .node 32 (ar2 (fun lim a0 a1 H => L32 ρ c y lim k a0 a1 H) (fun lim args H => slowF (cx ρ) c y k lim 32 args H)) .leaf .leaf
theorem tr32_all (ρ : Addr → Option Value) (k : Nat) : (tr32 ρ (evCY (cx ρ) k).1 (evCY (cx ρ) k).2 k).All fun f h => h = fun lim args H => (evCY (cx ρ) (k + 1)).1 lim f args H :=
  ⟨ar2_eq (F := fun lim args H => (evCY (cx ρ) (k + 1)).1 lim 32 args H) (slow_at (cx ρ) k 32) (fun lim a0 a1 H => E32 ρ k lim a0 a1 H), trivial, trivial⟩
noncomputable def tr31 (ρ : Addr → Option Value) (c : CallF) (y : YieldF) (k : Nat) : DT := .node 31 (ar1 (fun lim a0 H => L31 ρ c y lim k a0 H) (fun lim args H => slowF (cx ρ) c y k lim 31 args H)) (tr30 ρ c y k) (tr32 ρ c y k)
theorem tr31_all (ρ : Addr → Option Value) (k : Nat) : (tr31 ρ (evCY (cx ρ) k).1 (evCY (cx ρ) k).2 k).All fun f h => h = fun lim args H => (evCY (cx ρ) (k + 1)).1 lim f args H :=
  ⟨ar1_eq (F := fun lim args H => (evCY (cx ρ) (k + 1)).1 lim 31 args H) (slow_at (cx ρ) k 31) (fun lim a0 H => E31 ρ k lim a0 H), tr30_all ρ k, tr32_all ρ k⟩
noncomputable def tr35 (ρ : Addr → Option Value) (c : CallF) (y : YieldF) (k : Nat) : DT := .node 35 (ar2 (fun lim a0 a1 H => L35 ρ c y lim k a0 a1 H) (fun lim args H => slowF (cx ρ) c y k lim 35 args H)) .leaf .leaf
theorem tr35_all (ρ : Addr → Option Value) (k : Nat) : (tr35 ρ (evCY (cx ρ) k).1 (evCY (cx ρ) k).2 k).All fun f h => h = fun lim args H => (evCY (cx ρ) (k + 1)).1 lim f args H :=
  ⟨ar2_eq (F := fun lim args H => (evCY (cx ρ) (k + 1)).1 lim 35 args H) (slow_at (cx ρ) k 35) (fun lim a0 a1 H => E35 ρ k lim a0 a1 H), trivial, trivial⟩
noncomputable def tr36 (ρ : Addr → Option Value) (c : CallF) (y : YieldF) (k : Nat) : DT := .node 36 (ar1 (fun lim a0 H => L36 ρ c y lim k a0 H) (fun lim args H => slowF (cx ρ) c y k lim 36 args H)) (tr35 ρ c y k) .leaf
theorem tr36_all (ρ : Addr → Option Value) (k : Nat) : (tr36 ρ (evCY (cx ρ) k).1 (evCY (cx ρ) k).2 k).All fun f h => h = fun lim args H => (evCY (cx ρ) (k + 1)).1 lim f args H :=
  ⟨ar1_eq (F := fun lim args H => (evCY (cx ρ) (k + 1)).1 lim 36 args H) (slow_at (cx ρ) k 36) (fun lim a0 H => E36 ρ k lim a0 H), tr35_all ρ k, trivial⟩
noncomputable def tr38 (ρ : Addr → Option Value) (c : CallF) (y : YieldF) (k : Nat) : DT := .node 38 (ar2 (fun lim a0 a1 H => L38 ρ c y lim k a0 a1 H) (fun lim args H => slowF (cx ρ) c y k lim 38 args H)) .leaf .leaf
theorem tr38_all (ρ : Addr → Option Value) (k : Nat) : (tr38 ρ (evCY (cx ρ) k).1 (evCY (cx ρ) k).2 k).All fun f h => h = fun lim args H => (evCY (cx ρ) (k + 1)).1 lim f args H :=
  ⟨ar2_eq (F := fun lim args H => (evCY (cx ρ) (k + 1)).1 lim 38 args H) (slow_at (cx ρ) k 38) (fun lim a0 a1 H => E38 ρ k lim a0 a1 H), trivial, trivial⟩
noncomputable def tr37 (ρ : Addr → Option Value) (c : CallF) (y : YieldF) (k : Nat) : DT := .node 37 (ar1 (fun lim a0 H => L37 ρ c y lim k a0 H) (fun lim args H => slowF (cx ρ) c y k lim 37 args H)) (tr36 ρ c y k) (tr38 ρ c y k)
theorem tr37_all (ρ : Addr → Option Value) (k : Nat) : (tr37 ρ (evCY (cx ρ) k).1 (evCY (cx ρ) k).2 k).All fun f h => h = fun lim args H => (evCY (cx ρ) (k + 1)).1 lim f args H :=
  ⟨ar1_eq (F := fun lim args H => (evCY (cx ρ) (k + 1)).1 lim 37 args H) (slow_at (cx ρ) k 37) (fun lim a0 H => E37 ρ k lim a0 H), tr36_all ρ k, tr38_all ρ k⟩
noncomputable def tr34 (ρ : Addr → Option Value) (c : CallF) (y : YieldF) (k : Nat) : DT := .node 34 (ar2 (fun lim a0 a1 H => L34 ρ c y lim k a0 a1 H) (fun lim args H => slowF (cx ρ) c y k lim 34 args H)) (tr31 ρ c y k) (tr37 ρ c y k)
theorem tr34_all (ρ : Addr → Option Value) (k : Nat) : (tr34 ρ (evCY (cx ρ) k).1 (evCY (cx ρ) k).2 k).All fun f h => h = fun lim args H => (evCY (cx ρ) (k + 1)).1 lim f args H :=
  ⟨ar2_eq (F := fun lim args H => (evCY (cx ρ) (k + 1)).1 lim 34 args H) (slow_at (cx ρ) k 34) (fun lim a0 a1 H => E34 ρ k lim a0 a1 H), tr31_all ρ k, tr37_all ρ k⟩
noncomputable def tr28 (ρ : Addr → Option Value) (c : CallF) (y : YieldF) (k : Nat) : DT := .node 28 (ar2 (fun lim a0 a1 H => L28 ρ c y lim k a0 a1 H) (fun lim args H => slowF (cx ρ) c y k lim 28 args H)) (tr23 ρ c y k) (tr34 ρ c y k)
theorem tr28_all (ρ : Addr → Option Value) (k : Nat) : (tr28 ρ (evCY (cx ρ) k).1 (evCY (cx ρ) k).2 k).All fun f h => h = fun lim args H => (evCY (cx ρ) (k + 1)).1 lim f args H :=
  ⟨ar2_eq (F := fun lim args H => (evCY (cx ρ) (k + 1)).1 lim 28 args H) (slow_at (cx ρ) k 28) (fun lim a0 a1 H => E28 ρ k lim a0 a1 H), tr23_all ρ k, tr34_all ρ k⟩
noncomputable def tr42 (ρ : Addr → Option Value) (c : CallF) (y : YieldF) (k : Nat) : DT := .node 42 (ar2 (fun lim a0 a1 H => L42 ρ c y lim k a0 a1 H) (fun lim args H => slowF (cx ρ) c y k lim 42 args H)) .leaf .leaf
theorem tr42_all (ρ : Addr → Option Value) (k : Nat) : (tr42 ρ (evCY (cx ρ) k).1 (evCY (cx ρ) k).2 k).All fun f h => h = fun lim args H => (evCY (cx ρ) (k + 1)).1 lim f args H :=
  ⟨ar2_eq (F := fun lim args H => (evCY (cx ρ) (k + 1)).1 lim 42 args H) (slow_at (cx ρ) k 42) (fun lim a0 a1 H => E42 ρ k lim a0 a1 H), trivial, trivial⟩
noncomputable def tr43 (ρ : Addr → Option Value) (c : CallF) (y : YieldF) (k : Nat) : DT := .node 43 (ar2 (fun lim a0 a1 H => L43 ρ c y lim k a0 a1 H) (fun lim args H => slowF (cx ρ) c y k lim 43 args H)) (tr42 ρ c y k) .leaf
theorem tr43_all (ρ : Addr → Option Value) (k : Nat) : (tr43 ρ (evCY (cx ρ) k).1 (evCY (cx ρ) k).2 k).All fun f h => h = fun lim args H => (evCY (cx ρ) (k + 1)).1 lim f args H :=
  ⟨ar2_eq (F := fun lim args H => (evCY (cx ρ) (k + 1)).1 lim 43 args H) (slow_at (cx ρ) k 43) (fun lim a0 a1 H => E43 ρ k lim a0 a1 H), tr42_all ρ k, trivial⟩
noncomputable def tr45 (ρ : Addr → Option Value) (c : CallF) (y : YieldF) (k : Nat) : DT := .node 45 (ar2 (fun lim a0 a1 H => L45 ρ c y lim k a0 a1 H) (fun lim args H => slowF (cx ρ) c y k lim 45 args H)) .leaf .leaf
theorem tr45_all (ρ : Addr → Option Value) (k : Nat) : (tr45 ρ (evCY (cx ρ) k).1 (evCY (cx ρ) k).2 k).All fun f h => h = fun lim args H => (evCY (cx ρ) (k + 1)).1 lim f args H :=
  ⟨ar2_eq (F := fun lim args H => (evCY (cx ρ) (k + 1)).1 lim 45 args H) (slow_at (cx ρ) k 45) (fun lim a0 a1 H => E45 ρ k lim a0 a1 H), trivial, trivial⟩
noncomputable def tr44 (ρ : Addr → Option Value) (c : CallF) (y : YieldF) (k : Nat) : DT := .node 44 (ar2 (fun lim a0 a1 H => L44 ρ c y lim k a0 a1 H) (fun lim args H => slowF (cx ρ) c y k lim 44 args H)) (tr43 ρ c y k) (tr45 ρ c y k)
theorem tr44_all (ρ : Addr → Option Value) (k : Nat) : (tr44 ρ (evCY (cx ρ) k).1 (evCY (cx ρ) k).2 k).All fun f h => h = fun lim args H => (evCY (cx ρ) (k + 1)).1 lim f args H :=
  ⟨ar2_eq (F := fun lim args H => (evCY (cx ρ) (k + 1)).1 lim 44 args H) (slow_at (cx ρ) k 44) (fun lim a0 a1 H => E44 ρ k lim a0 a1 H), tr43_all ρ k, tr45_all ρ k⟩
noncomputable def tr47 (ρ : Addr → Option Value) (c : CallF) (y : YieldF) (k : Nat) : DT := .node 47 (ar2 (fun lim a0 a1 H => L47 ρ c y lim k a0 a1 H) (fun lim args H => slowF (cx ρ) c y k lim 47 args H)) .leaf .leaf
theorem tr47_all (ρ : Addr → Option Value) (k : Nat) : (tr47 ρ (evCY (cx ρ) k).1 (evCY (cx ρ) k).2 k).All fun f h => h = fun lim args H => (evCY (cx ρ) (k + 1)).1 lim f args H :=
  ⟨ar2_eq (F := fun lim args H => (evCY (cx ρ) (k + 1)).1 lim 47 args H) (slow_at (cx ρ) k 47) (fun lim a0 a1 H => E47 ρ k lim a0 a1 H), trivial, trivial⟩
noncomputable def tr48 (ρ : Addr → Option Value) (c : CallF) (y : YieldF) (k : Nat) : DT := .node 48 (ar2 (fun lim a0 a1 H => L48 ρ c y lim k a0 a1 H) (fun lim args H => slowF (cx ρ) c y k lim 48 args H)) (tr47 ρ c y k) .leaf
theorem tr48_all (ρ : Addr → Option Value) (k : Nat) : (tr48 ρ (evCY (cx ρ) k).1 (evCY (cx ρ) k).2 k).All fun f h => h = fun lim args H => (evCY (cx ρ) (k + 1)).1 lim f args H :=
  ⟨ar2_eq (F := fun lim args H => (evCY (cx ρ) (k + 1)).1 lim 48 args H) (slow_at (cx ρ) k 48) (fun lim a0 a1 H => E48 ρ k lim a0 a1 H), tr47_all ρ k, trivial⟩
noncomputable def tr50 (ρ : Addr → Option Value) (c : CallF) (y : YieldF) (k : Nat) : DT := .node 50 (ar2 (fun lim a0 a1 H => L50 ρ c y lim k a0 a1 H) (fun lim args H => slowF (cx ρ) c y k lim 50 args H)) .leaf .leaf
theorem tr50_all (ρ : Addr → Option Value) (k : Nat) : (tr50 ρ (evCY (cx ρ) k).1 (evCY (cx ρ) k).2 k).All fun f h => h = fun lim args H => (evCY (cx ρ) (k + 1)).1 lim f args H :=
  ⟨ar2_eq (F := fun lim args H => (evCY (cx ρ) (k + 1)).1 lim 50 args H) (slow_at (cx ρ) k 50) (fun lim a0 a1 H => E50 ρ k lim a0 a1 H), trivial, trivial⟩
noncomputable def tr49 (ρ : Addr → Option Value) (c : CallF) (y : YieldF) (k : Nat) : DT := .node 49 (ar2 (fun lim a0 a1 H => L49 ρ c y lim k a0 a1 H) (fun lim args H => slowF (cx ρ) c y k lim 49 args H)) (tr48 ρ c y k) (tr50 ρ c y k)
theorem tr49_all (ρ : Addr → Option Value) (k : Nat) : (tr49 ρ (evCY (cx ρ) k).1 (evCY (cx ρ) k).2 k).All fun f h => h = fun lim args H => (evCY (cx ρ) (k + 1)).1 lim f args H :=
  ⟨ar2_eq (F := fun lim args H => (evCY (cx ρ) (k + 1)).1 lim 49 args H) (slow_at (cx ρ) k 49) (fun lim a0 a1 H => E49 ρ k lim a0 a1 H), tr48_all ρ k, tr50_all ρ k⟩
noncomputable def tr46 (ρ : Addr → Option Value) (c : CallF) (y : YieldF) (k : Nat) : DT := .node 46 (ar2 (fun lim a0 a1 H => L46 ρ c y lim k a0 a1 H) (fun lim args H => slowF (cx ρ) c y k lim 46 args H)) (tr44 ρ c y k) (tr49 ρ c y k)
theorem tr46_all (ρ : Addr → Option Value) (k : Nat) : (tr46 ρ (evCY (cx ρ) k).1 (evCY (cx ρ) k).2 k).All fun f h => h = fun lim args H => (evCY (cx ρ) (k + 1)).1 lim f args H :=
  ⟨ar2_eq (F := fun lim args H => (evCY (cx ρ) (k + 1)).1 lim 46 args H) (slow_at (cx ρ) k 46) (fun lim a0 a1 H => E46 ρ k lim a0 a1 H), tr44_all ρ k, tr49_all ρ k⟩
noncomputable def tr52 (ρ : Addr → Option Value) (c : CallF) (y : YieldF) (k : Nat) : DT := .node 52 (ar2 (fun lim a0 a1 H => L52 ρ c y lim k a0 a1 H) (fun lim args H => slowF (cx ρ) c y k lim 52 args H)) .leaf .leaf
theorem tr52_all (ρ : Addr → Option Value) (k : Nat) : (tr52 ρ (evCY (cx ρ) k).1 (evCY (cx ρ) k).2 k).All fun f h => h = fun lim args H => (evCY (cx ρ) (k + 1)).1 lim f args H :=
  ⟨ar2_eq (F := fun lim args H => (evCY (cx ρ) (k + 1)).1 lim 52 args H) (slow_at (cx ρ) k 52) (fun lim a0 a1 H => E52 ρ k lim a0 a1 H), trivial, trivial⟩
noncomputable def tr53 (ρ : Addr → Option Value) (c : CallF) (y : YieldF) (k : Nat) : DT := .node 53 (ar2 (fun lim a0 a1 H => L53 ρ c y lim k a0 a1 H) (fun lim args H => slowF (cx ρ) c y k lim 53 args H)) (tr52 ρ c y k) .leaf
theorem tr53_all (ρ : Addr → Option Value) (k : Nat) : (tr53 ρ (evCY (cx ρ) k).1 (evCY (cx ρ) k).2 k).All fun f h => h = fun lim args H => (evCY (cx ρ) (k + 1)).1 lim f args H :=
  ⟨ar2_eq (F := fun lim args H => (evCY (cx ρ) (k + 1)).1 lim 53 args H) (slow_at (cx ρ) k 53) (fun lim a0 a1 H => E53 ρ k lim a0 a1 H), tr52_all ρ k, trivial⟩
noncomputable def tr55 (ρ : Addr → Option Value) (c : CallF) (y : YieldF) (k : Nat) : DT := .node 55 (ar1 (fun lim a0 H => L55 ρ c y lim k a0 H) (fun lim args H => slowF (cx ρ) c y k lim 55 args H)) .leaf .leaf
theorem tr55_all (ρ : Addr → Option Value) (k : Nat) : (tr55 ρ (evCY (cx ρ) k).1 (evCY (cx ρ) k).2 k).All fun f h => h = fun lim args H => (evCY (cx ρ) (k + 1)).1 lim f args H :=
  ⟨ar1_eq (F := fun lim args H => (evCY (cx ρ) (k + 1)).1 lim 55 args H) (slow_at (cx ρ) k 55) (fun lim a0 H => E55 ρ k lim a0 H), trivial, trivial⟩
noncomputable def tr54 (ρ : Addr → Option Value) (c : CallF) (y : YieldF) (k : Nat) : DT := .node 54 (ar1 (fun lim a0 H => L54 ρ c y lim k a0 H) (fun lim args H => slowF (cx ρ) c y k lim 54 args H)) (tr53 ρ c y k) (tr55 ρ c y k)
theorem tr54_all (ρ : Addr → Option Value) (k : Nat) : (tr54 ρ (evCY (cx ρ) k).1 (evCY (cx ρ) k).2 k).All fun f h => h = fun lim args H => (evCY (cx ρ) (k + 1)).1 lim f args H :=
  ⟨ar1_eq (F := fun lim args H => (evCY (cx ρ) (k + 1)).1 lim 54 args H) (slow_at (cx ρ) k 54) (fun lim a0 H => E54 ρ k lim a0 H), tr53_all ρ k, tr55_all ρ k⟩
noncomputable def tr57 (ρ : Addr → Option Value) (c : CallF) (y : YieldF) (k : Nat) : DT := .node 57 (ar2 (fun lim a0 a1 H => L57 ρ c y lim k a0 a1 H) (fun lim args H => slowF (cx ρ) c y k lim 57 args H)) .leaf .leaf
theorem tr57_all (ρ : Addr → Option Value) (k : Nat) : (tr57 ρ (evCY (cx ρ) k).1 (evCY (cx ρ) k).2 k).All fun f h => h = fun lim args H => (evCY (cx ρ) (k + 1)).1 lim f args H :=
  ⟨ar2_eq (F := fun lim args H => (evCY (cx ρ) (k + 1)).1 lim 57 args H) (slow_at (cx ρ) k 57) (fun lim a0 a1 H => E57 ρ k lim a0 a1 H), trivial, trivial⟩
noncomputable def tr58 (ρ : Addr → Option Value) (c : CallF) (y : YieldF) (k : Nat) : DT := .node 58 (ar2 (fun lim a0 a1 H => L58 ρ c y lim k a0 a1 H) (fun lim args H => slowF (cx ρ) c y k lim 58 args H)) (tr57 ρ c y k) .leaf
theorem tr58_all (ρ : Addr → Option Value) (k : Nat) : (tr58 ρ (evCY (cx ρ) k).1 (evCY (cx ρ) k).2 k).All fun f h => h = fun lim args H => (evCY (cx ρ) (k + 1)).1 lim f args H :=
  ⟨ar2_eq (F := fun lim args H => (evCY (cx ρ) (k + 1)).1 lim 58 args H) (slow_at (cx ρ) k 58) (fun lim a0 a1 H => E58 ρ k lim a0 a1 H), tr57_all ρ k, trivial⟩
noncomputable def tr60 (ρ : Addr → Option Value) (c : CallF) (y : YieldF) (k : Nat) : DT := .node 60 (ar2 (fun lim a0 a1 H => L60 ρ c y lim k a0 a1 H) (fun lim args H => slowF (cx ρ) c y k lim 60 args H)) .leaf .leaf
theorem tr60_all (ρ : Addr → Option Value) (k : Nat) : (tr60 ρ (evCY (cx ρ) k).1 (evCY (cx ρ) k).2 k).All fun f h => h = fun lim args H => (evCY (cx ρ) (k + 1)).1 lim f args H :=
  ⟨ar2_eq (F := fun lim args H => (evCY (cx ρ) (k + 1)).1 lim 60 args H) (slow_at (cx ρ) k 60) (fun lim a0 a1 H => E60 ρ k lim a0 a1 H), trivial, trivial⟩
noncomputable def tr59 (ρ : Addr → Option Value) (c : CallF) (y : YieldF) (k : Nat) : DT := .node 59 (ar1 (fun lim a0 H => L59 ρ c y lim k a0 H) (fun lim args H => slowF (cx ρ) c y k lim 59 args H)) (tr58 ρ c y k) (tr60 ρ c y k)
theorem tr59_all (ρ : Addr → Option Value) (k : Nat) : (tr59 ρ (evCY (cx ρ) k).1 (evCY (cx ρ) k).2 k).All fun f h => h = fun lim args H => (evCY (cx ρ) (k + 1)).1 lim f args H :=
  ⟨ar1_eq (F := fun lim args H => (evCY (cx ρ) (k + 1)).1 lim 59 args H) (slow_at (cx ρ) k 59) (fun lim a0 H => E59 ρ k lim a0 H), tr58_all ρ k, tr60_all ρ k⟩
noncomputable def tr56 (ρ : Addr → Option Value) (c : CallF) (y : YieldF) (k : Nat) : DT := .node 56 (ar2 (fun lim a0 a1 H => L56 ρ c y lim k a0 a1 H) (fun lim args H => slowF (cx ρ) c y k lim 56 args H)) (tr54 ρ c y k) (tr59 ρ c y k)
theorem tr56_all (ρ : Addr → Option Value) (k : Nat) : (tr56 ρ (evCY (cx ρ) k).1 (evCY (cx ρ) k).2 k).All fun f h => h = fun lim args H => (evCY (cx ρ) (k + 1)).1 lim f args H :=
  ⟨ar2_eq (F := fun lim args H => (evCY (cx ρ) (k + 1)).1 lim 56 args H) (slow_at (cx ρ) k 56) (fun lim a0 a1 H => E56 ρ k lim a0 a1 H), tr54_all ρ k, tr59_all ρ k⟩
noncomputable def tr51 (ρ : Addr → Option Value) (c : CallF) (y : YieldF) (k : Nat) : DT := .node 51 (ar2 (fun lim a0 a1 H => L51 ρ c y lim k a0 a1 H) (fun lim args H => slowF (cx ρ) c y k lim 51 args H)) (tr46 ρ c y k) (tr56 ρ c y k)
theorem tr51_all (ρ : Addr → Option Value) (k : Nat) : (tr51 ρ (evCY (cx ρ) k).1 (evCY (cx ρ) k).2 k).All fun f h => h = fun lim args H => (evCY (cx ρ) (k + 1)).1 lim f args H :=
  ⟨ar2_eq (F := fun lim args H => (evCY (cx ρ) (k + 1)).1 lim 51 args H) (slow_at (cx ρ) k 51) (fun lim a0 a1 H => E51 ρ k lim a0 a1 H), tr46_all ρ k, tr56_all ρ k⟩
noncomputable def tr39 (ρ : Addr → Option Value) (c : CallF) (y : YieldF) (k : Nat) : DT := .node 39 (ar2 (fun lim a0 a1 H => L39 ρ c y lim k a0 a1 H) (fun lim args H => slowF (cx ρ) c y k lim 39 args H)) (tr28 ρ c y k) (tr51 ρ c y k)
theorem tr39_all (ρ : Addr → Option Value) (k : Nat) : (tr39 ρ (evCY (cx ρ) k).1 (evCY (cx ρ) k).2 k).All fun f h => h = fun lim args H => (evCY (cx ρ) (k + 1)).1 lim f args H :=
  ⟨ar2_eq (F := fun lim args H => (evCY (cx ρ) (k + 1)).1 lim 39 args H) (slow_at (cx ρ) k 39) (fun lim a0 a1 H => E39 ρ k lim a0 a1 H), tr28_all ρ k, tr51_all ρ k⟩
noncomputable def fast (ρ : Addr → Option Value) (k : Nat) : CallF := (fastY (cx ρ) (tr39 ρ) k).1
theorem fast_eq (ρ : Addr → Option Value) (k : Nat) : fast ρ k = evCall (cx ρ) k := congrArg Prod.fst (fastY_eq (cx ρ) (tr39 ρ) (tr39_all ρ) k)
end Go.Proofs.Ytcjicmabhejllaa
