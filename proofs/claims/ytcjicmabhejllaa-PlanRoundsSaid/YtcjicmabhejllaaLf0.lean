/- Functions, lifted. Printed by a program of this repo. -/
import Derived.Test.YtcjicmabhejllaaLfTab
set_option linter.unusedVariables false
set_option linter.unusedSimpArgs false
set_option maxRecDepth 100000
set_option maxHeartbeats 4000000
namespace Go.Proofs.Ytcjicmabhejllaa
open Go.Ev Go.RowKit
-- haycroft/haycroftlaw32.PlanRounds
noncomputable def c6 : Code := Code.of Try.prog 6
noncomputable def N6_1 (ρ : Addr → Option Value) (call : CallF) (yc : YieldF) (lim k : Nat) (H : Heap) (R : List AV → Heap → Res) : Res :=
  R [(.bool true)] H
theorem N6_1_eq (ρ : Addr → Option Value) (call : CallF) (yc : YieldF) (lim k : Nat) (H : Heap) (R : List AV → Heap → Res) :
    evL (cx ρ) call yc false 6 lim k (Code.at [1, 1, 1, 1, 1, 1, 1] c6) (sp 157 []) H (kk none (fun s H => R (([6] : List Nat).map fun t => s.getD t (.tup [])) H) [] R [6]) = N6_1 ρ call yc lim k H R := by
  kernel_rfl
noncomputable def N6_4 (ρ : Addr → Option Value) (call : CallF) (yc : YieldF) (lim k : Nat) (x0 x1 x7 x9 x10 : AV) (H : Heap) (kn : AV → AV → AV → AV → AV → Heap → Res) : Res :=
  purK (binA Try.prog H .add 3 x10 (.int .i64 1)) fun x84_1 =>
  kn x0 x1 x7 x9 x84_1 H
theorem N6_4_eq (ρ : Addr → Option Value) (call : CallF) (yc : YieldF) (lim k : Nat) (x0 x1 x7 x9 x10 : AV) (H : Heap) (kn : KS) (k0 : KS) (R : List AV → Heap → Res) :
    evL (cx ρ) call yc false 6 lim k (Code.at [1, 1, 1, 1, 1, 1, 0, 1, 0, 0, 1, 1] c6) (sp 157 [(0, x0), (1, x1), (7, x7), (9, x9), (10, x10)]) H (kk (some [0, 1, 7, 9, 10]) kn [(0, (some []), k0)] R [6]) = N6_4 ρ call yc lim k x0 x1 x7 x9 x10 H (fun x0 x1 x7 x9 x10 H => kn (sp 157 [(0, x0), (1, x1), (7, x7), (9, x9), (10, x10)]) H) := by
  kernel_rfl
noncomputable def N6_5 (ρ : Addr → Option Value) (call : CallF) (yc : YieldF) (lim k : Nat) (x0 x1 x7 x9 x10 x12 : AV) (H : Heap) (kn : AV → AV → AV → AV → AV → Heap → Res) (R : List AV → Heap → Res) : Res :=
  purK (ixS 8 x7 x10) fun x112_1 =>
  purK (addA 0 x112_1) fun x113_1 =>
  purK (ld1 ρ H x113_1) fun x114_1 =>
  purK (addA 0 x12) fun x115_1 =>
  purK (ld1 ρ H x115_1) fun x116_1 =>
  purK (binA Try.prog H .neq 3 x114_1 x116_1) fun x117_1 =>
  purK (gPur (wantV x117_1 false) (some x7)) fun x119_1 =>
  purK (gPur (wantV x117_1 false) (some x10)) fun x120_1 =>
  purK (gPur (wantV x117_1 false) (ixS 8 x119_1 x120_1)) fun x121_1 =>
  purK (gPur (wantV x117_1 false) (addA 1 x121_1)) fun x122_1 =>
  purK (gPur (wantV x117_1 false) (ld1 ρ H x122_1)) fun x123_1 =>
  purK (gPur (wantV x117_1 false) (addA 1 x12)) fun x124_1 =>
  purK (gPur (wantV x117_1 false) (ld1 ρ H x124_1)) fun x125_1 =>
  purK (gPur (wantV x117_1 false) (binA Try.prog H .neq 3 x123_1 x125_1)) fun x126_1 =>
  purK (pickA x117_1 (.bool true) x126_1) fun x127_1 =>
  purK (gPur (wantV x127_1 false) (some x7)) fun x129_1 =>
  purK (gPur (wantV x127_1 false) (some x10)) fun x130_1 =>
  purK (gPur (wantV x127_1 false) (ixS 8 x129_1 x130_1)) fun x131_1 =>
  purK (gPur (wantV x127_1 false) (addA 2 x131_1)) fun x132_1 =>
  purK (gPur (wantV x127_1 false) (ld1 ρ H x132_1)) fun x133_1 =>
  purK (gPur (wantV x127_1 false) (addA 2 x12)) fun x134_1 =>
  purK (gPur (wantV x127_1 false) (ld1 ρ H x134_1)) fun x135_1 =>
  purK (gPur (wantV x127_1 false) (binA Try.prog H .neq 3 x133_1 x135_1)) fun x136_1 =>
  purK (pickA x127_1 (.bool true) x136_1) fun x137_1 =>
  purK (gPur (wantV x137_1 false) (some x7)) fun x139_1 =>
  purK (gPur (wantV x137_1 false) (some x10)) fun x140_1 =>
  purK (gPur (wantV x137_1 false) (ixS 8 x139_1 x140_1)) fun x141_1 =>
  purK (gPur (wantV x137_1 false) (addA 7 x141_1)) fun x142_1 =>
  purK (gPur (wantV x137_1 false) (ld1 ρ H x142_1)) fun x143_1 =>
  purK (gPur (wantV x137_1 false) (lenS x143_1)) fun x144_1 =>
  purK (gPur (wantV x137_1 false) (binA Try.prog H .neq 3 x144_1 (.int .i64 0))) fun x145_1 =>
  purK (pickA x137_1 (.bool true) x145_1) fun x146_1 =>
  purK (gPur (wantV x146_1 false) (some x7)) fun x148_1 =>
  purK (gPur (wantV x146_1 false) (some x10)) fun x149_1 =>
  purK (gPur (wantV x146_1 false) (ixS 8 x148_1 x149_1)) fun x150_1 =>
  purK (gPur (wantV x146_1 false) (addA 3 x150_1)) fun x151_1 =>
  purK (gPur (wantV x146_1 false) (ldN ρ H 4 x151_1)) fun x152_1 =>
  purK (gPur (wantV x146_1 false) (addA 3 x12)) fun x153_1 =>
  purK (gPur (wantV x146_1 false) (ldN ρ H 4 x153_1)) fun x154_1 =>
  purK (gPur (wantV x146_1 false) (binA Try.prog H .neq 39 x152_1 x154_1)) fun x155_1 =>
  purK (pickA x146_1 (.bool true) x155_1) fun x156_1 =>
  condK x156_1
  (
    R [(.bool false)] H)
  (
    kn x0 x1 x7 x9 x10 H)
theorem N6_5_eq (ρ : Addr → Option Value) (call : CallF) (yc : YieldF) (lim k : Nat) (x0 x1 x7 x9 x10 x12 : AV) (H : Heap) (kn : KS) (k1 : KS) (k0 : KS) (R : List AV → Heap → Res) :
    evL (cx ρ) call yc false 6 lim k (Code.at [1, 1, 1, 1, 1, 1, 0, 1, 0, 0, 1, 0, 0, 1, 1, 1] c6) (sp 157 [(0, x0), (1, x1), (7, x7), (9, x9), (10, x10), (12, x12)]) H (kk (some [0, 1, 7, 9, 10]) kn [(1, (some [0, 1, 7, 9, 10]), k1), (0, (some []), k0)] R [6]) = N6_5 ρ call yc lim k x0 x1 x7 x9 x10 x12 H (fun x0 x1 x7 x9 x10 H => kn (sp 157 [(0, x0), (1, x1), (7, x7), (9, x9), (10, x10)]) H) R := by
  kernel_rfl
noncomputable def N6_3b (ρ : Addr → Option Value) (call : CallF) (yc : YieldF) (lim k : Nat) (x0 x1 x7 x9 x10 : AV) (H : Heap) (kn : AV → AV → AV → AV → AV → Heap → Res) (k0 : Heap → Res) (R : List AV → Heap → Res) : Res :=
  purK (lenS x7) fun x81_1 =>
  purK (binA Try.prog H .lss 3 x10 x81_1) fun x82_1 =>
  condK x82_1
  (
    purK (binA Try.prog H .rem 3 x10 x9) fun x87_1 =>
    purK (binA Try.prog H .rem 3 x87_1 (.int .i64 2)) fun x89_1 =>
    purK (binA Try.prog H .add 3 (.int .i64 2) x89_1) fun x90_1 =>
    purK (binA Try.prog H .quo 3 x87_1 (.int .i64 2)) fun x92_1 =>
    purK (bldA [.int .i64 0, .int .i64 0, .int .i64 0, .int .i64 0, .str ByteArray.empty, .str ByteArray.empty, .int .u64 0, .nils] [(0, 1, x90_1), (1, 1, x92_1)]) fun x93_1 =>
    effK H (some (.ptr H.sz 0 0, .new (newCells 42 false [.int .i64 0, .int .i64 0, .int .i64 0, .int .i64 0, .str ByteArray.empty, .str ByteArray.empty, .int .u64 0, .nils]))) fun x12_1 H =>
    effK H (stA lim H 8 x12_1 x93_1) fun _ H =>
    purK (binA Try.prog H .mul 3 (.int .i64 2) x0) fun x96_1 =>
    purK (binA Try.prog H .geq 3 x87_1 x96_1) fun x97_1 =>
    condK x97_1
    (
      purK (binA Try.prog H .quo 3 x10 x9) fun x100_1 =>
      purK (binA Try.prog H .mul 3 x100_1 x1) fun x102_1 =>
      purK (binA Try.prog H .add 3 x102_1 x87_1) fun x104_1 =>
      purK (binA Try.prog H .mul 3 (.int .i64 2) x0) fun x106_1 =>
      purK (binA Try.prog H .sub 3 x104_1 x106_1) fun x107_1 =>
      purK (binA Try.prog H .add 3 x107_1 (.int .i64 1)) fun x108_1 =>
      purK (bldA [.int .i64 0, .int .i64 0, .int .i64 0, .int .i64 0, .str ByteArray.empty, .str ByteArray.empty, .int .u64 0, .nils] [(0, 1, (.int .i64 4)), (2, 1, x108_1)]) fun x109_1 =>
      effK H (stA lim H 8 x12_1 x109_1) fun _ H =>
      N6_5 ρ call yc lim k x0 x1 x7 x9 x10 x12_1 H (fun x0_1 x1_1 x7_1 x9_1 x10_1 H =>
        N6_4 ρ call yc lim k x0_1 x1_1 x7_1 x9_1 x10_1 H kn) R)
    (
      N6_5 ρ call yc lim k x0 x1 x7 x9 x10 x12_1 H (fun x0_2 x1_2 x7_2 x9_2 x10_2 H =>
        N6_4 ρ call yc lim k x0_2 x1_2 x7_2 x9_2 x10_2 H kn) R))
  (
    k0 H)
theorem N6_3b_x (ρ : Addr → Option Value) (call : CallF) (yc : YieldF) (lim k : Nat) (J : CodeF) (x0 x1 x7 x9 x10 : AV) (H : Heap) (kn : KS) (k0 : KS) (R : List AV → Heap → Res) :
    evX (cx ρ) call yc false 6 lim k J (Code.at [1, 1, 1, 1, 1, 1, 0, 1, 0, 0] c6) (sp 157 [(0, x0), (1, x1), (7, x7), (9, x9), (10, x10)]) H (kk (some [0, 1, 7, 9, 10]) kn [(0, (some []), k0)] R [6]) =
  purK (lenS x7) fun x81_1 =>
  purK (binA Try.prog H .lss 3 x10 x81_1) fun x82_1 =>
  condK x82_1
  (
    purK (binA Try.prog H .rem 3 x10 x9) fun x87_1 =>
    purK (binA Try.prog H .rem 3 x87_1 (.int .i64 2)) fun x89_1 =>
    purK (binA Try.prog H .add 3 (.int .i64 2) x89_1) fun x90_1 =>
    purK (binA Try.prog H .quo 3 x87_1 (.int .i64 2)) fun x92_1 =>
    purK (bldA [.int .i64 0, .int .i64 0, .int .i64 0, .int .i64 0, .str ByteArray.empty, .str ByteArray.empty, .int .u64 0, .nils] [(0, 1, x90_1), (1, 1, x92_1)]) fun x93_1 =>
    effK H (some (.ptr H.sz 0 0, .new (newCells 42 false [.int .i64 0, .int .i64 0, .int .i64 0, .int .i64 0, .str ByteArray.empty, .str ByteArray.empty, .int .u64 0, .nils]))) fun x12_1 H =>
    effK H (stA lim H 8 x12_1 x93_1) fun _ H =>
    purK (binA Try.prog H .mul 3 (.int .i64 2) x0) fun x96_1 =>
    purK (binA Try.prog H .geq 3 x87_1 x96_1) fun x97_1 =>
    condK x97_1
    (
      purK (binA Try.prog H .quo 3 x10 x9) fun x100_1 =>
      purK (binA Try.prog H .mul 3 x100_1 x1) fun x102_1 =>
      purK (binA Try.prog H .add 3 x102_1 x87_1) fun x104_1 =>
      purK (binA Try.prog H .mul 3 (.int .i64 2) x0) fun x106_1 =>
      purK (binA Try.prog H .sub 3 x104_1 x106_1) fun x107_1 =>
      purK (binA Try.prog H .add 3 x107_1 (.int .i64 1)) fun x108_1 =>
      purK (bldA [.int .i64 0, .int .i64 0, .int .i64 0, .int .i64 0, .str ByteArray.empty, .str ByteArray.empty, .int .u64 0, .nils] [(0, 1, (.int .i64 4)), (2, 1, x108_1)]) fun x109_1 =>
      effK H (stA lim H 8 x12_1 x109_1) fun _ H =>
      J (Code.at [1, 1, 1, 1, 1, 1, 0, 1, 0, 0, 1, 0, 0, 1, 1, 1] c6) (sp 157 [(0, x0), (1, x1), (7, x7), (9, x9), (10, x10), (12, x12_1)]) H (kk (some [0, 1, 7, 9, 10]) (fun s H => J (Code.at [1, 1, 1, 1, 1, 1, 0, 1, 0, 0, 1, 1] c6) s H (kk (some [0, 1, 7, 9, 10]) kn [(0, (some []), k0)] R [6])) [(1, (some [0, 1, 7, 9, 10]), (fun s H => J (Code.at [1, 1, 1, 1, 1, 1, 0, 1, 0, 0, 1, 1] c6) s H (kk (some [0, 1, 7, 9, 10]) kn [(0, (some []), k0)] R [6]))), (0, (some []), k0)] R [6]))
    (
      J (Code.at [1, 1, 1, 1, 1, 1, 0, 1, 0, 0, 1, 0, 0, 1, 1, 1] c6) (sp 157 [(0, x0), (1, x1), (7, x7), (9, x9), (10, x10), (12, x12_1)]) H (kk (some [0, 1, 7, 9, 10]) (fun s H => J (Code.at [1, 1, 1, 1, 1, 1, 0, 1, 0, 0, 1, 1] c6) s H (kk (some [0, 1, 7, 9, 10]) kn [(0, (some []), k0)] R [6])) [(1, (some [0, 1, 7, 9, 10]), (fun s H => J (Code.at [1, 1, 1, 1, 1, 1, 0, 1, 0, 0, 1, 1] c6) s H (kk (some [0, 1, 7, 9, 10]) kn [(0, (some []), k0)] R [6]))), (0, (some []), k0)] R [6])))
  (
    k0 (sp 157 []) H) := by
  kernel_rfl
theorem N6_3b_eq (ρ : Addr → Option Value) (call : CallF) (yc : YieldF) (lim k : Nat) (x0 x1 x7 x9 x10 : AV) (H : Heap) (kn : KS) (k0 : KS) (R : List AV → Heap → Res) :
    evL (cx ρ) call yc false 6 lim k (Code.at [1, 1, 1, 1, 1, 1, 0, 1, 0, 0] c6) (sp 157 [(0, x0), (1, x1), (7, x7), (9, x9), (10, x10)]) H (kk (some [0, 1, 7, 9, 10]) kn [(0, (some []), k0)] R [6]) = N6_3b ρ call yc lim k x0 x1 x7 x9 x10 H (fun x0 x1 x7 x9 x10 H => kn (sp 157 [(0, x0), (1, x1), (7, x7), (9, x9), (10, x10)]) H) (fun H => k0 (sp 157 []) H) R := by
  rw [evL_X, N6_3b_x]
  simp only [← evL_X, N6_3b, N6_4_eq, N6_5_eq]
noncomputable def N6_3 (ρ : Addr → Option Value) (call : CallF) (yc : YieldF) (lim k : Nat) (x0 x1 x7 x9 x10 : AV) (H : Heap) (k0 : Heap → Res) (R : List AV → Heap → Res) : Res :=
  loopL (fun (x : AV) H kn => N6_3b ρ call yc lim k x0 x1 x7 x9 x H (fun _ _ _ _ x10 H => kn x10 H) k0 R) k x10 H
theorem N6_3_eq (ρ : Addr → Option Value) (call : CallF) (yc : YieldF) (lim k : Nat) (x0 x1 x7 x9 x10 : AV) (H : Heap) (kn : KS) (k0 : KS) (R : List AV → Heap → Res) :
    evL (cx ρ) call yc false 6 lim k (Code.at [1, 1, 1, 1, 1, 1, 0, 1, 0] c6) (sp 157 [(0, x0), (1, x1), (7, x7), (9, x9), (10, x10)]) H (kk (some []) kn [(0, (some []), k0)] R [6]) = N6_3 ρ call yc lim k x0 x1 x7 x9 x10 H (fun H => k0 (sp 157 []) H) R := by
  have e : Code.at [1, 1, 1, 1, 1, 1, 0, 1, 0] c6 = .loop (Code.at [1, 1, 1, 1, 1, 1, 0, 1, 0, 0] c6) := by kernel_rfl
  rw [e]
  unfold N6_3
  exact loop_node [0, 1, 7, 9, 10] (fun x : AV => (sp 157 [(0, x0), (1, x1), (7, x7), (9, x9), (10, (x))])) (fun (x : AV) H kn => N6_3b ρ call yc lim k x0 x1 x7 x9 x H (fun _ _ _ _ x10 H => kn x10 H) (fun H => k0 (sp 157 []) H) R) (by kernel_rfl) (fun x => by kernel_rfl) (fun x H kn => N6_3b_eq ρ call yc lim k x0 x1 x7 x9 (x) H kn k0 R) x10 (sp 157 [(0, x0), (1, x1), (7, x7), (9, x9), (10, x10)]) H (by kernel_rfl)
noncomputable def N6_2 (ρ : Addr → Option Value) (call : CallF) (yc : YieldF) (lim k : Nat) (x0 x1 x7 x9 x10 : AV) (H : Heap) (kn : Heap → Res) (R : List AV → Heap → Res) : Res :=
  N6_3 ρ call yc lim k x0 x1 x7 x9 x10 H kn R
theorem N6_2_x (ρ : Addr → Option Value) (call : CallF) (yc : YieldF) (lim k : Nat) (J : CodeF) (x0 x1 x7 x9 x10 : AV) (H : Heap) (kn : KS) (R : List AV → Heap → Res) :
    evX (cx ρ) call yc false 6 lim k J (Code.at [1, 1, 1, 1, 1, 1, 0, 1] c6) (sp 157 [(0, x0), (1, x1), (7, x7), (9, x9), (10, x10)]) H (kk (some []) kn [] R [6]) =
  J (Code.at [1, 1, 1, 1, 1, 1, 0, 1, 0] c6) (sp 157 [(0, x0), (1, x1), (7, x7), (9, x9), (10, x10)]) H (kk (some []) kn [(0, (some []), kn)] R [6]) := by
  kernel_rfl
theorem N6_2_eq (ρ : Addr → Option Value) (call : CallF) (yc : YieldF) (lim k : Nat) (x0 x1 x7 x9 x10 : AV) (H : Heap) (kn : KS) (R : List AV → Heap → Res) :
    evL (cx ρ) call yc false 6 lim k (Code.at [1, 1, 1, 1, 1, 1, 0, 1] c6) (sp 157 [(0, x0), (1, x1), (7, x7), (9, x9), (10, x10)]) H (kk (some []) kn [] R [6]) = N6_2 ρ call yc lim k x0 x1 x7 x9 x10 H (fun H => kn (sp 157 []) H) R := by
  rw [evL_X, N6_2_x]
  simp only [← evL_X, N6_2, N6_3_eq]
noncomputable def L6 (ρ : Addr → Option Value) (call : CallF) (yc : YieldF) (lim k : Nat) (x0 x1 x2 : AV) (H : Heap) : Res :=
  resK (call lim 9 [] H) fun x13 H =>
  purK (unA .not x13) fun x14 =>
  condK x14
  (
    retK [(.bool false)] H)
  (
    resK (call lim 22 [x0, x1, x2] H) fun x19 H =>
    purK (extA 0 x19) fun x20 =>
    purK (extA 1 x19) fun x21 =>
    purK (binA Try.prog H .lss 3 x0 (.int .i64 1)) fun x23 =>
    purK (gPur (wantV x23 false) (some x0)) fun x25 =>
    purK (gPur (wantV x23 false) (binA Try.prog H .gtr 3 x25 (.int .i64 8))) fun x26 =>
    purK (pickA x23 (.bool true) x26) fun x27 =>
    purK (gPur (wantV x27 false) (some x1)) fun x29 =>
    purK (gPur (wantV x27 false) (binA Try.prog H .lss 3 x29 (.int .i64 0))) fun x30 =>
    purK (pickA x27 (.bool true) x30) fun x31 =>
    purK (gPur (wantV x31 false) (some x1)) fun x33 =>
    purK (gPur (wantV x31 false) (binA Try.prog H .gtr 3 x33 (.int .i64 32))) fun x34 =>
    purK (pickA x31 (.bool true) x34) fun x35 =>
    purK (gPur (wantV x35 false) (some x2)) fun x37 =>
    purK (gPur (wantV x35 false) (binA Try.prog H .lss 3 x37 (.int .i64 0))) fun x38 =>
    purK (pickA x35 (.bool true) x38) fun x39 =>
    purK (gPur (wantV x39 false) (some x2)) fun x41 =>
    purK (gPur (wantV x39 false) (binA Try.prog H .gtr 3 x41 (.int .i64 100))) fun x42 =>
    purK (pickA x39 (.bool true) x42) fun x43 =>
    condK x43
    (
      purK (lenS x20) fun x45 =>
      purK (binA Try.prog H .eql 3 x45 (.int .i64 0)) fun x46 =>
      purK (gPur (wantV x46 true) (some x21)) fun x48 =>
      purK (gPur (wantV x46 true) (binA Try.prog H .eql 34 x48 (.int .i64 1))) fun x49 =>
      purK (pickA x46 x49 (.bool false)) fun x50 =>
      retK [x50] H)
    (
      purK (binA Try.prog H .mul 3 (.int .i64 2) x0) fun x52 =>
      purK (binA Try.prog H .add 3 x52 x1) fun x54 =>
      purK (binA Try.prog H .neq 34 x21 (.int .i64 0)) fun x56 =>
      purK (gPur (wantV x56 false) (some x20)) fun x58 =>
      purK (gPur (wantV x56 false) (lenS x58)) fun x59 =>
      purK (gPur (wantV x56 false) (some x2)) fun x60 =>
      purK (gPur (wantV x56 false) (some x54)) fun x61 =>
      purK (gPur (wantV x56 false) (binA Try.prog H .mul 3 x60 x61)) fun x62 =>
      purK (gPur (wantV x56 false) (binA Try.prog H .neq 3 x59 x62)) fun x63 =>
      purK (pickA x56 (.bool true) x63) fun x64 =>
      purK (gPur (wantV x64 false) (some x20)) fun x66 =>
      purK (gPur (wantV x64 false) (some x0)) fun x67 =>
      purK (gPur (wantV x64 false) (some x54)) fun x68 =>
      resK (gRes (wantV x64 false) H (call lim 23 [x66, x67, x68] H)) fun x69 H =>
      purK (gPur (wantV x64 false) (unA .not x69)) fun x70 =>
      purK (pickA x64 (.bool true) x70) fun x71 =>
      purK (gPur (wantV x71 false) (some x20)) fun x73 =>
      purK (gPur (wantV x71 false) (some x0)) fun x74 =>
      purK (gPur (wantV x71 false) (some x54)) fun x75 =>
      resK (gRes (wantV x71 false) H (call lim 24 [x73, x74, x75] H)) fun x76 H =>
      purK (gPur (wantV x71 false) (unA .not x76)) fun x77 =>
      purK (pickA x71 (.bool true) x77) fun x78 =>
      condK x78
      (
        retK [(.bool false)] H)
      (
        N6_2 ρ call yc lim k x0 x1 x20 x54 (.int .i64 0) H (fun H =>
          N6_1 ρ call yc lim k H retK) retK)))
theorem L6_x (ρ : Addr → Option Value) (call : CallF) (yc : YieldF) (lim k : Nat) (J : CodeF) (x0 x1 x2 : AV) (H : Heap) :
    evX (cx ρ) call yc false 6 lim k J c6 [x0, x1, x2, (.tup []), (.tup []), (.tup []), (.tup []), (.tup []), (.tup []), (.tup []), (.tup []), (.tup []), (.tup []), (.tup []), (.tup []), (.tup []), (.tup []), (.tup []), (.tup []), (.tup []), (.tup []), (.tup []), (.tup []), (.tup []), (.tup []), (.tup []), (.tup []), (.tup []), (.tup []), (.tup []), (.tup []), (.tup []), (.tup []), (.tup []), (.tup []), (.tup []), (.tup []), (.tup []), (.tup []), (.tup []), (.tup []), (.tup []), (.tup []), (.tup []), (.tup []), (.tup []), (.tup []), (.tup []), (.tup []), (.tup []), (.tup []), (.tup []), (.tup []), (.tup []), (.tup []), (.tup []), (.tup []), (.tup []), (.tup []), (.tup []), (.tup []), (.tup []), (.tup []), (.tup []), (.tup []), (.tup []), (.tup []), (.tup []), (.tup []), (.tup []), (.tup []), (.tup []), (.tup []), (.tup []), (.tup []), (.tup []), (.tup []), (.tup []), (.tup []), (.tup []), (.tup []), (.tup []), (.tup []), (.tup []), (.tup []), (.tup []), (.tup []), (.tup []), (.tup []), (.tup []), (.tup []), (.tup []), (.tup []), (.tup []), (.tup []), (.tup []), (.tup []), (.tup []), (.tup []), (.tup []), (.tup []), (.tup []), (.tup []), (.tup []), (.tup []), (.tup []), (.tup []), (.tup []), (.tup []), (.tup []), (.tup []), (.tup []), (.tup []), (.tup []), (.tup []), (.tup []), (.tup []), (.tup []), (.tup []), (.tup []), (.tup []), (.tup []), (.tup []), (.tup []), (.tup []), (.tup []), (.tup []), (.tup []), (.tup []), (.tup []), (.tup []), (.tup []), (.tup []), (.tup []), (.tup []), (.tup []), (.tup []), (.tup []), (.tup []), (.tup []), (.tup []), (.tup []), (.tup []), (.tup []), (.tup []), (.tup []), (.tup []), (.tup []), (.tup []), (.tup []), (.tup []), (.tup []), (.tup []), (.tup []), (.tup []), (.tup []), (.tup [])] H (kk none (fun s H => retK (([6] : List Nat).map fun t => s.getD t (.tup [])) H) [] retK [6]) =
  resK (call lim 9 [] H) fun x13 H =>
  purK (unA .not x13) fun x14 =>
  condK x14
  (
    retK [(.bool false)] H)
  (
    resK (call lim 22 [x0, x1, x2] H) fun x19 H =>
    purK (extA 0 x19) fun x20 =>
    purK (extA 1 x19) fun x21 =>
    purK (binA Try.prog H .lss 3 x0 (.int .i64 1)) fun x23 =>
    purK (gPur (wantV x23 false) (some x0)) fun x25 =>
    purK (gPur (wantV x23 false) (binA Try.prog H .gtr 3 x25 (.int .i64 8))) fun x26 =>
    purK (pickA x23 (.bool true) x26) fun x27 =>
    purK (gPur (wantV x27 false) (some x1)) fun x29 =>
    purK (gPur (wantV x27 false) (binA Try.prog H .lss 3 x29 (.int .i64 0))) fun x30 =>
    purK (pickA x27 (.bool true) x30) fun x31 =>
    purK (gPur (wantV x31 false) (some x1)) fun x33 =>
    purK (gPur (wantV x31 false) (binA Try.prog H .gtr 3 x33 (.int .i64 32))) fun x34 =>
    purK (pickA x31 (.bool true) x34) fun x35 =>
    purK (gPur (wantV x35 false) (some x2)) fun x37 =>
    purK (gPur (wantV x35 false) (binA Try.prog H .lss 3 x37 (.int .i64 0))) fun x38 =>
    purK (pickA x35 (.bool true) x38) fun x39 =>
    purK (gPur (wantV x39 false) (some x2)) fun x41 =>
    purK (gPur (wantV x39 false) (binA Try.prog H .gtr 3 x41 (.int .i64 100))) fun x42 =>
    purK (pickA x39 (.bool true) x42) fun x43 =>
    condK x43
    (
      purK (lenS x20) fun x45 =>
      purK (binA Try.prog H .eql 3 x45 (.int .i64 0)) fun x46 =>
      purK (gPur (wantV x46 true) (some x21)) fun x48 =>
      purK (gPur (wantV x46 true) (binA Try.prog H .eql 34 x48 (.int .i64 1))) fun x49 =>
      purK (pickA x46 x49 (.bool false)) fun x50 =>
      retK [x50] H)
    (
      purK (binA Try.prog H .mul 3 (.int .i64 2) x0) fun x52 =>
      purK (binA Try.prog H .add 3 x52 x1) fun x54 =>
      purK (binA Try.prog H .neq 34 x21 (.int .i64 0)) fun x56 =>
      purK (gPur (wantV x56 false) (some x20)) fun x58 =>
      purK (gPur (wantV x56 false) (lenS x58)) fun x59 =>
      purK (gPur (wantV x56 false) (some x2)) fun x60 =>
      purK (gPur (wantV x56 false) (some x54)) fun x61 =>
      purK (gPur (wantV x56 false) (binA Try.prog H .mul 3 x60 x61)) fun x62 =>
      purK (gPur (wantV x56 false) (binA Try.prog H .neq 3 x59 x62)) fun x63 =>
      purK (pickA x56 (.bool true) x63) fun x64 =>
      purK (gPur (wantV x64 false) (some x20)) fun x66 =>
      purK (gPur (wantV x64 false) (some x0)) fun x67 =>
      purK (gPur (wantV x64 false) (some x54)) fun x68 =>
      resK (gRes (wantV x64 false) H (call lim 23 [x66, x67, x68] H)) fun x69 H =>
      purK (gPur (wantV x64 false) (unA .not x69)) fun x70 =>
      purK (pickA x64 (.bool true) x70) fun x71 =>
      purK (gPur (wantV x71 false) (some x20)) fun x73 =>
      purK (gPur (wantV x71 false) (some x0)) fun x74 =>
      purK (gPur (wantV x71 false) (some x54)) fun x75 =>
      resK (gRes (wantV x71 false) H (call lim 24 [x73, x74, x75] H)) fun x76 H =>
      purK (gPur (wantV x71 false) (unA .not x76)) fun x77 =>
      purK (pickA x71 (.bool true) x77) fun x78 =>
      condK x78
      (
        retK [(.bool false)] H)
      (
        J (Code.at [1, 1, 1, 1, 1, 1, 0, 1] c6) (sp 157 [(0, x0), (1, x1), (7, x20), (9, x54), (10, (.int .i64 0))]) H (kk (some []) (fun s H => J (Code.at [1, 1, 1, 1, 1, 1, 1] c6) s H (kk none (fun s H => retK (([6] : List Nat).map fun t => s.getD t (.tup [])) H) [] retK [6])) [] retK [6])))) := by
  kernel_rfl
theorem G6 (ρ : Addr → Option Value) (call : CallF) (yc : YieldF) (lim k : Nat) (x0 x1 x2 : AV) (H : Heap) :
    evL (cx ρ) call yc false 6 lim k c6 [x0, x1, x2, (.tup []), (.tup []), (.tup []), (.tup []), (.tup []), (.tup []), (.tup []), (.tup []), (.tup []), (.tup []), (.tup []), (.tup []), (.tup []), (.tup []), (.tup []), (.tup []), (.tup []), (.tup []), (.tup []), (.tup []), (.tup []), (.tup []), (.tup []), (.tup []), (.tup []), (.tup []), (.tup []), (.tup []), (.tup []), (.tup []), (.tup []), (.tup []), (.tup []), (.tup []), (.tup []), (.tup []), (.tup []), (.tup []), (.tup []), (.tup []), (.tup []), (.tup []), (.tup []), (.tup []), (.tup []), (.tup []), (.tup []), (.tup []), (.tup []), (.tup []), (.tup []), (.tup []), (.tup []), (.tup []), (.tup []), (.tup []), (.tup []), (.tup []), (.tup []), (.tup []), (.tup []), (.tup []), (.tup []), (.tup []), (.tup []), (.tup []), (.tup []), (.tup []), (.tup []), (.tup []), (.tup []), (.tup []), (.tup []), (.tup []), (.tup []), (.tup []), (.tup []), (.tup []), (.tup []), (.tup []), (.tup []), (.tup []), (.tup []), (.tup []), (.tup []), (.tup []), (.tup []), (.tup []), (.tup []), (.tup []), (.tup []), (.tup []), (.tup []), (.tup []), (.tup []), (.tup []), (.tup []), (.tup []), (.tup []), (.tup []), (.tup []), (.tup []), (.tup []), (.tup []), (.tup []), (.tup []), (.tup []), (.tup []), (.tup []), (.tup []), (.tup []), (.tup []), (.tup []), (.tup []), (.tup []), (.tup []), (.tup []), (.tup []), (.tup []), (.tup []), (.tup []), (.tup []), (.tup []), (.tup []), (.tup []), (.tup []), (.tup []), (.tup []), (.tup []), (.tup []), (.tup []), (.tup []), (.tup []), (.tup []), (.tup []), (.tup []), (.tup []), (.tup []), (.tup []), (.tup []), (.tup []), (.tup []), (.tup []), (.tup []), (.tup []), (.tup []), (.tup []), (.tup []), (.tup []), (.tup []), (.tup []), (.tup []), (.tup []), (.tup [])] H (kk none (fun s H => retK (([6] : List Nat).map fun t => s.getD t (.tup [])) H) [] retK [6]) = L6 ρ call yc lim k x0 x1 x2 H := by
  rw [evL_X, L6_x]
  simp only [← evL_X, L6, N6_1_eq, N6_2_eq]
theorem E6 (ρ : Addr → Option Value) (k lim : Nat) (x0 x1 x2 : AV) (H : Heap) : evCall (cx ρ) (k + 1) lim 6 [x0, x1, x2] H = L6 ρ (evCall (cx ρ) k) (evCY (cx ρ) k).2 lim k x0 x1 x2 H := by
  rw [evCall_body (cx ρ) k lim 6 _ H Try.f6 c6 [6] (by kernel_rfl) (by kernel_rfl) (by kernel_rfl) (by kernel_rfl) (by kernel_rfl)]
  exact G6 ρ (evCall (cx ρ) k) (evCY (cx ρ) k).2 lim k x0 x1 x2 H
-- haycroft/haycroftlaw32.awake
noncomputable def c9 : Code := Code.of Try.prog 9
noncomputable def L9 (ρ : Addr → Option Value) (call : CallF) (yc : YieldF) (lim k : Nat) (H : Heap) : Res :=
  resK (call lim 10 [(.int .u64 1)] H) fun x4 H =>
  purK (extA 0 x4) fun x5 =>
  purK (extA 1 x4) fun x6 =>
  purK (binA Try.prog H .eql 22 x5 (.int .u64 33554433)) fun x8 =>
  retK [x8] H
theorem G9 (ρ : Addr → Option Value) (call : CallF) (yc : YieldF) (lim k : Nat) (H : Heap) :
    evL (cx ρ) call yc false 9 lim k c9 [(.tup []), (.tup []), (.tup []), (.tup []), (.tup []), (.tup []), (.tup []), (.tup []), (.tup [])] H (kk none (fun s H => retK (([0] : List Nat).map fun t => s.getD t (.tup [])) H) [] retK [0]) = L9 ρ call yc lim k H := by
  kernel_rfl
theorem E9 (ρ : Addr → Option Value) (k lim : Nat) (H : Heap) : evCall (cx ρ) (k + 1) lim 9 [] H = L9 ρ (evCall (cx ρ) k) (evCY (cx ρ) k).2 lim k H := by
  rw [evCall_body (cx ρ) k lim 9 _ H Try.f9 c9 [0] (by kernel_rfl) (by kernel_rfl) (by kernel_rfl) (by kernel_rfl) (by kernel_rfl)]
  exact G9 ρ (evCall (cx ρ) k) (evCY (cx ρ) k).2 lim k H
-- haycroft/plan.Draw
noncomputable def c10 : Code := Code.of Try.prog 10
noncomputable def N10_1 (ρ : Addr → Option Value) (call : CallF) (yc : YieldF) (lim k : Nat) (x0 : AV) (H : Heap) (R : List AV → Heap → Res) : Res :=
  purK (binA Try.prog H .shr 22 x0 (.int .u64 12)) fun x8_1 =>
  purK (binA Try.prog H .xor 22 x0 x8_1) fun x9_1 =>
  purK (binA Try.prog H .shl 22 x9_1 (.int .u64 25)) fun x12_1 =>
  purK (binA Try.prog H .xor 22 x9_1 x12_1) fun x13_1 =>
  purK (binA Try.prog H .shr 22 x13_1 (.int .u64 27)) fun x16_1 =>
  purK (binA Try.prog H .xor 22 x13_1 x16_1) fun x17_1 =>
  purK (binA Try.prog H .mul 22 x17_1 (.int .u64 2685821657736338717)) fun x20_1 =>
  R [x17_1, x20_1] H
theorem N10_1_eq (ρ : Addr → Option Value) (call : CallF) (yc : YieldF) (lim k : Nat) (x0 : AV) (H : Heap) (R : List AV → Heap → Res) :
    evL (cx ρ) call yc false 10 lim k (Code.at [1, 1] c10) (sp 21 [(0, x0)]) H (kk none (fun s H => R (([2, 3] : List Nat).map fun t => s.getD t (.tup [])) H) [] R [2, 3]) = N10_1 ρ call yc lim k x0 H R := by
  kernel_rfl
noncomputable def L10 (ρ : Addr → Option Value) (call : CallF) (yc : YieldF) (lim k : Nat) (x0 : AV) (H : Heap) : Res :=
  purK (binA Try.prog H .eql 22 x0 (.int .u64 0)) fun x5 =>
  condK x5
  (
    N10_1 ρ call yc lim k (.int .u64 1) H retK)
  (
    N10_1 ρ call yc lim k x0 H retK)
theorem L10_x (ρ : Addr → Option Value) (call : CallF) (yc : YieldF) (lim k : Nat) (J : CodeF) (x0 : AV) (H : Heap) :
    evX (cx ρ) call yc false 10 lim k J c10 [x0, (.tup []), (.tup []), (.tup []), (.tup []), (.tup []), (.tup []), (.tup []), (.tup []), (.tup []), (.tup []), (.tup []), (.tup []), (.tup []), (.tup []), (.tup []), (.tup []), (.tup []), (.tup []), (.tup []), (.tup [])] H (kk none (fun s H => retK (([2, 3] : List Nat).map fun t => s.getD t (.tup [])) H) [] retK [2, 3]) =
  purK (binA Try.prog H .eql 22 x0 (.int .u64 0)) fun x5 =>
  condK x5
  (
    J (Code.at [1, 1] c10) (sp 21 [(0, (.int .u64 1))]) H (kk none (fun s H => retK (([2, 3] : List Nat).map fun t => s.getD t (.tup [])) H) [] retK [2, 3]))
  (
    J (Code.at [1, 1] c10) (sp 21 [(0, x0)]) H (kk none (fun s H => retK (([2, 3] : List Nat).map fun t => s.getD t (.tup [])) H) [] retK [2, 3])) := by
  kernel_rfl
theorem G10 (ρ : Addr → Option Value) (call : CallF) (yc : YieldF) (lim k : Nat) (x0 : AV) (H : Heap) :
    evL (cx ρ) call yc false 10 lim k c10 [x0, (.tup []), (.tup []), (.tup []), (.tup []), (.tup []), (.tup []), (.tup []), (.tup []), (.tup []), (.tup []), (.tup []), (.tup []), (.tup []), (.tup []), (.tup []), (.tup []), (.tup []), (.tup []), (.tup []), (.tup [])] H (kk none (fun s H => retK (([2, 3] : List Nat).map fun t => s.getD t (.tup [])) H) [] retK [2, 3]) = L10 ρ call yc lim k x0 H := by
  rw [evL_X, L10_x]
  simp only [← evL_X, L10, N10_1_eq]
theorem E10 (ρ : Addr → Option Value) (k lim : Nat) (x0 : AV) (H : Heap) : evCall (cx ρ) (k + 1) lim 10 [x0] H = L10 ρ (evCall (cx ρ) k) (evCY (cx ρ) k).2 lim k x0 H := by
  rw [evCall_body (cx ρ) k lim 10 _ H Try.f10 c10 [2, 3] (by kernel_rfl) (by kernel_rfl) (by kernel_rfl) (by kernel_rfl) (by kernel_rfl)]
  exact G10 ρ (evCall (cx ρ) k) (evCY (cx ρ) k).2 lim k x0 H
-- haycroft/plan.Rounds
noncomputable def c22 : Code := Code.of Try.prog 22
noncomputable def N22_2 (ρ : Addr → Option Value) (call : CallF) (yc : YieldF) (lim k : Nat) (x8 : AV) (H : Heap) (R : List AV → Heap → Res) : Res :=
  R [x8, (.int .i64 0)] H
theorem N22_2_eq (ρ : Addr → Option Value) (call : CallF) (yc : YieldF) (lim k : Nat) (x8 : AV) (H : Heap) (R : List AV → Heap → Res) :
    evL (cx ρ) call yc false 22 lim k (Code.at [1, 1, 1, 1, 1] c22) (sp 58 [(8, x8)]) H (kk none (fun s H => R (([6, 7] : List Nat).map fun t => s.getD t (.tup [])) H) [] R [6, 7]) = N22_2 ρ call yc lim k x8 H R := by
  kernel_rfl
noncomputable def N22_5 (ρ : Addr → Option Value) (call : CallF) (yc : YieldF) (lim k : Nat) (x0 x1 x8 x9 x30 x31 : AV) (H : Heap) (kn : AV → AV → AV → AV → AV → AV → Heap → Res) : Res :=
  purK (binA Try.prog H .add 3 x31 (.int .i64 1)) fun x56_1 =>
  kn x0 x1 x8 x9 x30 x56_1 H
theorem N22_5_eq (ρ : Addr → Option Value) (call : CallF) (yc : YieldF) (lim k : Nat) (x0 x1 x8 x9 x30 x31 : AV) (H : Heap) (kn : KS) (k1 : KS) (R : List AV → Heap → Res) :
    evL (cx ρ) call yc false 22 lim k (Code.at [1, 1, 1, 1, 0, 1, 0, 0, 1, 1, 1] c22) (sp 58 [(0, x0), (1, x1), (8, x8), (9, x9), (30, x30), (31, x31)]) H (kk (some [0, 1, 8, 9, 30, 31]) kn [(1, (some [8]), k1)] R [6, 7]) = N22_5 ρ call yc lim k x0 x1 x8 x9 x30 x31 H (fun x0 x1 x8 x9 x30 x31 H => kn (sp 58 [(0, x0), (1, x1), (8, x8), (9, x9), (30, x30), (31, x31)]) H) := by
  kernel_rfl
noncomputable def N22_8b (ρ : Addr → Option Value) (call : CallF) (yc : YieldF) (lim k : Nat) (x0 x1 x8 x9 x30 x31 x45 x46 : AV) (H : Heap) (kn : AV → AV → AV → AV → AV → AV → AV → AV → Heap → Res) (k5 : AV → AV → AV → AV → AV → AV → Heap → Res) : Res :=
  purK (binA Try.prog H .lss 3 x46 x45) fun x47_1 =>
  condK x47_1
  (
    purK (binA Try.prog H .add 3 x9 (.int .i64 1)) fun x49_1 =>
    purK (bldA [.int .i64 0, .int .i64 0, .int .i64 0, .int .i64 0, .str ByteArray.empty, .str ByteArray.empty, .int .u64 0, .nils] [(0, 1, (.int .i64 4)), (2, 1, x49_1)]) fun x52_1 =>
    effK H (bldS H 42 8 [.int .i64 0, .int .i64 0, .int .i64 0, .int .i64 0, .str ByteArray.empty, .str ByteArray.empty, .int .u64 0, .nils] 1 [(0, 8, x52_1)]) fun x53_1 H =>
    effK H (apA ρ lim H 42 8 96 x8 x53_1) fun x54_1 H =>
    purK (binA Try.prog H .add 3 x46 (.int .i64 1)) fun x55_1 =>
    kn x0 x1 x54_1 x49_1 x30 x31 x45 x55_1 H)
  (
    k5 x0 x1 x8 x9 x30 x31 H)
theorem N22_8b_eq (ρ : Addr → Option Value) (call : CallF) (yc : YieldF) (lim k : Nat) (x0 x1 x8 x9 x30 x31 x45 x46 : AV) (H : Heap) (kn : KS) (k5 : KS) (k2 : KS) (k1 : KS) (R : List AV → Heap → Res) :
    evL (cx ρ) call yc false 22 lim k (Code.at [1, 1, 1, 1, 0, 1, 0, 0, 1, 1, 0, 0, 1, 1, 0, 0] c22) (sp 58 [(0, x0), (1, x1), (8, x8), (9, x9), (30, x30), (31, x31), (45, x45), (46, x46)]) H (kk (some [0, 1, 8, 9, 30, 31, 45, 46]) kn [(5, (some [0, 1, 8, 9, 30, 31]), k5), (2, (some [0, 1, 8, 9, 30, 31]), k2), (1, (some [8]), k1)] R [6, 7]) = N22_8b ρ call yc lim k x0 x1 x8 x9 x30 x31 x45 x46 H (fun x0 x1 x8 x9 x30 x31 x45 x46 H => kn (sp 58 [(0, x0), (1, x1), (8, x8), (9, x9), (30, x30), (31, x31), (45, x45), (46, x46)]) H) (fun x0 x1 x8 x9 x30 x31 H => k5 (sp 58 [(0, x0), (1, x1), (8, x8), (9, x9), (30, x30), (31, x31)]) H) := by
  kernel_rfl
noncomputable def N22_8 (ρ : Addr → Option Value) (call : CallF) (yc : YieldF) (lim k : Nat) (x0 x1 x8 x9 x30 x31 x45 x46 : AV) (H : Heap) (k5 : AV → AV → AV → AV → AV → AV → Heap → Res) : Res :=
  loopL (fun (x : AV × AV × AV) H kn => N22_8b ρ call yc lim k x0 x1 x.1 x.2.1 x30 x31 x45 x.2.2 H (fun _ _ x8 x9 _ _ _ x46 H => kn (x8, x9, x46) H) k5) k (x8, x9, x46) H
theorem N22_8_eq (ρ : Addr → Option Value) (call : CallF) (yc : YieldF) (lim k : Nat) (x0 x1 x8 x9 x30 x31 x45 x46 : AV) (H : Heap) (kn : KS) (k5 : KS) (k2 : KS) (k1 : KS) (R : List AV → Heap → Res) :
    evL (cx ρ) call yc false 22 lim k (Code.at [1, 1, 1, 1, 0, 1, 0, 0, 1, 1, 0, 0, 1, 1, 0] c22) (sp 58 [(0, x0), (1, x1), (8, x8), (9, x9), (30, x30), (31, x31), (45, x45), (46, x46)]) H (kk (some [0, 1, 8, 9, 30, 31]) kn [(5, (some [0, 1, 8, 9, 30, 31]), k5), (2, (some [0, 1, 8, 9, 30, 31]), k2), (1, (some [8]), k1)] R [6, 7]) = N22_8 ρ call yc lim k x0 x1 x8 x9 x30 x31 x45 x46 H (fun x0 x1 x8 x9 x30 x31 H => k5 (sp 58 [(0, x0), (1, x1), (8, x8), (9, x9), (30, x30), (31, x31)]) H) := by
  have e : Code.at [1, 1, 1, 1, 0, 1, 0, 0, 1, 1, 0, 0, 1, 1, 0] c22 = .loop (Code.at [1, 1, 1, 1, 0, 1, 0, 0, 1, 1, 0, 0, 1, 1, 0, 0] c22) := by kernel_rfl
  rw [e]
  unfold N22_8
  exact loop_node [0, 1, 8, 9, 30, 31, 45, 46] (fun x : AV × AV × AV => (sp 58 [(0, x0), (1, x1), (8, (x.1)), (9, (x.2.1)), (30, x30), (31, x31), (45, x45), (46, (x.2.2))])) (fun (x : AV × AV × AV) H kn => N22_8b ρ call yc lim k x0 x1 x.1 x.2.1 x30 x31 x45 x.2.2 H (fun _ _ x8 x9 _ _ _ x46 H => kn (x8, x9, x46) H) (fun x0 x1 x8 x9 x30 x31 H => k5 (sp 58 [(0, x0), (1, x1), (8, x8), (9, x9), (30, x30), (31, x31)]) H)) (by kernel_rfl) (fun x => by kernel_rfl) (fun x H kn => N22_8b_eq ρ call yc lim k x0 x1 (x.1) (x.2.1) x30 x31 x45 (x.2.2) H kn k5 k2 k1 R) (x8, x9, x46) (sp 58 [(0, x0), (1, x1), (8, x8), (9, x9), (30, x30), (31, x31), (45, x45), (46, x46)]) H (by kernel_rfl)
noncomputable def N22_7 (ρ : Addr → Option Value) (call : CallF) (yc : YieldF) (lim k : Nat) (x0 x1 x8 x9 x30 x31 x45 x46 : AV) (H : Heap) (kn : AV → AV → AV → AV → AV → AV → Heap → Res) : Res :=
  N22_8 ρ call yc lim k x0 x1 x8 x9 x30 x31 x45 x46 H kn
theorem N22_7_x (ρ : Addr → Option Value) (call : CallF) (yc : YieldF) (lim k : Nat) (J : CodeF) (x0 x1 x8 x9 x30 x31 x45 x46 : AV) (H : Heap) (kn : KS) (k2 : KS) (k1 : KS) (R : List AV → Heap → Res) :
    evX (cx ρ) call yc false 22 lim k J (Code.at [1, 1, 1, 1, 0, 1, 0, 0, 1, 1, 0, 0, 1, 1] c22) (sp 58 [(0, x0), (1, x1), (8, x8), (9, x9), (30, x30), (31, x31), (45, x45), (46, x46)]) H (kk (some [0, 1, 8, 9, 30, 31]) kn [(2, (some [0, 1, 8, 9, 30, 31]), k2), (1, (some [8]), k1)] R [6, 7]) =
  J (Code.at [1, 1, 1, 1, 0, 1, 0, 0, 1, 1, 0, 0, 1, 1, 0] c22) (sp 58 [(0, x0), (1, x1), (8, x8), (9, x9), (30, x30), (31, x31), (45, x45), (46, x46)]) H (kk (some [0, 1, 8, 9, 30, 31]) kn [(5, (some [0, 1, 8, 9, 30, 31]), kn), (2, (some [0, 1, 8, 9, 30, 31]), k2), (1, (some [8]), k1)] R [6, 7]) := by
  kernel_rfl
theorem N22_7_eq (ρ : Addr → Option Value) (call : CallF) (yc : YieldF) (lim k : Nat) (x0 x1 x8 x9 x30 x31 x45 x46 : AV) (H : Heap) (kn : KS) (k2 : KS) (k1 : KS) (R : List AV → Heap → Res) :
    evL (cx ρ) call yc false 22 lim k (Code.at [1, 1, 1, 1, 0, 1, 0, 0, 1, 1, 0, 0, 1, 1] c22) (sp 58 [(0, x0), (1, x1), (8, x8), (9, x9), (30, x30), (31, x31), (45, x45), (46, x46)]) H (kk (some [0, 1, 8, 9, 30, 31]) kn [(2, (some [0, 1, 8, 9, 30, 31]), k2), (1, (some [8]), k1)] R [6, 7]) = N22_7 ρ call yc lim k x0 x1 x8 x9 x30 x31 x45 x46 H (fun x0 x1 x8 x9 x30 x31 H => kn (sp 58 [(0, x0), (1, x1), (8, x8), (9, x9), (30, x30), (31, x31)]) H) := by
  rw [evL_X, N22_7_x]
  simp only [← evL_X, N22_7, N22_8_eq]
noncomputable def N22_6 (ρ : Addr → Option Value) (call : CallF) (yc : YieldF) (lim k : Nat) (x0 x1 x8 x9 x30 x31 : AV) (H : Heap) (kn : AV → AV → AV → AV → AV → AV → Heap → Res) : Res :=
  N22_7 ρ call yc lim k x0 x1 x8 x9 x30 x31 x1 (.int .i64 0) H kn
theorem N22_6_x (ρ : Addr → Option Value) (call : CallF) (yc : YieldF) (lim k : Nat) (J : CodeF) (x0 x1 x8 x9 x30 x31 : AV) (H : Heap) (kn : KS) (k2 : KS) (k1 : KS) (R : List AV → Heap → Res) :
    evX (cx ρ) call yc false 22 lim k J (Code.at [1, 1, 1, 1, 0, 1, 0, 0, 1, 1, 0, 0, 1] c22) (sp 58 [(0, x0), (1, x1), (8, x8), (9, x9), (30, x30), (31, x31)]) H (kk (some [0, 1, 8, 9, 30, 31]) kn [(2, (some [0, 1, 8, 9, 30, 31]), k2), (1, (some [8]), k1)] R [6, 7]) =
  J (Code.at [1, 1, 1, 1, 0, 1, 0, 0, 1, 1, 0, 0, 1, 1] c22) (sp 58 [(0, x0), (1, x1), (8, x8), (9, x9), (30, x30), (31, x31), (45, x1), (46, (.int .i64 0))]) H (kk (some [0, 1, 8, 9, 30, 31]) kn [(2, (some [0, 1, 8, 9, 30, 31]), k2), (1, (some [8]), k1)] R [6, 7]) := by
  kernel_rfl
theorem N22_6_eq (ρ : Addr → Option Value) (call : CallF) (yc : YieldF) (lim k : Nat) (x0 x1 x8 x9 x30 x31 : AV) (H : Heap) (kn : KS) (k2 : KS) (k1 : KS) (R : List AV → Heap → Res) :
    evL (cx ρ) call yc false 22 lim k (Code.at [1, 1, 1, 1, 0, 1, 0, 0, 1, 1, 0, 0, 1] c22) (sp 58 [(0, x0), (1, x1), (8, x8), (9, x9), (30, x30), (31, x31)]) H (kk (some [0, 1, 8, 9, 30, 31]) kn [(2, (some [0, 1, 8, 9, 30, 31]), k2), (1, (some [8]), k1)] R [6, 7]) = N22_6 ρ call yc lim k x0 x1 x8 x9 x30 x31 H (fun x0 x1 x8 x9 x30 x31 H => kn (sp 58 [(0, x0), (1, x1), (8, x8), (9, x9), (30, x30), (31, x31)]) H) := by
  rw [evL_X, N22_6_x]
  simp only [← evL_X, N22_6, N22_7_eq]
noncomputable def N22_10b (ρ : Addr → Option Value) (call : CallF) (yc : YieldF) (lim k : Nat) (x0 x1 x8 x9 x30 x31 x33 x34 : AV) (H : Heap) (kn : AV → AV → AV → AV → AV → AV → AV → AV → Heap → Res) (k3 : AV → AV → AV → AV → AV → AV → Heap → Res) : Res :=
  purK (binA Try.prog H .lss 3 x34 x33) fun x35_1 =>
  condK x35_1
  (
    purK (bldA [.int .i64 0, .int .i64 0, .int .i64 0, .int .i64 0, .str ByteArray.empty, .str ByteArray.empty, .int .u64 0, .nils] [(0, 1, (.int .i64 2)), (1, 1, x34)]) fun x39_1 =>
    purK (bldA [.int .i64 0, .int .i64 0, .int .i64 0, .int .i64 0, .str ByteArray.empty, .str ByteArray.empty, .int .u64 0, .nils] [(0, 1, (.int .i64 3)), (1, 1, x34)]) fun x41_1 =>
    effK H (bldS H 42 8 [.int .i64 0, .int .i64 0, .int .i64 0, .int .i64 0, .str ByteArray.empty, .str ByteArray.empty, .int .u64 0, .nils] 2 [(0, 8, x39_1), (8, 8, x41_1)]) fun x42_1 H =>
    effK H (apA ρ lim H 42 8 96 x8 x42_1) fun x43_1 H =>
    purK (binA Try.prog H .add 3 x34 (.int .i64 1)) fun x44_1 =>
    kn x0 x1 x43_1 x9 x30 x31 x33 x44_1 H)
  (
    k3 x0 x1 x8 x9 x30 x31 H)
theorem N22_10b_eq (ρ : Addr → Option Value) (call : CallF) (yc : YieldF) (lim k : Nat) (x0 x1 x8 x9 x30 x31 x33 x34 : AV) (H : Heap) (kn : KS) (k3 : KS) (k2 : KS) (k1 : KS) (R : List AV → Heap → Res) :
    evL (cx ρ) call yc false 22 lim k (Code.at [1, 1, 1, 1, 0, 1, 0, 0, 1, 1, 0, 0, 0, 1, 0, 0] c22) (sp 58 [(0, x0), (1, x1), (8, x8), (9, x9), (30, x30), (31, x31), (33, x33), (34, x34)]) H (kk (some [0, 1, 8, 9, 30, 31, 33, 34]) kn [(3, (some [0, 1, 8, 9, 30, 31]), k3), (2, (some [0, 1, 8, 9, 30, 31]), k2), (1, (some [8]), k1)] R [6, 7]) = N22_10b ρ call yc lim k x0 x1 x8 x9 x30 x31 x33 x34 H (fun x0 x1 x8 x9 x30 x31 x33 x34 H => kn (sp 58 [(0, x0), (1, x1), (8, x8), (9, x9), (30, x30), (31, x31), (33, x33), (34, x34)]) H) (fun x0 x1 x8 x9 x30 x31 H => k3 (sp 58 [(0, x0), (1, x1), (8, x8), (9, x9), (30, x30), (31, x31)]) H) := by
  kernel_rfl
noncomputable def N22_10 (ρ : Addr → Option Value) (call : CallF) (yc : YieldF) (lim k : Nat) (x0 x1 x8 x9 x30 x31 x33 x34 : AV) (H : Heap) (k3 : AV → AV → AV → AV → AV → AV → Heap → Res) : Res :=
  loopL (fun (x : AV × AV) H kn => N22_10b ρ call yc lim k x0 x1 x.1 x9 x30 x31 x33 x.2 H (fun _ _ x8 _ _ _ _ x34 H => kn (x8, x34) H) k3) k (x8, x34) H
theorem N22_10_eq (ρ : Addr → Option Value) (call : CallF) (yc : YieldF) (lim k : Nat) (x0 x1 x8 x9 x30 x31 x33 x34 : AV) (H : Heap) (kn : KS) (k3 : KS) (k2 : KS) (k1 : KS) (R : List AV → Heap → Res) :
    evL (cx ρ) call yc false 22 lim k (Code.at [1, 1, 1, 1, 0, 1, 0, 0, 1, 1, 0, 0, 0, 1, 0] c22) (sp 58 [(0, x0), (1, x1), (8, x8), (9, x9), (30, x30), (31, x31), (33, x33), (34, x34)]) H (kk (some [0, 1, 8, 9, 30, 31]) kn [(3, (some [0, 1, 8, 9, 30, 31]), k3), (2, (some [0, 1, 8, 9, 30, 31]), k2), (1, (some [8]), k1)] R [6, 7]) = N22_10 ρ call yc lim k x0 x1 x8 x9 x30 x31 x33 x34 H (fun x0 x1 x8 x9 x30 x31 H => k3 (sp 58 [(0, x0), (1, x1), (8, x8), (9, x9), (30, x30), (31, x31)]) H) := by
  have e : Code.at [1, 1, 1, 1, 0, 1, 0, 0, 1, 1, 0, 0, 0, 1, 0] c22 = .loop (Code.at [1, 1, 1, 1, 0, 1, 0, 0, 1, 1, 0, 0, 0, 1, 0, 0] c22) := by kernel_rfl
  rw [e]
  unfold N22_10
  exact loop_node [0, 1, 8, 9, 30, 31, 33, 34] (fun x : AV × AV => (sp 58 [(0, x0), (1, x1), (8, (x.1)), (9, x9), (30, x30), (31, x31), (33, x33), (34, (x.2))])) (fun (x : AV × AV) H kn => N22_10b ρ call yc lim k x0 x1 x.1 x9 x30 x31 x33 x.2 H (fun _ _ x8 _ _ _ _ x34 H => kn (x8, x34) H) (fun x0 x1 x8 x9 x30 x31 H => k3 (sp 58 [(0, x0), (1, x1), (8, x8), (9, x9), (30, x30), (31, x31)]) H)) (by kernel_rfl) (fun x => by kernel_rfl) (fun x H kn => N22_10b_eq ρ call yc lim k x0 x1 (x.1) x9 x30 x31 x33 (x.2) H kn k3 k2 k1 R) (x8, x34) (sp 58 [(0, x0), (1, x1), (8, x8), (9, x9), (30, x30), (31, x31), (33, x33), (34, x34)]) H (by kernel_rfl)
noncomputable def N22_9 (ρ : Addr → Option Value) (call : CallF) (yc : YieldF) (lim k : Nat) (x0 x1 x8 x9 x30 x31 x33 x34 : AV) (H : Heap) (kn : AV → AV → AV → AV → AV → AV → Heap → Res) : Res :=
  N22_10 ρ call yc lim k x0 x1 x8 x9 x30 x31 x33 x34 H kn
theorem N22_9_x (ρ : Addr → Option Value) (call : CallF) (yc : YieldF) (lim k : Nat) (J : CodeF) (x0 x1 x8 x9 x30 x31 x33 x34 : AV) (H : Heap) (kn : KS) (k2 : KS) (k1 : KS) (R : List AV → Heap → Res) :
    evX (cx ρ) call yc false 22 lim k J (Code.at [1, 1, 1, 1, 0, 1, 0, 0, 1, 1, 0, 0, 0, 1] c22) (sp 58 [(0, x0), (1, x1), (8, x8), (9, x9), (30, x30), (31, x31), (33, x33), (34, x34)]) H (kk (some [0, 1, 8, 9, 30, 31]) kn [(2, (some [0, 1, 8, 9, 30, 31]), k2), (1, (some [8]), k1)] R [6, 7]) =
  J (Code.at [1, 1, 1, 1, 0, 1, 0, 0, 1, 1, 0, 0, 0, 1, 0] c22) (sp 58 [(0, x0), (1, x1), (8, x8), (9, x9), (30, x30), (31, x31), (33, x33), (34, x34)]) H (kk (some [0, 1, 8, 9, 30, 31]) kn [(3, (some [0, 1, 8, 9, 30, 31]), kn), (2, (some [0, 1, 8, 9, 30, 31]), k2), (1, (some [8]), k1)] R [6, 7]) := by
  kernel_rfl
theorem N22_9_eq (ρ : Addr → Option Value) (call : CallF) (yc : YieldF) (lim k : Nat) (x0 x1 x8 x9 x30 x31 x33 x34 : AV) (H : Heap) (kn : KS) (k2 : KS) (k1 : KS) (R : List AV → Heap → Res) :
    evL (cx ρ) call yc false 22 lim k (Code.at [1, 1, 1, 1, 0, 1, 0, 0, 1, 1, 0, 0, 0, 1] c22) (sp 58 [(0, x0), (1, x1), (8, x8), (9, x9), (30, x30), (31, x31), (33, x33), (34, x34)]) H (kk (some [0, 1, 8, 9, 30, 31]) kn [(2, (some [0, 1, 8, 9, 30, 31]), k2), (1, (some [8]), k1)] R [6, 7]) = N22_9 ρ call yc lim k x0 x1 x8 x9 x30 x31 x33 x34 H (fun x0 x1 x8 x9 x30 x31 H => kn (sp 58 [(0, x0), (1, x1), (8, x8), (9, x9), (30, x30), (31, x31)]) H) := by
  rw [evL_X, N22_9_x]
  simp only [← evL_X, N22_9, N22_10_eq]
noncomputable def N22_4b (ρ : Addr → Option Value) (call : CallF) (yc : YieldF) (lim k : Nat) (x0 x1 x8 x9 x30 x31 : AV) (H : Heap) (kn : AV → AV → AV → AV → AV → AV → Heap → Res) (k1 : AV → Heap → Res) : Res :=
  purK (binA Try.prog H .lss 3 x31 x30) fun x32_1 =>
  condK x32_1
  (
    N22_9 ρ call yc lim k x0 x1 x8 x9 x30 x31 x0 (.int .i64 0) H (fun x0_1 x1_1 x8_1 x9_1 x30_1 x31_1 H =>
      N22_6 ρ call yc lim k x0_1 x1_1 x8_1 x9_1 x30_1 x31_1 H (fun x0_2 x1_2 x8_2 x9_2 x30_2 x31_2 H =>
        N22_5 ρ call yc lim k x0_2 x1_2 x8_2 x9_2 x30_2 x31_2 H kn)))
  (
    k1 x8 H)
theorem N22_4b_x (ρ : Addr → Option Value) (call : CallF) (yc : YieldF) (lim k : Nat) (J : CodeF) (x0 x1 x8 x9 x30 x31 : AV) (H : Heap) (kn : KS) (k1 : KS) (R : List AV → Heap → Res) :
    evX (cx ρ) call yc false 22 lim k J (Code.at [1, 1, 1, 1, 0, 1, 0, 0] c22) (sp 58 [(0, x0), (1, x1), (8, x8), (9, x9), (30, x30), (31, x31)]) H (kk (some [0, 1, 8, 9, 30, 31]) kn [(1, (some [8]), k1)] R [6, 7]) =
  purK (binA Try.prog H .lss 3 x31 x30) fun x32_1 =>
  condK x32_1
  (
    J (Code.at [1, 1, 1, 1, 0, 1, 0, 0, 1, 1, 0, 0, 0, 1] c22) (sp 58 [(0, x0), (1, x1), (8, x8), (9, x9), (30, x30), (31, x31), (33, x0), (34, (.int .i64 0))]) H (kk (some [0, 1, 8, 9, 30, 31]) (fun s H => J (Code.at [1, 1, 1, 1, 0, 1, 0, 0, 1, 1, 0, 0, 1] c22) s H (kk (some [0, 1, 8, 9, 30, 31]) (fun s H => J (Code.at [1, 1, 1, 1, 0, 1, 0, 0, 1, 1, 1] c22) s H (kk (some [0, 1, 8, 9, 30, 31]) kn [(1, (some [8]), k1)] R [6, 7])) [(2, (some [0, 1, 8, 9, 30, 31]), (fun s H => J (Code.at [1, 1, 1, 1, 0, 1, 0, 0, 1, 1, 1] c22) s H (kk (some [0, 1, 8, 9, 30, 31]) kn [(1, (some [8]), k1)] R [6, 7]))), (1, (some [8]), k1)] R [6, 7])) [(2, (some [0, 1, 8, 9, 30, 31]), (fun s H => J (Code.at [1, 1, 1, 1, 0, 1, 0, 0, 1, 1, 1] c22) s H (kk (some [0, 1, 8, 9, 30, 31]) kn [(1, (some [8]), k1)] R [6, 7]))), (1, (some [8]), k1)] R [6, 7]))
  (
    k1 (sp 58 [(8, x8)]) H) := by
  kernel_rfl
theorem N22_4b_eq (ρ : Addr → Option Value) (call : CallF) (yc : YieldF) (lim k : Nat) (x0 x1 x8 x9 x30 x31 : AV) (H : Heap) (kn : KS) (k1 : KS) (R : List AV → Heap → Res) :
    evL (cx ρ) call yc false 22 lim k (Code.at [1, 1, 1, 1, 0, 1, 0, 0] c22) (sp 58 [(0, x0), (1, x1), (8, x8), (9, x9), (30, x30), (31, x31)]) H (kk (some [0, 1, 8, 9, 30, 31]) kn [(1, (some [8]), k1)] R [6, 7]) = N22_4b ρ call yc lim k x0 x1 x8 x9 x30 x31 H (fun x0 x1 x8 x9 x30 x31 H => kn (sp 58 [(0, x0), (1, x1), (8, x8), (9, x9), (30, x30), (31, x31)]) H) (fun x8 H => k1 (sp 58 [(8, x8)]) H) := by
  rw [evL_X, N22_4b_x]
  simp only [← evL_X, N22_4b, N22_5_eq, N22_6_eq, N22_9_eq]
noncomputable def N22_4 (ρ : Addr → Option Value) (call : CallF) (yc : YieldF) (lim k : Nat) (x0 x1 x8 x9 x30 x31 : AV) (H : Heap) (k1 : AV → Heap → Res) : Res :=
  loopL (fun (x : AV × AV × AV) H kn => N22_4b ρ call yc lim k x0 x1 x.1 x.2.1 x30 x.2.2 H (fun _ _ x8 x9 _ x31 H => kn (x8, x9, x31) H) k1) k (x8, x9, x31) H
theorem N22_4_eq (ρ : Addr → Option Value) (call : CallF) (yc : YieldF) (lim k : Nat) (x0 x1 x8 x9 x30 x31 : AV) (H : Heap) (kn : KS) (k1 : KS) (R : List AV → Heap → Res) :
    evL (cx ρ) call yc false 22 lim k (Code.at [1, 1, 1, 1, 0, 1, 0] c22) (sp 58 [(0, x0), (1, x1), (8, x8), (9, x9), (30, x30), (31, x31)]) H (kk (some [8]) kn [(1, (some [8]), k1)] R [6, 7]) = N22_4 ρ call yc lim k x0 x1 x8 x9 x30 x31 H (fun x8 H => k1 (sp 58 [(8, x8)]) H) := by
  have e : Code.at [1, 1, 1, 1, 0, 1, 0] c22 = .loop (Code.at [1, 1, 1, 1, 0, 1, 0, 0] c22) := by kernel_rfl
  rw [e]
  unfold N22_4
  exact loop_node [0, 1, 8, 9, 30, 31] (fun x : AV × AV × AV => (sp 58 [(0, x0), (1, x1), (8, (x.1)), (9, (x.2.1)), (30, x30), (31, (x.2.2))])) (fun (x : AV × AV × AV) H kn => N22_4b ρ call yc lim k x0 x1 x.1 x.2.1 x30 x.2.2 H (fun _ _ x8 x9 _ x31 H => kn (x8, x9, x31) H) (fun x8 H => k1 (sp 58 [(8, x8)]) H)) (by kernel_rfl) (fun x => by kernel_rfl) (fun x H kn => N22_4b_eq ρ call yc lim k x0 x1 (x.1) (x.2.1) x30 (x.2.2) H kn k1 R) (x8, x9, x31) (sp 58 [(0, x0), (1, x1), (8, x8), (9, x9), (30, x30), (31, x31)]) H (by kernel_rfl)
noncomputable def N22_3 (ρ : Addr → Option Value) (call : CallF) (yc : YieldF) (lim k : Nat) (x0 x1 x8 x9 x30 x31 : AV) (H : Heap) (kn : AV → Heap → Res) : Res :=
  N22_4 ρ call yc lim k x0 x1 x8 x9 x30 x31 H kn
theorem N22_3_x (ρ : Addr → Option Value) (call : CallF) (yc : YieldF) (lim k : Nat) (J : CodeF) (x0 x1 x8 x9 x30 x31 : AV) (H : Heap) (kn : KS) (R : List AV → Heap → Res) :
    evX (cx ρ) call yc false 22 lim k J (Code.at [1, 1, 1, 1, 0, 1] c22) (sp 58 [(0, x0), (1, x1), (8, x8), (9, x9), (30, x30), (31, x31)]) H (kk (some [8]) kn [] R [6, 7]) =
  J (Code.at [1, 1, 1, 1, 0, 1, 0] c22) (sp 58 [(0, x0), (1, x1), (8, x8), (9, x9), (30, x30), (31, x31)]) H (kk (some [8]) kn [(1, (some [8]), kn)] R [6, 7]) := by
  kernel_rfl
theorem N22_3_eq (ρ : Addr → Option Value) (call : CallF) (yc : YieldF) (lim k : Nat) (x0 x1 x8 x9 x30 x31 : AV) (H : Heap) (kn : KS) (R : List AV → Heap → Res) :
    evL (cx ρ) call yc false 22 lim k (Code.at [1, 1, 1, 1, 0, 1] c22) (sp 58 [(0, x0), (1, x1), (8, x8), (9, x9), (30, x30), (31, x31)]) H (kk (some [8]) kn [] R [6, 7]) = N22_3 ρ call yc lim k x0 x1 x8 x9 x30 x31 H (fun x8 H => kn (sp 58 [(8, x8)]) H) := by
  rw [evL_X, N22_3_x]
  simp only [← evL_X, N22_3, N22_4_eq]
noncomputable def N22_1 (ρ : Addr → Option Value) (call : CallF) (yc : YieldF) (lim k : Nat) (x0 x1 x2 : AV) (H : Heap) (R : List AV → Heap → Res) : Res :=
  N22_3 ρ call yc lim k x0 x1 .nils (.int .i64 0) x2 (.int .i64 0) H (fun x8_1 H =>
    N22_2 ρ call yc lim k x8_1 H R)
theorem N22_1_x (ρ : Addr → Option Value) (call : CallF) (yc : YieldF) (lim k : Nat) (J : CodeF) (x0 x1 x2 : AV) (H : Heap) (R : List AV → Heap → Res) :
    evX (cx ρ) call yc false 22 lim k J (Code.at [1, 1] c22) (sp 58 [(0, x0), (1, x1), (2, x2)]) H (kk none (fun s H => R (([6, 7] : List Nat).map fun t => s.getD t (.tup [])) H) [] R [6, 7]) =
  J (Code.at [1, 1, 1, 1, 0, 1] c22) (sp 58 [(0, x0), (1, x1), (8, .nils), (9, (.int .i64 0)), (30, x2), (31, (.int .i64 0))]) H (kk (some [8]) (fun s H => J (Code.at [1, 1, 1, 1, 1] c22) s H (kk none (fun s H => R (([6, 7] : List Nat).map fun t => s.getD t (.tup [])) H) [] R [6, 7])) [] R [6, 7]) := by
  kernel_rfl
theorem N22_1_eq (ρ : Addr → Option Value) (call : CallF) (yc : YieldF) (lim k : Nat) (x0 x1 x2 : AV) (H : Heap) (R : List AV → Heap → Res) :
    evL (cx ρ) call yc false 22 lim k (Code.at [1, 1] c22) (sp 58 [(0, x0), (1, x1), (2, x2)]) H (kk none (fun s H => R (([6, 7] : List Nat).map fun t => s.getD t (.tup [])) H) [] R [6, 7]) = N22_1 ρ call yc lim k x0 x1 x2 H R := by
  rw [evL_X, N22_1_x]
  simp only [← evL_X, N22_1, N22_2_eq, N22_3_eq]
noncomputable def N22_11 (ρ : Addr → Option Value) (call : CallF) (yc : YieldF) (lim k : Nat) (x0 x1 x2 x11 : AV) (H : Heap) (kn : AV → AV → AV → Heap → Res) (R : List AV → Heap → Res) : Res :=
  condK x11
  (
    R [.nils, (.int .i64 1)] H)
  (
    kn x0 x1 x2 H)
theorem N22_11_eq (ρ : Addr → Option Value) (call : CallF) (yc : YieldF) (lim k : Nat) (x0 x1 x2 x11 : AV) (H : Heap) (kn : KS) (k0 : KS) (R : List AV → Heap → Res) :
    evL (cx ρ) call yc false 22 lim k (Code.at [1, 0, 0, 1] c22) (sp 58 [(0, x0), (1, x1), (2, x2), (11, x11)]) H (kk (some [0, 1, 2]) kn [(0, (some [0, 1, 2]), k0)] R [6, 7]) = N22_11 ρ call yc lim k x0 x1 x2 x11 H (fun x0 x1 x2 H => kn (sp 58 [(0, x0), (1, x1), (2, x2)]) H) R := by
  kernel_rfl
noncomputable def L22 (ρ : Addr → Option Value) (call : CallF) (yc : YieldF) (lim k : Nat) (x0 x1 x2 : AV) (H : Heap) : Res :=
  purK (binA Try.prog H .lss 3 x0 (.int .i64 1)) fun x13 =>
  purK (gPur (wantV x13 false) (some x0)) fun x15 =>
  purK (gPur (wantV x13 false) (binA Try.prog H .gtr 3 x15 (.int .i64 8))) fun x16 =>
  purK (pickA x13 (.bool true) x16) fun x17 =>
  condK x17
  (
    N22_11 ρ call yc lim k x0 x1 x2 x17 H (fun x0_1 x1_1 x2_1 H =>
      N22_1 ρ call yc lim k x0_1 x1_1 x2_1 H retK) retK)
  (
    purK (binA Try.prog H .lss 3 x1 (.int .i64 0)) fun x19 =>
    purK (gPur (wantV x19 false) (some x1)) fun x21 =>
    purK (gPur (wantV x19 false) (binA Try.prog H .gtr 3 x21 (.int .i64 32))) fun x22 =>
    purK (pickA x19 (.bool true) x22) fun x23 =>
    condK x23
    (
      N22_11 ρ call yc lim k x0 x1 x2 x23 H (fun x0_2 x1_2 x2_2 H =>
        N22_1 ρ call yc lim k x0_2 x1_2 x2_2 H retK) retK)
    (
      purK (binA Try.prog H .lss 3 x2 (.int .i64 0)) fun x25 =>
      purK (gPur (wantV x25 false) (some x2)) fun x27 =>
      purK (gPur (wantV x25 false) (binA Try.prog H .gtr 3 x27 (.int .i64 100))) fun x28 =>
      purK (pickA x25 (.bool true) x28) fun x29 =>
      N22_11 ρ call yc lim k x0 x1 x2 x29 H (fun x0_3 x1_3 x2_3 H =>
        N22_1 ρ call yc lim k x0_3 x1_3 x2_3 H retK) retK))
theorem L22_x (ρ : Addr → Option Value) (call : CallF) (yc : YieldF) (lim k : Nat) (J : CodeF) (x0 x1 x2 : AV) (H : Heap) :
    evX (cx ρ) call yc false 22 lim k J c22 [x0, x1, x2, (.tup []), (.tup []), (.tup []), (.tup []), (.tup []), (.tup []), (.tup []), (.tup []), (.tup []), (.tup []), (.tup []), (.tup []), (.tup []), (.tup []), (.tup []), (.tup []), (.tup []), (.tup []), (.tup []), (.tup []), (.tup []), (.tup []), (.tup []), (.tup []), (.tup []), (.tup []), (.tup []), (.tup []), (.tup []), (.tup []), (.tup []), (.tup []), (.tup []), (.tup []), (.tup []), (.tup []), (.tup []), (.tup []), (.tup []), (.tup []), (.tup []), (.tup []), (.tup []), (.tup []), (.tup []), (.tup []), (.tup []), (.tup []), (.tup []), (.tup []), (.tup []), (.tup []), (.tup []), (.tup []), (.tup [])] H (kk none (fun s H => retK (([6, 7] : List Nat).map fun t => s.getD t (.tup [])) H) [] retK [6, 7]) =
  purK (binA Try.prog H .lss 3 x0 (.int .i64 1)) fun x13 =>
  purK (gPur (wantV x13 false) (some x0)) fun x15 =>
  purK (gPur (wantV x13 false) (binA Try.prog H .gtr 3 x15 (.int .i64 8))) fun x16 =>
  purK (pickA x13 (.bool true) x16) fun x17 =>
  condK x17
  (
    J (Code.at [1, 0, 0, 1] c22) (sp 58 [(0, x0), (1, x1), (2, x2), (11, x17)]) H (kk (some [0, 1, 2]) (fun s H => J (Code.at [1, 1] c22) s H (kk none (fun s H => retK (([6, 7] : List Nat).map fun t => s.getD t (.tup [])) H) [] retK [6, 7])) [(0, (some [0, 1, 2]), (fun s H => J (Code.at [1, 1] c22) s H (kk none (fun s H => retK (([6, 7] : List Nat).map fun t => s.getD t (.tup [])) H) [] retK [6, 7])))] retK [6, 7]))
  (
    purK (binA Try.prog H .lss 3 x1 (.int .i64 0)) fun x19 =>
    purK (gPur (wantV x19 false) (some x1)) fun x21 =>
    purK (gPur (wantV x19 false) (binA Try.prog H .gtr 3 x21 (.int .i64 32))) fun x22 =>
    purK (pickA x19 (.bool true) x22) fun x23 =>
    condK x23
    (
      J (Code.at [1, 0, 0, 1] c22) (sp 58 [(0, x0), (1, x1), (2, x2), (11, x23)]) H (kk (some [0, 1, 2]) (fun s H => J (Code.at [1, 1] c22) s H (kk none (fun s H => retK (([6, 7] : List Nat).map fun t => s.getD t (.tup [])) H) [] retK [6, 7])) [(0, (some [0, 1, 2]), (fun s H => J (Code.at [1, 1] c22) s H (kk none (fun s H => retK (([6, 7] : List Nat).map fun t => s.getD t (.tup [])) H) [] retK [6, 7])))] retK [6, 7]))
    (
      purK (binA Try.prog H .lss 3 x2 (.int .i64 0)) fun x25 =>
      purK (gPur (wantV x25 false) (some x2)) fun x27 =>
      purK (gPur (wantV x25 false) (binA Try.prog H .gtr 3 x27 (.int .i64 100))) fun x28 =>
      purK (pickA x25 (.bool true) x28) fun x29 =>
      J (Code.at [1, 0, 0, 1] c22) (sp 58 [(0, x0), (1, x1), (2, x2), (11, x29)]) H (kk (some [0, 1, 2]) (fun s H => J (Code.at [1, 1] c22) s H (kk none (fun s H => retK (([6, 7] : List Nat).map fun t => s.getD t (.tup [])) H) [] retK [6, 7])) [(0, (some [0, 1, 2]), (fun s H => J (Code.at [1, 1] c22) s H (kk none (fun s H => retK (([6, 7] : List Nat).map fun t => s.getD t (.tup [])) H) [] retK [6, 7])))] retK [6, 7]))) := by
  kernel_rfl
theorem G22 (ρ : Addr → Option Value) (call : CallF) (yc : YieldF) (lim k : Nat) (x0 x1 x2 : AV) (H : Heap) :
    evL (cx ρ) call yc false 22 lim k c22 [x0, x1, x2, (.tup []), (.tup []), (.tup []), (.tup []), (.tup []), (.tup []), (.tup []), (.tup []), (.tup []), (.tup []), (.tup []), (.tup []), (.tup []), (.tup []), (.tup []), (.tup []), (.tup []), (.tup []), (.tup []), (.tup []), (.tup []), (.tup []), (.tup []), (.tup []), (.tup []), (.tup []), (.tup []), (.tup []), (.tup []), (.tup []), (.tup []), (.tup []), (.tup []), (.tup []), (.tup []), (.tup []), (.tup []), (.tup []), (.tup []), (.tup []), (.tup []), (.tup []), (.tup []), (.tup []), (.tup []), (.tup []), (.tup []), (.tup []), (.tup []), (.tup []), (.tup []), (.tup []), (.tup []), (.tup []), (.tup [])] H (kk none (fun s H => retK (([6, 7] : List Nat).map fun t => s.getD t (.tup [])) H) [] retK [6, 7]) = L22 ρ call yc lim k x0 x1 x2 H := by
  rw [evL_X, L22_x]
  simp only [← evL_X, L22, N22_11_eq, N22_1_eq]
theorem E22 (ρ : Addr → Option Value) (k lim : Nat) (x0 x1 x2 : AV) (H : Heap) : evCall (cx ρ) (k + 1) lim 22 [x0, x1, x2] H = L22 ρ (evCall (cx ρ) k) (evCY (cx ρ) k).2 lim k x0 x1 x2 H := by
  rw [evCall_body (cx ρ) k lim 22 _ H Try.f22 c22 [6, 7] (by kernel_rfl) (by kernel_rfl) (by kernel_rfl) (by kernel_rfl) (by kernel_rfl)]
  exact G22 ρ (evCall (cx ρ) k) (evCY (cx ρ) k).2 lim k x0 x1 x2 H
-- haycroft/plan.Fair
noncomputable def c23 : Code := Code.of Try.prog 23
noncomputable def N23_2 (ρ : Addr → Option Value) (call : CallF) (yc : YieldF) (lim k : Nat) (H : Heap) (R : List AV → Heap → Res) : Res :=
  R [(.bool true)] H
theorem N23_2_eq (ρ : Addr → Option Value) (call : CallF) (yc : YieldF) (lim k : Nat) (H : Heap) (R : List AV → Heap → Res) :
    evL (cx ρ) call yc false 23 lim k (Code.at [1, 1, 1] c23) (sp 27 []) H (kk none (fun s H => R (([6] : List Nat).map fun t => s.getD t (.tup [])) H) [] R [6]) = N23_2 ρ call yc lim k H R := by
  kernel_rfl
noncomputable def N23_3b (ρ : Addr → Option Value) (call : CallF) (yc : YieldF) (lim k : Nat) (x0 x1 x2 : AV) (H : Heap) (kn : AV → AV → AV → Heap → Res) (k0 : Heap → Res) (R : List AV → Heap → Res) : Res :=
  purK (lenS x0) fun x10_1 =>
  purK (binA Try.prog H .geq 3 x10_1 x2) fun x12_1 =>
  condK x12_1
  (
    purK (binA Try.prog H .gtr 3 x1 x2) fun x15_1 =>
    purK (gPur (wantV x15_1 false) (some x0)) fun x17_1 =>
    purK (gPur (wantV x15_1 false) (some x2)) fun x18_1 =>
    purK (gPur (wantV x15_1 false) (slS 8 x17_1 none (some x18_1) none)) fun x19_1 =>
    purK (gPur (wantV x15_1 false) (some x1)) fun x20_1 =>
    resK (gRes (wantV x15_1 false) H (call lim 34 [x19_1, x20_1] H)) fun x21_1 H =>
    purK (gPur (wantV x15_1 false) (unA .not x21_1)) fun x22_1 =>
    purK (pickA x15_1 (.bool true) x22_1) fun x23_1 =>
    condK x23_1
    (
      R [(.bool false)] H)
    (
      purK (slS 8 x0 (some x2) none none) fun x26_1 =>
      kn x26_1 x1 x2 H))
  (
    k0 H)
theorem N23_3b_eq (ρ : Addr → Option Value) (call : CallF) (yc : YieldF) (lim k : Nat) (x0 x1 x2 : AV) (H : Heap) (kn : KS) (k0 : KS) (R : List AV → Heap → Res) :
    evL (cx ρ) call yc false 23 lim k (Code.at [1, 1, 0, 0, 0] c23) (sp 27 [(0, x0), (1, x1), (2, x2)]) H (kk (some [0, 1, 2]) kn [(0, (some []), k0)] R [6]) = N23_3b ρ call yc lim k x0 x1 x2 H (fun x0 x1 x2 H => kn (sp 27 [(0, x0), (1, x1), (2, x2)]) H) (fun H => k0 (sp 27 []) H) R := by
  kernel_rfl
noncomputable def N23_3 (ρ : Addr → Option Value) (call : CallF) (yc : YieldF) (lim k : Nat) (x0 x1 x2 : AV) (H : Heap) (k0 : Heap → Res) (R : List AV → Heap → Res) : Res :=
  loopL (fun (x : AV) H kn => N23_3b ρ call yc lim k x x1 x2 H (fun x0 _ _ H => kn x0 H) k0 R) k x0 H
theorem N23_3_eq (ρ : Addr → Option Value) (call : CallF) (yc : YieldF) (lim k : Nat) (x0 x1 x2 : AV) (H : Heap) (kn : KS) (k0 : KS) (R : List AV → Heap → Res) :
    evL (cx ρ) call yc false 23 lim k (Code.at [1, 1, 0, 0] c23) (sp 27 [(0, x0), (1, x1), (2, x2)]) H (kk (some []) kn [(0, (some []), k0)] R [6]) = N23_3 ρ call yc lim k x0 x1 x2 H (fun H => k0 (sp 27 []) H) R := by
  have e : Code.at [1, 1, 0, 0] c23 = .loop (Code.at [1, 1, 0, 0, 0] c23) := by kernel_rfl
  rw [e]
  unfold N23_3
  exact loop_node [0, 1, 2] (fun x : AV => (sp 27 [(0, (x)), (1, x1), (2, x2)])) (fun (x : AV) H kn => N23_3b ρ call yc lim k x x1 x2 H (fun x0 _ _ H => kn x0 H) (fun H => k0 (sp 27 []) H) R) (by kernel_rfl) (fun x => by kernel_rfl) (fun x H kn => N23_3b_eq ρ call yc lim k (x) x1 x2 H kn k0 R) x0 (sp 27 [(0, x0), (1, x1), (2, x2)]) H (by kernel_rfl)
noncomputable def N23_1 (ρ : Addr → Option Value) (call : CallF) (yc : YieldF) (lim k : Nat) (x0 x1 x2 : AV) (H : Heap) (R : List AV → Heap → Res) : Res :=
  N23_3 ρ call yc lim k x0 x1 x2 H (fun H =>
    N23_2 ρ call yc lim k H R) R
theorem N23_1_x (ρ : Addr → Option Value) (call : CallF) (yc : YieldF) (lim k : Nat) (J : CodeF) (x0 x1 x2 : AV) (H : Heap) (R : List AV → Heap → Res) :
    evX (cx ρ) call yc false 23 lim k J (Code.at [1, 1] c23) (sp 27 [(0, x0), (1, x1), (2, x2)]) H (kk none (fun s H => R (([6] : List Nat).map fun t => s.getD t (.tup [])) H) [] R [6]) =
  J (Code.at [1, 1, 0, 0] c23) (sp 27 [(0, x0), (1, x1), (2, x2)]) H (kk (some []) (fun s H => J (Code.at [1, 1, 1] c23) s H (kk none (fun s H => R (([6] : List Nat).map fun t => s.getD t (.tup [])) H) [] R [6])) [(0, (some []), (fun s H => J (Code.at [1, 1, 1] c23) s H (kk none (fun s H => R (([6] : List Nat).map fun t => s.getD t (.tup [])) H) [] R [6])))] R [6]) := by
  kernel_rfl
theorem N23_1_eq (ρ : Addr → Option Value) (call : CallF) (yc : YieldF) (lim k : Nat) (x0 x1 x2 : AV) (H : Heap) (R : List AV → Heap → Res) :
    evL (cx ρ) call yc false 23 lim k (Code.at [1, 1] c23) (sp 27 [(0, x0), (1, x1), (2, x2)]) H (kk none (fun s H => R (([6] : List Nat).map fun t => s.getD t (.tup [])) H) [] R [6]) = N23_1 ρ call yc lim k x0 x1 x2 H R := by
  rw [evL_X, N23_1_x]
  simp only [← evL_X, N23_1, N23_2_eq, N23_3_eq]
noncomputable def L23 (ρ : Addr → Option Value) (call : CallF) (yc : YieldF) (lim k : Nat) (x0 x1 x2 : AV) (H : Heap) : Res :=
  purK (binA Try.prog H .lss 3 x2 (.int .i64 1)) fun x8 =>
  condK x8
  (
    retK [(.bool false)] H)
  (
    N23_1 ρ call yc lim k x0 x1 x2 H retK)
theorem L23_x (ρ : Addr → Option Value) (call : CallF) (yc : YieldF) (lim k : Nat) (J : CodeF) (x0 x1 x2 : AV) (H : Heap) :
    evX (cx ρ) call yc false 23 lim k J c23 [x0, x1, x2, (.tup []), (.tup []), (.tup []), (.tup []), (.tup []), (.tup []), (.tup []), (.tup []), (.tup []), (.tup []), (.tup []), (.tup []), (.tup []), (.tup []), (.tup []), (.tup []), (.tup []), (.tup []), (.tup []), (.tup []), (.tup []), (.tup []), (.tup []), (.tup [])] H (kk none (fun s H => retK (([6] : List Nat).map fun t => s.getD t (.tup [])) H) [] retK [6]) =
  purK (binA Try.prog H .lss 3 x2 (.int .i64 1)) fun x8 =>
  condK x8
  (
    retK [(.bool false)] H)
  (
    J (Code.at [1, 1] c23) (sp 27 [(0, x0), (1, x1), (2, x2)]) H (kk none (fun s H => retK (([6] : List Nat).map fun t => s.getD t (.tup [])) H) [] retK [6])) := by
  kernel_rfl
theorem G23 (ρ : Addr → Option Value) (call : CallF) (yc : YieldF) (lim k : Nat) (x0 x1 x2 : AV) (H : Heap) :
    evL (cx ρ) call yc false 23 lim k c23 [x0, x1, x2, (.tup []), (.tup []), (.tup []), (.tup []), (.tup []), (.tup []), (.tup []), (.tup []), (.tup []), (.tup []), (.tup []), (.tup []), (.tup []), (.tup []), (.tup []), (.tup []), (.tup []), (.tup []), (.tup []), (.tup []), (.tup []), (.tup []), (.tup []), (.tup [])] H (kk none (fun s H => retK (([6] : List Nat).map fun t => s.getD t (.tup [])) H) [] retK [6]) = L23 ρ call yc lim k x0 x1 x2 H := by
  rw [evL_X, L23_x]
  simp only [← evL_X, L23, N23_1_eq]
theorem E23 (ρ : Addr → Option Value) (k lim : Nat) (x0 x1 x2 : AV) (H : Heap) : evCall (cx ρ) (k + 1) lim 23 [x0, x1, x2] H = L23 ρ (evCall (cx ρ) k) (evCY (cx ρ) k).2 lim k x0 x1 x2 H := by
  rw [evCall_body (cx ρ) k lim 23 _ H Try.f23 c23 [6] (by kernel_rfl) (by kernel_rfl) (by kernel_rfl) (by kernel_rfl) (by kernel_rfl)]
  exact G23 ρ (evCall (cx ρ) k) (evCY (cx ρ) k).2 lim k x0 x1 x2 H
-- haycroft/haycroftref32.Fair
noncomputable def c24 : Code := Code.of Try.prog 24
noncomputable def N24_1 (ρ : Addr → Option Value) (call : CallF) (yc : YieldF) (lim k : Nat) (H : Heap) (R : List AV → Heap → Res) : Res :=
  R [(.bool true)] H
theorem N24_1_eq (ρ : Addr → Option Value) (call : CallF) (yc : YieldF) (lim k : Nat) (H : Heap) (R : List AV → Heap → Res) :
    evL (cx ρ) call yc false 24 lim k (Code.at [1, 1, 1] c24) (sp 55 []) H (kk none (fun s H => R (([6] : List Nat).map fun t => s.getD t (.tup [])) H) [] R [6]) = N24_1 ρ call yc lim k H R := by
  kernel_rfl
noncomputable def N24_4 (ρ : Addr → Option Value) (call : CallF) (yc : YieldF) (lim k : Nat) (x0 x1 x2 x7 : AV) (H : Heap) (kn : AV → AV → AV → AV → Heap → Res) : Res :=
  purK (binA Try.prog H .add 3 x7 x2) fun x21_1 =>
  kn x0 x1 x2 x21_1 H
theorem N24_4_eq (ρ : Addr → Option Value) (call : CallF) (yc : YieldF) (lim k : Nat) (x0 x1 x2 x7 : AV) (H : Heap) (kn : KS) (k0 : KS) (R : List AV → Heap → Res) :
    evL (cx ρ) call yc false 24 lim k (Code.at [1, 1, 0, 1, 0, 0, 1, 1] c24) (sp 55 [(0, x0), (1, x1), (2, x2), (7, x7)]) H (kk (some [0, 1, 2, 7]) kn [(0, (some []), k0)] R [6]) = N24_4 ρ call yc lim k x0 x1 x2 x7 H (fun x0 x1 x2 x7 H => kn (sp 55 [(0, x0), (1, x1), (2, x2), (7, x7)]) H) := by
  kernel_rfl
noncomputable def N24_7 (ρ : Addr → Option Value) (call : CallF) (yc : YieldF) (lim k : Nat) (x0 x1 x2 x7 x8 : AV) (H : Heap) (kn : AV → AV → AV → AV → AV → Heap → Res) : Res :=
  purK (binA Try.prog H .add 3 x8 (.int .i64 1)) fun x26_1 =>
  kn x0 x1 x2 x7 x26_1 H
theorem N24_7_eq (ρ : Addr → Option Value) (call : CallF) (yc : YieldF) (lim k : Nat) (x0 x1 x2 x7 x8 : AV) (H : Heap) (kn : KS) (k2 : KS) (k1 : KS) (k0 : KS) (R : List AV → Heap → Res) :
    evL (cx ρ) call yc false 24 lim k (Code.at [1, 1, 0, 1, 0, 0, 1, 0, 0, 1, 0, 0, 1, 1] c24) (sp 55 [(0, x0), (1, x1), (2, x2), (7, x7), (8, x8)]) H (kk (some [0, 1, 2, 7, 8]) kn [(2, (some [0, 1, 2, 7]), k2), (1, (some [0, 1, 2, 7]), k1), (0, (some []), k0)] R [6]) = N24_7 ρ call yc lim k x0 x1 x2 x7 x8 H (fun x0 x1 x2 x7 x8 H => kn (sp 55 [(0, x0), (1, x1), (2, x2), (7, x7), (8, x8)]) H) := by
  kernel_rfl
noncomputable def N24_8 (ρ : Addr → Option Value) (call : CallF) (yc : YieldF) (lim k : Nat) (x0 x1 x2 x7 x8 x9 : AV) (H : Heap) (kn : AV → AV → AV → AV → AV → Heap → Res) (R : List AV → Heap → Res) : Res :=
  purK (unA .not x9) fun x54_1 =>
  condK x54_1
  (
    R [(.bool false)] H)
  (
    kn x0 x1 x2 x7 x8 H)
theorem N24_8_eq (ρ : Addr → Option Value) (call : CallF) (yc : YieldF) (lim k : Nat) (x0 x1 x2 x7 x8 x9 : AV) (H : Heap) (kn : KS) (k3 : KS) (k2 : KS) (k1 : KS) (k0 : KS) (R : List AV → Heap → Res) :
    evL (cx ρ) call yc false 24 lim k (Code.at [1, 1, 0, 1, 0, 0, 1, 0, 0, 1, 0, 0, 1, 0, 0, 1, 1] c24) (sp 55 [(0, x0), (1, x1), (2, x2), (7, x7), (8, x8), (9, x9)]) H (kk (some [0, 1, 2, 7, 8]) kn [(3, (some [0, 1, 2, 7, 8]), k3), (2, (some [0, 1, 2, 7]), k2), (1, (some [0, 1, 2, 7]), k1), (0, (some []), k0)] R [6]) = N24_8 ρ call yc lim k x0 x1 x2 x7 x8 x9 H (fun x0 x1 x2 x7 x8 H => kn (sp 55 [(0, x0), (1, x1), (2, x2), (7, x7), (8, x8)]) H) R := by
  kernel_rfl
noncomputable def N24_10b (ρ : Addr → Option Value) (call : CallF) (yc : YieldF) (lim k : Nat) (x0 x1 x2 x7 x8 x9 x10 : AV) (H : Heap) (kn : AV → AV → AV → AV → AV → AV → AV → Heap → Res) (k4 : AV → AV → AV → AV → AV → AV → Heap → Res) : Res :=
  purK (binA Try.prog H .add 3 x7 x2) fun x31_1 =>
  purK (binA Try.prog H .lss 3 x10 x31_1) fun x32_1 =>
  condK x32_1
  (
    purK (gPur (wantV x9 false) (some x0)) fun x37_1 =>
    purK (gPur (wantV x9 false) (some x10)) fun x38_1 =>
    purK (gPur (wantV x9 false) (ixS 8 x37_1 x38_1)) fun x39_1 =>
    purK (gPur (wantV x9 false) (addA 0 x39_1)) fun x40_1 =>
    purK (gPur (wantV x9 false) (ld1 ρ H x40_1)) fun x41_1 =>
    purK (gPur (wantV x9 false) (binA Try.prog H .eql 3 x41_1 (.int .i64 2))) fun x42_1 =>
    purK (gPur (wantV x9 false) (some x42_1)) fun x43_1 =>
    purK (gPur (wantV x43_1 true) (some x0)) fun x44_1 =>
    purK (gPur (wantV x43_1 true) (some x10)) fun x45_1 =>
    purK (gPur (wantV x43_1 true) (ixS 8 x44_1 x45_1)) fun x46_1 =>
    purK (gPur (wantV x43_1 true) (addA 1 x46_1)) fun x47_1 =>
    purK (gPur (wantV x43_1 true) (ld1 ρ H x47_1)) fun x48_1 =>
    purK (gPur (wantV x43_1 true) (some x8)) fun x49_1 =>
    purK (gPur (wantV x43_1 true) (binA Try.prog H .eql 3 x48_1 x49_1)) fun x50_1 =>
    purK (gPur (wantV x9 false) (pickA x43_1 x50_1 (.bool false))) fun x51_1 =>
    purK (pickA x9 (.bool true) x51_1) fun x52_1 =>
    purK (binA Try.prog H .add 3 x10 (.int .i64 1)) fun x34_1 =>
    kn x0 x1 x2 x7 x8 x52_1 x34_1 H)
  (
    k4 x0 x1 x2 x7 x8 x9 H)
theorem N24_10b_eq (ρ : Addr → Option Value) (call : CallF) (yc : YieldF) (lim k : Nat) (x0 x1 x2 x7 x8 x9 x10 : AV) (H : Heap) (kn : KS) (k4 : KS) (k3 : KS) (k2 : KS) (k1 : KS) (k0 : KS) (R : List AV → Heap → Res) :
    evL (cx ρ) call yc false 24 lim k (Code.at [1, 1, 0, 1, 0, 0, 1, 0, 0, 1, 0, 0, 1, 0, 0, 1, 0, 1, 0, 0] c24) (sp 55 [(0, x0), (1, x1), (2, x2), (7, x7), (8, x8), (9, x9), (10, x10)]) H (kk (some [0, 1, 2, 7, 8, 9, 10]) kn [(4, (some [0, 1, 2, 7, 8, 9]), k4), (3, (some [0, 1, 2, 7, 8]), k3), (2, (some [0, 1, 2, 7]), k2), (1, (some [0, 1, 2, 7]), k1), (0, (some []), k0)] R [6]) = N24_10b ρ call yc lim k x0 x1 x2 x7 x8 x9 x10 H (fun x0 x1 x2 x7 x8 x9 x10 H => kn (sp 55 [(0, x0), (1, x1), (2, x2), (7, x7), (8, x8), (9, x9), (10, x10)]) H) (fun x0 x1 x2 x7 x8 x9 H => k4 (sp 55 [(0, x0), (1, x1), (2, x2), (7, x7), (8, x8), (9, x9)]) H) := by
  kernel_rfl
noncomputable def N24_10 (ρ : Addr → Option Value) (call : CallF) (yc : YieldF) (lim k : Nat) (x0 x1 x2 x7 x8 x9 x10 : AV) (H : Heap) (k4 : AV → AV → AV → AV → AV → AV → Heap → Res) : Res :=
  loopL (fun (x : AV × AV) H kn => N24_10b ρ call yc lim k x0 x1 x2 x7 x8 x.1 x.2 H (fun _ _ _ _ _ x9 x10 H => kn (x9, x10) H) k4) k (x9, x10) H
theorem N24_10_eq (ρ : Addr → Option Value) (call : CallF) (yc : YieldF) (lim k : Nat) (x0 x1 x2 x7 x8 x9 x10 : AV) (H : Heap) (kn : KS) (k4 : KS) (k3 : KS) (k2 : KS) (k1 : KS) (k0 : KS) (R : List AV → Heap → Res) :
    evL (cx ρ) call yc false 24 lim k (Code.at [1, 1, 0, 1, 0, 0, 1, 0, 0, 1, 0, 0, 1, 0, 0, 1, 0, 1, 0] c24) (sp 55 [(0, x0), (1, x1), (2, x2), (7, x7), (8, x8), (9, x9), (10, x10)]) H (kk (some [0, 1, 2, 7, 8, 9]) kn [(4, (some [0, 1, 2, 7, 8, 9]), k4), (3, (some [0, 1, 2, 7, 8]), k3), (2, (some [0, 1, 2, 7]), k2), (1, (some [0, 1, 2, 7]), k1), (0, (some []), k0)] R [6]) = N24_10 ρ call yc lim k x0 x1 x2 x7 x8 x9 x10 H (fun x0 x1 x2 x7 x8 x9 H => k4 (sp 55 [(0, x0), (1, x1), (2, x2), (7, x7), (8, x8), (9, x9)]) H) := by
  have e : Code.at [1, 1, 0, 1, 0, 0, 1, 0, 0, 1, 0, 0, 1, 0, 0, 1, 0, 1, 0] c24 = .loop (Code.at [1, 1, 0, 1, 0, 0, 1, 0, 0, 1, 0, 0, 1, 0, 0, 1, 0, 1, 0, 0] c24) := by kernel_rfl
  rw [e]
  unfold N24_10
  exact loop_node [0, 1, 2, 7, 8, 9, 10] (fun x : AV × AV => (sp 55 [(0, x0), (1, x1), (2, x2), (7, x7), (8, x8), (9, (x.1)), (10, (x.2))])) (fun (x : AV × AV) H kn => N24_10b ρ call yc lim k x0 x1 x2 x7 x8 x.1 x.2 H (fun _ _ _ _ _ x9 x10 H => kn (x9, x10) H) (fun x0 x1 x2 x7 x8 x9 H => k4 (sp 55 [(0, x0), (1, x1), (2, x2), (7, x7), (8, x8), (9, x9)]) H)) (by kernel_rfl) (fun x => by kernel_rfl) (fun x H kn => N24_10b_eq ρ call yc lim k x0 x1 x2 x7 x8 (x.1) (x.2) H kn k4 k3 k2 k1 k0 R) (x9, x10) (sp 55 [(0, x0), (1, x1), (2, x2), (7, x7), (8, x8), (9, x9), (10, x10)]) H (by kernel_rfl)
noncomputable def N24_9 (ρ : Addr → Option Value) (call : CallF) (yc : YieldF) (lim k : Nat) (x0 x1 x2 x7 x8 x9 x10 : AV) (H : Heap) (kn : AV → AV → AV → AV → AV → AV → Heap → Res) : Res :=
  N24_10 ρ call yc lim k x0 x1 x2 x7 x8 x9 x10 H kn
theorem N24_9_x (ρ : Addr → Option Value) (call : CallF) (yc : YieldF) (lim k : Nat) (J : CodeF) (x0 x1 x2 x7 x8 x9 x10 : AV) (H : Heap) (kn : KS) (k3 : KS) (k2 : KS) (k1 : KS) (k0 : KS) (R : List AV → Heap → Res) :
    evX (cx ρ) call yc false 24 lim k J (Code.at [1, 1, 0, 1, 0, 0, 1, 0, 0, 1, 0, 0, 1, 0, 0, 1, 0, 1] c24) (sp 55 [(0, x0), (1, x1), (2, x2), (7, x7), (8, x8), (9, x9), (10, x10)]) H (kk (some [0, 1, 2, 7, 8, 9]) kn [(3, (some [0, 1, 2, 7, 8]), k3), (2, (some [0, 1, 2, 7]), k2), (1, (some [0, 1, 2, 7]), k1), (0, (some []), k0)] R [6]) =
  J (Code.at [1, 1, 0, 1, 0, 0, 1, 0, 0, 1, 0, 0, 1, 0, 0, 1, 0, 1, 0] c24) (sp 55 [(0, x0), (1, x1), (2, x2), (7, x7), (8, x8), (9, x9), (10, x10)]) H (kk (some [0, 1, 2, 7, 8, 9]) kn [(4, (some [0, 1, 2, 7, 8, 9]), kn), (3, (some [0, 1, 2, 7, 8]), k3), (2, (some [0, 1, 2, 7]), k2), (1, (some [0, 1, 2, 7]), k1), (0, (some []), k0)] R [6]) := by
  kernel_rfl
theorem N24_9_eq (ρ : Addr → Option Value) (call : CallF) (yc : YieldF) (lim k : Nat) (x0 x1 x2 x7 x8 x9 x10 : AV) (H : Heap) (kn : KS) (k3 : KS) (k2 : KS) (k1 : KS) (k0 : KS) (R : List AV → Heap → Res) :
    evL (cx ρ) call yc false 24 lim k (Code.at [1, 1, 0, 1, 0, 0, 1, 0, 0, 1, 0, 0, 1, 0, 0, 1, 0, 1] c24) (sp 55 [(0, x0), (1, x1), (2, x2), (7, x7), (8, x8), (9, x9), (10, x10)]) H (kk (some [0, 1, 2, 7, 8, 9]) kn [(3, (some [0, 1, 2, 7, 8]), k3), (2, (some [0, 1, 2, 7]), k2), (1, (some [0, 1, 2, 7]), k1), (0, (some []), k0)] R [6]) = N24_9 ρ call yc lim k x0 x1 x2 x7 x8 x9 x10 H (fun x0 x1 x2 x7 x8 x9 H => kn (sp 55 [(0, x0), (1, x1), (2, x2), (7, x7), (8, x8), (9, x9)]) H) := by
  rw [evL_X, N24_9_x]
  simp only [← evL_X, N24_9, N24_10_eq]
noncomputable def N24_6b (ρ : Addr → Option Value) (call : CallF) (yc : YieldF) (lim k : Nat) (x0 x1 x2 x7 x8 : AV) (H : Heap) (kn : AV → AV → AV → AV → AV → Heap → Res) (k2 : AV → AV → AV → AV → Heap → Res) (R : List AV → Heap → Res) : Res :=
  purK (binA Try.prog H .lss 3 x8 x1) fun x24_1 =>
  condK x24_1
  (
    N24_9 ρ call yc lim k x0 x1 x2 x7 x8 (.bool false) x7 H (fun x0_1 x1_1 x2_1 x7_1 x8_1 x9_1 H =>
      N24_8 ρ call yc lim k x0_1 x1_1 x2_1 x7_1 x8_1 x9_1 H (fun x0_2 x1_2 x2_2 x7_2 x8_2 H =>
        N24_7 ρ call yc lim k x0_2 x1_2 x2_2 x7_2 x8_2 H kn) R))
  (
    k2 x0 x1 x2 x7 H)
theorem N24_6b_x (ρ : Addr → Option Value) (call : CallF) (yc : YieldF) (lim k : Nat) (J : CodeF) (x0 x1 x2 x7 x8 : AV) (H : Heap) (kn : KS) (k2 : KS) (k1 : KS) (k0 : KS) (R : List AV → Heap → Res) :
    evX (cx ρ) call yc false 24 lim k J (Code.at [1, 1, 0, 1, 0, 0, 1, 0, 0, 1, 0, 0] c24) (sp 55 [(0, x0), (1, x1), (2, x2), (7, x7), (8, x8)]) H (kk (some [0, 1, 2, 7, 8]) kn [(2, (some [0, 1, 2, 7]), k2), (1, (some [0, 1, 2, 7]), k1), (0, (some []), k0)] R [6]) =
  purK (binA Try.prog H .lss 3 x8 x1) fun x24_1 =>
  condK x24_1
  (
    J (Code.at [1, 1, 0, 1, 0, 0, 1, 0, 0, 1, 0, 0, 1, 0, 0, 1, 0, 1] c24) (sp 55 [(0, x0), (1, x1), (2, x2), (7, x7), (8, x8), (9, (.bool false)), (10, x7)]) H (kk (some [0, 1, 2, 7, 8, 9]) (fun s H => J (Code.at [1, 1, 0, 1, 0, 0, 1, 0, 0, 1, 0, 0, 1, 0, 0, 1, 1] c24) s H (kk (some [0, 1, 2, 7, 8]) (fun s H => J (Code.at [1, 1, 0, 1, 0, 0, 1, 0, 0, 1, 0, 0, 1, 1] c24) s H (kk (some [0, 1, 2, 7, 8]) kn [(2, (some [0, 1, 2, 7]), k2), (1, (some [0, 1, 2, 7]), k1), (0, (some []), k0)] R [6])) [(3, (some [0, 1, 2, 7, 8]), (fun s H => J (Code.at [1, 1, 0, 1, 0, 0, 1, 0, 0, 1, 0, 0, 1, 1] c24) s H (kk (some [0, 1, 2, 7, 8]) kn [(2, (some [0, 1, 2, 7]), k2), (1, (some [0, 1, 2, 7]), k1), (0, (some []), k0)] R [6]))), (2, (some [0, 1, 2, 7]), k2), (1, (some [0, 1, 2, 7]), k1), (0, (some []), k0)] R [6])) [(3, (some [0, 1, 2, 7, 8]), (fun s H => J (Code.at [1, 1, 0, 1, 0, 0, 1, 0, 0, 1, 0, 0, 1, 1] c24) s H (kk (some [0, 1, 2, 7, 8]) kn [(2, (some [0, 1, 2, 7]), k2), (1, (some [0, 1, 2, 7]), k1), (0, (some []), k0)] R [6]))), (2, (some [0, 1, 2, 7]), k2), (1, (some [0, 1, 2, 7]), k1), (0, (some []), k0)] R [6]))
  (
    k2 (sp 55 [(0, x0), (1, x1), (2, x2), (7, x7)]) H) := by
  kernel_rfl
theorem N24_6b_eq (ρ : Addr → Option Value) (call : CallF) (yc : YieldF) (lim k : Nat) (x0 x1 x2 x7 x8 : AV) (H : Heap) (kn : KS) (k2 : KS) (k1 : KS) (k0 : KS) (R : List AV → Heap → Res) :
    evL (cx ρ) call yc false 24 lim k (Code.at [1, 1, 0, 1, 0, 0, 1, 0, 0, 1, 0, 0] c24) (sp 55 [(0, x0), (1, x1), (2, x2), (7, x7), (8, x8)]) H (kk (some [0, 1, 2, 7, 8]) kn [(2, (some [0, 1, 2, 7]), k2), (1, (some [0, 1, 2, 7]), k1), (0, (some []), k0)] R [6]) = N24_6b ρ call yc lim k x0 x1 x2 x7 x8 H (fun x0 x1 x2 x7 x8 H => kn (sp 55 [(0, x0), (1, x1), (2, x2), (7, x7), (8, x8)]) H) (fun x0 x1 x2 x7 H => k2 (sp 55 [(0, x0), (1, x1), (2, x2), (7, x7)]) H) R := by
  rw [evL_X, N24_6b_x]
  simp only [← evL_X, N24_6b, N24_7_eq, N24_8_eq, N24_9_eq]
noncomputable def N24_6 (ρ : Addr → Option Value) (call : CallF) (yc : YieldF) (lim k : Nat) (x0 x1 x2 x7 x8 : AV) (H : Heap) (k2 : AV → AV → AV → AV → Heap → Res) (R : List AV → Heap → Res) : Res :=
  loopL (fun (x : AV) H kn => N24_6b ρ call yc lim k x0 x1 x2 x7 x H (fun _ _ _ _ x8 H => kn x8 H) k2 R) k x8 H
theorem N24_6_eq (ρ : Addr → Option Value) (call : CallF) (yc : YieldF) (lim k : Nat) (x0 x1 x2 x7 x8 : AV) (H : Heap) (kn : KS) (k2 : KS) (k1 : KS) (k0 : KS) (R : List AV → Heap → Res) :
    evL (cx ρ) call yc false 24 lim k (Code.at [1, 1, 0, 1, 0, 0, 1, 0, 0, 1, 0] c24) (sp 55 [(0, x0), (1, x1), (2, x2), (7, x7), (8, x8)]) H (kk (some [0, 1, 2, 7]) kn [(2, (some [0, 1, 2, 7]), k2), (1, (some [0, 1, 2, 7]), k1), (0, (some []), k0)] R [6]) = N24_6 ρ call yc lim k x0 x1 x2 x7 x8 H (fun x0 x1 x2 x7 H => k2 (sp 55 [(0, x0), (1, x1), (2, x2), (7, x7)]) H) R := by
  have e : Code.at [1, 1, 0, 1, 0, 0, 1, 0, 0, 1, 0] c24 = .loop (Code.at [1, 1, 0, 1, 0, 0, 1, 0, 0, 1, 0, 0] c24) := by kernel_rfl
  rw [e]
  unfold N24_6
  exact loop_node [0, 1, 2, 7, 8] (fun x : AV => (sp 55 [(0, x0), (1, x1), (2, x2), (7, x7), (8, (x))])) (fun (x : AV) H kn => N24_6b ρ call yc lim k x0 x1 x2 x7 x H (fun _ _ _ _ x8 H => kn x8 H) (fun x0 x1 x2 x7 H => k2 (sp 55 [(0, x0), (1, x1), (2, x2), (7, x7)]) H) R) (by kernel_rfl) (fun x => by kernel_rfl) (fun x H kn => N24_6b_eq ρ call yc lim k x0 x1 x2 x7 (x) H kn k2 k1 k0 R) x8 (sp 55 [(0, x0), (1, x1), (2, x2), (7, x7), (8, x8)]) H (by kernel_rfl)
noncomputable def N24_5 (ρ : Addr → Option Value) (call : CallF) (yc : YieldF) (lim k : Nat) (x0 x1 x2 x7 x8 : AV) (H : Heap) (kn : AV → AV → AV → AV → Heap → Res) (R : List AV → Heap → Res) : Res :=
  N24_6 ρ call yc lim k x0 x1 x2 x7 x8 H kn R
theorem N24_5_x (ρ : Addr → Option Value) (call : CallF) (yc : YieldF) (lim k : Nat) (J : CodeF) (x0 x1 x2 x7 x8 : AV) (H : Heap) (kn : KS) (k1 : KS) (k0 : KS) (R : List AV → Heap → Res) :
    evX (cx ρ) call yc false 24 lim k J (Code.at [1, 1, 0, 1, 0, 0, 1, 0, 0, 1] c24) (sp 55 [(0, x0), (1, x1), (2, x2), (7, x7), (8, x8)]) H (kk (some [0, 1, 2, 7]) kn [(1, (some [0, 1, 2, 7]), k1), (0, (some []), k0)] R [6]) =
  J (Code.at [1, 1, 0, 1, 0, 0, 1, 0, 0, 1, 0] c24) (sp 55 [(0, x0), (1, x1), (2, x2), (7, x7), (8, x8)]) H (kk (some [0, 1, 2, 7]) kn [(2, (some [0, 1, 2, 7]), kn), (1, (some [0, 1, 2, 7]), k1), (0, (some []), k0)] R [6]) := by
  kernel_rfl
theorem N24_5_eq (ρ : Addr → Option Value) (call : CallF) (yc : YieldF) (lim k : Nat) (x0 x1 x2 x7 x8 : AV) (H : Heap) (kn : KS) (k1 : KS) (k0 : KS) (R : List AV → Heap → Res) :
    evL (cx ρ) call yc false 24 lim k (Code.at [1, 1, 0, 1, 0, 0, 1, 0, 0, 1] c24) (sp 55 [(0, x0), (1, x1), (2, x2), (7, x7), (8, x8)]) H (kk (some [0, 1, 2, 7]) kn [(1, (some [0, 1, 2, 7]), k1), (0, (some []), k0)] R [6]) = N24_5 ρ call yc lim k x0 x1 x2 x7 x8 H (fun x0 x1 x2 x7 H => kn (sp 55 [(0, x0), (1, x1), (2, x2), (7, x7)]) H) R := by
  rw [evL_X, N24_5_x]
  simp only [← evL_X, N24_5, N24_6_eq]
noncomputable def N24_3b (ρ : Addr → Option Value) (call : CallF) (yc : YieldF) (lim k : Nat) (x0 x1 x2 x7 : AV) (H : Heap) (kn : AV → AV → AV → AV → Heap → Res) (k0 : Heap → Res) (R : List AV → Heap → Res) : Res :=
  purK (lenS x0) fun x15_1 =>
  purK (binA Try.prog H .sub 3 x15_1 x2) fun x17_1 =>
  purK (binA Try.prog H .leq 3 x7 x17_1) fun x18_1 =>
  condK x18_1
  (
    N24_5 ρ call yc lim k x0 x1 x2 x7 (.int .i64 0) H (fun x0_1 x1_1 x2_1 x7_1 H =>
      N24_4 ρ call yc lim k x0_1 x1_1 x2_1 x7_1 H kn) R)
  (
    k0 H)
theorem N24_3b_x (ρ : Addr → Option Value) (call : CallF) (yc : YieldF) (lim k : Nat) (J : CodeF) (x0 x1 x2 x7 : AV) (H : Heap) (kn : KS) (k0 : KS) (R : List AV → Heap → Res) :
    evX (cx ρ) call yc false 24 lim k J (Code.at [1, 1, 0, 1, 0, 0] c24) (sp 55 [(0, x0), (1, x1), (2, x2), (7, x7)]) H (kk (some [0, 1, 2, 7]) kn [(0, (some []), k0)] R [6]) =
  purK (lenS x0) fun x15_1 =>
  purK (binA Try.prog H .sub 3 x15_1 x2) fun x17_1 =>
  purK (binA Try.prog H .leq 3 x7 x17_1) fun x18_1 =>
  condK x18_1
  (
    J (Code.at [1, 1, 0, 1, 0, 0, 1, 0, 0, 1] c24) (sp 55 [(0, x0), (1, x1), (2, x2), (7, x7), (8, (.int .i64 0))]) H (kk (some [0, 1, 2, 7]) (fun s H => J (Code.at [1, 1, 0, 1, 0, 0, 1, 1] c24) s H (kk (some [0, 1, 2, 7]) kn [(0, (some []), k0)] R [6])) [(1, (some [0, 1, 2, 7]), (fun s H => J (Code.at [1, 1, 0, 1, 0, 0, 1, 1] c24) s H (kk (some [0, 1, 2, 7]) kn [(0, (some []), k0)] R [6]))), (0, (some []), k0)] R [6]))
  (
    k0 (sp 55 []) H) := by
  kernel_rfl
theorem N24_3b_eq (ρ : Addr → Option Value) (call : CallF) (yc : YieldF) (lim k : Nat) (x0 x1 x2 x7 : AV) (H : Heap) (kn : KS) (k0 : KS) (R : List AV → Heap → Res) :
    evL (cx ρ) call yc false 24 lim k (Code.at [1, 1, 0, 1, 0, 0] c24) (sp 55 [(0, x0), (1, x1), (2, x2), (7, x7)]) H (kk (some [0, 1, 2, 7]) kn [(0, (some []), k0)] R [6]) = N24_3b ρ call yc lim k x0 x1 x2 x7 H (fun x0 x1 x2 x7 H => kn (sp 55 [(0, x0), (1, x1), (2, x2), (7, x7)]) H) (fun H => k0 (sp 55 []) H) R := by
  rw [evL_X, N24_3b_x]
  simp only [← evL_X, N24_3b, N24_4_eq, N24_5_eq]
noncomputable def N24_3 (ρ : Addr → Option Value) (call : CallF) (yc : YieldF) (lim k : Nat) (x0 x1 x2 x7 : AV) (H : Heap) (k0 : Heap → Res) (R : List AV → Heap → Res) : Res :=
  loopL (fun (x : AV) H kn => N24_3b ρ call yc lim k x0 x1 x2 x H (fun _ _ _ x7 H => kn x7 H) k0 R) k x7 H
theorem N24_3_eq (ρ : Addr → Option Value) (call : CallF) (yc : YieldF) (lim k : Nat) (x0 x1 x2 x7 : AV) (H : Heap) (kn : KS) (k0 : KS) (R : List AV → Heap → Res) :
    evL (cx ρ) call yc false 24 lim k (Code.at [1, 1, 0, 1, 0] c24) (sp 55 [(0, x0), (1, x1), (2, x2), (7, x7)]) H (kk (some []) kn [(0, (some []), k0)] R [6]) = N24_3 ρ call yc lim k x0 x1 x2 x7 H (fun H => k0 (sp 55 []) H) R := by
  have e : Code.at [1, 1, 0, 1, 0] c24 = .loop (Code.at [1, 1, 0, 1, 0, 0] c24) := by kernel_rfl
  rw [e]
  unfold N24_3
  exact loop_node [0, 1, 2, 7] (fun x : AV => (sp 55 [(0, x0), (1, x1), (2, x2), (7, (x))])) (fun (x : AV) H kn => N24_3b ρ call yc lim k x0 x1 x2 x H (fun _ _ _ x7 H => kn x7 H) (fun H => k0 (sp 55 []) H) R) (by kernel_rfl) (fun x => by kernel_rfl) (fun x H kn => N24_3b_eq ρ call yc lim k x0 x1 x2 (x) H kn k0 R) x7 (sp 55 [(0, x0), (1, x1), (2, x2), (7, x7)]) H (by kernel_rfl)
noncomputable def N24_2 (ρ : Addr → Option Value) (call : CallF) (yc : YieldF) (lim k : Nat) (x0 x1 x2 x7 : AV) (H : Heap) (kn : Heap → Res) (R : List AV → Heap → Res) : Res :=
  N24_3 ρ call yc lim k x0 x1 x2 x7 H kn R
theorem N24_2_x (ρ : Addr → Option Value) (call : CallF) (yc : YieldF) (lim k : Nat) (J : CodeF) (x0 x1 x2 x7 : AV) (H : Heap) (kn : KS) (R : List AV → Heap → Res) :
    evX (cx ρ) call yc false 24 lim k J (Code.at [1, 1, 0, 1] c24) (sp 55 [(0, x0), (1, x1), (2, x2), (7, x7)]) H (kk (some []) kn [] R [6]) =
  J (Code.at [1, 1, 0, 1, 0] c24) (sp 55 [(0, x0), (1, x1), (2, x2), (7, x7)]) H (kk (some []) kn [(0, (some []), kn)] R [6]) := by
  kernel_rfl
theorem N24_2_eq (ρ : Addr → Option Value) (call : CallF) (yc : YieldF) (lim k : Nat) (x0 x1 x2 x7 : AV) (H : Heap) (kn : KS) (R : List AV → Heap → Res) :
    evL (cx ρ) call yc false 24 lim k (Code.at [1, 1, 0, 1] c24) (sp 55 [(0, x0), (1, x1), (2, x2), (7, x7)]) H (kk (some []) kn [] R [6]) = N24_2 ρ call yc lim k x0 x1 x2 x7 H (fun H => kn (sp 55 []) H) R := by
  rw [evL_X, N24_2_x]
  simp only [← evL_X, N24_2, N24_3_eq]
noncomputable def L24 (ρ : Addr → Option Value) (call : CallF) (yc : YieldF) (lim k : Nat) (x0 x1 x2 : AV) (H : Heap) : Res :=
  purK (binA Try.prog H .lss 3 x2 (.int .i64 1)) fun x12 =>
  condK x12
  (
    retK [(.bool false)] H)
  (
    N24_2 ρ call yc lim k x0 x1 x2 (.int .i64 0) H (fun H =>
      N24_1 ρ call yc lim k H retK) retK)
theorem L24_x (ρ : Addr → Option Value) (call : CallF) (yc : YieldF) (lim k : Nat) (J : CodeF) (x0 x1 x2 : AV) (H : Heap) :
    evX (cx ρ) call yc false 24 lim k J c24 [x0, x1, x2, (.tup []), (.tup []), (.tup []), (.tup []), (.tup []), (.tup []), (.tup []), (.tup []), (.tup []), (.tup []), (.tup []), (.tup []), (.tup []), (.tup []), (.tup []), (.tup []), (.tup []), (.tup []), (.tup []), (.tup []), (.tup []), (.tup []), (.tup []), (.tup []), (.tup []), (.tup []), (.tup []), (.tup []), (.tup []), (.tup []), (.tup []), (.tup []), (.tup []), (.tup []), (.tup []), (.tup []), (.tup []), (.tup []), (.tup []), (.tup []), (.tup []), (.tup []), (.tup []), (.tup []), (.tup []), (.tup []), (.tup []), (.tup []), (.tup []), (.tup []), (.tup []), (.tup [])] H (kk none (fun s H => retK (([6] : List Nat).map fun t => s.getD t (.tup [])) H) [] retK [6]) =
  purK (binA Try.prog H .lss 3 x2 (.int .i64 1)) fun x12 =>
  condK x12
  (
    retK [(.bool false)] H)
  (
    J (Code.at [1, 1, 0, 1] c24) (sp 55 [(0, x0), (1, x1), (2, x2), (7, (.int .i64 0))]) H (kk (some []) (fun s H => J (Code.at [1, 1, 1] c24) s H (kk none (fun s H => retK (([6] : List Nat).map fun t => s.getD t (.tup [])) H) [] retK [6])) [] retK [6])) := by
  kernel_rfl
theorem G24 (ρ : Addr → Option Value) (call : CallF) (yc : YieldF) (lim k : Nat) (x0 x1 x2 : AV) (H : Heap) :
    evL (cx ρ) call yc false 24 lim k c24 [x0, x1, x2, (.tup []), (.tup []), (.tup []), (.tup []), (.tup []), (.tup []), (.tup []), (.tup []), (.tup []), (.tup []), (.tup []), (.tup []), (.tup []), (.tup []), (.tup []), (.tup []), (.tup []), (.tup []), (.tup []), (.tup []), (.tup []), (.tup []), (.tup []), (.tup []), (.tup []), (.tup []), (.tup []), (.tup []), (.tup []), (.tup []), (.tup []), (.tup []), (.tup []), (.tup []), (.tup []), (.tup []), (.tup []), (.tup []), (.tup []), (.tup []), (.tup []), (.tup []), (.tup []), (.tup []), (.tup []), (.tup []), (.tup []), (.tup []), (.tup []), (.tup []), (.tup []), (.tup [])] H (kk none (fun s H => retK (([6] : List Nat).map fun t => s.getD t (.tup [])) H) [] retK [6]) = L24 ρ call yc lim k x0 x1 x2 H := by
  rw [evL_X, L24_x]
  simp only [← evL_X, L24, N24_1_eq, N24_2_eq]
theorem E24 (ρ : Addr → Option Value) (k lim : Nat) (x0 x1 x2 : AV) (H : Heap) : evCall (cx ρ) (k + 1) lim 24 [x0, x1, x2] H = L24 ρ (evCall (cx ρ) k) (evCY (cx ρ) k).2 lim k x0 x1 x2 H := by
  rw [evCall_body (cx ρ) k lim 24 _ H Try.f24 c24 [6] (by kernel_rfl) (by kernel_rfl) (by kernel_rfl) (by kernel_rfl) (by kernel_rfl)]
  exact G24 ρ (evCall (cx ρ) k) (evCY (cx ρ) k).2 lim k x0 x1 x2 H
-- haycroft/plan.moves
noncomputable def c34 : Code := Code.of Try.prog 34
noncomputable def N34_1 (ρ : Addr → Option Value) (call : CallF) (yc : YieldF) (lim k : Nat) (H : Heap) (R : List AV → Heap → Res) : Res :=
  R [(.bool true)] H
theorem N34_1_eq (ρ : Addr → Option Value) (call : CallF) (yc : YieldF) (lim k : Nat) (H : Heap) (R : List AV → Heap → Res) :
    evL (cx ρ) call yc false 34 lim k (Code.at [1, 1] c34) (sp 15 []) H (kk none (fun s H => R (([4] : List Nat).map fun t => s.getD t (.tup [])) H) [] R [4]) = N34_1 ρ call yc lim k H R := by
  kernel_rfl
noncomputable def N34_3b (ρ : Addr → Option Value) (call : CallF) (yc : YieldF) (lim k : Nat) (x0 x6 x7 : AV) (H : Heap) (kn : AV → AV → AV → Heap → Res) (k0 : Heap → Res) (R : List AV → Heap → Res) : Res :=
  purK (binA Try.prog H .lss 3 x7 x6) fun x8_1 =>
  condK x8_1
  (
    effK H (some (.ptr H.sz 0 0, .new (newCells 3 false [.int .i64 0]))) fun x5_1 H =>
    effK H (stA lim H 1 x5_1 x7) fun _ H =>
    resK (call lim 42 [x0, (.fn (.func 43) [] [x5_1])] H) fun x12_1 H =>
    purK (unA .not x12_1) fun x13_1 =>
    condK x13_1
    (
      R [(.bool false)] H)
    (
      purK (binA Try.prog H .add 3 x7 (.int .i64 1)) fun x14_1 =>
      kn x0 x6 x14_1 H))
  (
    k0 H)
theorem N34_3b_eq (ρ : Addr → Option Value) (call : CallF) (yc : YieldF) (lim k : Nat) (x0 x6 x7 : AV) (H : Heap) (kn : KS) (k0 : KS) (R : List AV → Heap → Res) :
    evL (cx ρ) call yc false 34 lim k (Code.at [1, 0, 1, 0, 0] c34) (sp 15 [(0, x0), (6, x6), (7, x7)]) H (kk (some [0, 6, 7]) kn [(0, (some []), k0)] R [4]) = N34_3b ρ call yc lim k x0 x6 x7 H (fun x0 x6 x7 H => kn (sp 15 [(0, x0), (6, x6), (7, x7)]) H) (fun H => k0 (sp 15 []) H) R := by
  kernel_rfl
noncomputable def N34_3 (ρ : Addr → Option Value) (call : CallF) (yc : YieldF) (lim k : Nat) (x0 x6 x7 : AV) (H : Heap) (k0 : Heap → Res) (R : List AV → Heap → Res) : Res :=
  loopL (fun (x : AV) H kn => N34_3b ρ call yc lim k x0 x6 x H (fun _ _ x7 H => kn x7 H) k0 R) k x7 H
theorem N34_3_eq (ρ : Addr → Option Value) (call : CallF) (yc : YieldF) (lim k : Nat) (x0 x6 x7 : AV) (H : Heap) (kn : KS) (k0 : KS) (R : List AV → Heap → Res) :
    evL (cx ρ) call yc false 34 lim k (Code.at [1, 0, 1, 0] c34) (sp 15 [(0, x0), (6, x6), (7, x7)]) H (kk (some []) kn [(0, (some []), k0)] R [4]) = N34_3 ρ call yc lim k x0 x6 x7 H (fun H => k0 (sp 15 []) H) R := by
  have e : Code.at [1, 0, 1, 0] c34 = .loop (Code.at [1, 0, 1, 0, 0] c34) := by kernel_rfl
  rw [e]
  unfold N34_3
  exact loop_node [0, 6, 7] (fun x : AV => (sp 15 [(0, x0), (6, x6), (7, (x))])) (fun (x : AV) H kn => N34_3b ρ call yc lim k x0 x6 x H (fun _ _ x7 H => kn x7 H) (fun H => k0 (sp 15 []) H) R) (by kernel_rfl) (fun x => by kernel_rfl) (fun x H kn => N34_3b_eq ρ call yc lim k x0 x6 (x) H kn k0 R) x7 (sp 15 [(0, x0), (6, x6), (7, x7)]) H (by kernel_rfl)
noncomputable def N34_2 (ρ : Addr → Option Value) (call : CallF) (yc : YieldF) (lim k : Nat) (x0 x6 x7 : AV) (H : Heap) (kn : Heap → Res) (R : List AV → Heap → Res) : Res :=
  N34_3 ρ call yc lim k x0 x6 x7 H kn R
theorem N34_2_x (ρ : Addr → Option Value) (call : CallF) (yc : YieldF) (lim k : Nat) (J : CodeF) (x0 x6 x7 : AV) (H : Heap) (kn : KS) (R : List AV → Heap → Res) :
    evX (cx ρ) call yc false 34 lim k J (Code.at [1, 0, 1] c34) (sp 15 [(0, x0), (6, x6), (7, x7)]) H (kk (some []) kn [] R [4]) =
  J (Code.at [1, 0, 1, 0] c34) (sp 15 [(0, x0), (6, x6), (7, x7)]) H (kk (some []) kn [(0, (some []), kn)] R [4]) := by
  kernel_rfl
theorem N34_2_eq (ρ : Addr → Option Value) (call : CallF) (yc : YieldF) (lim k : Nat) (x0 x6 x7 : AV) (H : Heap) (kn : KS) (R : List AV → Heap → Res) :
    evL (cx ρ) call yc false 34 lim k (Code.at [1, 0, 1] c34) (sp 15 [(0, x0), (6, x6), (7, x7)]) H (kk (some []) kn [] R [4]) = N34_2 ρ call yc lim k x0 x6 x7 H (fun H => kn (sp 15 []) H) R := by
  rw [evL_X, N34_2_x]
  simp only [← evL_X, N34_2, N34_3_eq]
noncomputable def L34 (ρ : Addr → Option Value) (call : CallF) (yc : YieldF) (lim k : Nat) (x0 x1 : AV) (H : Heap) : Res :=
  N34_2 ρ call yc lim k x0 x1 (.int .i64 0) H (fun H =>
    N34_1 ρ call yc lim k H retK) retK
theorem L34_x (ρ : Addr → Option Value) (call : CallF) (yc : YieldF) (lim k : Nat) (J : CodeF) (x0 x1 : AV) (H : Heap) :
    evX (cx ρ) call yc false 34 lim k J c34 [x0, x1, (.tup []), (.tup []), (.tup []), (.tup []), (.tup []), (.tup []), (.tup []), (.tup []), (.tup []), (.tup []), (.tup []), (.tup []), (.tup [])] H (kk none (fun s H => retK (([4] : List Nat).map fun t => s.getD t (.tup [])) H) [] retK [4]) =
  J (Code.at [1, 0, 1] c34) (sp 15 [(0, x0), (6, x1), (7, (.int .i64 0))]) H (kk (some []) (fun s H => J (Code.at [1, 1] c34) s H (kk none (fun s H => retK (([4] : List Nat).map fun t => s.getD t (.tup [])) H) [] retK [4])) [] retK [4]) := by
  kernel_rfl
theorem G34 (ρ : Addr → Option Value) (call : CallF) (yc : YieldF) (lim k : Nat) (x0 x1 : AV) (H : Heap) :
    evL (cx ρ) call yc false 34 lim k c34 [x0, x1, (.tup []), (.tup []), (.tup []), (.tup []), (.tup []), (.tup []), (.tup []), (.tup []), (.tup []), (.tup []), (.tup []), (.tup []), (.tup [])] H (kk none (fun s H => retK (([4] : List Nat).map fun t => s.getD t (.tup [])) H) [] retK [4]) = L34 ρ call yc lim k x0 x1 H := by
  rw [evL_X, L34_x]
  simp only [← evL_X, L34, N34_1_eq, N34_2_eq]
theorem E34 (ρ : Addr → Option Value) (k lim : Nat) (x0 x1 : AV) (H : Heap) : evCall (cx ρ) (k + 1) lim 34 [x0, x1] H = L34 ρ (evCall (cx ρ) k) (evCY (cx ρ) k).2 lim k x0 x1 H := by
  rw [evCall_body (cx ρ) k lim 34 _ H Try.f34 c34 [4] (by kernel_rfl) (by kernel_rfl) (by kernel_rfl) (by kernel_rfl) (by kernel_rfl)]
  exact G34 ρ (evCall (cx ρ) k) (evCY (cx ρ) k).2 lim k x0 x1 H
-- slices.ContainsFunc[[]haycroft/api.Step,haycroft/api.Step]
noncomputable def c42 : Code := Code.of Try.prog 42
noncomputable def L42 (ρ : Addr → Option Value) (call : CallF) (yc : YieldF) (lim k : Nat) (x0 x1 : AV) (H : Heap) : Res :=
  resK (call lim 48 [x0, x1] H) fun x7 H =>
  purK (binA Try.prog H .geq 3 x7 (.int .i64 0)) fun x8 =>
  retK [x8] H
theorem G42 (ρ : Addr → Option Value) (call : CallF) (yc : YieldF) (lim k : Nat) (x0 x1 : AV) (H : Heap) :
    evL (cx ρ) call yc false 42 lim k c42 [x0, x1, (.tup []), (.tup []), (.tup []), (.tup []), (.tup []), (.tup []), (.tup [])] H (kk none (fun s H => retK (([4] : List Nat).map fun t => s.getD t (.tup [])) H) [] retK [4]) = L42 ρ call yc lim k x0 x1 H := by
  kernel_rfl
theorem E42 (ρ : Addr → Option Value) (k lim : Nat) (x0 x1 : AV) (H : Heap) : evCall (cx ρ) (k + 1) lim 42 [x0, x1] H = L42 ρ (evCall (cx ρ) k) (evCY (cx ρ) k).2 lim k x0 x1 H := by
  rw [evCall_body (cx ρ) k lim 42 _ H Try.f42 c42 [4] (by kernel_rfl) (by kernel_rfl) (by kernel_rfl) (by kernel_rfl) (by kernel_rfl)]
  exact G42 ρ (evCall (cx ρ) k) (evCY (cx ρ) k).2 lim k x0 x1 H
-- haycroft/plan.moves$1
noncomputable def c43 : Code := Code.of Try.prog 43
noncomputable def L43 (ρ : Addr → Option Value) (call : CallF) (yc : YieldF) (lim k : Nat) (x0 x1 : AV) (H : Heap) : Res :=
  effK H (boxA H 42 x0) fun x2 H =>
  purK (addA 0 x2) fun x4 =>
  purK (ld1 ρ H x4) fun x5 =>
  purK (binA Try.prog H .eql 3 x5 (.int .i64 2)) fun x6 =>
  purK (gPur (wantV x6 true) (addA 1 x2)) fun x8 =>
  purK (gPur (wantV x6 true) (ld1 ρ H x8)) fun x9 =>
  purK (gPur (wantV x6 true) (ld1 ρ H x1)) fun x10 =>
  purK (gPur (wantV x6 true) (binA Try.prog H .eql 3 x9 x10)) fun x11 =>
  purK (pickA x6 x11 (.bool false)) fun x12 =>
  retK [x12] H
theorem G43 (ρ : Addr → Option Value) (call : CallF) (yc : YieldF) (lim k : Nat) (x0 x1 : AV) (H : Heap) :
    evL (cx ρ) call yc false 43 lim k c43 [x0, x1, (.tup []), (.tup []), (.tup []), (.tup []), (.tup []), (.tup []), (.tup []), (.tup []), (.tup []), (.tup []), (.tup [])] H (kk none (fun s H => retK (([3] : List Nat).map fun t => s.getD t (.tup [])) H) [] retK [3]) = L43 ρ call yc lim k x0 x1 H := by
  kernel_rfl
theorem E43 (ρ : Addr → Option Value) (k lim : Nat) (x0 x1 : AV) (H : Heap) : evCall (cx ρ) (k + 1) lim 43 [x0, x1] H = L43 ρ (evCall (cx ρ) k) (evCY (cx ρ) k).2 lim k x0 x1 H := by
  rw [evCall_body (cx ρ) k lim 43 _ H Try.f43 c43 [3] (by kernel_rfl) (by kernel_rfl) (by kernel_rfl) (by kernel_rfl) (by kernel_rfl)]
  exact G43 ρ (evCall (cx ρ) k) (evCY (cx ρ) k).2 lim k x0 x1 H
-- slices.IndexFunc[[]haycroft/api.Step,haycroft/api.Step]
noncomputable def c48 : Code := Code.of Try.prog 48
noncomputable def N48_1 (ρ : Addr → Option Value) (call : CallF) (yc : YieldF) (lim k : Nat) (H : Heap) (R : List AV → Heap → Res) : Res :=
  R [(.int .i64 (-1))] H
theorem N48_1_eq (ρ : Addr → Option Value) (call : CallF) (yc : YieldF) (lim k : Nat) (H : Heap) (R : List AV → Heap → Res) :
    evL (cx ρ) call yc false 48 lim k (Code.at [1, 1] c48) (sp 19 []) H (kk none (fun s H => R (([4] : List Nat).map fun t => s.getD t (.tup [])) H) [] R [4]) = N48_1 ρ call yc lim k H R := by
  kernel_rfl
noncomputable def N48_3b (ρ : Addr → Option Value) (call : CallF) (yc : YieldF) (lim k : Nat) (x0 x1 x7 x8 : AV) (H : Heap) (kn : AV → AV → AV → AV → Heap → Res) (k0 : Heap → Res) (R : List AV → Heap → Res) : Res :=
  purK (binA Try.prog H .lss 3 x8 x7) fun x9_1 =>
  condK x9_1
  (
    purK (ixS 8 x0 x8) fun x14_1 =>
    purK (ldN ρ H 8 x14_1) fun x15_1 =>
    valK call yc lim x1 [x15_1] H fun x16_1 H =>
    condK x16_1
    (
      R [x8] H)
    (
      purK (binA Try.prog H .add 3 x8 (.int .i64 1)) fun x18_1 =>
      kn x0 x1 x7 x18_1 H))
  (
    k0 H)
theorem N48_3b_eq (ρ : Addr → Option Value) (call : CallF) (yc : YieldF) (lim k : Nat) (x0 x1 x7 x8 : AV) (H : Heap) (kn : KS) (k0 : KS) (R : List AV → Heap → Res) :
    evL (cx ρ) call yc false 48 lim k (Code.at [1, 0, 1, 0, 0] c48) (sp 19 [(0, x0), (1, x1), (7, x7), (8, x8)]) H (kk (some [0, 1, 7, 8]) kn [(0, (some []), k0)] R [4]) = N48_3b ρ call yc lim k x0 x1 x7 x8 H (fun x0 x1 x7 x8 H => kn (sp 19 [(0, x0), (1, x1), (7, x7), (8, x8)]) H) (fun H => k0 (sp 19 []) H) R := by
  kernel_rfl
noncomputable def N48_3 (ρ : Addr → Option Value) (call : CallF) (yc : YieldF) (lim k : Nat) (x0 x1 x7 x8 : AV) (H : Heap) (k0 : Heap → Res) (R : List AV → Heap → Res) : Res :=
  loopL (fun (x : AV) H kn => N48_3b ρ call yc lim k x0 x1 x7 x H (fun _ _ _ x8 H => kn x8 H) k0 R) k x8 H
theorem N48_3_eq (ρ : Addr → Option Value) (call : CallF) (yc : YieldF) (lim k : Nat) (x0 x1 x7 x8 : AV) (H : Heap) (kn : KS) (k0 : KS) (R : List AV → Heap → Res) :
    evL (cx ρ) call yc false 48 lim k (Code.at [1, 0, 1, 0] c48) (sp 19 [(0, x0), (1, x1), (7, x7), (8, x8)]) H (kk (some []) kn [(0, (some []), k0)] R [4]) = N48_3 ρ call yc lim k x0 x1 x7 x8 H (fun H => k0 (sp 19 []) H) R := by
  have e : Code.at [1, 0, 1, 0] c48 = .loop (Code.at [1, 0, 1, 0, 0] c48) := by kernel_rfl
  rw [e]
  unfold N48_3
  exact loop_node [0, 1, 7, 8] (fun x : AV => (sp 19 [(0, x0), (1, x1), (7, x7), (8, (x))])) (fun (x : AV) H kn => N48_3b ρ call yc lim k x0 x1 x7 x H (fun _ _ _ x8 H => kn x8 H) (fun H => k0 (sp 19 []) H) R) (by kernel_rfl) (fun x => by kernel_rfl) (fun x H kn => N48_3b_eq ρ call yc lim k x0 x1 x7 (x) H kn k0 R) x8 (sp 19 [(0, x0), (1, x1), (7, x7), (8, x8)]) H (by kernel_rfl)
noncomputable def N48_2 (ρ : Addr → Option Value) (call : CallF) (yc : YieldF) (lim k : Nat) (x0 x1 x7 x8 : AV) (H : Heap) (kn : Heap → Res) (R : List AV → Heap → Res) : Res :=
  N48_3 ρ call yc lim k x0 x1 x7 x8 H kn R
theorem N48_2_x (ρ : Addr → Option Value) (call : CallF) (yc : YieldF) (lim k : Nat) (J : CodeF) (x0 x1 x7 x8 : AV) (H : Heap) (kn : KS) (R : List AV → Heap → Res) :
    evX (cx ρ) call yc false 48 lim k J (Code.at [1, 0, 1] c48) (sp 19 [(0, x0), (1, x1), (7, x7), (8, x8)]) H (kk (some []) kn [] R [4]) =
  J (Code.at [1, 0, 1, 0] c48) (sp 19 [(0, x0), (1, x1), (7, x7), (8, x8)]) H (kk (some []) kn [(0, (some []), kn)] R [4]) := by
  kernel_rfl
theorem N48_2_eq (ρ : Addr → Option Value) (call : CallF) (yc : YieldF) (lim k : Nat) (x0 x1 x7 x8 : AV) (H : Heap) (kn : KS) (R : List AV → Heap → Res) :
    evL (cx ρ) call yc false 48 lim k (Code.at [1, 0, 1] c48) (sp 19 [(0, x0), (1, x1), (7, x7), (8, x8)]) H (kk (some []) kn [] R [4]) = N48_2 ρ call yc lim k x0 x1 x7 x8 H (fun H => kn (sp 19 []) H) R := by
  rw [evL_X, N48_2_x]
  simp only [← evL_X, N48_2, N48_3_eq]
noncomputable def L48 (ρ : Addr → Option Value) (call : CallF) (yc : YieldF) (lim k : Nat) (x0 x1 : AV) (H : Heap) : Res :=
  purK (lenS x0) fun x7 =>
  N48_2 ρ call yc lim k x0 x1 x7 (.int .i64 0) H (fun H =>
    N48_1 ρ call yc lim k H retK) retK
theorem L48_x (ρ : Addr → Option Value) (call : CallF) (yc : YieldF) (lim k : Nat) (J : CodeF) (x0 x1 : AV) (H : Heap) :
    evX (cx ρ) call yc false 48 lim k J c48 [x0, x1, (.tup []), (.tup []), (.tup []), (.tup []), (.tup []), (.tup []), (.tup []), (.tup []), (.tup []), (.tup []), (.tup []), (.tup []), (.tup []), (.tup []), (.tup []), (.tup []), (.tup [])] H (kk none (fun s H => retK (([4] : List Nat).map fun t => s.getD t (.tup [])) H) [] retK [4]) =
  purK (lenS x0) fun x7 =>
  J (Code.at [1, 0, 1] c48) (sp 19 [(0, x0), (1, x1), (7, x7), (8, (.int .i64 0))]) H (kk (some []) (fun s H => J (Code.at [1, 1] c48) s H (kk none (fun s H => retK (([4] : List Nat).map fun t => s.getD t (.tup [])) H) [] retK [4])) [] retK [4]) := by
  kernel_rfl
theorem G48 (ρ : Addr → Option Value) (call : CallF) (yc : YieldF) (lim k : Nat) (x0 x1 : AV) (H : Heap) :
    evL (cx ρ) call yc false 48 lim k c48 [x0, x1, (.tup []), (.tup []), (.tup []), (.tup []), (.tup []), (.tup []), (.tup []), (.tup []), (.tup []), (.tup []), (.tup []), (.tup []), (.tup []), (.tup []), (.tup []), (.tup []), (.tup [])] H (kk none (fun s H => retK (([4] : List Nat).map fun t => s.getD t (.tup [])) H) [] retK [4]) = L48 ρ call yc lim k x0 x1 H := by
  rw [evL_X, L48_x]
  simp only [← evL_X, L48, N48_1_eq, N48_2_eq]
theorem E48 (ρ : Addr → Option Value) (k lim : Nat) (x0 x1 : AV) (H : Heap) : evCall (cx ρ) (k + 1) lim 48 [x0, x1] H = L48 ρ (evCall (cx ρ) k) (evCY (cx ρ) k).2 lim k x0 x1 H := by
  rw [evCall_body (cx ρ) k lim 48 _ H Try.f48 c48 [4] (by kernel_rfl) (by kernel_rfl) (by kernel_rfl) (by kernel_rfl) (by kernel_rfl)]
  exact G48 ρ (evCall (cx ρ) k) (evCY (cx ρ) k).2 lim k x0 x1 H
end Go.Proofs.Ytcjicmabhejllaa
