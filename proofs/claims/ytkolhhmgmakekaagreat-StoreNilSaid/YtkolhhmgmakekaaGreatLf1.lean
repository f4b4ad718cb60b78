/- Functions, lifted. Printed by a program of this repo. -/
import Derived.Test.YtkolhhmgmakekaaGreatLfTab
set_option linter.unusedVariables false
set_option linter.unusedSimpArgs false
set_option maxRecDepth 100000
set_option maxHeartbeats 4000000
namespace Go.Proofs.YtkolhhmgmakekaaGreat
open Go.Ev Go.RowKit
-- slices.pdqsortOrdered[int]
noncomputable def c200 : Code := Code.of Tryz.prog 200
noncomputable def N200_5 (ρ : Addr → Option Value) (call : CallF) (yc : YieldF) (lim k : Nat) (x0 x1 x2 x3 x8 x9 x10 x11 : AV) (H : Heap) (kn : AV → AV → AV → AV → AV → AV → Heap → Res) (k1 : AV → AV → AV → AV → AV → AV → Heap → Res) : Res :=
  purK (binA Tryz.prog H .gtr 3 x1 (.int .i64 0)) fun x74_1 =>
  boolK (wantV x74_1 true) fun b1 => purK (bif b1 then some x0 else some (.tup [])) fun x76_1 =>
  boolK (wantV x74_1 true) fun b2 => purK (bif b2 then some x1 else some (.tup [])) fun x77_1 =>
  boolK (wantV x74_1 true) fun b3 => purK (bif b3 then binA Tryz.prog H .sub 3 x77_1 (.int .i64 1) else some (.tup [])) fun x78_1 =>
  boolK (wantV x74_1 true) fun b4 => purK (bif b4 then ixS 1 x76_1 x78_1 else some (.tup [])) fun x79_1 =>
  boolK (wantV x74_1 true) fun b5 => purK (bif b5 then ld1 ρ H x79_1 else some (.tup [])) fun x80_1 =>
  boolK (wantV x74_1 true) fun b6 => purK (bif b6 then some x0 else some (.tup [])) fun x81_1 =>
  boolK (wantV x74_1 true) fun b7 => purK (bif b7 then some x11 else some (.tup [])) fun x82_1 =>
  boolK (wantV x74_1 true) fun b8 => purK (bif b8 then ixS 1 x81_1 x82_1 else some (.tup [])) fun x83_1 =>
  boolK (wantV x74_1 true) fun b9 => purK (bif b9 then ld1 ρ H x83_1 else some (.tup [])) fun x84_1 =>
  boolK (wantV x74_1 true) fun b10 => resK (gRes (some b10) H (call lim 254 [x80_1, x84_1] H)) fun x85_1 H => bif !b10 || ((!b9 || true) && ((!b5 || true) && ((!b3 || true) && true))) then
    purK (gPur (wantV x74_1 true) (unA .not x85_1)) fun x86_1 =>
    purK (pickA x74_1 x86_1 (.bool false)) fun x87_1 =>
    condK x87_1
    (
      resK (call lim 255 [x0, x1, x2, x11] H) fun x92_1 H =>
      k1 x0 x92_1 x2 x3 x8 x9 H)
    (
      resK (call lim 256 [x0, x1, x2, x11] H) fun x99_1 H =>
      purK (extA 0 x99_1) fun x100_1 =>
      purK (extA 1 x99_1) fun x101_1 =>
      purK (binA Tryz.prog H .sub 3 x100_1 x1) fun x105_1 =>
      purK (binA Tryz.prog H .sub 3 x2 x100_1) fun x108_1 =>
      purK (binA Tryz.prog H .quo 3 x10 (.int .i64 8)) fun x110_1 =>
      purK (binA Tryz.prog H .lss 3 x105_1 x108_1) fun x113_1 =>
      condK x113_1
      (
        purK (binA Tryz.prog H .geq 3 x105_1 x110_1) fun x116_1 =>
        resK (call lim 200 [x0, x1, x100_1, x3] H) fun x121_1 H =>
        purK (binA Tryz.prog H .add 3 x100_1 (.int .i64 1)) fun x123_1 =>
        kn x0 x123_1 x2 x3 x116_1 x101_1 H)
      (
        purK (binA Tryz.prog H .geq 3 x108_1 x110_1) fun x126_1 =>
        purK (binA Tryz.prog H .add 3 x100_1 (.int .i64 1)) fun x129_1 =>
        resK (call lim 200 [x0, x129_1, x2, x3] H) fun x132_1 H =>
        kn x0 x1 x100_1 x3 x126_1 x101_1 H))
  else none
theorem N200_5_eq (ρ : Addr → Option Value) (call : CallF) (yc : YieldF) (lim k : Nat) (x0 x1 x2 x3 x8 x9 x10 x11 : AV) (H : Heap) (kn : KS) (k1 : KS) (R : List AV → Heap → Res) :
    evL (cx ρ) call yc false 200 lim k (Code.at [1, 1, 0, 0, 0, 1, 1, 1, 1, 1, 1, 1] c200) (sp 134 [(0, x0), (1, x1), (2, x2), (3, x3), (8, x8), (9, x9), (10, x10), (11, x11)]) H (kk (some [0, 1, 2, 3, 8, 9]) kn [(1, (some [0, 1, 2, 3, 8, 9]), k1), (0, none, (fun s H => R (([] : List Nat).map fun t => s.getD t (.tup [])) H))] R []) = N200_5 ρ call yc lim k x0 x1 x2 x3 x8 x9 x10 x11 H (fun x0 x1 x2 x3 x8 x9 H => kn (sp 134 [(0, x0), (1, x1), (2, x2), (3, x3), (8, x8), (9, x9)]) H) (fun x0 x1 x2 x3 x8 x9 H => k1 (sp 134 [(0, x0), (1, x1), (2, x2), (3, x3), (8, x8), (9, x9)]) H) := by
  kernel_rfl
noncomputable def N200_4 (ρ : Addr → Option Value) (call : CallF) (yc : YieldF) (lim k : Nat) (x0 x1 x2 x3 x8 x9 x10 x11 x12 : AV) (H : Heap) (kn : AV → AV → AV → AV → AV → AV → Heap → Res) (k1 : AV → AV → AV → AV → AV → AV → Heap → Res) (R : List AV → Heap → Res) : Res :=
  purK (gPur (wantV x8 true) (some x9)) fun x63_1 =>
  purK (pickA x8 x63_1 (.bool false)) fun x64_1 =>
  purK (gPur (wantV x64_1 true) (some x12)) fun x66_1 =>
  purK (gPur (wantV x64_1 true) (binA Tryz.prog H .eql 311 x66_1 (.int .i64 1))) fun x67_1 =>
  purK (pickA x64_1 x67_1 (.bool false)) fun x68_1 =>
  condK x68_1
  (
    resK (call lim 253 [x0, x1, x2] H) fun x72_1 H =>
    condK x72_1
    (
      R [] H)
    (
      N200_5 ρ call yc lim k x0 x1 x2 x3 x8 x9 x10 x11 H kn k1))
  (
    N200_5 ρ call yc lim k x0 x1 x2 x3 x8 x9 x10 x11 H kn k1)
theorem N200_4_x (ρ : Addr → Option Value) (call : CallF) (yc : YieldF) (lim k : Nat) (J : CodeF) (x0 x1 x2 x3 x8 x9 x10 x11 x12 : AV) (H : Heap) (kn : KS) (k1 : KS) (R : List AV → Heap → Res) :
    evX (cx ρ) call yc false 200 lim k J (Code.at [1, 1, 0, 0, 0, 1, 1, 1, 1, 1, 1] c200) (sp 134 [(0, x0), (1, x1), (2, x2), (3, x3), (8, x8), (9, x9), (10, x10), (11, x11), (12, x12)]) H (kk (some [0, 1, 2, 3, 8, 9]) kn [(1, (some [0, 1, 2, 3, 8, 9]), k1), (0, none, (fun s H => R (([] : List Nat).map fun t => s.getD t (.tup [])) H))] R []) =
  purK (gPur (wantV x8 true) (some x9)) fun x63_1 =>
  purK (pickA x8 x63_1 (.bool false)) fun x64_1 =>
  purK (gPur (wantV x64_1 true) (some x12)) fun x66_1 =>
  purK (gPur (wantV x64_1 true) (binA Tryz.prog H .eql 311 x66_1 (.int .i64 1))) fun x67_1 =>
  purK (pickA x64_1 x67_1 (.bool false)) fun x68_1 =>
  condK x68_1
  (
    resK (call lim 253 [x0, x1, x2] H) fun x72_1 H =>
    condK x72_1
    (
      R [] H)
    (
      J (Code.at [1, 1, 0, 0, 0, 1, 1, 1, 1, 1, 1, 1] c200) (sp 134 [(0, x0), (1, x1), (2, x2), (3, x3), (8, x8), (9, x9), (10, x10), (11, x11)]) H (kk (some [0, 1, 2, 3, 8, 9]) kn [(1, (some [0, 1, 2, 3, 8, 9]), k1), (0, none, (fun s H => R (([] : List Nat).map fun t => s.getD t (.tup [])) H))] R [])))
  (
    J (Code.at [1, 1, 0, 0, 0, 1, 1, 1, 1, 1, 1, 1] c200) (sp 134 [(0, x0), (1, x1), (2, x2), (3, x3), (8, x8), (9, x9), (10, x10), (11, x11)]) H (kk (some [0, 1, 2, 3, 8, 9]) kn [(1, (some [0, 1, 2, 3, 8, 9]), k1), (0, none, (fun s H => R (([] : List Nat).map fun t => s.getD t (.tup [])) H))] R [])) := by
  kernel_rfl
theorem N200_4_eq (ρ : Addr → Option Value) (call : CallF) (yc : YieldF) (lim k : Nat) (x0 x1 x2 x3 x8 x9 x10 x11 x12 : AV) (H : Heap) (kn : KS) (k1 : KS) (R : List AV → Heap → Res) :
    evL (cx ρ) call yc false 200 lim k (Code.at [1, 1, 0, 0, 0, 1, 1, 1, 1, 1, 1] c200) (sp 134 [(0, x0), (1, x1), (2, x2), (3, x3), (8, x8), (9, x9), (10, x10), (11, x11), (12, x12)]) H (kk (some [0, 1, 2, 3, 8, 9]) kn [(1, (some [0, 1, 2, 3, 8, 9]), k1), (0, none, (fun s H => R (([] : List Nat).map fun t => s.getD t (.tup [])) H))] R []) = N200_4 ρ call yc lim k x0 x1 x2 x3 x8 x9 x10 x11 x12 H (fun x0 x1 x2 x3 x8 x9 H => kn (sp 134 [(0, x0), (1, x1), (2, x2), (3, x3), (8, x8), (9, x9)]) H) (fun x0 x1 x2 x3 x8 x9 H => k1 (sp 134 [(0, x0), (1, x1), (2, x2), (3, x3), (8, x8), (9, x9)]) H) R := by
  rw [evL_X, N200_4_x]
  simp only [← evL_X, N200_4, N200_5_eq]
noncomputable def N200_3 (ρ : Addr → Option Value) (call : CallF) (yc : YieldF) (lim k : Nat) (x0 x1 x2 x3 x8 x9 x10 : AV) (H : Heap) (kn : AV → AV → AV → AV → AV → AV → Heap → Res) (k1 : AV → AV → AV → AV → AV → AV → Heap → Res) (R : List AV → Heap → Res) : Res :=
  resK (call lim 251 [x0, x1, x2] H) fun x46_1 H =>
  purK (extA 0 x46_1) fun x47_1 =>
  purK (extA 1 x46_1) fun x48_1 =>
  purK (binA Tryz.prog H .eql 311 x48_1 (.int .i64 2)) fun x50_1 =>
  condK x50_1
  (
    resK (call lim 252 [x0, x1, x2] H) fun x54_1 H =>
    purK (binA Tryz.prog H .sub 3 x2 (.int .i64 1)) fun x56_1 =>
    purK (binA Tryz.prog H .sub 3 x47_1 x1) fun x59_1 =>
    purK (binA Tryz.prog H .sub 3 x56_1 x59_1) fun x60_1 =>
    N200_4 ρ call yc lim k x0 x1 x2 x3 x8 x9 x10 x60_1 (.int .i64 1) H kn k1 R)
  (
    N200_4 ρ call yc lim k x0 x1 x2 x3 x8 x9 x10 x47_1 x48_1 H kn k1 R)
theorem N200_3_x (ρ : Addr → Option Value) (call : CallF) (yc : YieldF) (lim k : Nat) (J : CodeF) (x0 x1 x2 x3 x8 x9 x10 : AV) (H : Heap) (kn : KS) (k1 : KS) (R : List AV → Heap → Res) :
    evX (cx ρ) call yc false 200 lim k J (Code.at [1, 1, 0, 0, 0, 1, 1, 1, 1] c200) (sp 134 [(0, x0), (1, x1), (2, x2), (3, x3), (8, x8), (9, x9), (10, x10)]) H (kk (some [0, 1, 2, 3, 8, 9]) kn [(1, (some [0, 1, 2, 3, 8, 9]), k1), (0, none, (fun s H => R (([] : List Nat).map fun t => s.getD t (.tup [])) H))] R []) =
  resK (call lim 251 [x0, x1, x2] H) fun x46_1 H =>
  purK (extA 0 x46_1) fun x47_1 =>
  purK (extA 1 x46_1) fun x48_1 =>
  purK (binA Tryz.prog H .eql 311 x48_1 (.int .i64 2)) fun x50_1 =>
  condK x50_1
  (
    resK (call lim 252 [x0, x1, x2] H) fun x54_1 H =>
    purK (binA Tryz.prog H .sub 3 x2 (.int .i64 1)) fun x56_1 =>
    purK (binA Tryz.prog H .sub 3 x47_1 x1) fun x59_1 =>
    purK (binA Tryz.prog H .sub 3 x56_1 x59_1) fun x60_1 =>
    J (Code.at [1, 1, 0, 0, 0, 1, 1, 1, 1, 1, 1] c200) (sp 134 [(0, x0), (1, x1), (2, x2), (3, x3), (8, x8), (9, x9), (10, x10), (11, x60_1), (12, (.int .i64 1))]) H (kk (some [0, 1, 2, 3, 8, 9]) kn [(1, (some [0, 1, 2, 3, 8, 9]), k1), (0, none, (fun s H => R (([] : List Nat).map fun t => s.getD t (.tup [])) H))] R []))
  (
    J (Code.at [1, 1, 0, 0, 0, 1, 1, 1, 1, 1, 1] c200) (sp 134 [(0, x0), (1, x1), (2, x2), (3, x3), (8, x8), (9, x9), (10, x10), (11, x47_1), (12, x48_1)]) H (kk (some [0, 1, 2, 3, 8, 9]) kn [(1, (some [0, 1, 2, 3, 8, 9]), k1), (0, none, (fun s H => R (([] : List Nat).map fun t => s.getD t (.tup [])) H))] R [])) := by
  kernel_rfl
theorem N200_3_eq (ρ : Addr → Option Value) (call : CallF) (yc : YieldF) (lim k : Nat) (x0 x1 x2 x3 x8 x9 x10 : AV) (H : Heap) (kn : KS) (k1 : KS) (R : List AV → Heap → Res) :
    evL (cx ρ) call yc false 200 lim k (Code.at [1, 1, 0, 0, 0, 1, 1, 1, 1] c200) (sp 134 [(0, x0), (1, x1), (2, x2), (3, x3), (8, x8), (9, x9), (10, x10)]) H (kk (some [0, 1, 2, 3, 8, 9]) kn [(1, (some [0, 1, 2, 3, 8, 9]), k1), (0, none, (fun s H => R (([] : List Nat).map fun t => s.getD t (.tup [])) H))] R []) = N200_3 ρ call yc lim k x0 x1 x2 x3 x8 x9 x10 H (fun x0 x1 x2 x3 x8 x9 H => kn (sp 134 [(0, x0), (1, x1), (2, x2), (3, x3), (8, x8), (9, x9)]) H) (fun x0 x1 x2 x3 x8 x9 H => k1 (sp 134 [(0, x0), (1, x1), (2, x2), (3, x3), (8, x8), (9, x9)]) H) R := by
  rw [evL_X, N200_3_x]
  simp only [← evL_X, N200_3, N200_4_eq]
noncomputable def N200_2b (ρ : Addr → Option Value) (call : CallF) (yc : YieldF) (lim k : Nat) (x0 x1 x2 x3 x8 x9 : AV) (H : Heap) (kn : AV → AV → AV → AV → AV → AV → Heap → Res) (R : List AV → Heap → Res) : Res :=
  purK (binA Tryz.prog H .sub 3 x2 x1) fun x21_1 =>
  purK (binA Tryz.prog H .leq 3 x21_1 (.int .i64 12)) fun x23_1 =>
  condK x23_1
  (
    resK (call lim 248 [x0, x1, x2] H) fun x27_1 H =>
    R [] H)
  (
    purK (binA Tryz.prog H .eql 3 x3 (.int .i64 0)) fun x29_1 =>
    condK x29_1
    (
      resK (call lim 249 [x0, x1, x2] H) fun x33_1 H =>
      R [] H)
    (
      purK (unA .not x8) fun x35_1 =>
      condK x35_1
      (
        resK (call lim 250 [x0, x1, x2] H) fun x39_1 H =>
        purK (binA Tryz.prog H .sub 3 x3 (.int .i64 1)) fun x41_1 =>
        N200_3 ρ call yc lim k x0 x1 x2 x41_1 x8 x9 x21_1 H kn kn R)
      (
        N200_3 ρ call yc lim k x0 x1 x2 x3 x8 x9 x21_1 H kn kn R)))
theorem N200_2b_x (ρ : Addr → Option Value) (call : CallF) (yc : YieldF) (lim k : Nat) (J : CodeF) (x0 x1 x2 x3 x8 x9 : AV) (H : Heap) (kn : KS) (R : List AV → Heap → Res) :
    evX (cx ρ) call yc false 200 lim k J (Code.at [1, 1, 0, 0] c200) (sp 134 [(0, x0), (1, x1), (2, x2), (3, x3), (8, x8), (9, x9)]) H (kk (some [0, 1, 2, 3, 8, 9]) kn [(0, none, (fun s H => R (([] : List Nat).map fun t => s.getD t (.tup [])) H))] R []) =
  purK (binA Tryz.prog H .sub 3 x2 x1) fun x21_1 =>
  purK (binA Tryz.prog H .leq 3 x21_1 (.int .i64 12)) fun x23_1 =>
  condK x23_1
  (
    resK (call lim 248 [x0, x1, x2] H) fun x27_1 H =>
    R [] H)
  (
    purK (binA Tryz.prog H .eql 3 x3 (.int .i64 0)) fun x29_1 =>
    condK x29_1
    (
      resK (call lim 249 [x0, x1, x2] H) fun x33_1 H =>
      R [] H)
    (
      purK (unA .not x8) fun x35_1 =>
      condK x35_1
      (
        resK (call lim 250 [x0, x1, x2] H) fun x39_1 H =>
        purK (binA Tryz.prog H .sub 3 x3 (.int .i64 1)) fun x41_1 =>
        J (Code.at [1, 1, 0, 0, 0, 1, 1, 1, 1] c200) (sp 134 [(0, x0), (1, x1), (2, x2), (3, x41_1), (8, x8), (9, x9), (10, x21_1)]) H (kk (some [0, 1, 2, 3, 8, 9]) kn [(1, (some [0, 1, 2, 3, 8, 9]), kn), (0, none, (fun s H => R (([] : List Nat).map fun t => s.getD t (.tup [])) H))] R []))
      (
        J (Code.at [1, 1, 0, 0, 0, 1, 1, 1, 1] c200) (sp 134 [(0, x0), (1, x1), (2, x2), (3, x3), (8, x8), (9, x9), (10, x21_1)]) H (kk (some [0, 1, 2, 3, 8, 9]) kn [(1, (some [0, 1, 2, 3, 8, 9]), kn), (0, none, (fun s H => R (([] : List Nat).map fun t => s.getD t (.tup [])) H))] R [])))) := by
  kernel_rfl
theorem N200_2b_eq (ρ : Addr → Option Value) (call : CallF) (yc : YieldF) (lim k : Nat) (x0 x1 x2 x3 x8 x9 : AV) (H : Heap) (kn : KS) (R : List AV → Heap → Res) :
    evL (cx ρ) call yc false 200 lim k (Code.at [1, 1, 0, 0] c200) (sp 134 [(0, x0), (1, x1), (2, x2), (3, x3), (8, x8), (9, x9)]) H (kk (some [0, 1, 2, 3, 8, 9]) kn [(0, none, (fun s H => R (([] : List Nat).map fun t => s.getD t (.tup [])) H))] R []) = N200_2b ρ call yc lim k x0 x1 x2 x3 x8 x9 H (fun x0 x1 x2 x3 x8 x9 H => kn (sp 134 [(0, x0), (1, x1), (2, x2), (3, x3), (8, x8), (9, x9)]) H) R := by
  rw [evL_X, N200_2b_x]
  simp only [← evL_X, N200_2b, N200_3_eq]
noncomputable def N200_2 (ρ : Addr → Option Value) (call : CallF) (yc : YieldF) (lim k : Nat) (x0 x1 x2 x3 x8 x9 : AV) (H : Heap) (R : List AV → Heap → Res) : Res :=
  loopL (fun (x : AV × AV × AV × AV × AV) H kn => N200_2b ρ call yc lim k x0 x.1 x.2.1 x.2.2.1 x.2.2.2.1 x.2.2.2.2 H (fun _ x1 x2 x3 x8 x9 H => kn (x1, x2, x3, x8, x9) H) R) k (x1, x2, x3, x8, x9) H
theorem N200_2_eq (ρ : Addr → Option Value) (call : CallF) (yc : YieldF) (lim k : Nat) (x0 x1 x2 x3 x8 x9 : AV) (H : Heap) (R : List AV → Heap → Res) :
    evL (cx ρ) call yc false 200 lim k (Code.at [1, 1, 0] c200) (sp 134 [(0, x0), (1, x1), (2, x2), (3, x3), (8, x8), (9, x9)]) H (kk none (fun s H => R (([] : List Nat).map fun t => s.getD t (.tup [])) H) [(0, none, (fun s H => R (([] : List Nat).map fun t => s.getD t (.tup [])) H))] R []) = N200_2 ρ call yc lim k x0 x1 x2 x3 x8 x9 H R := by
  have e : Code.at [1, 1, 0] c200 = .loop (Code.at [1, 1, 0, 0] c200) := by kernel_rfl
  rw [e]
  unfold N200_2
  exact loop_node [0, 1, 2, 3, 8, 9] (fun x : AV × AV × AV × AV × AV => (sp 134 [(0, x0), (1, (x.1)), (2, (x.2.1)), (3, (x.2.2.1)), (8, (x.2.2.2.1)), (9, (x.2.2.2.2))])) (fun (x : AV × AV × AV × AV × AV) H kn => N200_2b ρ call yc lim k x0 x.1 x.2.1 x.2.2.1 x.2.2.2.1 x.2.2.2.2 H (fun _ x1 x2 x3 x8 x9 H => kn (x1, x2, x3, x8, x9) H) R) (by kernel_rfl) (fun x => by kernel_rfl) (fun x H kn => N200_2b_eq ρ call yc lim k x0 (x.1) (x.2.1) (x.2.2.1) (x.2.2.2.1) (x.2.2.2.2) H kn R) (x1, x2, x3, x8, x9) (sp 134 [(0, x0), (1, x1), (2, x2), (3, x3), (8, x8), (9, x9)]) H (by kernel_rfl)
noncomputable def N200_1 (ρ : Addr → Option Value) (call : CallF) (yc : YieldF) (lim k : Nat) (x0 x1 x2 x3 x8 x9 : AV) (H : Heap) (R : List AV → Heap → Res) : Res :=
  N200_2 ρ call yc lim k x0 x1 x2 x3 x8 x9 H R
theorem N200_1_x (ρ : Addr → Option Value) (call : CallF) (yc : YieldF) (lim k : Nat) (J : CodeF) (x0 x1 x2 x3 x8 x9 : AV) (H : Heap) (R : List AV → Heap → Res) :
    evX (cx ρ) call yc false 200 lim k J (Code.at [1, 1] c200) (sp 134 [(0, x0), (1, x1), (2, x2), (3, x3), (8, x8), (9, x9)]) H (kk none (fun s H => R (([] : List Nat).map fun t => s.getD t (.tup [])) H) [] R []) =
  J (Code.at [1, 1, 0] c200) (sp 134 [(0, x0), (1, x1), (2, x2), (3, x3), (8, x8), (9, x9)]) H (kk none (fun s H => R (([] : List Nat).map fun t => s.getD t (.tup [])) H) [(0, none, (fun s H => R (([] : List Nat).map fun t => s.getD t (.tup [])) H))] R []) := by
  kernel_rfl
theorem N200_1_eq (ρ : Addr → Option Value) (call : CallF) (yc : YieldF) (lim k : Nat) (x0 x1 x2 x3 x8 x9 : AV) (H : Heap) (R : List AV → Heap → Res) :
    evL (cx ρ) call yc false 200 lim k (Code.at [1, 1] c200) (sp 134 [(0, x0), (1, x1), (2, x2), (3, x3), (8, x8), (9, x9)]) H (kk none (fun s H => R (([] : List Nat).map fun t => s.getD t (.tup [])) H) [] R []) = N200_1 ρ call yc lim k x0 x1 x2 x3 x8 x9 H R := by
  rw [evL_X, N200_1_x]
  simp only [← evL_X, N200_1, N200_2_eq]
noncomputable def L200 (ρ : Addr → Option Value) (call : CallF) (yc : YieldF) (lim k : Nat) (x0 x1 x2 x3 : AV) (H : Heap) : Res :=
  N200_1 ρ call yc lim k x0 x1 x2 x3 (.bool true) (.bool true) H retK
theorem L200_x (ρ : Addr → Option Value) (call : CallF) (yc : YieldF) (lim k : Nat) (J : CodeF) (x0 x1 x2 x3 : AV) (H : Heap) :
    evX (cx ρ) call yc false 200 lim k J c200 [x0, x1, x2, x3, (.tup []), (.tup []), (.tup []), (.tup []), (.tup []), (.tup []), (.tup []), (.tup []), (.tup []), (.tup []), (.tup []), (.tup []), (.tup []), (.tup []), (.tup []), (.tup []), (.tup []), (.tup []), (.tup []), (.tup []), (.tup []), (.tup []), (.tup []), (.tup []), (.tup []), (.tup []), (.tup []), (.tup []), (.tup []), (.tup []), (.tup []), (.tup []), (.tup []), (.tup []), (.tup []), (.tup []), (.tup []), (.tup []), (.tup []), (.tup []), (.tup []), (.tup []), (.tup []), (.tup []), (.tup []), (.tup []), (.tup []), (.tup []), (.tup []), (.tup []), (.tup []), (.tup []), (.tup []), (.tup []), (.tup []), (.tup []), (.tup []), (.tup []), (.tup []), (.tup []), (.tup []), (.tup []), (.tup []), (.tup []), (.tup []), (.tup []), (.tup []), (.tup []), (.tup []), (.tup []), (.tup []), (.tup []), (.tup []), (.tup []), (.tup []), (.tup []), (.tup []), (.tup []), (.tup []), (.tup []), (.tup []), (.tup []), (.tup []), (.tup []), (.tup []), (.tup []), (.tup []), (.tup []), (.tup []), (.tup []), (.tup []), (.tup []), (.tup []), (.tup []), (.tup []), (.tup []), (.tup []), (.tup []), (.tup []), (.tup []), (.tup []), (.tup []), (.tup []), (.tup []), (.tup []), (.tup []), (.tup []), (.tup []), (.tup []), (.tup []), (.tup []), (.tup []), (.tup []), (.tup []), (.tup []), (.tup []), (.tup []), (.tup []), (.tup []), (.tup []), (.tup []), (.tup []), (.tup []), (.tup []), (.tup []), (.tup []), (.tup []), (.tup []), (.tup []), (.tup [])] H (kk none (fun s H => retK (([] : List Nat).map fun t => s.getD t (.tup [])) H) [] retK []) =
  J (Code.at [1, 1] c200) (sp 134 [(0, x0), (1, x1), (2, x2), (3, x3), (8, (.bool true)), (9, (.bool true))]) H (kk none (fun s H => retK (([] : List Nat).map fun t => s.getD t (.tup [])) H) [] retK []) := by
  kernel_rfl
theorem G200 (ρ : Addr → Option Value) (call : CallF) (yc : YieldF) (lim k : Nat) (x0 x1 x2 x3 : AV) (H : Heap) :
    evL (cx ρ) call yc false 200 lim k c200 [x0, x1, x2, x3, (.tup []), (.tup []), (.tup []), (.tup []), (.tup []), (.tup []), (.tup []), (.tup []), (.tup []), (.tup []), (.tup []), (.tup []), (.tup []), (.tup []), (.tup []), (.tup []), (.tup []), (.tup []), (.tup []), (.tup []), (.tup []), (.tup []), (.tup []), (.tup []), (.tup []), (.tup []), (.tup []), (.tup []), (.tup []), (.tup []), (.tup []), (.tup []), (.tup []), (.tup []), (.tup []), (.tup []), (.tup []), (.tup []), (.tup []), (.tup []), (.tup []), (.tup []), (.tup []), (.tup []), (.tup []), (.tup []), (.tup []), (.tup []), (.tup []), (.tup []), (.tup []), (.tup []), (.tup []), (.tup []), (.tup []), (.tup []), (.tup []), (.tup []), (.tup []), (.tup []), (.tup []), (.tup []), (.tup []), (.tup []), (.tup []), (.tup []), (.tup []), (.tup []), (.tup []), (.tup []), (.tup []), (.tup []), (.tup []), (.tup []), (.tup []), (.tup []), (.tup []), (.tup []), (.tup []), (.tup []), (.tup []), (.tup []), (.tup []), (.tup []), (.tup []), (.tup []), (.tup []), (.tup []), (.tup []), (.tup []), (.tup []), (.tup []), (.tup []), (.tup []), (.tup []), (.tup []), (.tup []), (.tup []), (.tup []), (.tup []), (.tup []), (.tup []), (.tup []), (.tup []), (.tup []), (.tup []), (.tup []), (.tup []), (.tup []), (.tup []), (.tup []), (.tup []), (.tup []), (.tup []), (.tup []), (.tup []), (.tup []), (.tup []), (.tup []), (.tup []), (.tup []), (.tup []), (.tup []), (.tup []), (.tup []), (.tup []), (.tup []), (.tup []), (.tup []), (.tup [])] H (kk none (fun s H => retK (([] : List Nat).map fun t => s.getD t (.tup [])) H) [] retK []) = L200 ρ call yc lim k x0 x1 x2 x3 H := by
  rw [evL_X, L200_x]
  simp only [← evL_X, L200, N200_1_eq]
theorem E200 (ρ : Addr → Option Value) (k lim : Nat) (x0 x1 x2 x3 : AV) (H : Heap) : evCall (cx ρ) (k + 1) lim 200 [x0, x1, x2, x3] H = L200 ρ (evCall (cx ρ) k) (evCY (cx ρ) k).2 lim k x0 x1 x2 x3 H := by
  rw [evCall_body (cx ρ) k lim 200 _ H Tryz.f200 c200 [] (by kernel_rfl) (by kernel_rfl) (by kernel_rfl) (by kernel_rfl) (by kernel_rfl)]
  exact G200 ρ (evCall (cx ρ) k) (evCY (cx ρ) k).2 lim k x0 x1 x2 x3 H
-- math/bits.Len
noncomputable def c201 : Code := Code.of Tryz.prog 201
noncomputable def L201 (ρ : Addr → Option Value) (call : CallF) (yc : YieldF) (lim k : Nat) (x0 : AV) (H : Heap) : Res :=
  condK (.bool false)
  (
    purK (cvI .u32 x0) fun x4 =>
    resK (call lim 257 [x4] H) fun x5 H =>
    retK [x5] H)
  (
    resK (call lim 258 [x0] H) fun x7 H =>
    retK [x7] H)
theorem G201 (ρ : Addr → Option Value) (call : CallF) (yc : YieldF) (lim k : Nat) (x0 : AV) (H : Heap) :
    evL (cx ρ) call yc false 201 lim k c201 [x0, (.tup []), (.tup []), (.tup []), (.tup []), (.tup []), (.tup []), (.tup [])] H (kk none (fun s H => retK (([2] : List Nat).map fun t => s.getD t (.tup [])) H) [] retK [2]) = L201 ρ call yc lim k x0 H := by
  kernel_rfl
theorem E201 (ρ : Addr → Option Value) (k lim : Nat) (x0 : AV) (H : Heap) : evCall (cx ρ) (k + 1) lim 201 [x0] H = L201 ρ (evCall (cx ρ) k) (evCY (cx ρ) k).2 lim k x0 H := by
  rw [evCall_body (cx ρ) k lim 201 _ H Tryz.f201 c201 [2] (by kernel_rfl) (by kernel_rfl) (by kernel_rfl) (by kernel_rfl) (by kernel_rfl)]
  exact G201 ρ (evCall (cx ρ) k) (evCY (cx ρ) k).2 lim k x0 H
-- (*haycroft/cell.Row).may
noncomputable def c208 : Code := Code.of Tryz.prog 208
noncomputable def L208 (ρ : Addr → Option Value) (call : CallF) (yc : YieldF) (lim k : Nat) (x0 x1 : AV) (H : Heap) : Res :=
  purK (binA Tryz.prog H .eql 135 x0 .nilp) fun x7 =>
  condK x7
  (
    retK [(.int .i64 2)] H)
  (
    resK (call lim 134 [x0, x1] H) fun x11 H =>
    purK (unA .not x11) fun x12 =>
    condK x12
    (
      retK [(.int .i64 1)] H)
    (
      retK [(.int .i64 0)] H))
theorem G208 (ρ : Addr → Option Value) (call : CallF) (yc : YieldF) (lim k : Nat) (x0 x1 : AV) (H : Heap) :
    evL (cx ρ) call yc false 208 lim k c208 [x0, x1, (.tup []), (.tup []), (.tup []), (.tup []), (.tup []), (.tup []), (.tup []), (.tup []), (.tup []), (.tup []), (.tup [])] H (kk none (fun s H => retK (([4] : List Nat).map fun t => s.getD t (.tup [])) H) [] retK [4]) = L208 ρ call yc lim k x0 x1 H := by
  kernel_rfl
theorem E208 (ρ : Addr → Option Value) (k lim : Nat) (x0 x1 : AV) (H : Heap) : evCall (cx ρ) (k + 1) lim 208 [x0, x1] H = L208 ρ (evCall (cx ρ) k) (evCY (cx ρ) k).2 lim k x0 x1 H := by
  rw [evCall_body (cx ρ) k lim 208 _ H Tryz.f208 c208 [4] (by kernel_rfl) (by kernel_rfl) (by kernel_rfl) (by kernel_rfl) (by kernel_rfl)]
  exact G208 ρ (evCall (cx ρ) k) (evCY (cx ρ) k).2 lim k x0 x1 H
-- (*sync/atomic.Uint64).Store
noncomputable def c209 : Code := Code.of Tryz.prog 209
noncomputable def L209 (ρ : Addr → Option Value) (call : CallF) (yc : YieldF) (lim k : Nat) (x0 x1 : AV) (H : Heap) : Res :=
  purK (nilChkA x0) fun x5 =>
  purK (addA 0 x5) fun x6 =>
  resK (call lim 271 [x6, x1] H) fun x8 H =>
  retK [] H
theorem G209 (ρ : Addr → Option Value) (call : CallF) (yc : YieldF) (lim k : Nat) (x0 x1 : AV) (H : Heap) :
    evL (cx ρ) call yc false 209 lim k c209 [x0, x1, (.tup []), (.tup []), (.tup []), (.tup []), (.tup []), (.tup []), (.tup [])] H (kk none (fun s H => retK (([] : List Nat).map fun t => s.getD t (.tup [])) H) [] retK []) = L209 ρ call yc lim k x0 x1 H := by
  kernel_rfl
theorem E209 (ρ : Addr → Option Value) (k lim : Nat) (x0 x1 : AV) (H : Heap) : evCall (cx ρ) (k + 1) lim 209 [x0, x1] H = L209 ρ (evCall (cx ρ) k) (evCY (cx ρ) k).2 lim k x0 x1 H := by
  rw [evCall_body (cx ρ) k lim 209 _ H Tryz.f209 c209 [] (by kernel_rfl) (by kernel_rfl) (by kernel_rfl) (by kernel_rfl) (by kernel_rfl)]
  exact G209 ρ (evCall (cx ρ) k) (evCY (cx ρ) k).2 lim k x0 x1 H
-- (*haycroft/cell.Row).Fill
noncomputable def c236 : Code := Code.of Tryz.prog 236
noncomputable def N236_1 (ρ : Addr → Option Value) (call : CallF) (yc : YieldF) (lim k : Nat) (H : Heap) (R : List AV → Heap → Res) : Res :=
  R [(.int .i64 0)] H
theorem N236_1_eq (ρ : Addr → Option Value) (call : CallF) (yc : YieldF) (lim k : Nat) (H : Heap) (R : List AV → Heap → Res) :
    evL (cx ρ) call yc false 236 lim k (Code.at [1, 1, 1] c236) (sp 36 []) H (kk none (fun s H => R (([6] : List Nat).map fun t => s.getD t (.tup [])) H) [] R [6]) = N236_1 ρ call yc lim k H R := by
  kernel_rfl
noncomputable def N236_3b (ρ : Addr → Option Value) (call : CallF) (yc : YieldF) (lim k : Nat) (x0 x1 x18 x19 x20 : AV) (H : Heap) (kn : AV → AV → AV → AV → AV → Heap → Res) (k0 : Heap → Res) : Res :=
  purK (binA Tryz.prog H .lss 3 x20 x19) fun x21_1 =>
  condK x21_1
  (
    purK (ixS 1 x18 x20) fun x23_1 =>
    purK (ld1 ρ H x23_1) fun x24_1 =>
    purK (nilChkA x0) fun x26_1 =>
    purK (addA 0 x26_1) fun x27_1 =>
    purK (ld1 ρ H x27_1) fun x28_1 =>
    purK (binA Tryz.prog H .add 3 x1 x20) fun x31_1 =>
    purK (ixS 1 x28_1 x31_1) fun x32_1 =>
    resK (call lim 209 [x32_1, x24_1] H) fun x34_1 H =>
    purK (binA Tryz.prog H .add 3 x20 (.int .i64 1)) fun x35_1 =>
    kn x0 x1 x18 x19 x35_1 H)
  (
    k0 H)
theorem N236_3b_eq (ρ : Addr → Option Value) (call : CallF) (yc : YieldF) (lim k : Nat) (x0 x1 x18 x19 x20 : AV) (H : Heap) (kn : KS) (k0 : KS) (R : List AV → Heap → Res) :
    evL (cx ρ) call yc false 236 lim k (Code.at [1, 1, 0, 1, 0, 0] c236) (sp 36 [(0, x0), (1, x1), (18, x18), (19, x19), (20, x20)]) H (kk (some [0, 1, 18, 19, 20]) kn [(0, (some []), k0)] R [6]) = N236_3b ρ call yc lim k x0 x1 x18 x19 x20 H (fun x0 x1 x18 x19 x20 H => kn (sp 36 [(0, x0), (1, x1), (18, x18), (19, x19), (20, x20)]) H) (fun H => k0 (sp 36 []) H) := by
  kernel_rfl
noncomputable def N236_3 (ρ : Addr → Option Value) (call : CallF) (yc : YieldF) (lim k : Nat) (x0 x1 x18 x19 x20 : AV) (H : Heap) (k0 : Heap → Res) : Res :=
  loopL (fun (x : AV) H kn => N236_3b ρ call yc lim k x0 x1 x18 x19 x H (fun _ _ _ _ x20 H => kn x20 H) k0) k x20 H
theorem N236_3_eq (ρ : Addr → Option Value) (call : CallF) (yc : YieldF) (lim k : Nat) (x0 x1 x18 x19 x20 : AV) (H : Heap) (kn : KS) (k0 : KS) (R : List AV → Heap → Res) :
    evL (cx ρ) call yc false 236 lim k (Code.at [1, 1, 0, 1, 0] c236) (sp 36 [(0, x0), (1, x1), (18, x18), (19, x19), (20, x20)]) H (kk (some []) kn [(0, (some []), k0)] R [6]) = N236_3 ρ call yc lim k x0 x1 x18 x19 x20 H (fun H => k0 (sp 36 []) H) := by
  have e : Code.at [1, 1, 0, 1, 0] c236 = .loop (Code.at [1, 1, 0, 1, 0, 0] c236) := by kernel_rfl
  rw [e]
  unfold N236_3
  exact loop_node [0, 1, 18, 19, 20] (fun x : AV => (sp 36 [(0, x0), (1, x1), (18, x18), (19, x19), (20, (x))])) (fun (x : AV) H kn => N236_3b ρ call yc lim k x0 x1 x18 x19 x H (fun _ _ _ _ x20 H => kn x20 H) (fun H => k0 (sp 36 []) H)) (by kernel_rfl) (fun x => by kernel_rfl) (fun x H kn => N236_3b_eq ρ call yc lim k x0 x1 x18 x19 (x) H kn k0 R) x20 (sp 36 [(0, x0), (1, x1), (18, x18), (19, x19), (20, x20)]) H (by kernel_rfl)
noncomputable def N236_2 (ρ : Addr → Option Value) (call : CallF) (yc : YieldF) (lim k : Nat) (x0 x1 x18 x19 x20 : AV) (H : Heap) (kn : Heap → Res) : Res :=
  N236_3 ρ call yc lim k x0 x1 x18 x19 x20 H kn
theorem N236_2_x (ρ : Addr → Option Value) (call : CallF) (yc : YieldF) (lim k : Nat) (J : CodeF) (x0 x1 x18 x19 x20 : AV) (H : Heap) (kn : KS) (R : List AV → Heap → Res) :
    evX (cx ρ) call yc false 236 lim k J (Code.at [1, 1, 0, 1] c236) (sp 36 [(0, x0), (1, x1), (18, x18), (19, x19), (20, x20)]) H (kk (some []) kn [] R [6]) =
  J (Code.at [1, 1, 0, 1, 0] c236) (sp 36 [(0, x0), (1, x1), (18, x18), (19, x19), (20, x20)]) H (kk (some []) kn [(0, (some []), kn)] R [6]) := by
  kernel_rfl
theorem N236_2_eq (ρ : Addr → Option Value) (call : CallF) (yc : YieldF) (lim k : Nat) (x0 x1 x18 x19 x20 : AV) (H : Heap) (kn : KS) (R : List AV → Heap → Res) :
    evL (cx ρ) call yc false 236 lim k (Code.at [1, 1, 0, 1] c236) (sp 36 [(0, x0), (1, x1), (18, x18), (19, x19), (20, x20)]) H (kk (some []) kn [] R [6]) = N236_2 ρ call yc lim k x0 x1 x18 x19 x20 H (fun H => kn (sp 36 []) H) := by
  rw [evL_X, N236_2_x]
  simp only [← evL_X, N236_2, N236_3_eq]
noncomputable def L236 (ρ : Addr → Option Value) (call : CallF) (yc : YieldF) (lim k : Nat) (x0 x1 x2 : AV) (H : Heap) : Res :=
  purK (lenS x2) fun x13 =>
  resK (call lim 160 [x0, x1, x13] H) fun x14 H =>
  purK (binA Tryz.prog H .neq 32 x14 (.int .i64 0)) fun x16 =>
  condK x16
  (
    retK [x14] H)
  (
    purK (lenS x2) fun x19 =>
    N236_2 ρ call yc lim k x0 x1 x2 x19 (.int .i64 0) H (fun H =>
      N236_1 ρ call yc lim k H retK))
theorem L236_x (ρ : Addr → Option Value) (call : CallF) (yc : YieldF) (lim k : Nat) (J : CodeF) (x0 x1 x2 : AV) (H : Heap) :
    evX (cx ρ) call yc false 236 lim k J c236 [x0, x1, x2, (.tup []), (.tup []), (.tup []), (.tup []), (.tup []), (.tup []), (.tup []), (.tup []), (.tup []), (.tup []), (.tup []), (.tup []), (.tup []), (.tup []), (.tup []), (.tup []), (.tup []), (.tup []), (.tup []), (.tup []), (.tup []), (.tup []), (.tup []), (.tup []), (.tup []), (.tup []), (.tup []), (.tup []), (.tup []), (.tup []), (.tup []), (.tup []), (.tup [])] H (kk none (fun s H => retK (([6] : List Nat).map fun t => s.getD t (.tup [])) H) [] retK [6]) =
  purK (lenS x2) fun x13 =>
  resK (call lim 160 [x0, x1, x13] H) fun x14 H =>
  purK (binA Tryz.prog H .neq 32 x14 (.int .i64 0)) fun x16 =>
  condK x16
  (
    retK [x14] H)
  (
    purK (lenS x2) fun x19 =>
    J (Code.at [1, 1, 0, 1] c236) (sp 36 [(0, x0), (1, x1), (18, x2), (19, x19), (20, (.int .i64 0))]) H (kk (some []) (fun s H => J (Code.at [1, 1, 1] c236) s H (kk none (fun s H => retK (([6] : List Nat).map fun t => s.getD t (.tup [])) H) [] retK [6])) [] retK [6])) := by
  kernel_rfl
theorem G236 (ρ : Addr → Option Value) (call : CallF) (yc : YieldF) (lim k : Nat) (x0 x1 x2 : AV) (H : Heap) :
    evL (cx ρ) call yc false 236 lim k c236 [x0, x1, x2, (.tup []), (.tup []), (.tup []), (.tup []), (.tup []), (.tup []), (.tup []), (.tup []), (.tup []), (.tup []), (.tup []), (.tup []), (.tup []), (.tup []), (.tup []), (.tup []), (.tup []), (.tup []), (.tup []), (.tup []), (.tup []), (.tup []), (.tup []), (.tup []), (.tup []), (.tup []), (.tup []), (.tup []), (.tup []), (.tup []), (.tup []), (.tup []), (.tup [])] H (kk none (fun s H => retK (([6] : List Nat).map fun t => s.getD t (.tup [])) H) [] retK [6]) = L236 ρ call yc lim k x0 x1 x2 H := by
  rw [evL_X, L236_x]
  simp only [← evL_X, L236, N236_1_eq, N236_2_eq]
theorem E236 (ρ : Addr → Option Value) (k lim : Nat) (x0 x1 x2 : AV) (H : Heap) : evCall (cx ρ) (k + 1) lim 236 [x0, x1, x2] H = L236 ρ (evCall (cx ρ) k) (evCY (cx ρ) k).2 lim k x0 x1 x2 H := by
  rw [evCall_body (cx ρ) k lim 236 _ H Tryz.f236 c236 [6] (by kernel_rfl) (by kernel_rfl) (by kernel_rfl) (by kernel_rfl) (by kernel_rfl)]
  exact G236 ρ (evCall (cx ρ) k) (evCY (cx ρ) k).2 lim k x0 x1 x2 H
-- slices.insertionSortCmpFunc[haycroft/api.Commit]
noncomputable def c240 : Code := Code.of Tryz.prog 240
noncomputable def N240_3 (ρ : Addr → Option Value) (call : CallF) (yc : YieldF) (lim k : Nat) (x0 x1 x2 x3 x8 : AV) (H : Heap) (kn : AV → AV → AV → AV → AV → Heap → Res) : Res :=
  purK (binA Tryz.prog H .add 3 x8 (.int .i64 1)) fun x16_1 =>
  kn x0 x1 x2 x3 x16_1 H
theorem N240_3_eq (ρ : Addr → Option Value) (call : CallF) (yc : YieldF) (lim k : Nat) (x0 x1 x2 x3 x8 : AV) (H : Heap) (kn : KS) (R : List AV → Heap → Res) :
    evL (cx ρ) call yc false 240 lim k (Code.at [1, 0, 0, 1, 1] c240) (sp 53 [(0, x0), (1, x1), (2, x2), (3, x3), (8, x8)]) H (kk (some [0, 1, 2, 3, 8]) kn [(0, none, (fun s H => R (([] : List Nat).map fun t => s.getD t (.tup [])) H))] R []) = N240_3 ρ call yc lim k x0 x1 x2 x3 x8 H (fun x0 x1 x2 x3 x8 H => kn (sp 53 [(0, x0), (1, x1), (2, x2), (3, x3), (8, x8)]) H) := by
  kernel_rfl
noncomputable def N240_5b (ρ : Addr → Option Value) (call : CallF) (yc : YieldF) (lim k : Nat) (x0 x1 x2 x3 x8 x9 : AV) (H : Heap) (kn : AV → AV → AV → AV → AV → AV → Heap → Res) (k2 : AV → AV → AV → AV → AV → Heap → Res) : Res :=
  purK (binA Tryz.prog H .gtr 3 x9 x1) fun x20_1 =>
  boolK (wantV x20_1 true) fun b1 => purK (bif b1 then some x3 else some (.tup [])) fun x22_1 =>
  boolK (wantV x20_1 true) fun b2 => purK (bif b2 then some x0 else some (.tup [])) fun x23_1 =>
  boolK (wantV x20_1 true) fun b3 => purK (bif b3 then some x9 else some (.tup [])) fun x24_1 =>
  boolK (wantV x20_1 true) fun b4 => purK (bif b4 then ixS 3 x23_1 x24_1 else some (.tup [])) fun x25_1 =>
  boolK (wantV x20_1 true) fun b5 => purK (bif b5 then ldN ρ H 3 x25_1 else some (.tup [])) fun x26_1 =>
  boolK (wantV x20_1 true) fun b6 => purK (bif b6 then some x0 else some (.tup [])) fun x27_1 =>
  boolK (wantV x20_1 true) fun b7 => purK (bif b7 then some x9 else some (.tup [])) fun x28_1 =>
  boolK (wantV x20_1 true) fun b8 => purK (bif b8 then binA Tryz.prog H .sub 3 x28_1 (.int .i64 1) else some (.tup [])) fun x29_1 =>
  boolK (wantV x20_1 true) fun b9 => purK (bif b9 then ixS 3 x27_1 x29_1 else some (.tup [])) fun x30_1 =>
  boolK (wantV x20_1 true) fun b10 => purK (bif b10 then ldN ρ H 3 x30_1 else some (.tup [])) fun x31_1 =>
  boolK (wantV x20_1 true) fun b11 => resK (gRes (some b11) H (valR call noY lim x22_1 [x26_1, x31_1] H)) fun x32_1 H => bif !b11 || ((!b10 || true) && ((!b8 || true) && ((!b5 || true) && true))) then
    purK (gPur (wantV x20_1 true) (binA Tryz.prog H .lss 3 x32_1 (.int .i64 0))) fun x33_1 =>
    purK (pickA x20_1 x33_1 (.bool false)) fun x34_1 =>
    condK x34_1
    (
      purK (binA Tryz.prog H .sub 3 x9 (.int .i64 1)) fun x41_1 =>
      purK (binA Tryz.prog H .sub 3 x9 (.int .i64 1)) fun x44_1 =>
      purK (ixS 3 x0 x44_1) fun x45_1 =>
      purK (ldN ρ H 3 x45_1) fun x46_1 =>
      purK (ixS 3 x0 x9) fun x49_1 =>
      purK (ldN ρ H 3 x49_1) fun x50_1 =>
      purK (ixS 3 x0 x9) fun x51_1 =>
      effK H (stA lim H 3 x51_1 x46_1) fun _ H => bif (agn (binA Tryz.prog H .sub 3 x9 (.int .i64 1)) x41_1 && true) then
        purK (ixS 3 x0 x41_1) fun x52_1 =>
        effK H (stA lim H 3 x52_1 x50_1) fun _ H =>
        purK (binA Tryz.prog H .sub 3 x9 (.int .i64 1)) fun x36_1 =>
        kn x0 x1 x2 x3 x8 x36_1 H
      else none)
    (
      k2 x0 x1 x2 x3 x8 H)
  else none
theorem N240_5b_eq (ρ : Addr → Option Value) (call : CallF) (yc : YieldF) (lim k : Nat) (x0 x1 x2 x3 x8 x9 : AV) (H : Heap) (kn : KS) (k2 : KS) (k1 : KS) (R : List AV → Heap → Res) :
    evL (cx ρ) call yc false 240 lim k (Code.at [1, 0, 0, 1, 0, 0, 1, 0, 0] c240) (sp 53 [(0, x0), (1, x1), (2, x2), (3, x3), (8, x8), (9, x9)]) H (kk (some [0, 1, 2, 3, 8, 9]) kn [(2, (some [0, 1, 2, 3, 8]), k2), (1, (some [0, 1, 2, 3, 8]), k1), (0, none, (fun s H => R (([] : List Nat).map fun t => s.getD t (.tup [])) H))] R []) = N240_5b ρ call yc lim k x0 x1 x2 x3 x8 x9 H (fun x0 x1 x2 x3 x8 x9 H => kn (sp 53 [(0, x0), (1, x1), (2, x2), (3, x3), (8, x8), (9, x9)]) H) (fun x0 x1 x2 x3 x8 H => k2 (sp 53 [(0, x0), (1, x1), (2, x2), (3, x3), (8, x8)]) H) := by
  kernel_rfl
noncomputable def N240_5 (ρ : Addr → Option Value) (call : CallF) (yc : YieldF) (lim k : Nat) (x0 x1 x2 x3 x8 x9 : AV) (H : Heap) (k2 : AV → AV → AV → AV → AV → Heap → Res) : Res :=
  loopL (fun (x : AV) H kn => N240_5b ρ call yc lim k x0 x1 x2 x3 x8 x H (fun _ _ _ _ _ x9 H => kn x9 H) k2) k x9 H
theorem N240_5_eq (ρ : Addr → Option Value) (call : CallF) (yc : YieldF) (lim k : Nat) (x0 x1 x2 x3 x8 x9 : AV) (H : Heap) (kn : KS) (k2 : KS) (k1 : KS) (R : List AV → Heap → Res) :
    evL (cx ρ) call yc false 240 lim k (Code.at [1, 0, 0, 1, 0, 0, 1, 0] c240) (sp 53 [(0, x0), (1, x1), (2, x2), (3, x3), (8, x8), (9, x9)]) H (kk (some [0, 1, 2, 3, 8]) kn [(2, (some [0, 1, 2, 3, 8]), k2), (1, (some [0, 1, 2, 3, 8]), k1), (0, none, (fun s H => R (([] : List Nat).map fun t => s.getD t (.tup [])) H))] R []) = N240_5 ρ call yc lim k x0 x1 x2 x3 x8 x9 H (fun x0 x1 x2 x3 x8 H => k2 (sp 53 [(0, x0), (1, x1), (2, x2), (3, x3), (8, x8)]) H) := by
  have e : Code.at [1, 0, 0, 1, 0, 0, 1, 0] c240 = .loop (Code.at [1, 0, 0, 1, 0, 0, 1, 0, 0] c240) := by kernel_rfl
  rw [e]
  unfold N240_5
  exact loop_node [0, 1, 2, 3, 8, 9] (fun x : AV => (sp 53 [(0, x0), (1, x1), (2, x2), (3, x3), (8, x8), (9, (x))])) (fun (x : AV) H kn => N240_5b ρ call yc lim k x0 x1 x2 x3 x8 x H (fun _ _ _ _ _ x9 H => kn x9 H) (fun x0 x1 x2 x3 x8 H => k2 (sp 53 [(0, x0), (1, x1), (2, x2), (3, x3), (8, x8)]) H)) (by kernel_rfl) (fun x => by kernel_rfl) (fun x H kn => N240_5b_eq ρ call yc lim k x0 x1 x2 x3 x8 (x) H kn k2 k1 R) x9 (sp 53 [(0, x0), (1, x1), (2, x2), (3, x3), (8, x8), (9, x9)]) H (by kernel_rfl)
noncomputable def N240_4 (ρ : Addr → Option Value) (call : CallF) (yc : YieldF) (lim k : Nat) (x0 x1 x2 x3 x8 x9 : AV) (H : Heap) (kn : AV → AV → AV → AV → AV → Heap → Res) : Res :=
  N240_5 ρ call yc lim k x0 x1 x2 x3 x8 x9 H kn
theorem N240_4_x (ρ : Addr → Option Value) (call : CallF) (yc : YieldF) (lim k : Nat) (J : CodeF) (x0 x1 x2 x3 x8 x9 : AV) (H : Heap) (kn : KS) (k1 : KS) (R : List AV → Heap → Res) :
    evX (cx ρ) call yc false 240 lim k J (Code.at [1, 0, 0, 1, 0, 0, 1] c240) (sp 53 [(0, x0), (1, x1), (2, x2), (3, x3), (8, x8), (9, x9)]) H (kk (some [0, 1, 2, 3, 8]) kn [(1, (some [0, 1, 2, 3, 8]), k1), (0, none, (fun s H => R (([] : List Nat).map fun t => s.getD t (.tup [])) H))] R []) =
  J (Code.at [1, 0, 0, 1, 0, 0, 1, 0] c240) (sp 53 [(0, x0), (1, x1), (2, x2), (3, x3), (8, x8), (9, x9)]) H (kk (some [0, 1, 2, 3, 8]) kn [(2, (some [0, 1, 2, 3, 8]), kn), (1, (some [0, 1, 2, 3, 8]), k1), (0, none, (fun s H => R (([] : List Nat).map fun t => s.getD t (.tup [])) H))] R []) := by
  kernel_rfl
theorem N240_4_eq (ρ : Addr → Option Value) (call : CallF) (yc : YieldF) (lim k : Nat) (x0 x1 x2 x3 x8 x9 : AV) (H : Heap) (kn : KS) (k1 : KS) (R : List AV → Heap → Res) :
    evL (cx ρ) call yc false 240 lim k (Code.at [1, 0, 0, 1, 0, 0, 1] c240) (sp 53 [(0, x0), (1, x1), (2, x2), (3, x3), (8, x8), (9, x9)]) H (kk (some [0, 1, 2, 3, 8]) kn [(1, (some [0, 1, 2, 3, 8]), k1), (0, none, (fun s H => R (([] : List Nat).map fun t => s.getD t (.tup [])) H))] R []) = N240_4 ρ call yc lim k x0 x1 x2 x3 x8 x9 H (fun x0 x1 x2 x3 x8 H => kn (sp 53 [(0, x0), (1, x1), (2, x2), (3, x3), (8, x8)]) H) := by
  rw [evL_X, N240_4_x]
  simp only [← evL_X, N240_4, N240_5_eq]
noncomputable def N240_2b (ρ : Addr → Option Value) (call : CallF) (yc : YieldF) (lim k : Nat) (x0 x1 x2 x3 x8 : AV) (H : Heap) (kn : AV → AV → AV → AV → AV → Heap → Res) (R : List AV → Heap → Res) : Res :=
  purK (binA Tryz.prog H .lss 3 x8 x2) fun x14_1 =>
  condK x14_1
  (
    N240_4 ρ call yc lim k x0 x1 x2 x3 x8 x8 H (fun x0_1 x1_1 x2_1 x3_1 x8_1 H =>
      N240_3 ρ call yc lim k x0_1 x1_1 x2_1 x3_1 x8_1 H kn))
  (
    R [] H)
theorem N240_2b_x (ρ : Addr → Option Value) (call : CallF) (yc : YieldF) (lim k : Nat) (J : CodeF) (x0 x1 x2 x3 x8 : AV) (H : Heap) (kn : KS) (R : List AV → Heap → Res) :
    evX (cx ρ) call yc false 240 lim k J (Code.at [1, 0, 0] c240) (sp 53 [(0, x0), (1, x1), (2, x2), (3, x3), (8, x8)]) H (kk (some [0, 1, 2, 3, 8]) kn [(0, none, (fun s H => R (([] : List Nat).map fun t => s.getD t (.tup [])) H))] R []) =
  purK (binA Tryz.prog H .lss 3 x8 x2) fun x14_1 =>
  condK x14_1
  (
    J (Code.at [1, 0, 0, 1, 0, 0, 1] c240) (sp 53 [(0, x0), (1, x1), (2, x2), (3, x3), (8, x8), (9, x8)]) H (kk (some [0, 1, 2, 3, 8]) (fun s H => J (Code.at [1, 0, 0, 1, 1] c240) s H (kk (some [0, 1, 2, 3, 8]) kn [(0, none, (fun s H => R (([] : List Nat).map fun t => s.getD t (.tup [])) H))] R [])) [(1, (some [0, 1, 2, 3, 8]), (fun s H => J (Code.at [1, 0, 0, 1, 1] c240) s H (kk (some [0, 1, 2, 3, 8]) kn [(0, none, (fun s H => R (([] : List Nat).map fun t => s.getD t (.tup [])) H))] R []))), (0, none, (fun s H => R (([] : List Nat).map fun t => s.getD t (.tup [])) H))] R []))
  (
    R [] H) := by
  kernel_rfl
theorem N240_2b_eq (ρ : Addr → Option Value) (call : CallF) (yc : YieldF) (lim k : Nat) (x0 x1 x2 x3 x8 : AV) (H : Heap) (kn : KS) (R : List AV → Heap → Res) :
    evL (cx ρ) call yc false 240 lim k (Code.at [1, 0, 0] c240) (sp 53 [(0, x0), (1, x1), (2, x2), (3, x3), (8, x8)]) H (kk (some [0, 1, 2, 3, 8]) kn [(0, none, (fun s H => R (([] : List Nat).map fun t => s.getD t (.tup [])) H))] R []) = N240_2b ρ call yc lim k x0 x1 x2 x3 x8 H (fun x0 x1 x2 x3 x8 H => kn (sp 53 [(0, x0), (1, x1), (2, x2), (3, x3), (8, x8)]) H) R := by
  rw [evL_X, N240_2b_x]
  simp only [← evL_X, N240_2b, N240_3_eq, N240_4_eq]
noncomputable def N240_2 (ρ : Addr → Option Value) (call : CallF) (yc : YieldF) (lim k : Nat) (x0 x1 x2 x3 x8 : AV) (H : Heap) (R : List AV → Heap → Res) : Res :=
  loopL (fun (x : AV) H kn => N240_2b ρ call yc lim k x0 x1 x2 x3 x H (fun _ _ _ _ x8 H => kn x8 H) R) k x8 H
theorem N240_2_eq (ρ : Addr → Option Value) (call : CallF) (yc : YieldF) (lim k : Nat) (x0 x1 x2 x3 x8 : AV) (H : Heap) (R : List AV → Heap → Res) :
    evL (cx ρ) call yc false 240 lim k (Code.at [1, 0] c240) (sp 53 [(0, x0), (1, x1), (2, x2), (3, x3), (8, x8)]) H (kk none (fun s H => R (([] : List Nat).map fun t => s.getD t (.tup [])) H) [(0, none, (fun s H => R (([] : List Nat).map fun t => s.getD t (.tup [])) H))] R []) = N240_2 ρ call yc lim k x0 x1 x2 x3 x8 H R := by
  have e : Code.at [1, 0] c240 = .loop (Code.at [1, 0, 0] c240) := by kernel_rfl
  rw [e]
  unfold N240_2
  exact loop_node [0, 1, 2, 3, 8] (fun x : AV => (sp 53 [(0, x0), (1, x1), (2, x2), (3, x3), (8, (x))])) (fun (x : AV) H kn => N240_2b ρ call yc lim k x0 x1 x2 x3 x H (fun _ _ _ _ x8 H => kn x8 H) R) (by kernel_rfl) (fun x => by kernel_rfl) (fun x H kn => N240_2b_eq ρ call yc lim k x0 x1 x2 x3 (x) H kn R) x8 (sp 53 [(0, x0), (1, x1), (2, x2), (3, x3), (8, x8)]) H (by kernel_rfl)
noncomputable def N240_1 (ρ : Addr → Option Value) (call : CallF) (yc : YieldF) (lim k : Nat) (x0 x1 x2 x3 x8 : AV) (H : Heap) (R : List AV → Heap → Res) : Res :=
  N240_2 ρ call yc lim k x0 x1 x2 x3 x8 H R
theorem N240_1_x (ρ : Addr → Option Value) (call : CallF) (yc : YieldF) (lim k : Nat) (J : CodeF) (x0 x1 x2 x3 x8 : AV) (H : Heap) (R : List AV → Heap → Res) :
    evX (cx ρ) call yc false 240 lim k J (Code.at [1] c240) (sp 53 [(0, x0), (1, x1), (2, x2), (3, x3), (8, x8)]) H (kk none (fun s H => R (([] : List Nat).map fun t => s.getD t (.tup [])) H) [] R []) =
  J (Code.at [1, 0] c240) (sp 53 [(0, x0), (1, x1), (2, x2), (3, x3), (8, x8)]) H (kk none (fun s H => R (([] : List Nat).map fun t => s.getD t (.tup [])) H) [(0, none, (fun s H => R (([] : List Nat).map fun t => s.getD t (.tup [])) H))] R []) := by
  kernel_rfl
theorem N240_1_eq (ρ : Addr → Option Value) (call : CallF) (yc : YieldF) (lim k : Nat) (x0 x1 x2 x3 x8 : AV) (H : Heap) (R : List AV → Heap → Res) :
    evL (cx ρ) call yc false 240 lim k (Code.at [1] c240) (sp 53 [(0, x0), (1, x1), (2, x2), (3, x3), (8, x8)]) H (kk none (fun s H => R (([] : List Nat).map fun t => s.getD t (.tup [])) H) [] R []) = N240_1 ρ call yc lim k x0 x1 x2 x3 x8 H R := by
  rw [evL_X, N240_1_x]
  simp only [← evL_X, N240_1, N240_2_eq]
noncomputable def L240 (ρ : Addr → Option Value) (call : CallF) (yc : YieldF) (lim k : Nat) (x0 x1 x2 x3 : AV) (H : Heap) : Res :=
  purK (binA Tryz.prog H .add 3 x1 (.int .i64 1)) fun x11 =>
  N240_1 ρ call yc lim k x0 x1 x2 x3 x11 H retK
theorem L240_x (ρ : Addr → Option Value) (call : CallF) (yc : YieldF) (lim k : Nat) (J : CodeF) (x0 x1 x2 x3 : AV) (H : Heap) :
    evX (cx ρ) call yc false 240 lim k J c240 [x0, x1, x2, x3, (.tup []), (.tup []), (.tup []), (.tup []), (.tup []), (.tup []), (.tup []), (.tup []), (.tup []), (.tup []), (.tup []), (.tup []), (.tup []), (.tup []), (.tup []), (.tup []), (.tup []), (.tup []), (.tup []), (.tup []), (.tup []), (.tup []), (.tup []), (.tup []), (.tup []), (.tup []), (.tup []), (.tup []), (.tup []), (.tup []), (.tup []), (.tup []), (.tup []), (.tup []), (.tup []), (.tup []), (.tup []), (.tup []), (.tup []), (.tup []), (.tup []), (.tup []), (.tup []), (.tup []), (.tup []), (.tup []), (.tup []), (.tup []), (.tup [])] H (kk none (fun s H => retK (([] : List Nat).map fun t => s.getD t (.tup [])) H) [] retK []) =
  purK (binA Tryz.prog H .add 3 x1 (.int .i64 1)) fun x11 =>
  J (Code.at [1] c240) (sp 53 [(0, x0), (1, x1), (2, x2), (3, x3), (8, x11)]) H (kk none (fun s H => retK (([] : List Nat).map fun t => s.getD t (.tup [])) H) [] retK []) := by
  kernel_rfl
theorem G240 (ρ : Addr → Option Value) (call : CallF) (yc : YieldF) (lim k : Nat) (x0 x1 x2 x3 : AV) (H : Heap) :
    evL (cx ρ) call yc false 240 lim k c240 [x0, x1, x2, x3, (.tup []), (.tup []), (.tup []), (.tup []), (.tup []), (.tup []), (.tup []), (.tup []), (.tup []), (.tup []), (.tup []), (.tup []), (.tup []), (.tup []), (.tup []), (.tup []), (.tup []), (.tup []), (.tup []), (.tup []), (.tup []), (.tup []), (.tup []), (.tup []), (.tup []), (.tup []), (.tup []), (.tup []), (.tup []), (.tup []), (.tup []), (.tup []), (.tup []), (.tup []), (.tup []), (.tup []), (.tup []), (.tup []), (.tup []), (.tup []), (.tup []), (.tup []), (.tup []), (.tup []), (.tup []), (.tup []), (.tup []), (.tup []), (.tup [])] H (kk none (fun s H => retK (([] : List Nat).map fun t => s.getD t (.tup [])) H) [] retK []) = L240 ρ call yc lim k x0 x1 x2 x3 H := by
  rw [evL_X, L240_x]
  simp only [← evL_X, L240, N240_1_eq]
theorem E240 (ρ : Addr → Option Value) (k lim : Nat) (x0 x1 x2 x3 : AV) (H : Heap) : evCall (cx ρ) (k + 1) lim 240 [x0, x1, x2, x3] H = L240 ρ (evCall (cx ρ) k) (evCY (cx ρ) k).2 lim k x0 x1 x2 x3 H := by
  rw [evCall_body (cx ρ) k lim 240 _ H Tryz.f240 c240 [] (by kernel_rfl) (by kernel_rfl) (by kernel_rfl) (by kernel_rfl) (by kernel_rfl)]
  exact G240 ρ (evCall (cx ρ) k) (evCY (cx ρ) k).2 lim k x0 x1 x2 x3 H
-- (*haycroft/tail.Tail).Begin
noncomputable def c244 : Code := Code.of Tryz.prog 244
noncomputable def L244 (ρ : Addr → Option Value) (call : CallF) (yc : YieldF) (lim k : Nat) (x0 x1 : AV) (H : Heap) : Res :=
  purK (binA Tryz.prog H .eql 104 x0 .nilp) fun x7 =>
  condK x7
  (
    retK [(.int .i64 2)] H)
  (
    purK (binA Tryz.prog H .lss 3 x1 (.int .i64 0)) fun x10 =>
    purK (gPur (wantV x10 false) (some x1)) fun x12 =>
    purK (gPur (wantV x10 false) (some x0)) fun x13 =>
    purK (gPur (wantV x10 false) (nilChkA x13)) fun x14 =>
    purK (gPur (wantV x10 false) (addA 1 x14)) fun x15 =>
    purK (gPur (wantV x10 false) (ld1 ρ H x15)) fun x16 =>
    purK (gPur (wantV x10 false) (binA Tryz.prog H .geq 3 x12 x16)) fun x17 =>
    purK (pickA x10 (.bool true) x17) fun x18 =>
    condK x18
    (
      retK [(.int .i64 1)] H)
    (
      purK (nilChkA x0) fun x20 =>
      purK (addA 2 x20) fun x21 =>
      purK (ld1 ρ H x21) fun x22 =>
      resK (call lim 297 [x1] H) fun x25 H => bif (agn (ld1 ρ H x21) x22 && true) then
        resK (call lim 296 [x1, x25] H) fun x26 H => bif (agn (ld1 ρ H x21) x22 && true) then
          resK (call lim 136 [x22, (.int .i64 0), x26] H) fun x27 H =>
          retK [x27] H
        else none
      else none))
theorem G244 (ρ : Addr → Option Value) (call : CallF) (yc : YieldF) (lim k : Nat) (x0 x1 : AV) (H : Heap) :
    evL (cx ρ) call yc false 244 lim k c244 [x0, x1, (.tup []), (.tup []), (.tup []), (.tup []), (.tup []), (.tup []), (.tup []), (.tup []), (.tup []), (.tup []), (.tup []), (.tup []), (.tup []), (.tup []), (.tup []), (.tup []), (.tup []), (.tup []), (.tup []), (.tup []), (.tup []), (.tup []), (.tup []), (.tup []), (.tup []), (.tup [])] H (kk none (fun s H => retK (([4] : List Nat).map fun t => s.getD t (.tup [])) H) [] retK [4]) = L244 ρ call yc lim k x0 x1 H := by
  kernel_rfl
theorem E244 (ρ : Addr → Option Value) (k lim : Nat) (x0 x1 : AV) (H : Heap) : evCall (cx ρ) (k + 1) lim 244 [x0, x1] H = L244 ρ (evCall (cx ρ) k) (evCY (cx ρ) k).2 lim k x0 x1 H := by
  rw [evCall_body (cx ρ) k lim 244 _ H Tryz.f244 c244 [4] (by kernel_rfl) (by kernel_rfl) (by kernel_rfl) (by kernel_rfl) (by kernel_rfl)]
  exact G244 ρ (evCall (cx ρ) k) (evCY (cx ρ) k).2 lim k x0 x1 H
-- (*haycroft/cell.Row).CAS
noncomputable def c247 : Code := Code.of Tryz.prog 247
noncomputable def N247_1 (ρ : Addr → Option Value) (call : CallF) (yc : YieldF) (lim k : Nat) (x11 : AV) (H : Heap) (R : List AV → Heap → Res) : Res :=
  R [x11, (.int .i64 0)] H
theorem N247_1_eq (ρ : Addr → Option Value) (call : CallF) (yc : YieldF) (lim k : Nat) (x11 : AV) (H : Heap) (R : List AV → Heap → Res) :
    evL (cx ρ) call yc false 247 lim k (Code.at [1, 1, 1, 1] c247) (sp 37 [(11, x11)]) H (kk none (fun s H => R (([8, 9] : List Nat).map fun t => s.getD t (.tup [])) H) [] R [8, 9]) = N247_1 ρ call yc lim k x11 H R := by
  kernel_rfl
noncomputable def L247 (ρ : Addr → Option Value) (call : CallF) (yc : YieldF) (lim k : Nat) (x0 x1 x2 x3 : AV) (H : Heap) : Res :=
  resK (call lim 208 [x0, x1] H) fun x14 H =>
  purK (binA Tryz.prog H .neq 32 x14 (.int .i64 0)) fun x16 =>
  condK x16
  (
    retK [(.bool false), x14] H)
  (
    purK (nilChkA x0) fun x19 =>
    purK (addA 0 x19) fun x20 =>
    purK (ld1 ρ H x20) fun x21 =>
    purK (ixS 1 x21 x1) fun x23 =>
    resK (call lim 299 [x23, x2, x3] H) fun x26 H =>
    condK x26
    (
      purK (nilChkA x0) fun x29 =>
      purK (addA 1 x29) fun x30 =>
      resK (call lim 300 [x30, (.int .i64 1)] H) fun x31 H =>
      N247_1 ρ call yc lim k x26 H retK)
    (
      purK (nilChkA x0) fun x33 =>
      purK (addA 2 x33) fun x34 =>
      resK (call lim 300 [x34, (.int .i64 1)] H) fun x35 H =>
      N247_1 ρ call yc lim k x26 H retK))
theorem L247_x (ρ : Addr → Option Value) (call : CallF) (yc : YieldF) (lim k : Nat) (J : CodeF) (x0 x1 x2 x3 : AV) (H : Heap) :
    evX (cx ρ) call yc false 247 lim k J c247 [x0, x1, x2, x3, (.tup []), (.tup []), (.tup []), (.tup []), (.tup []), (.tup []), (.tup []), (.tup []), (.tup []), (.tup []), (.tup []), (.tup []), (.tup []), (.tup []), (.tup []), (.tup []), (.tup []), (.tup []), (.tup []), (.tup []), (.tup []), (.tup []), (.tup []), (.tup []), (.tup []), (.tup []), (.tup []), (.tup []), (.tup []), (.tup []), (.tup []), (.tup []), (.tup [])] H (kk none (fun s H => retK (([8, 9] : List Nat).map fun t => s.getD t (.tup [])) H) [] retK [8, 9]) =
  resK (call lim 208 [x0, x1] H) fun x14 H =>
  purK (binA Tryz.prog H .neq 32 x14 (.int .i64 0)) fun x16 =>
  condK x16
  (
    retK [(.bool false), x14] H)
  (
    purK (nilChkA x0) fun x19 =>
    purK (addA 0 x19) fun x20 =>
    purK (ld1 ρ H x20) fun x21 =>
    purK (ixS 1 x21 x1) fun x23 =>
    resK (call lim 299 [x23, x2, x3] H) fun x26 H =>
    condK x26
    (
      purK (nilChkA x0) fun x29 =>
      purK (addA 1 x29) fun x30 =>
      resK (call lim 300 [x30, (.int .i64 1)] H) fun x31 H =>
      J (Code.at [1, 1, 1, 1] c247) (sp 37 [(11, x26)]) H (kk none (fun s H => retK (([8, 9] : List Nat).map fun t => s.getD t (.tup [])) H) [] retK [8, 9]))
    (
      purK (nilChkA x0) fun x33 =>
      purK (addA 2 x33) fun x34 =>
      resK (call lim 300 [x34, (.int .i64 1)] H) fun x35 H =>
      J (Code.at [1, 1, 1, 1] c247) (sp 37 [(11, x26)]) H (kk none (fun s H => retK (([8, 9] : List Nat).map fun t => s.getD t (.tup [])) H) [] retK [8, 9]))) := by
  kernel_rfl
theorem G247 (ρ : Addr → Option Value) (call : CallF) (yc : YieldF) (lim k : Nat) (x0 x1 x2 x3 : AV) (H : Heap) :
    evL (cx ρ) call yc false 247 lim k c247 [x0, x1, x2, x3, (.tup []), (.tup []), (.tup []), (.tup []), (.tup []), (.tup []), (.tup []), (.tup []), (.tup []), (.tup []), (.tup []), (.tup []), (.tup []), (.tup []), (.tup []), (.tup []), (.tup []), (.tup []), (.tup []), (.tup []), (.tup []), (.tup []), (.tup []), (.tup []), (.tup []), (.tup []), (.tup []), (.tup []), (.tup []), (.tup []), (.tup []), (.tup []), (.tup [])] H (kk none (fun s H => retK (([8, 9] : List Nat).map fun t => s.getD t (.tup [])) H) [] retK [8, 9]) = L247 ρ call yc lim k x0 x1 x2 x3 H := by
  rw [evL_X, L247_x]
  simp only [← evL_X, L247, N247_1_eq]
theorem E247 (ρ : Addr → Option Value) (k lim : Nat) (x0 x1 x2 x3 : AV) (H : Heap) : evCall (cx ρ) (k + 1) lim 247 [x0, x1, x2, x3] H = L247 ρ (evCall (cx ρ) k) (evCY (cx ρ) k).2 lim k x0 x1 x2 x3 H := by
  rw [evCall_body (cx ρ) k lim 247 _ H Tryz.f247 c247 [8, 9] (by kernel_rfl) (by kernel_rfl) (by kernel_rfl) (by kernel_rfl) (by kernel_rfl)]
  exact G247 ρ (evCall (cx ρ) k) (evCY (cx ρ) k).2 lim k x0 x1 x2 x3 H
-- slices.insertionSortOrdered[int]
noncomputable def c248 : Code := Code.of Tryz.prog 248
noncomputable def N248_3 (ρ : Addr → Option Value) (call : CallF) (yc : YieldF) (lim k : Nat) (x0 x1 x2 x6 : AV) (H : Heap) (kn : AV → AV → AV → AV → Heap → Res) : Res :=
  purK (binA Tryz.prog H .add 3 x6 (.int .i64 1)) fun x14_1 =>
  kn x0 x1 x2 x14_1 H
theorem N248_3_eq (ρ : Addr → Option Value) (call : CallF) (yc : YieldF) (lim k : Nat) (x0 x1 x2 x6 : AV) (H : Heap) (kn : KS) (R : List AV → Heap → Res) :
    evL (cx ρ) call yc false 248 lim k (Code.at [1, 0, 0, 1, 1] c248) (sp 49 [(0, x0), (1, x1), (2, x2), (6, x6)]) H (kk (some [0, 1, 2, 6]) kn [(0, none, (fun s H => R (([] : List Nat).map fun t => s.getD t (.tup [])) H))] R []) = N248_3 ρ call yc lim k x0 x1 x2 x6 H (fun x0 x1 x2 x6 H => kn (sp 49 [(0, x0), (1, x1), (2, x2), (6, x6)]) H) := by
  kernel_rfl
noncomputable def N248_5b (ρ : Addr → Option Value) (call : CallF) (yc : YieldF) (lim k : Nat) (x0 x1 x2 x6 x7 : AV) (H : Heap) (kn : AV → AV → AV → AV → AV → Heap → Res) (k2 : AV → AV → AV → AV → Heap → Res) : Res :=
  purK (binA Tryz.prog H .gtr 3 x7 x1) fun x18_1 =>
  boolK (wantV x18_1 true) fun b1 => purK (bif b1 then some x0 else some (.tup [])) fun x20_1 =>
  boolK (wantV x18_1 true) fun b2 => purK (bif b2 then some x7 else some (.tup [])) fun x21_1 =>
  boolK (wantV x18_1 true) fun b3 => purK (bif b3 then ixS 1 x20_1 x21_1 else some (.tup [])) fun x22_1 =>
  boolK (wantV x18_1 true) fun b4 => purK (bif b4 then ld1 ρ H x22_1 else some (.tup [])) fun x23_1 =>
  boolK (wantV x18_1 true) fun b5 => purK (bif b5 then some x0 else some (.tup [])) fun x24_1 =>
  boolK (wantV x18_1 true) fun b6 => purK (bif b6 then some x7 else some (.tup [])) fun x25_1 =>
  boolK (wantV x18_1 true) fun b7 => purK (bif b7 then binA Tryz.prog H .sub 3 x25_1 (.int .i64 1) else some (.tup [])) fun x26_1 =>
  boolK (wantV x18_1 true) fun b8 => purK (bif b8 then ixS 1 x24_1 x26_1 else some (.tup [])) fun x27_1 =>
  boolK (wantV x18_1 true) fun b9 => purK (bif b9 then ld1 ρ H x27_1 else some (.tup [])) fun x28_1 =>
  boolK (wantV x18_1 true) fun b10 => resK (gRes (some b10) H (call lim 254 [x23_1, x28_1] H)) fun x29_1 H => bif !b10 || ((!b9 || true) && ((!b7 || true) && ((!b4 || true) && true))) then
    purK (pickA x18_1 x29_1 (.bool false)) fun x30_1 =>
    condK x30_1
    (
      purK (binA Tryz.prog H .sub 3 x7 (.int .i64 1)) fun x37_1 =>
      purK (binA Tryz.prog H .sub 3 x7 (.int .i64 1)) fun x40_1 =>
      purK (ixS 1 x0 x40_1) fun x41_1 =>
      purK (ld1 ρ H x41_1) fun x42_1 =>
      purK (ixS 1 x0 x7) fun x45_1 =>
      purK (ld1 ρ H x45_1) fun x46_1 =>
      purK (ixS 1 x0 x7) fun x47_1 =>
      effK H (stA lim H 1 x47_1 x42_1) fun _ H => bif (agn (binA Tryz.prog H .sub 3 x7 (.int .i64 1)) x37_1 && true) then
        purK (ixS 1 x0 x37_1) fun x48_1 =>
        effK H (stA lim H 1 x48_1 x46_1) fun _ H =>
        purK (binA Tryz.prog H .sub 3 x7 (.int .i64 1)) fun x32_1 =>
        kn x0 x1 x2 x6 x32_1 H
      else none)
    (
      k2 x0 x1 x2 x6 H)
  else none
theorem N248_5b_eq (ρ : Addr → Option Value) (call : CallF) (yc : YieldF) (lim k : Nat) (x0 x1 x2 x6 x7 : AV) (H : Heap) (kn : KS) (k2 : KS) (k1 : KS) (R : List AV → Heap → Res) :
    evL (cx ρ) call yc false 248 lim k (Code.at [1, 0, 0, 1, 0, 0, 1, 0, 0] c248) (sp 49 [(0, x0), (1, x1), (2, x2), (6, x6), (7, x7)]) H (kk (some [0, 1, 2, 6, 7]) kn [(2, (some [0, 1, 2, 6]), k2), (1, (some [0, 1, 2, 6]), k1), (0, none, (fun s H => R (([] : List Nat).map fun t => s.getD t (.tup [])) H))] R []) = N248_5b ρ call yc lim k x0 x1 x2 x6 x7 H (fun x0 x1 x2 x6 x7 H => kn (sp 49 [(0, x0), (1, x1), (2, x2), (6, x6), (7, x7)]) H) (fun x0 x1 x2 x6 H => k2 (sp 49 [(0, x0), (1, x1), (2, x2), (6, x6)]) H) := by
  kernel_rfl
noncomputable def N248_5 (ρ : Addr → Option Value) (call : CallF) (yc : YieldF) (lim k : Nat) (x0 x1 x2 x6 x7 : AV) (H : Heap) (k2 : AV → AV → AV → AV → Heap → Res) : Res :=
  loopL (fun (x : AV) H kn => N248_5b ρ call yc lim k x0 x1 x2 x6 x H (fun _ _ _ _ x7 H => kn x7 H) k2) k x7 H
theorem N248_5_eq (ρ : Addr → Option Value) (call : CallF) (yc : YieldF) (lim k : Nat) (x0 x1 x2 x6 x7 : AV) (H : Heap) (kn : KS) (k2 : KS) (k1 : KS) (R : List AV → Heap → Res) :
    evL (cx ρ) call yc false 248 lim k (Code.at [1, 0, 0, 1, 0, 0, 1, 0] c248) (sp 49 [(0, x0), (1, x1), (2, x2), (6, x6), (7, x7)]) H (kk (some [0, 1, 2, 6]) kn [(2, (some [0, 1, 2, 6]), k2), (1, (some [0, 1, 2, 6]), k1), (0, none, (fun s H => R (([] : List Nat).map fun t => s.getD t (.tup [])) H))] R []) = N248_5 ρ call yc lim k x0 x1 x2 x6 x7 H (fun x0 x1 x2 x6 H => k2 (sp 49 [(0, x0), (1, x1), (2, x2), (6, x6)]) H) := by
  have e : Code.at [1, 0, 0, 1, 0, 0, 1, 0] c248 = .loop (Code.at [1, 0, 0, 1, 0, 0, 1, 0, 0] c248) := by kernel_rfl
  rw [e]
  unfold N248_5
  exact loop_node [0, 1, 2, 6, 7] (fun x : AV => (sp 49 [(0, x0), (1, x1), (2, x2), (6, x6), (7, (x))])) (fun (x : AV) H kn => N248_5b ρ call yc lim k x0 x1 x2 x6 x H (fun _ _ _ _ x7 H => kn x7 H) (fun x0 x1 x2 x6 H => k2 (sp 49 [(0, x0), (1, x1), (2, x2), (6, x6)]) H)) (by kernel_rfl) (fun x => by kernel_rfl) (fun x H kn => N248_5b_eq ρ call yc lim k x0 x1 x2 x6 (x) H kn k2 k1 R) x7 (sp 49 [(0, x0), (1, x1), (2, x2), (6, x6), (7, x7)]) H (by kernel_rfl)
noncomputable def N248_4 (ρ : Addr → Option Value) (call : CallF) (yc : YieldF) (lim k : Nat) (x0 x1 x2 x6 x7 : AV) (H : Heap) (kn : AV → AV → AV → AV → Heap → Res) : Res :=
  N248_5 ρ call yc lim k x0 x1 x2 x6 x7 H kn
theorem N248_4_x (ρ : Addr → Option Value) (call : CallF) (yc : YieldF) (lim k : Nat) (J : CodeF) (x0 x1 x2 x6 x7 : AV) (H : Heap) (kn : KS) (k1 : KS) (R : List AV → Heap → Res) :
    evX (cx ρ) call yc false 248 lim k J (Code.at [1, 0, 0, 1, 0, 0, 1] c248) (sp 49 [(0, x0), (1, x1), (2, x2), (6, x6), (7, x7)]) H (kk (some [0, 1, 2, 6]) kn [(1, (some [0, 1, 2, 6]), k1), (0, none, (fun s H => R (([] : List Nat).map fun t => s.getD t (.tup [])) H))] R []) =
  J (Code.at [1, 0, 0, 1, 0, 0, 1, 0] c248) (sp 49 [(0, x0), (1, x1), (2, x2), (6, x6), (7, x7)]) H (kk (some [0, 1, 2, 6]) kn [(2, (some [0, 1, 2, 6]), kn), (1, (some [0, 1, 2, 6]), k1), (0, none, (fun s H => R (([] : List Nat).map fun t => s.getD t (.tup [])) H))] R []) := by
  kernel_rfl
theorem N248_4_eq (ρ : Addr → Option Value) (call : CallF) (yc : YieldF) (lim k : Nat) (x0 x1 x2 x6 x7 : AV) (H : Heap) (kn : KS) (k1 : KS) (R : List AV → Heap → Res) :
    evL (cx ρ) call yc false 248 lim k (Code.at [1, 0, 0, 1, 0, 0, 1] c248) (sp 49 [(0, x0), (1, x1), (2, x2), (6, x6), (7, x7)]) H (kk (some [0, 1, 2, 6]) kn [(1, (some [0, 1, 2, 6]), k1), (0, none, (fun s H => R (([] : List Nat).map fun t => s.getD t (.tup [])) H))] R []) = N248_4 ρ call yc lim k x0 x1 x2 x6 x7 H (fun x0 x1 x2 x6 H => kn (sp 49 [(0, x0), (1, x1), (2, x2), (6, x6)]) H) := by
  rw [evL_X, N248_4_x]
  simp only [← evL_X, N248_4, N248_5_eq]
noncomputable def N248_2b (ρ : Addr → Option Value) (call : CallF) (yc : YieldF) (lim k : Nat) (x0 x1 x2 x6 : AV) (H : Heap) (kn : AV → AV → AV → AV → Heap → Res) (R : List AV → Heap → Res) : Res :=
  purK (binA Tryz.prog H .lss 3 x6 x2) fun x12_1 =>
  condK x12_1
  (
    N248_4 ρ call yc lim k x0 x1 x2 x6 x6 H (fun x0_1 x1_1 x2_1 x6_1 H =>
      N248_3 ρ call yc lim k x0_1 x1_1 x2_1 x6_1 H kn))
  (
    R [] H)
theorem N248_2b_x (ρ : Addr → Option Value) (call : CallF) (yc : YieldF) (lim k : Nat) (J : CodeF) (x0 x1 x2 x6 : AV) (H : Heap) (kn : KS) (R : List AV → Heap → Res) :
    evX (cx ρ) call yc false 248 lim k J (Code.at [1, 0, 0] c248) (sp 49 [(0, x0), (1, x1), (2, x2), (6, x6)]) H (kk (some [0, 1, 2, 6]) kn [(0, none, (fun s H => R (([] : List Nat).map fun t => s.getD t (.tup [])) H))] R []) =
  purK (binA Tryz.prog H .lss 3 x6 x2) fun x12_1 =>
  condK x12_1
  (
    J (Code.at [1, 0, 0, 1, 0, 0, 1] c248) (sp 49 [(0, x0), (1, x1), (2, x2), (6, x6), (7, x6)]) H (kk (some [0, 1, 2, 6]) (fun s H => J (Code.at [1, 0, 0, 1, 1] c248) s H (kk (some [0, 1, 2, 6]) kn [(0, none, (fun s H => R (([] : List Nat).map fun t => s.getD t (.tup [])) H))] R [])) [(1, (some [0, 1, 2, 6]), (fun s H => J (Code.at [1, 0, 0, 1, 1] c248) s H (kk (some [0, 1, 2, 6]) kn [(0, none, (fun s H => R (([] : List Nat).map fun t => s.getD t (.tup [])) H))] R []))), (0, none, (fun s H => R (([] : List Nat).map fun t => s.getD t (.tup [])) H))] R []))
  (
    R [] H) := by
  kernel_rfl
theorem N248_2b_eq (ρ : Addr → Option Value) (call : CallF) (yc : YieldF) (lim k : Nat) (x0 x1 x2 x6 : AV) (H : Heap) (kn : KS) (R : List AV → Heap → Res) :
    evL (cx ρ) call yc false 248 lim k (Code.at [1, 0, 0] c248) (sp 49 [(0, x0), (1, x1), (2, x2), (6, x6)]) H (kk (some [0, 1, 2, 6]) kn [(0, none, (fun s H => R (([] : List Nat).map fun t => s.getD t (.tup [])) H))] R []) = N248_2b ρ call yc lim k x0 x1 x2 x6 H (fun x0 x1 x2 x6 H => kn (sp 49 [(0, x0), (1, x1), (2, x2), (6, x6)]) H) R := by
  rw [evL_X, N248_2b_x]
  simp only [← evL_X, N248_2b, N248_3_eq, N248_4_eq]
noncomputable def N248_2 (ρ : Addr → Option Value) (call : CallF) (yc : YieldF) (lim k : Nat) (x0 x1 x2 x6 : AV) (H : Heap) (R : List AV → Heap → Res) : Res :=
  loopL (fun (x : AV) H kn => N248_2b ρ call yc lim k x0 x1 x2 x H (fun _ _ _ x6 H => kn x6 H) R) k x6 H
theorem N248_2_eq (ρ : Addr → Option Value) (call : CallF) (yc : YieldF) (lim k : Nat) (x0 x1 x2 x6 : AV) (H : Heap) (R : List AV → Heap → Res) :
    evL (cx ρ) call yc false 248 lim k (Code.at [1, 0] c248) (sp 49 [(0, x0), (1, x1), (2, x2), (6, x6)]) H (kk none (fun s H => R (([] : List Nat).map fun t => s.getD t (.tup [])) H) [(0, none, (fun s H => R (([] : List Nat).map fun t => s.getD t (.tup [])) H))] R []) = N248_2 ρ call yc lim k x0 x1 x2 x6 H R := by
  have e : Code.at [1, 0] c248 = .loop (Code.at [1, 0, 0] c248) := by kernel_rfl
  rw [e]
  unfold N248_2
  exact loop_node [0, 1, 2, 6] (fun x : AV => (sp 49 [(0, x0), (1, x1), (2, x2), (6, (x))])) (fun (x : AV) H kn => N248_2b ρ call yc lim k x0 x1 x2 x H (fun _ _ _ x6 H => kn x6 H) R) (by kernel_rfl) (fun x => by kernel_rfl) (fun x H kn => N248_2b_eq ρ call yc lim k x0 x1 x2 (x) H kn R) x6 (sp 49 [(0, x0), (1, x1), (2, x2), (6, x6)]) H (by kernel_rfl)
noncomputable def N248_1 (ρ : Addr → Option Value) (call : CallF) (yc : YieldF) (lim k : Nat) (x0 x1 x2 x6 : AV) (H : Heap) (R : List AV → Heap → Res) : Res :=
  N248_2 ρ call yc lim k x0 x1 x2 x6 H R
theorem N248_1_x (ρ : Addr → Option Value) (call : CallF) (yc : YieldF) (lim k : Nat) (J : CodeF) (x0 x1 x2 x6 : AV) (H : Heap) (R : List AV → Heap → Res) :
    evX (cx ρ) call yc false 248 lim k J (Code.at [1] c248) (sp 49 [(0, x0), (1, x1), (2, x2), (6, x6)]) H (kk none (fun s H => R (([] : List Nat).map fun t => s.getD t (.tup [])) H) [] R []) =
  J (Code.at [1, 0] c248) (sp 49 [(0, x0), (1, x1), (2, x2), (6, x6)]) H (kk none (fun s H => R (([] : List Nat).map fun t => s.getD t (.tup [])) H) [(0, none, (fun s H => R (([] : List Nat).map fun t => s.getD t (.tup [])) H))] R []) := by
  kernel_rfl
theorem N248_1_eq (ρ : Addr → Option Value) (call : CallF) (yc : YieldF) (lim k : Nat) (x0 x1 x2 x6 : AV) (H : Heap) (R : List AV → Heap → Res) :
    evL (cx ρ) call yc false 248 lim k (Code.at [1] c248) (sp 49 [(0, x0), (1, x1), (2, x2), (6, x6)]) H (kk none (fun s H => R (([] : List Nat).map fun t => s.getD t (.tup [])) H) [] R []) = N248_1 ρ call yc lim k x0 x1 x2 x6 H R := by
  rw [evL_X, N248_1_x]
  simp only [← evL_X, N248_1, N248_2_eq]
noncomputable def L248 (ρ : Addr → Option Value) (call : CallF) (yc : YieldF) (lim k : Nat) (x0 x1 x2 : AV) (H : Heap) : Res :=
  purK (binA Tryz.prog H .add 3 x1 (.int .i64 1)) fun x9 =>
  N248_1 ρ call yc lim k x0 x1 x2 x9 H retK
theorem L248_x (ρ : Addr → Option Value) (call : CallF) (yc : YieldF) (lim k : Nat) (J : CodeF) (x0 x1 x2 : AV) (H : Heap) :
    evX (cx ρ) call yc false 248 lim k J c248 [x0, x1, x2, (.tup []), (.tup []), (.tup []), (.tup []), (.tup []), (.tup []), (.tup []), (.tup []), (.tup []), (.tup []), (.tup []), (.tup []), (.tup []), (.tup []), (.tup []), (.tup []), (.tup []), (.tup []), (.tup []), (.tup []), (.tup []), (.tup []), (.tup []), (.tup []), (.tup []), (.tup []), (.tup []), (.tup []), (.tup []), (.tup []), (.tup []), (.tup []), (.tup []), (.tup []), (.tup []), (.tup []), (.tup []), (.tup []), (.tup []), (.tup []), (.tup []), (.tup []), (.tup []), (.tup []), (.tup []), (.tup [])] H (kk none (fun s H => retK (([] : List Nat).map fun t => s.getD t (.tup [])) H) [] retK []) =
  purK (binA Tryz.prog H .add 3 x1 (.int .i64 1)) fun x9 =>
  J (Code.at [1] c248) (sp 49 [(0, x0), (1, x1), (2, x2), (6, x9)]) H (kk none (fun s H => retK (([] : List Nat).map fun t => s.getD t (.tup [])) H) [] retK []) := by
  kernel_rfl
theorem G248 (ρ : Addr → Option Value) (call : CallF) (yc : YieldF) (lim k : Nat) (x0 x1 x2 : AV) (H : Heap) :
    evL (cx ρ) call yc false 248 lim k c248 [x0, x1, x2, (.tup []), (.tup []), (.tup []), (.tup []), (.tup []), (.tup []), (.tup []), (.tup []), (.tup []), (.tup []), (.tup []), (.tup []), (.tup []), (.tup []), (.tup []), (.tup []), (.tup []), (.tup []), (.tup []), (.tup []), (.tup []), (.tup []), (.tup []), (.tup []), (.tup []), (.tup []), (.tup []), (.tup []), (.tup []), (.tup []), (.tup []), (.tup []), (.tup []), (.tup []), (.tup []), (.tup []), (.tup []), (.tup []), (.tup []), (.tup []), (.tup []), (.tup []), (.tup []), (.tup []), (.tup []), (.tup [])] H (kk none (fun s H => retK (([] : List Nat).map fun t => s.getD t (.tup [])) H) [] retK []) = L248 ρ call yc lim k x0 x1 x2 H := by
  rw [evL_X, L248_x]
  simp only [← evL_X, L248, N248_1_eq]
theorem E248 (ρ : Addr → Option Value) (k lim : Nat) (x0 x1 x2 : AV) (H : Heap) : evCall (cx ρ) (k + 1) lim 248 [x0, x1, x2] H = L248 ρ (evCall (cx ρ) k) (evCY (cx ρ) k).2 lim k x0 x1 x2 H := by
  rw [evCall_body (cx ρ) k lim 248 _ H Tryz.f248 c248 [] (by kernel_rfl) (by kernel_rfl) (by kernel_rfl) (by kernel_rfl) (by kernel_rfl)]
  exact G248 ρ (evCall (cx ρ) k) (evCY (cx ρ) k).2 lim k x0 x1 x2 H
-- math/bits.Len64
noncomputable def c258 : Code := Code.of Tryz.prog 258
noncomputable def N258_3 (ρ : Addr → Option Value) (call : CallF) (yc : YieldF) (lim k : Nat) (x0 x2 : AV) (H : Heap) (R : List AV → Heap → Res) : Res :=
  purK (cvI .u8 x0) fun x21_1 =>
  purK (ixT (.str (ByteArray.mk #[0, 1, 2, 2, 3, 3, 3, 3, 4, 4, 4, 4, 4, 4, 4, 4, 5, 5, 5, 5, 5, 5, 5, 5, 5, 5, 5, 5, 5, 5, 5, 5, 6, 6, 6, 6, 6, 6, 6, 6, 6, 6, 6, 6, 6, 6, 6, 6, 6, 6, 6, 6, 6, 6, 6, 6, 6, 6, 6, 6, 6, 6, 6, 6, 7, 7, 7, 7, 7, 7, 7, 7, 7, 7, 7, 7, 7, 7, 7, 7, 7, 7, 7, 7, 7, 7, 7, 7, 7, 7, 7, 7, 7, 7, 7, 7, 7, 7, 7, 7, 7, 7, 7, 7, 7, 7, 7, 7, 7, 7, 7, 7, 7, 7, 7, 7, 7, 7, 7, 7, 7, 7, 7, 7, 7, 7, 7, 7, 8, 8, 8, 8, 8, 8, 8, 8, 8, 8, 8, 8, 8, 8, 8, 8, 8, 8, 8, 8, 8, 8, 8, 8, 8, 8, 8, 8, 8, 8, 8, 8, 8, 8, 8, 8, 8, 8, 8, 8, 8, 8, 8, 8, 8, 8, 8, 8, 8, 8, 8, 8, 8, 8, 8, 8, 8, 8, 8, 8, 8, 8, 8, 8, 8, 8, 8, 8, 8, 8, 8, 8, 8, 8, 8, 8, 8, 8, 8, 8, 8, 8, 8, 8, 8, 8, 8, 8, 8, 8, 8, 8, 8, 8, 8, 8, 8, 8, 8, 8, 8, 8, 8, 8, 8, 8, 8, 8, 8, 8, 8, 8, 8, 8, 8, 8, 8, 8, 8, 8, 8, 8, 8, 8, 8, 8, 8, 8])) x21_1) fun x22_1 =>
  purK (cvI .i64 x22_1) fun x23_1 =>
  purK (binA Tryz.prog H .add 3 x2 x23_1) fun x24_1 =>
  R [x24_1] H
theorem N258_3_eq (ρ : Addr → Option Value) (call : CallF) (yc : YieldF) (lim k : Nat) (x0 x2 : AV) (H : Heap) (R : List AV → Heap → Res) :
    evL (cx ρ) call yc false 258 lim k (Code.at [1, 1, 1, 1] c258) (sp 25 [(0, x0), (2, x2)]) H (kk none (fun s H => R (([2] : List Nat).map fun t => s.getD t (.tup [])) H) [] R [2]) = N258_3 ρ call yc lim k x0 x2 H R := by
  kernel_rfl
noncomputable def N258_2 (ρ : Addr → Option Value) (call : CallF) (yc : YieldF) (lim k : Nat) (x0 x2 : AV) (H : Heap) (R : List AV → Heap → Res) : Res :=
  purK (binA Tryz.prog H .geq 24 x0 (.int .u64 256)) fun x14_1 =>
  condK x14_1
  (
    purK (binA Tryz.prog H .shr 24 x0 (.int .u64 8)) fun x16_1 =>
    purK (binA Tryz.prog H .add 3 x2 (.int .i64 8)) fun x18_1 =>
    N258_3 ρ call yc lim k x16_1 x18_1 H R)
  (
    N258_3 ρ call yc lim k x0 x2 H R)
theorem N258_2_x (ρ : Addr → Option Value) (call : CallF) (yc : YieldF) (lim k : Nat) (J : CodeF) (x0 x2 : AV) (H : Heap) (R : List AV → Heap → Res) :
    evX (cx ρ) call yc false 258 lim k J (Code.at [1, 1, 1] c258) (sp 25 [(0, x0), (2, x2)]) H (kk none (fun s H => R (([2] : List Nat).map fun t => s.getD t (.tup [])) H) [] R [2]) =
  purK (binA Tryz.prog H .geq 24 x0 (.int .u64 256)) fun x14_1 =>
  condK x14_1
  (
    purK (binA Tryz.prog H .shr 24 x0 (.int .u64 8)) fun x16_1 =>
    purK (binA Tryz.prog H .add 3 x2 (.int .i64 8)) fun x18_1 =>
    J (Code.at [1, 1, 1, 1] c258) (sp 25 [(0, x16_1), (2, x18_1)]) H (kk none (fun s H => R (([2] : List Nat).map fun t => s.getD t (.tup [])) H) [] R [2]))
  (
    J (Code.at [1, 1, 1, 1] c258) (sp 25 [(0, x0), (2, x2)]) H (kk none (fun s H => R (([2] : List Nat).map fun t => s.getD t (.tup [])) H) [] R [2])) := by
  kernel_rfl
theorem N258_2_eq (ρ : Addr → Option Value) (call : CallF) (yc : YieldF) (lim k : Nat) (x0 x2 : AV) (H : Heap) (R : List AV → Heap → Res) :
    evL (cx ρ) call yc false 258 lim k (Code.at [1, 1, 1] c258) (sp 25 [(0, x0), (2, x2)]) H (kk none (fun s H => R (([2] : List Nat).map fun t => s.getD t (.tup [])) H) [] R [2]) = N258_2 ρ call yc lim k x0 x2 H R := by
  rw [evL_X, N258_2_x]
  simp only [← evL_X, N258_2, N258_3_eq]
noncomputable def N258_1 (ρ : Addr → Option Value) (call : CallF) (yc : YieldF) (lim k : Nat) (x0 x2 : AV) (H : Heap) (R : List AV → Heap → Res) : Res :=
  purK (binA Tryz.prog H .geq 24 x0 (.int .u64 65536)) fun x8_1 =>
  condK x8_1
  (
    purK (binA Tryz.prog H .shr 24 x0 (.int .u64 16)) fun x10_1 =>
    purK (binA Tryz.prog H .add 3 x2 (.int .i64 16)) fun x12_1 =>
    N258_2 ρ call yc lim k x10_1 x12_1 H R)
  (
    N258_2 ρ call yc lim k x0 x2 H R)
theorem N258_1_x (ρ : Addr → Option Value) (call : CallF) (yc : YieldF) (lim k : Nat) (J : CodeF) (x0 x2 : AV) (H : Heap) (R : List AV → Heap → Res) :
    evX (cx ρ) call yc false 258 lim k J (Code.at [1, 1] c258) (sp 25 [(0, x0), (2, x2)]) H (kk none (fun s H => R (([2] : List Nat).map fun t => s.getD t (.tup [])) H) [] R [2]) =
  purK (binA Tryz.prog H .geq 24 x0 (.int .u64 65536)) fun x8_1 =>
  condK x8_1
  (
    purK (binA Tryz.prog H .shr 24 x0 (.int .u64 16)) fun x10_1 =>
    purK (binA Tryz.prog H .add 3 x2 (.int .i64 16)) fun x12_1 =>
    J (Code.at [1, 1, 1] c258) (sp 25 [(0, x10_1), (2, x12_1)]) H (kk none (fun s H => R (([2] : List Nat).map fun t => s.getD t (.tup [])) H) [] R [2]))
  (
    J (Code.at [1, 1, 1] c258) (sp 25 [(0, x0), (2, x2)]) H (kk none (fun s H => R (([2] : List Nat).map fun t => s.getD t (.tup [])) H) [] R [2])) := by
  kernel_rfl
theorem N258_1_eq (ρ : Addr → Option Value) (call : CallF) (yc : YieldF) (lim k : Nat) (x0 x2 : AV) (H : Heap) (R : List AV → Heap → Res) :
    evL (cx ρ) call yc false 258 lim k (Code.at [1, 1] c258) (sp 25 [(0, x0), (2, x2)]) H (kk none (fun s H => R (([2] : List Nat).map fun t => s.getD t (.tup [])) H) [] R [2]) = N258_1 ρ call yc lim k x0 x2 H R := by
  rw [evL_X, N258_1_x]
  simp only [← evL_X, N258_1, N258_2_eq]
noncomputable def L258 (ρ : Addr → Option Value) (call : CallF) (yc : YieldF) (lim k : Nat) (x0 : AV) (H : Heap) : Res :=
  purK (binA Tryz.prog H .geq 24 x0 (.int .u64 4294967296)) fun x4 =>
  condK x4
  (
    purK (binA Tryz.prog H .shr 24 x0 (.int .u64 32)) fun x6 =>
    N258_1 ρ call yc lim k x6 (.int .i64 32) H retK)
  (
    N258_1 ρ call yc lim k x0 (.int .i64 0) H retK)
theorem L258_x (ρ : Addr → Option Value) (call : CallF) (yc : YieldF) (lim k : Nat) (J : CodeF) (x0 : AV) (H : Heap) :
    evX (cx ρ) call yc false 258 lim k J c258 [x0, (.tup []), (.tup []), (.tup []), (.tup []), (.tup []), (.tup []), (.tup []), (.tup []), (.tup []), (.tup []), (.tup []), (.tup []), (.tup []), (.tup []), (.tup []), (.tup []), (.tup []), (.tup []), (.tup []), (.tup []), (.tup []), (.tup []), (.tup []), (.tup [])] H (kk none (fun s H => retK (([2] : List Nat).map fun t => s.getD t (.tup [])) H) [] retK [2]) =
  purK (binA Tryz.prog H .geq 24 x0 (.int .u64 4294967296)) fun x4 =>
  condK x4
  (
    purK (binA Tryz.prog H .shr 24 x0 (.int .u64 32)) fun x6 =>
    J (Code.at [1, 1] c258) (sp 25 [(0, x6), (2, (.int .i64 32))]) H (kk none (fun s H => retK (([2] : List Nat).map fun t => s.getD t (.tup [])) H) [] retK [2]))
  (
    J (Code.at [1, 1] c258) (sp 25 [(0, x0), (2, (.int .i64 0))]) H (kk none (fun s H => retK (([2] : List Nat).map fun t => s.getD t (.tup [])) H) [] retK [2])) := by
  kernel_rfl
theorem G258 (ρ : Addr → Option Value) (call : CallF) (yc : YieldF) (lim k : Nat) (x0 : AV) (H : Heap) :
    evL (cx ρ) call yc false 258 lim k c258 [x0, (.tup []), (.tup []), (.tup []), (.tup []), (.tup []), (.tup []), (.tup []), (.tup []), (.tup []), (.tup []), (.tup []), (.tup []), (.tup []), (.tup []), (.tup []), (.tup []), (.tup []), (.tup []), (.tup []), (.tup []), (.tup []), (.tup []), (.tup []), (.tup [])] H (kk none (fun s H => retK (([2] : List Nat).map fun t => s.getD t (.tup [])) H) [] retK [2]) = L258 ρ call yc lim k x0 H := by
  rw [evL_X, L258_x]
  simp only [← evL_X, L258, N258_1_eq]
theorem E258 (ρ : Addr → Option Value) (k lim : Nat) (x0 : AV) (H : Heap) : evCall (cx ρ) (k + 1) lim 258 [x0] H = L258 ρ (evCall (cx ρ) k) (evCY (cx ρ) k).2 lim k x0 H := by
  rw [evCall_body (cx ρ) k lim 258 _ H Tryz.f258 c258 [2] (by kernel_rfl) (by kernel_rfl) (by kernel_rfl) (by kernel_rfl) (by kernel_rfl)]
  exact G258 ρ (evCall (cx ρ) k) (evCY (cx ρ) k).2 lim k x0 H
-- haycroft/tail.pack
noncomputable def c296 : Code := Code.of Tryz.prog 296
noncomputable def L296 (ρ : Addr → Option Value) (call : CallF) (yc : YieldF) (lim k : Nat) (x0 x1 : AV) (H : Heap) : Res :=
  purK (cvI .u64 x0) fun x6 =>
  purK (binA Tryz.prog H .shl 24 x6 (.int .u64 32)) fun x7 =>
  purK (cvI .u64 x1) fun x9 =>
  purK (binA Tryz.prog H .or 24 x7 x9) fun x10 =>
  retK [x10] H
theorem G296 (ρ : Addr → Option Value) (call : CallF) (yc : YieldF) (lim k : Nat) (x0 x1 : AV) (H : Heap) :
    evL (cx ρ) call yc false 296 lim k c296 [x0, x1, (.tup []), (.tup []), (.tup []), (.tup []), (.tup []), (.tup []), (.tup []), (.tup []), (.tup [])] H (kk none (fun s H => retK (([4] : List Nat).map fun t => s.getD t (.tup [])) H) [] retK [4]) = L296 ρ call yc lim k x0 x1 H := by
  kernel_rfl
theorem E296 (ρ : Addr → Option Value) (k lim : Nat) (x0 x1 : AV) (H : Heap) : evCall (cx ρ) (k + 1) lim 296 [x0, x1] H = L296 ρ (evCall (cx ρ) k) (evCY (cx ρ) k).2 lim k x0 x1 H := by
  rw [evCall_body (cx ρ) k lim 296 _ H Tryz.f296 c296 [4] (by kernel_rfl) (by kernel_rfl) (by kernel_rfl) (by kernel_rfl) (by kernel_rfl)]
  exact G296 ρ (evCall (cx ρ) k) (evCY (cx ρ) k).2 lim k x0 x1 H
-- haycroft/tail.first
noncomputable def c297 : Code := Code.of Tryz.prog 297
noncomputable def L297 (ρ : Addr → Option Value) (call : CallF) (yc : YieldF) (lim k : Nat) (x0 : AV) (H : Heap) : Res :=
  purK (binA Tryz.prog H .eql 3 x0 (.int .i64 0)) fun x4 =>
  condK x4
  (
    retK [(.int .i64 1)] H)
  (
    retK [(.int .i64 0)] H)
theorem G297 (ρ : Addr → Option Value) (call : CallF) (yc : YieldF) (lim k : Nat) (x0 : AV) (H : Heap) :
    evL (cx ρ) call yc false 297 lim k c297 [x0, (.tup []), (.tup []), (.tup []), (.tup [])] H (kk none (fun s H => retK (([2] : List Nat).map fun t => s.getD t (.tup [])) H) [] retK [2]) = L297 ρ call yc lim k x0 H := by
  kernel_rfl
theorem E297 (ρ : Addr → Option Value) (k lim : Nat) (x0 : AV) (H : Heap) : evCall (cx ρ) (k + 1) lim 297 [x0] H = L297 ρ (evCall (cx ρ) k) (evCY (cx ρ) k).2 lim k x0 H := by
  rw [evCall_body (cx ρ) k lim 297 _ H Tryz.f297 c297 [2] (by kernel_rfl) (by kernel_rfl) (by kernel_rfl) (by kernel_rfl) (by kernel_rfl)]
  exact G297 ρ (evCall (cx ρ) k) (evCY (cx ρ) k).2 lim k x0 H
-- (*sync/atomic.Uint64).CompareAndSwap
noncomputable def c299 : Code := Code.of Tryz.prog 299
noncomputable def L299 (ρ : Addr → Option Value) (call : CallF) (yc : YieldF) (lim k : Nat) (x0 x1 x2 : AV) (H : Heap) : Res :=
  purK (nilChkA x0) fun x8 =>
  purK (addA 0 x8) fun x9 =>
  resK (call lim 330 [x9, x1, x2] H) fun x12 H =>
  retK [x12] H
theorem G299 (ρ : Addr → Option Value) (call : CallF) (yc : YieldF) (lim k : Nat) (x0 x1 x2 : AV) (H : Heap) :
    evL (cx ρ) call yc false 299 lim k c299 [x0, x1, x2, (.tup []), (.tup []), (.tup []), (.tup []), (.tup []), (.tup []), (.tup []), (.tup []), (.tup []), (.tup [])] H (kk none (fun s H => retK (([6] : List Nat).map fun t => s.getD t (.tup [])) H) [] retK [6]) = L299 ρ call yc lim k x0 x1 x2 H := by
  kernel_rfl
theorem E299 (ρ : Addr → Option Value) (k lim : Nat) (x0 x1 x2 : AV) (H : Heap) : evCall (cx ρ) (k + 1) lim 299 [x0, x1, x2] H = L299 ρ (evCall (cx ρ) k) (evCY (cx ρ) k).2 lim k x0 x1 x2 H := by
  rw [evCall_body (cx ρ) k lim 299 _ H Tryz.f299 c299 [6] (by kernel_rfl) (by kernel_rfl) (by kernel_rfl) (by kernel_rfl) (by kernel_rfl)]
  exact G299 ρ (evCall (cx ρ) k) (evCY (cx ρ) k).2 lim k x0 x1 x2 H
-- (*sync/atomic.Int64).Add
noncomputable def c300 : Code := Code.of Tryz.prog 300
noncomputable def L300 (ρ : Addr → Option Value) (call : CallF) (yc : YieldF) (lim k : Nat) (x0 x1 : AV) (H : Heap) : Res :=
  purK (nilChkA x0) fun x6 =>
  purK (addA 0 x6) fun x7 =>
  resK (call lim 331 [x7, x1] H) fun x9 H =>
  retK [x9] H
theorem G300 (ρ : Addr → Option Value) (call : CallF) (yc : YieldF) (lim k : Nat) (x0 x1 : AV) (H : Heap) :
    evL (cx ρ) call yc false 300 lim k c300 [x0, x1, (.tup []), (.tup []), (.tup []), (.tup []), (.tup []), (.tup []), (.tup []), (.tup [])] H (kk none (fun s H => retK (([4] : List Nat).map fun t => s.getD t (.tup [])) H) [] retK [4]) = L300 ρ call yc lim k x0 x1 H := by
  kernel_rfl
theorem E300 (ρ : Addr → Option Value) (k lim : Nat) (x0 x1 : AV) (H : Heap) : evCall (cx ρ) (k + 1) lim 300 [x0, x1] H = L300 ρ (evCall (cx ρ) k) (evCY (cx ρ) k).2 lim k x0 x1 H := by
  rw [evCall_body (cx ρ) k lim 300 _ H Tryz.f300 c300 [4] (by kernel_rfl) (by kernel_rfl) (by kernel_rfl) (by kernel_rfl) (by kernel_rfl)]
  exact G300 ρ (evCall (cx ρ) k) (evCY (cx ρ) k).2 lim k x0 x1 H
end Go.Proofs.YtkolhhmgmakekaaGreat
