/- Functions, lifted. Printed by a program of this repo. -/
import Derived.Test.YtonakeopionkkaaGreatLfTab
set_option linter.unusedVariables false
set_option linter.unusedSimpArgs false
set_option maxRecDepth 100000
set_option maxHeartbeats 4000000
namespace Go.Proofs.YtonakeopionkkaaGreat
open Go.Ev Go.RowKit
-- haycroft/haycroftlaw36.OccupyTotals
noncomputable def c4 : Code := Code.of Tryz.prog 4
noncomputable def N4_2 (ρ : Addr → Option Value) (call : CallF) (yc : YieldF) (lim k : Nat) (x0 x1 x5 x6 x7 x8 x11 x12 : AV) (H : Heap) (R : List AV → Heap → Res) : Res :=
  purK (ldN ρ H 5 x5) fun x136_1 =>
  resK (call lim 8 [x0] H) fun x135_1 H => bif (agn (ldN ρ H 5 x5) x136_1 && true) then
    purK (binA Tryz.prog H .eql 30 x135_1 x136_1) fun x137_1 =>
    boolK (wantV x137_1 true) fun b1 => purK (bif b1 then some x11 else some (.tup [])) fun x139_1 =>
    boolK (wantV x137_1 true) fun b2 => purK (bif b2 then some x7 else some (.tup [])) fun x140_1 =>
    boolK (wantV x137_1 true) fun b3 => purK (bif b3 then binA Tryz.prog H .eql 3 x139_1 x140_1 else some (.tup [])) fun x141_1 =>
    purK (pickA x137_1 x141_1 (.bool false)) fun x142_1 =>
    boolK (wantV x142_1 true) fun b4 => purK (bif b4 then some x12 else some (.tup [])) fun x144_1 =>
    boolK (wantV x142_1 true) fun b5 => purK (bif b5 then some x6 else some (.tup [])) fun x145_1 =>
    boolK (wantV x142_1 true) fun b6 => purK (bif b6 then binA Tryz.prog H .gtr 3 x145_1 (.int .i64 0) else some (.tup [])) fun x146_1 =>
    boolK (wantV x142_1 true) fun b7 => purK (bif b7 then binA Tryz.prog H .eql 4 x144_1 x146_1 else some (.tup [])) fun x147_1 =>
    purK (pickA x142_1 x147_1 (.bool false)) fun x148_1 =>
    boolK (wantV x148_1 true) fun b8 => purK (bif b8 then some x0 else some (.tup [])) fun x150_1 =>
    boolK (wantV x148_1 true) fun b9 => purK (bif b9 then some x1 else some (.tup [])) fun x151_1 =>
    boolK (wantV x148_1 true) fun b10 => purK (bif b10 then some x8 else some (.tup [])) fun x153_1 =>
    boolK (wantV x148_1 true) fun b11 => resK (gRes (some b11) H (call lim 9 [x150_1, x151_1] H)) fun x152_1 H => bif !b11 || ((!b7 || true) && ((!b6 || true) && ((!b3 || true) && true))) then
      boolK (wantV x148_1 true) fun b12 => resK (gRes (some b12) H (call lim 11 [x152_1, x153_1] H)) fun x154_1 H => bif !b12 || ((!b7 || true) && ((!b6 || true) && ((!b3 || true) && true))) then
        purK (pickA x148_1 x154_1 (.bool false)) fun x155_1 =>
        R [x155_1] H
      else none
    else none
  else none
theorem N4_2_eq (ρ : Addr → Option Value) (call : CallF) (yc : YieldF) (lim k : Nat) (x0 x1 x5 x6 x7 x8 x11 x12 : AV) (H : Heap) (R : List AV → Heap → Res) :
    evL (cx ρ) call yc false 4 lim k (Code.at [1, 1, 1, 1, 1, 1, 1, 1, 1, 1, 1, 1] c4) (sp 156 [(0, x0), (1, x1), (5, x5), (6, x6), (7, x7), (8, x8), (11, x11), (12, x12)]) H (kk none (fun s H => R (([4] : List Nat).map fun t => s.getD t (.tup [])) H) [] R [4]) = N4_2 ρ call yc lim k x0 x1 x5 x6 x7 x8 x11 x12 H R := by
  kernel_rfl
noncomputable def N4_3 (ρ : Addr → Option Value) (call : CallF) (yc : YieldF) (lim k : Nat) (x0 x1 x5 x6 x7 x8 x11 x12 x133 : AV) (H : Heap) (kn : AV → AV → AV → AV → AV → AV → AV → AV → Heap → Res) (R : List AV → Heap → Res) : Res :=
  condK x133
  (
    R [(.bool false)] H)
  (
    kn x0 x1 x5 x6 x7 x8 x11 x12 H)
theorem N4_3_eq (ρ : Addr → Option Value) (call : CallF) (yc : YieldF) (lim k : Nat) (x0 x1 x5 x6 x7 x8 x11 x12 x133 : AV) (H : Heap) (kn : KS) (R : List AV → Heap → Res) :
    evL (cx ρ) call yc false 4 lim k (Code.at [1, 1, 1, 1, 1, 1, 1, 1, 1, 1, 1, 0, 1] c4) (sp 156 [(0, x0), (1, x1), (5, x5), (6, x6), (7, x7), (8, x8), (11, x11), (12, x12), (133, x133)]) H (kk (some [0, 1, 5, 6, 7, 8, 11, 12]) kn [] R [4]) = N4_3 ρ call yc lim k x0 x1 x5 x6 x7 x8 x11 x12 x133 H (fun x0 x1 x5 x6 x7 x8 x11 x12 H => kn (sp 156 [(0, x0), (1, x1), (5, x5), (6, x6), (7, x7), (8, x8), (11, x11), (12, x12)]) H) R := by
  kernel_rfl
noncomputable def N4_1 (ρ : Addr → Option Value) (call : CallF) (yc : YieldF) (lim k : Nat) (x0 x1 x5 x6 x7 x8 : AV) (H : Heap) (R : List AV → Heap → Res) : Res :=
  resK (call lim 7 [x0] H) fun x99_1 H =>
  purK (extA 0 x99_1) fun x100_1 =>
  purK (extA 1 x99_1) fun x101_1 =>
  purK (addA 1 x5) fun x102_1 =>
  purK (ld1 ρ H x102_1) fun x103_1 =>
  purK (addA 2 x5) fun x104_1 =>
  purK (ld1 ρ H x104_1) fun x105_1 =>
  purK (binA Tryz.prog H .add 3 x103_1 x105_1) fun x106_1 =>
  purK (addA 3 x5) fun x107_1 =>
  purK (ld1 ρ H x107_1) fun x108_1 =>
  purK (binA Tryz.prog H .add 3 x106_1 x108_1) fun x109_1 =>
  purK (addA 4 x5) fun x110_1 =>
  purK (ld1 ρ H x110_1) fun x111_1 =>
  purK (binA Tryz.prog H .add 3 x109_1 x111_1) fun x112_1 =>
  resK (call lim 10 [x0] H) fun x114_1 H =>
  purK (binA Tryz.prog H .leq 3 x112_1 (.int .i64 0)) fun x116_1 =>
  purK (gPur (wantV x116_1 true) (some x114_1)) fun x118_1 =>
  purK (gPur (wantV x116_1 true) (binA Tryz.prog H .neq 3 x118_1 (.int .i64 0))) fun x119_1 =>
  purK (pickA x116_1 x119_1 (.bool false)) fun x120_1 =>
  purK (gPur (wantV x120_1 false) (some x112_1)) fun x122_1 =>
  purK (gPur (wantV x120_1 false) (binA Tryz.prog H .gtr 3 x122_1 (.int .i64 0))) fun x123_1 =>
  purK (gPur (wantV x120_1 false) (some x123_1)) fun x124_1 =>
  purK (gPur (wantV x124_1 true) (some x114_1)) fun x125_1 =>
  purK (gPur (wantV x124_1 true) (addA 1 x5)) fun x126_1 =>
  purK (gPur (wantV x124_1 true) (ld1 ρ H x126_1)) fun x127_1 =>
  purK (gPur (wantV x124_1 true) (binA Tryz.prog H .mul 3 x127_1 (.int .i64 1000))) fun x128_1 =>
  purK (gPur (wantV x124_1 true) (some x112_1)) fun x129_1 =>
  purK (gPur (wantV x124_1 true) (binA Tryz.prog H .quo 3 x128_1 x129_1)) fun x130_1 =>
  purK (gPur (wantV x124_1 true) (binA Tryz.prog H .neq 3 x125_1 x130_1)) fun x131_1 =>
  purK (gPur (wantV x120_1 false) (pickA x124_1 x131_1 (.bool false))) fun x132_1 =>
  purK (pickA x120_1 (.bool true) x132_1) fun x133_1 =>
  N4_3 ρ call yc lim k x0 x1 x5 x6 x7 x8 x100_1 x101_1 x133_1 H (fun x0_1 x1_1 x5_1 x6_1 x7_1 x8_1 x11_1 x12_1 H =>
    N4_2 ρ call yc lim k x0_1 x1_1 x5_1 x6_1 x7_1 x8_1 x11_1 x12_1 H R) R
theorem N4_1_x (ρ : Addr → Option Value) (call : CallF) (yc : YieldF) (lim k : Nat) (J : CodeF) (x0 x1 x5 x6 x7 x8 : AV) (H : Heap) (R : List AV → Heap → Res) :
    evX (cx ρ) call yc false 4 lim k J (Code.at [1, 1, 1, 1, 1, 1, 1, 1] c4) (sp 156 [(0, x0), (1, x1), (5, x5), (6, x6), (7, x7), (8, x8)]) H (kk none (fun s H => R (([4] : List Nat).map fun t => s.getD t (.tup [])) H) [] R [4]) =
  resK (call lim 7 [x0] H) fun x99_1 H =>
  purK (extA 0 x99_1) fun x100_1 =>
  purK (extA 1 x99_1) fun x101_1 =>
  purK (addA 1 x5) fun x102_1 =>
  purK (ld1 ρ H x102_1) fun x103_1 =>
  purK (addA 2 x5) fun x104_1 =>
  purK (ld1 ρ H x104_1) fun x105_1 =>
  purK (binA Tryz.prog H .add 3 x103_1 x105_1) fun x106_1 =>
  purK (addA 3 x5) fun x107_1 =>
  purK (ld1 ρ H x107_1) fun x108_1 =>
  purK (binA Tryz.prog H .add 3 x106_1 x108_1) fun x109_1 =>
  purK (addA 4 x5) fun x110_1 =>
  purK (ld1 ρ H x110_1) fun x111_1 =>
  purK (binA Tryz.prog H .add 3 x109_1 x111_1) fun x112_1 =>
  resK (call lim 10 [x0] H) fun x114_1 H =>
  purK (binA Tryz.prog H .leq 3 x112_1 (.int .i64 0)) fun x116_1 =>
  purK (gPur (wantV x116_1 true) (some x114_1)) fun x118_1 =>
  purK (gPur (wantV x116_1 true) (binA Tryz.prog H .neq 3 x118_1 (.int .i64 0))) fun x119_1 =>
  purK (pickA x116_1 x119_1 (.bool false)) fun x120_1 =>
  purK (gPur (wantV x120_1 false) (some x112_1)) fun x122_1 =>
  purK (gPur (wantV x120_1 false) (binA Tryz.prog H .gtr 3 x122_1 (.int .i64 0))) fun x123_1 =>
  purK (gPur (wantV x120_1 false) (some x123_1)) fun x124_1 =>
  purK (gPur (wantV x124_1 true) (some x114_1)) fun x125_1 =>
  purK (gPur (wantV x124_1 true) (addA 1 x5)) fun x126_1 =>
  purK (gPur (wantV x124_1 true) (ld1 ρ H x126_1)) fun x127_1 =>
  purK (gPur (wantV x124_1 true) (binA Tryz.prog H .mul 3 x127_1 (.int .i64 1000))) fun x128_1 =>
  purK (gPur (wantV x124_1 true) (some x112_1)) fun x129_1 =>
  purK (gPur (wantV x124_1 true) (binA Tryz.prog H .quo 3 x128_1 x129_1)) fun x130_1 =>
  purK (gPur (wantV x124_1 true) (binA Tryz.prog H .neq 3 x125_1 x130_1)) fun x131_1 =>
  purK (gPur (wantV x120_1 false) (pickA x124_1 x131_1 (.bool false))) fun x132_1 =>
  purK (pickA x120_1 (.bool true) x132_1) fun x133_1 =>
  J (Code.at [1, 1, 1, 1, 1, 1, 1, 1, 1, 1, 1, 0, 1] c4) (sp 156 [(0, x0), (1, x1), (5, x5), (6, x6), (7, x7), (8, x8), (11, x100_1), (12, x101_1), (133, x133_1)]) H (kk (some [0, 1, 5, 6, 7, 8, 11, 12]) (fun s H => J (Code.at [1, 1, 1, 1, 1, 1, 1, 1, 1, 1, 1, 1] c4) s H (kk none (fun s H => R (([4] : List Nat).map fun t => s.getD t (.tup [])) H) [] R [4])) [] R [4]) := by
  kernel_rfl
theorem N4_1_eq (ρ : Addr → Option Value) (call : CallF) (yc : YieldF) (lim k : Nat) (x0 x1 x5 x6 x7 x8 : AV) (H : Heap) (R : List AV → Heap → Res) :
    evL (cx ρ) call yc false 4 lim k (Code.at [1, 1, 1, 1, 1, 1, 1, 1] c4) (sp 156 [(0, x0), (1, x1), (5, x5), (6, x6), (7, x7), (8, x8)]) H (kk none (fun s H => R (([4] : List Nat).map fun t => s.getD t (.tup [])) H) [] R [4]) = N4_1 ρ call yc lim k x0 x1 x5 x6 x7 x8 H R := by
  rw [evL_X, N4_1_x]
  simp only [← evL_X, N4_1, N4_2_eq, N4_3_eq]
noncomputable def N4_6 (ρ : Addr → Option Value) (call : CallF) (yc : YieldF) (lim k : Nat) (x0 x1 x5 x6 x7 x8 x9 : AV) (H : Heap) (kn : AV → AV → AV → AV → Heap → Res) : Res :=
  purK (binA Tryz.prog H .add 3 x9 (.int .i64 1)) fun x29_1 =>
  kn x6 x7 x8 x29_1 H
theorem N4_6_eq (ρ : Addr → Option Value) (call : CallF) (yc : YieldF) (lim k : Nat) (x0 x1 x5 x6 x7 x8 x9 : AV) (H : Heap) (kn : KS) (k0 : KS) (R : List AV → Heap → Res) :
    evL (cx ρ) call yc false 4 lim k (Code.at [1, 1, 1, 1, 1, 1, 1, 0, 1, 0, 0, 1, 1] c4) (sp 156 [(0, x0), (1, x1), (5, x5), (6, x6), (7, x7), (8, x8), (9, x9)]) H (kk (some [0, 1, 5, 6, 7, 8, 9]) kn [(0, (some [0, 1, 5, 6, 7, 8]), k0)] R [4]) = N4_6 ρ call yc lim k x0 x1 x5 x6 x7 x8 x9 H (fun x6 x7 x8 x9 H => kn (sp 156 [(0, x0), (1, x1), (5, x5), (6, x6), (7, x7), (8, x8), (9, x9)]) H) := by
  kernel_rfl
noncomputable def N4_9 (ρ : Addr → Option Value) (call : CallF) (yc : YieldF) (lim k : Nat) (x0 x1 x5 x6 x7 x8 x9 x10 : AV) (H : Heap) (kn : AV → AV → AV → AV → Heap → Res) : Res :=
  purK (addA 1 x10) fun x88_1 =>
  purK (ld1 ρ H x88_1) fun x89_1 =>
  purK (binA Tryz.prog H .leq 3 x89_1 x1) fun x91_1 =>
  condK x91_1
  (
    purK (addA 0 x10) fun x93_1 =>
    purK (ld1 ρ H x93_1) fun x94_1 =>
    effK H (bldS H 3 1 [.int .i64 0] 1 [(0, 1, x94_1)]) fun x95_1 H =>
    effK H (apA ρ lim H 3 1 8 x8 x95_1) fun x96_1 H =>
    kn x6 x7 x96_1 x9 H)
  (
    kn x6 x7 x8 x9 H)
theorem N4_9_eq (ρ : Addr → Option Value) (call : CallF) (yc : YieldF) (lim k : Nat) (x0 x1 x5 x6 x7 x8 x9 x10 : AV) (H : Heap) (kn : KS) (k1 : KS) (k0 : KS) (R : List AV → Heap → Res) :
    evL (cx ρ) call yc false 4 lim k (Code.at [1, 1, 1, 1, 1, 1, 1, 0, 1, 0, 0, 1, 0, 0, 1, 1, 1, 1, 1, 1, 1] c4) (sp 156 [(0, x0), (1, x1), (5, x5), (6, x6), (7, x7), (8, x8), (9, x9), (10, x10)]) H (kk (some [0, 1, 5, 6, 7, 8, 9]) kn [(1, (some [0, 1, 5, 6, 7, 8, 9]), k1), (0, (some [0, 1, 5, 6, 7, 8]), k0)] R [4]) = N4_9 ρ call yc lim k x0 x1 x5 x6 x7 x8 x9 x10 H (fun x6 x7 x8 x9 H => kn (sp 156 [(0, x0), (1, x1), (5, x5), (6, x6), (7, x7), (8, x8), (9, x9)]) H) := by
  kernel_rfl
noncomputable def N4_8 (ρ : Addr → Option Value) (call : CallF) (yc : YieldF) (lim k : Nat) (x0 x1 x5 x6 x7 x8 x9 x10 : AV) (H : Heap) (kn : AV → AV → AV → AV → Heap → Res) : Res :=
  purK (addA 3 x10) fun x80_1 =>
  purK (ld1 ρ H x80_1) fun x81_1 =>
  purK (binA Tryz.prog H .gtr 3 x81_1 x6) fun x83_1 =>
  condK x83_1
  (
    purK (addA 3 x10) fun x84_1 =>
    purK (ld1 ρ H x84_1) fun x85_1 =>
    purK (addA 0 x10) fun x86_1 =>
    purK (ld1 ρ H x86_1) fun x87_1 =>
    N4_9 ρ call yc lim k x0 x1 x5 x85_1 x87_1 x8 x9 x10 H kn)
  (
    N4_9 ρ call yc lim k x0 x1 x5 x6 x7 x8 x9 x10 H kn)
theorem N4_8_x (ρ : Addr → Option Value) (call : CallF) (yc : YieldF) (lim k : Nat) (J : CodeF) (x0 x1 x5 x6 x7 x8 x9 x10 : AV) (H : Heap) (kn : KS) (k1 : KS) (k0 : KS) (R : List AV → Heap → Res) :
    evX (cx ρ) call yc false 4 lim k J (Code.at [1, 1, 1, 1, 1, 1, 1, 0, 1, 0, 0, 1, 0, 0, 1, 1, 1, 1, 1, 1] c4) (sp 156 [(0, x0), (1, x1), (5, x5), (6, x6), (7, x7), (8, x8), (9, x9), (10, x10)]) H (kk (some [0, 1, 5, 6, 7, 8, 9]) kn [(1, (some [0, 1, 5, 6, 7, 8, 9]), k1), (0, (some [0, 1, 5, 6, 7, 8]), k0)] R [4]) =
  purK (addA 3 x10) fun x80_1 =>
  purK (ld1 ρ H x80_1) fun x81_1 =>
  purK (binA Tryz.prog H .gtr 3 x81_1 x6) fun x83_1 =>
  condK x83_1
  (
    purK (addA 3 x10) fun x84_1 =>
    purK (ld1 ρ H x84_1) fun x85_1 =>
    purK (addA 0 x10) fun x86_1 =>
    purK (ld1 ρ H x86_1) fun x87_1 =>
    J (Code.at [1, 1, 1, 1, 1, 1, 1, 0, 1, 0, 0, 1, 0, 0, 1, 1, 1, 1, 1, 1, 1] c4) (sp 156 [(0, x0), (1, x1), (5, x5), (6, x85_1), (7, x87_1), (8, x8), (9, x9), (10, x10)]) H (kk (some [0, 1, 5, 6, 7, 8, 9]) kn [(1, (some [0, 1, 5, 6, 7, 8, 9]), k1), (0, (some [0, 1, 5, 6, 7, 8]), k0)] R [4]))
  (
    J (Code.at [1, 1, 1, 1, 1, 1, 1, 0, 1, 0, 0, 1, 0, 0, 1, 1, 1, 1, 1, 1, 1] c4) (sp 156 [(0, x0), (1, x1), (5, x5), (6, x6), (7, x7), (8, x8), (9, x9), (10, x10)]) H (kk (some [0, 1, 5, 6, 7, 8, 9]) kn [(1, (some [0, 1, 5, 6, 7, 8, 9]), k1), (0, (some [0, 1, 5, 6, 7, 8]), k0)] R [4])) := by
  kernel_rfl
theorem N4_8_eq (ρ : Addr → Option Value) (call : CallF) (yc : YieldF) (lim k : Nat) (x0 x1 x5 x6 x7 x8 x9 x10 : AV) (H : Heap) (kn : KS) (k1 : KS) (k0 : KS) (R : List AV → Heap → Res) :
    evL (cx ρ) call yc false 4 lim k (Code.at [1, 1, 1, 1, 1, 1, 1, 0, 1, 0, 0, 1, 0, 0, 1, 1, 1, 1, 1, 1] c4) (sp 156 [(0, x0), (1, x1), (5, x5), (6, x6), (7, x7), (8, x8), (9, x9), (10, x10)]) H (kk (some [0, 1, 5, 6, 7, 8, 9]) kn [(1, (some [0, 1, 5, 6, 7, 8, 9]), k1), (0, (some [0, 1, 5, 6, 7, 8]), k0)] R [4]) = N4_8 ρ call yc lim k x0 x1 x5 x6 x7 x8 x9 x10 H (fun x6 x7 x8 x9 H => kn (sp 156 [(0, x0), (1, x1), (5, x5), (6, x6), (7, x7), (8, x8), (9, x9)]) H) := by
  rw [evL_X, N4_8_x]
  simp only [← evL_X, N4_8, N4_9_eq]
noncomputable def N4_7 (ρ : Addr → Option Value) (call : CallF) (yc : YieldF) (lim k : Nat) (x0 x1 x5 x6 x7 x8 x9 x10 : AV) (H : Heap) (kn : AV → AV → AV → AV → Heap → Res) : Res :=
  purK (addA 1 x5) fun x56_1 =>
  purK (ld1 ρ H x56_1) fun x57_1 =>
  purK (addA 1 x10) fun x58_1 =>
  purK (ld1 ρ H x58_1) fun x59_1 =>
  purK (binA Tryz.prog H .add 3 x57_1 x59_1) fun x60_1 =>
  purK (addA 1 x5) fun x61_1 =>
  effK H (stA lim H 1 x61_1 x60_1) fun _ H =>
  purK (addA 2 x5) fun x62_1 =>
  purK (ld1 ρ H x62_1) fun x63_1 =>
  purK (addA 2 x10) fun x64_1 =>
  purK (ld1 ρ H x64_1) fun x65_1 =>
  purK (binA Tryz.prog H .add 3 x63_1 x65_1) fun x66_1 =>
  purK (addA 2 x5) fun x67_1 =>
  effK H (stA lim H 1 x67_1 x66_1) fun _ H =>
  purK (addA 3 x5) fun x68_1 =>
  purK (ld1 ρ H x68_1) fun x69_1 =>
  purK (addA 3 x10) fun x70_1 =>
  purK (ld1 ρ H x70_1) fun x71_1 =>
  purK (binA Tryz.prog H .add 3 x69_1 x71_1) fun x72_1 =>
  purK (addA 3 x5) fun x73_1 =>
  effK H (stA lim H 1 x73_1 x72_1) fun _ H =>
  purK (addA 4 x5) fun x74_1 =>
  purK (ld1 ρ H x74_1) fun x75_1 =>
  purK (addA 4 x10) fun x76_1 =>
  purK (ld1 ρ H x76_1) fun x77_1 =>
  purK (binA Tryz.prog H .add 3 x75_1 x77_1) fun x78_1 =>
  purK (addA 4 x5) fun x79_1 =>
  effK H (stA lim H 1 x79_1 x78_1) fun _ H =>
  N4_8 ρ call yc lim k x0 x1 x5 x6 x7 x8 x9 x10 H kn
theorem N4_7_x (ρ : Addr → Option Value) (call : CallF) (yc : YieldF) (lim k : Nat) (J : CodeF) (x0 x1 x5 x6 x7 x8 x9 x10 : AV) (H : Heap) (kn : KS) (k1 : KS) (k0 : KS) (R : List AV → Heap → Res) :
    evX (cx ρ) call yc false 4 lim k J (Code.at [1, 1, 1, 1, 1, 1, 1, 0, 1, 0, 0, 1, 0, 0, 1, 1] c4) (sp 156 [(0, x0), (1, x1), (5, x5), (6, x6), (7, x7), (8, x8), (9, x9), (10, x10)]) H (kk (some [0, 1, 5, 6, 7, 8, 9]) kn [(1, (some [0, 1, 5, 6, 7, 8, 9]), k1), (0, (some [0, 1, 5, 6, 7, 8]), k0)] R [4]) =
  purK (addA 1 x5) fun x56_1 =>
  purK (ld1 ρ H x56_1) fun x57_1 =>
  purK (addA 1 x10) fun x58_1 =>
  purK (ld1 ρ H x58_1) fun x59_1 =>
  purK (binA Tryz.prog H .add 3 x57_1 x59_1) fun x60_1 =>
  purK (addA 1 x5) fun x61_1 =>
  effK H (stA lim H 1 x61_1 x60_1) fun _ H =>
  purK (addA 2 x5) fun x62_1 =>
  purK (ld1 ρ H x62_1) fun x63_1 =>
  purK (addA 2 x10) fun x64_1 =>
  purK (ld1 ρ H x64_1) fun x65_1 =>
  purK (binA Tryz.prog H .add 3 x63_1 x65_1) fun x66_1 =>
  purK (addA 2 x5) fun x67_1 =>
  effK H (stA lim H 1 x67_1 x66_1) fun _ H =>
  purK (addA 3 x5) fun x68_1 =>
  purK (ld1 ρ H x68_1) fun x69_1 =>
  purK (addA 3 x10) fun x70_1 =>
  purK (ld1 ρ H x70_1) fun x71_1 =>
  purK (binA Tryz.prog H .add 3 x69_1 x71_1) fun x72_1 =>
  purK (addA 3 x5) fun x73_1 =>
  effK H (stA lim H 1 x73_1 x72_1) fun _ H =>
  purK (addA 4 x5) fun x74_1 =>
  purK (ld1 ρ H x74_1) fun x75_1 =>
  purK (addA 4 x10) fun x76_1 =>
  purK (ld1 ρ H x76_1) fun x77_1 =>
  purK (binA Tryz.prog H .add 3 x75_1 x77_1) fun x78_1 =>
  purK (addA 4 x5) fun x79_1 =>
  effK H (stA lim H 1 x79_1 x78_1) fun _ H =>
  J (Code.at [1, 1, 1, 1, 1, 1, 1, 0, 1, 0, 0, 1, 0, 0, 1, 1, 1, 1, 1, 1] c4) (sp 156 [(0, x0), (1, x1), (5, x5), (6, x6), (7, x7), (8, x8), (9, x9), (10, x10)]) H (kk (some [0, 1, 5, 6, 7, 8, 9]) kn [(1, (some [0, 1, 5, 6, 7, 8, 9]), k1), (0, (some [0, 1, 5, 6, 7, 8]), k0)] R [4]) := by
  kernel_rfl
theorem N4_7_eq (ρ : Addr → Option Value) (call : CallF) (yc : YieldF) (lim k : Nat) (x0 x1 x5 x6 x7 x8 x9 x10 : AV) (H : Heap) (kn : KS) (k1 : KS) (k0 : KS) (R : List AV → Heap → Res) :
    evL (cx ρ) call yc false 4 lim k (Code.at [1, 1, 1, 1, 1, 1, 1, 0, 1, 0, 0, 1, 0, 0, 1, 1] c4) (sp 156 [(0, x0), (1, x1), (5, x5), (6, x6), (7, x7), (8, x8), (9, x9), (10, x10)]) H (kk (some [0, 1, 5, 6, 7, 8, 9]) kn [(1, (some [0, 1, 5, 6, 7, 8, 9]), k1), (0, (some [0, 1, 5, 6, 7, 8]), k0)] R [4]) = N4_7 ρ call yc lim k x0 x1 x5 x6 x7 x8 x9 x10 H (fun x6 x7 x8 x9 H => kn (sp 156 [(0, x0), (1, x1), (5, x5), (6, x6), (7, x7), (8, x8), (9, x9)]) H) := by
  rw [evL_X, N4_7_x]
  simp only [← evL_X, N4_7, N4_8_eq]
noncomputable def N4_10 (ρ : Addr → Option Value) (call : CallF) (yc : YieldF) (lim k : Nat) (x0 x1 x5 x6 x7 x8 x9 x10 x55 : AV) (H : Heap) (kn : AV → AV → AV → AV → AV → Heap → Res) (R : List AV → Heap → Res) : Res :=
  condK x55
  (
    R [(.bool true)] H)
  (
    kn x6 x7 x8 x9 x10 H)
theorem N4_10_eq (ρ : Addr → Option Value) (call : CallF) (yc : YieldF) (lim k : Nat) (x0 x1 x5 x6 x7 x8 x9 x10 x55 : AV) (H : Heap) (kn : KS) (k1 : KS) (k0 : KS) (R : List AV → Heap → Res) :
    evL (cx ρ) call yc false 4 lim k (Code.at [1, 1, 1, 1, 1, 1, 1, 0, 1, 0, 0, 1, 0, 0, 1, 0, 1] c4) (sp 156 [(0, x0), (1, x1), (5, x5), (6, x6), (7, x7), (8, x8), (9, x9), (10, x10), (55, x55)]) H (kk (some [0, 1, 5, 6, 7, 8, 9, 10]) kn [(1, (some [0, 1, 5, 6, 7, 8, 9]), k1), (0, (some [0, 1, 5, 6, 7, 8]), k0)] R [4]) = N4_10 ρ call yc lim k x0 x1 x5 x6 x7 x8 x9 x10 x55 H (fun x6 x7 x8 x9 x10 H => kn (sp 156 [(0, x0), (1, x1), (5, x5), (6, x6), (7, x7), (8, x8), (9, x9), (10, x10)]) H) R := by
  kernel_rfl
noncomputable def N4_5b (ρ : Addr → Option Value) (call : CallF) (yc : YieldF) (lim k : Nat) (x0 x1 x5 x6 x7 x8 x9 : AV) (H : Heap) (kn : AV → AV → AV → AV → Heap → Res) (k0 : AV → AV → AV → AV → AV → AV → Heap → Res) (R : List AV → Heap → Res) : Res :=
  purK (lenS x0) fun x26_1 =>
  purK (binA Tryz.prog H .lss 3 x9 x26_1) fun x27_1 =>
  condK x27_1
  (
    purK (ixS 5 x0 x9) fun x32_1 =>
    purK (ldN ρ H 5 x32_1) fun x33_1 =>
    effK H (some (.ptr H.sz 0 0, .new (newCells 30 false [.int .i64 0, .int .i64 0, .int .i64 0, .int .i64 0, .int .i64 0]))) fun x10_1 H =>
    effK H (stA lim H 5 x10_1 x33_1) fun _ H =>
    purK (addA 1 x10_1) fun x34_1 =>
    purK (ld1 ρ H x34_1) fun x35_1 =>
    purK (addA 2 x10_1) fun x36_1 =>
    purK (ld1 ρ H x36_1) fun x37_1 =>
    purK (addA 3 x10_1) fun x38_1 =>
    purK (ld1 ρ H x38_1) fun x39_1 =>
    purK (addA 4 x10_1) fun x40_1 =>
    purK (ld1 ρ H x40_1) fun x41_1 =>
    purK (foldsA maxA [x35_1, x37_1, x39_1, x41_1]) fun x42_1 =>
    purK (binA Tryz.prog H .gtr 3 x42_1 (.int .i64 1099511627776)) fun x43_1 =>
    purK (gPur (wantV x43_1 false) (addA 1 x10_1)) fun x45_1 =>
    purK (gPur (wantV x43_1 false) (ld1 ρ H x45_1)) fun x46_1 =>
    purK (gPur (wantV x43_1 false) (addA 2 x10_1)) fun x47_1 =>
    purK (gPur (wantV x43_1 false) (ld1 ρ H x47_1)) fun x48_1 =>
    purK (gPur (wantV x43_1 false) (addA 3 x10_1)) fun x49_1 =>
    purK (gPur (wantV x43_1 false) (ld1 ρ H x49_1)) fun x50_1 =>
    purK (gPur (wantV x43_1 false) (addA 4 x10_1)) fun x51_1 =>
    purK (gPur (wantV x43_1 false) (ld1 ρ H x51_1)) fun x52_1 =>
    purK (gPur (wantV x43_1 false) (foldsA minA [x46_1, x48_1, x50_1, x52_1])) fun x53_1 =>
    purK (gPur (wantV x43_1 false) (binA Tryz.prog H .lss 3 x53_1 (.int .i64 (-1099511627776)))) fun x54_1 =>
    purK (pickA x43_1 (.bool true) x54_1) fun x55_1 =>
    N4_10 ρ call yc lim k x0 x1 x5 x6 x7 x8 x9 x10_1 x55_1 H (fun x6_1 x7_1 x8_1 x9_1 x10_2 H =>
      N4_7 ρ call yc lim k x0 x1 x5 x6_1 x7_1 x8_1 x9_1 x10_2 H (fun x6_2 x7_2 x8_2 x9_2 H =>
        N4_6 ρ call yc lim k x0 x1 x5 x6_2 x7_2 x8_2 x9_2 H kn)) R)
  (
    k0 x0 x1 x5 x6 x7 x8 H)
theorem N4_5b_x (ρ : Addr → Option Value) (call : CallF) (yc : YieldF) (lim k : Nat) (J : CodeF) (x0 x1 x5 x6 x7 x8 x9 : AV) (H : Heap) (kn : KS) (k0 : KS) (R : List AV → Heap → Res) :
    evX (cx ρ) call yc false 4 lim k J (Code.at [1, 1, 1, 1, 1, 1, 1, 0, 1, 0, 0] c4) (sp 156 [(0, x0), (1, x1), (5, x5), (6, x6), (7, x7), (8, x8), (9, x9)]) H (kk (some [0, 1, 5, 6, 7, 8, 9]) kn [(0, (some [0, 1, 5, 6, 7, 8]), k0)] R [4]) =
  purK (lenS x0) fun x26_1 =>
  purK (binA Tryz.prog H .lss 3 x9 x26_1) fun x27_1 =>
  condK x27_1
  (
    purK (ixS 5 x0 x9) fun x32_1 =>
    purK (ldN ρ H 5 x32_1) fun x33_1 =>
    effK H (some (.ptr H.sz 0 0, .new (newCells 30 false [.int .i64 0, .int .i64 0, .int .i64 0, .int .i64 0, .int .i64 0]))) fun x10_1 H =>
    effK H (stA lim H 5 x10_1 x33_1) fun _ H =>
    purK (addA 1 x10_1) fun x34_1 =>
    purK (ld1 ρ H x34_1) fun x35_1 =>
    purK (addA 2 x10_1) fun x36_1 =>
    purK (ld1 ρ H x36_1) fun x37_1 =>
    purK (addA 3 x10_1) fun x38_1 =>
    purK (ld1 ρ H x38_1) fun x39_1 =>
    purK (addA 4 x10_1) fun x40_1 =>
    purK (ld1 ρ H x40_1) fun x41_1 =>
    purK (foldsA maxA [x35_1, x37_1, x39_1, x41_1]) fun x42_1 =>
    purK (binA Tryz.prog H .gtr 3 x42_1 (.int .i64 1099511627776)) fun x43_1 =>
    purK (gPur (wantV x43_1 false) (addA 1 x10_1)) fun x45_1 =>
    purK (gPur (wantV x43_1 false) (ld1 ρ H x45_1)) fun x46_1 =>
    purK (gPur (wantV x43_1 false) (addA 2 x10_1)) fun x47_1 =>
    purK (gPur (wantV x43_1 false) (ld1 ρ H x47_1)) fun x48_1 =>
    purK (gPur (wantV x43_1 false) (addA 3 x10_1)) fun x49_1 =>
    purK (gPur (wantV x43_1 false) (ld1 ρ H x49_1)) fun x50_1 =>
    purK (gPur (wantV x43_1 false) (addA 4 x10_1)) fun x51_1 =>
    purK (gPur (wantV x43_1 false) (ld1 ρ H x51_1)) fun x52_1 =>
    purK (gPur (wantV x43_1 false) (foldsA minA [x46_1, x48_1, x50_1, x52_1])) fun x53_1 =>
    purK (gPur (wantV x43_1 false) (binA Tryz.prog H .lss 3 x53_1 (.int .i64 (-1099511627776)))) fun x54_1 =>
    purK (pickA x43_1 (.bool true) x54_1) fun x55_1 =>
    J (Code.at [1, 1, 1, 1, 1, 1, 1, 0, 1, 0, 0, 1, 0, 0, 1, 0, 1] c4) (sp 156 [(0, x0), (1, x1), (5, x5), (6, x6), (7, x7), (8, x8), (9, x9), (10, x10_1), (55, x55_1)]) H (kk (some [0, 1, 5, 6, 7, 8, 9, 10]) (fun s H => J (Code.at [1, 1, 1, 1, 1, 1, 1, 0, 1, 0, 0, 1, 0, 0, 1, 1] c4) s H (kk (some [0, 1, 5, 6, 7, 8, 9]) (fun s H => J (Code.at [1, 1, 1, 1, 1, 1, 1, 0, 1, 0, 0, 1, 1] c4) s H (kk (some [0, 1, 5, 6, 7, 8, 9]) kn [(0, (some [0, 1, 5, 6, 7, 8]), k0)] R [4])) [(1, (some [0, 1, 5, 6, 7, 8, 9]), (fun s H => J (Code.at [1, 1, 1, 1, 1, 1, 1, 0, 1, 0, 0, 1, 1] c4) s H (kk (some [0, 1, 5, 6, 7, 8, 9]) kn [(0, (some [0, 1, 5, 6, 7, 8]), k0)] R [4]))), (0, (some [0, 1, 5, 6, 7, 8]), k0)] R [4])) [(1, (some [0, 1, 5, 6, 7, 8, 9]), (fun s H => J (Code.at [1, 1, 1, 1, 1, 1, 1, 0, 1, 0, 0, 1, 1] c4) s H (kk (some [0, 1, 5, 6, 7, 8, 9]) kn [(0, (some [0, 1, 5, 6, 7, 8]), k0)] R [4]))), (0, (some [0, 1, 5, 6, 7, 8]), k0)] R [4]))
  (
    k0 (sp 156 [(0, x0), (1, x1), (5, x5), (6, x6), (7, x7), (8, x8)]) H) := by
  kernel_rfl
theorem N4_5b_eq (ρ : Addr → Option Value) (call : CallF) (yc : YieldF) (lim k : Nat) (x0 x1 x5 x6 x7 x8 x9 : AV) (H : Heap) (kn : KS) (k0 : KS) (R : List AV → Heap → Res) :
    evL (cx ρ) call yc false 4 lim k (Code.at [1, 1, 1, 1, 1, 1, 1, 0, 1, 0, 0] c4) (sp 156 [(0, x0), (1, x1), (5, x5), (6, x6), (7, x7), (8, x8), (9, x9)]) H (kk (some [0, 1, 5, 6, 7, 8, 9]) kn [(0, (some [0, 1, 5, 6, 7, 8]), k0)] R [4]) = N4_5b ρ call yc lim k x0 x1 x5 x6 x7 x8 x9 H (fun x6 x7 x8 x9 H => kn (sp 156 [(0, x0), (1, x1), (5, x5), (6, x6), (7, x7), (8, x8), (9, x9)]) H) (fun x0 x1 x5 x6 x7 x8 H => k0 (sp 156 [(0, x0), (1, x1), (5, x5), (6, x6), (7, x7), (8, x8)]) H) R := by
  rw [evL_X, N4_5b_x]
  simp only [← evL_X, N4_5b, N4_10_eq, N4_6_eq, N4_7_eq]
noncomputable def N4_5 (ρ : Addr → Option Value) (call : CallF) (yc : YieldF) (lim k : Nat) (x0 x1 x5 x6 x7 x8 x9 : AV) (H : Heap) (k0 : AV → AV → AV → AV → AV → AV → Heap → Res) (R : List AV → Heap → Res) : Res :=
  loopL (fun (x : AV × AV × AV × AV) H kn => N4_5b ρ call yc lim k x0 x1 x5 x.1 x.2.1 x.2.2.1 x.2.2.2 H (fun x6 x7 x8 x9 H => kn (x6, x7, x8, x9) H) k0 R) k (x6, x7, x8, x9) H
theorem N4_5_eq (ρ : Addr → Option Value) (call : CallF) (yc : YieldF) (lim k : Nat) (x0 x1 x5 x6 x7 x8 x9 : AV) (H : Heap) (kn : KS) (k0 : KS) (R : List AV → Heap → Res) :
    evL (cx ρ) call yc false 4 lim k (Code.at [1, 1, 1, 1, 1, 1, 1, 0, 1, 0] c4) (sp 156 [(0, x0), (1, x1), (5, x5), (6, x6), (7, x7), (8, x8), (9, x9)]) H (kk (some [0, 1, 5, 6, 7, 8]) kn [(0, (some [0, 1, 5, 6, 7, 8]), k0)] R [4]) = N4_5 ρ call yc lim k x0 x1 x5 x6 x7 x8 x9 H (fun x0 x1 x5 x6 x7 x8 H => k0 (sp 156 [(0, x0), (1, x1), (5, x5), (6, x6), (7, x7), (8, x8)]) H) R := by
  have e : Code.at [1, 1, 1, 1, 1, 1, 1, 0, 1, 0] c4 = .loop (Code.at [1, 1, 1, 1, 1, 1, 1, 0, 1, 0, 0] c4) := by kernel_rfl
  rw [e]
  unfold N4_5
  exact loop_node [0, 1, 5, 6, 7, 8, 9] (fun x : AV × AV × AV × AV => (sp 156 [(0, x0), (1, x1), (5, x5), (6, (x.1)), (7, (x.2.1)), (8, (x.2.2.1)), (9, (x.2.2.2))])) (fun (x : AV × AV × AV × AV) H kn => N4_5b ρ call yc lim k x0 x1 x5 x.1 x.2.1 x.2.2.1 x.2.2.2 H (fun x6 x7 x8 x9 H => kn (x6, x7, x8, x9) H) (fun x0 x1 x5 x6 x7 x8 H => k0 (sp 156 [(0, x0), (1, x1), (5, x5), (6, x6), (7, x7), (8, x8)]) H) R) (by kernel_rfl) (fun x => by kernel_rfl) (fun x H kn => N4_5b_eq ρ call yc lim k x0 x1 x5 (x.1) (x.2.1) (x.2.2.1) (x.2.2.2) H kn k0 R) (x6, x7, x8, x9) (sp 156 [(0, x0), (1, x1), (5, x5), (6, x6), (7, x7), (8, x8), (9, x9)]) H (by kernel_rfl)
noncomputable def N4_4 (ρ : Addr → Option Value) (call : CallF) (yc : YieldF) (lim k : Nat) (x0 x1 x5 x6 x7 x8 x9 : AV) (H : Heap) (kn : AV → AV → AV → AV → AV → AV → Heap → Res) (R : List AV → Heap → Res) : Res :=
  N4_5 ρ call yc lim k x0 x1 x5 x6 x7 x8 x9 H kn R
theorem N4_4_x (ρ : Addr → Option Value) (call : CallF) (yc : YieldF) (lim k : Nat) (J : CodeF) (x0 x1 x5 x6 x7 x8 x9 : AV) (H : Heap) (kn : KS) (R : List AV → Heap → Res) :
    evX (cx ρ) call yc false 4 lim k J (Code.at [1, 1, 1, 1, 1, 1, 1, 0, 1] c4) (sp 156 [(0, x0), (1, x1), (5, x5), (6, x6), (7, x7), (8, x8), (9, x9)]) H (kk (some [0, 1, 5, 6, 7, 8]) kn [] R [4]) =
  J (Code.at [1, 1, 1, 1, 1, 1, 1, 0, 1, 0] c4) (sp 156 [(0, x0), (1, x1), (5, x5), (6, x6), (7, x7), (8, x8), (9, x9)]) H (kk (some [0, 1, 5, 6, 7, 8]) kn [(0, (some [0, 1, 5, 6, 7, 8]), kn)] R [4]) := by
  kernel_rfl
theorem N4_4_eq (ρ : Addr → Option Value) (call : CallF) (yc : YieldF) (lim k : Nat) (x0 x1 x5 x6 x7 x8 x9 : AV) (H : Heap) (kn : KS) (R : List AV → Heap → Res) :
    evL (cx ρ) call yc false 4 lim k (Code.at [1, 1, 1, 1, 1, 1, 1, 0, 1] c4) (sp 156 [(0, x0), (1, x1), (5, x5), (6, x6), (7, x7), (8, x8), (9, x9)]) H (kk (some [0, 1, 5, 6, 7, 8]) kn [] R [4]) = N4_4 ρ call yc lim k x0 x1 x5 x6 x7 x8 x9 H (fun x0 x1 x5 x6 x7 x8 H => kn (sp 156 [(0, x0), (1, x1), (5, x5), (6, x6), (7, x7), (8, x8)]) H) R := by
  rw [evL_X, N4_4_x]
  simp only [← evL_X, N4_4, N4_5_eq]
noncomputable def L4 (ρ : Addr → Option Value) (call : CallF) (yc : YieldF) (lim k : Nat) (x0 x1 : AV) (H : Heap) : Res :=
  resK (call lim 5 [] H) fun x15 H =>
  purK (unA .not x15) fun x16 =>
  condK x16
  (
    retK [(.bool false)] H)
  (
    purK (lenS x0) fun x18 =>
    purK (binA Tryz.prog H .gtr 3 x18 (.int .i64 100)) fun x19 =>
    condK x19
    (
      retK [(.bool true)] H)
    (
      purK (lenS x0) fun x21 =>
      purK (bldA [.int .i64 0, .int .i64 0, .int .i64 0, .int .i64 0, .int .i64 0] [(0, 1, x21)]) fun x22 =>
      effK H (some (.ptr H.sz 0 0, .new (newCells 30 false [.int .i64 0, .int .i64 0, .int .i64 0, .int .i64 0, .int .i64 0]))) fun x5 H =>
      effK H (stA lim H 5 x5 x22) fun _ H =>
      effK H (bldS H 3 1 [.int .i64 0] 0 []) fun x23 H =>
      N4_4 ρ call yc lim k x0 x1 x5 (.int .i64 0) (.int .i64 0) x23 (.int .i64 0) H (fun x0_1 x1_1 x5_1 x6 x7 x8 H =>
        N4_1 ρ call yc lim k x0_1 x1_1 x5_1 x6 x7 x8 H retK) retK))
theorem L4_x (ρ : Addr → Option Value) (call : CallF) (yc : YieldF) (lim k : Nat) (J : CodeF) (x0 x1 : AV) (H : Heap) :
    evX (cx ρ) call yc false 4 lim k J c4 [x0, x1, (.tup []), (.tup []), (.tup []), (.tup []), (.tup []), (.tup []), (.tup []), (.tup []), (.tup []), (.tup []), (.tup []), (.tup []), (.tup []), (.tup []), (.tup []), (.tup []), (.tup []), (.tup []), (.tup []), (.tup []), (.tup []), (.tup []), (.tup []), (.tup []), (.tup []), (.tup []), (.tup []), (.tup []), (.tup []), (.tup []), (.tup []), (.tup []), (.tup []), (.tup []), (.tup []), (.tup []), (.tup []), (.tup []), (.tup []), (.tup []), (.tup []), (.tup []), (.tup []), (.tup []), (.tup []), (.tup []), (.tup []), (.tup []), (.tup []), (.tup []), (.tup []), (.tup []), (.tup []), (.tup []), (.tup []), (.tup []), (.tup []), (.tup []), (.tup []), (.tup []), (.tup []), (.tup []), (.tup []), (.tup []), (.tup []), (.tup []), (.tup []), (.tup []), (.tup []), (.tup []), (.tup []), (.tup []), (.tup []), (.tup []), (.tup []), (.tup []), (.tup []), (.tup []), (.tup []), (.tup []), (.tup []), (.tup []), (.tup []), (.tup []), (.tup []), (.tup []), (.tup []), (.tup []), (.tup []), (.tup []), (.tup []), (.tup []), (.tup []), (.tup []), (.tup []), (.tup []), (.tup []), (.tup []), (.tup []), (.tup []), (.tup []), (.tup []), (.tup []), (.tup []), (.tup []), (.tup []), (.tup []), (.tup []), (.tup []), (.tup []), (.tup []), (.tup []), (.tup []), (.tup []), (.tup []), (.tup []), (.tup []), (.tup []), (.tup []), (.tup []), (.tup []), (.tup []), (.tup []), (.tup []), (.tup []), (.tup []), (.tup []), (.tup []), (.tup []), (.tup []), (.tup []), (.tup []), (.tup []), (.tup []), (.tup []), (.tup []), (.tup []), (.tup []), (.tup []), (.tup []), (.tup []), (.tup []), (.tup []), (.tup []), (.tup []), (.tup []), (.tup []), (.tup []), (.tup []), (.tup []), (.tup []), (.tup []), (.tup []), (.tup [])] H (kk none (fun s H => retK (([4] : List Nat).map fun t => s.getD t (.tup [])) H) [] retK [4]) =
  resK (call lim 5 [] H) fun x15 H =>
  purK (unA .not x15) fun x16 =>
  condK x16
  (
    retK [(.bool false)] H)
  (
    purK (lenS x0) fun x18 =>
    purK (binA Tryz.prog H .gtr 3 x18 (.int .i64 100)) fun x19 =>
    condK x19
    (
      retK [(.bool true)] H)
    (
      purK (lenS x0) fun x21 =>
      purK (bldA [.int .i64 0, .int .i64 0, .int .i64 0, .int .i64 0, .int .i64 0] [(0, 1, x21)]) fun x22 =>
      effK H (some (.ptr H.sz 0 0, .new (newCells 30 false [.int .i64 0, .int .i64 0, .int .i64 0, .int .i64 0, .int .i64 0]))) fun x5 H =>
      effK H (stA lim H 5 x5 x22) fun _ H =>
      effK H (bldS H 3 1 [.int .i64 0] 0 []) fun x23 H =>
      J (Code.at [1, 1, 1, 1, 1, 1, 1, 0, 1] c4) (sp 156 [(0, x0), (1, x1), (5, x5), (6, (.int .i64 0)), (7, (.int .i64 0)), (8, x23), (9, (.int .i64 0))]) H (kk (some [0, 1, 5, 6, 7, 8]) (fun s H => J (Code.at [1, 1, 1, 1, 1, 1, 1, 1] c4) s H (kk none (fun s H => retK (([4] : List Nat).map fun t => s.getD t (.tup [])) H) [] retK [4])) [] retK [4]))) := by
  kernel_rfl
theorem G4 (ρ : Addr → Option Value) (call : CallF) (yc : YieldF) (lim k : Nat) (x0 x1 : AV) (H : Heap) :
    evL (cx ρ) call yc false 4 lim k c4 [x0, x1, (.tup []), (.tup []), (.tup []), (.tup []), (.tup []), (.tup []), (.tup []), (.tup []), (.tup []), (.tup []), (.tup []), (.tup []), (.tup []), (.tup []), (.tup []), (.tup []), (.tup []), (.tup []), (.tup []), (.tup []), (.tup []), (.tup []), (.tup []), (.tup []), (.tup []), (.tup []), (.tup []), (.tup []), (.tup []), (.tup []), (.tup []), (.tup []), (.tup []), (.tup []), (.tup []), (.tup []), (.tup []), (.tup []), (.tup []), (.tup []), (.tup []), (.tup []), (.tup []), (.tup []), (.tup []), (.tup []), (.tup []), (.tup []), (.tup []), (.tup []), (.tup []), (.tup []), (.tup []), (.tup []), (.tup []), (.tup []), (.tup []), (.tup []), (.tup []), (.tup []), (.tup []), (.tup []), (.tup []), (.tup []), (.tup []), (.tup []), (.tup []), (.tup []), (.tup []), (.tup []), (.tup []), (.tup []), (.tup []), (.tup []), (.tup []), (.tup []), (.tup []), (.tup []), (.tup []), (.tup []), (.tup []), (.tup []), (.tup []), (.tup []), (.tup []), (.tup []), (.tup []), (.tup []), (.tup []), (.tup []), (.tup []), (.tup []), (.tup []), (.tup []), (.tup []), (.tup []), (.tup []), (.tup []), (.tup []), (.tup []), (.tup []), (.tup []), (.tup []), (.tup []), (.tup []), (.tup []), (.tup []), (.tup []), (.tup []), (.tup []), (.tup []), (.tup []), (.tup []), (.tup []), (.tup []), (.tup []), (.tup []), (.tup []), (.tup []), (.tup []), (.tup []), (.tup []), (.tup []), (.tup []), (.tup []), (.tup []), (.tup []), (.tup []), (.tup []), (.tup []), (.tup []), (.tup []), (.tup []), (.tup []), (.tup []), (.tup []), (.tup []), (.tup []), (.tup []), (.tup []), (.tup []), (.tup []), (.tup []), (.tup []), (.tup []), (.tup []), (.tup []), (.tup []), (.tup []), (.tup []), (.tup []), (.tup []), (.tup []), (.tup [])] H (kk none (fun s H => retK (([4] : List Nat).map fun t => s.getD t (.tup [])) H) [] retK [4]) = L4 ρ call yc lim k x0 x1 H := by
  rw [evL_X, L4_x]
  simp only [← evL_X, L4, N4_1_eq, N4_4_eq]
theorem E4 (ρ : Addr → Option Value) (k lim : Nat) (x0 x1 : AV) (H : Heap) : evCall (cx ρ) (k + 1) lim 4 [x0, x1] H = L4 ρ (evCall (cx ρ) k) (evCY (cx ρ) k).2 lim k x0 x1 H := by
  rw [evCall_body (cx ρ) k lim 4 _ H Tryz.f4 c4 [4] (by kernel_rfl) (by kernel_rfl) (by kernel_rfl) (by kernel_rfl) (by kernel_rfl)]
  exact G4 ρ (evCall (cx ρ) k) (evCY (cx ρ) k).2 lim k x0 x1 H
-- haycroft/haycroftlaw36.awake
noncomputable def c5 : Code := Code.of Tryz.prog 5
noncomputable def L5 (ρ : Addr → Option Value) (call : CallF) (yc : YieldF) (lim k : Nat) (H : Heap) : Res :=
  resK (call lim 13 [] H) fun x6 H =>
  resK (call lim 14 [] H) fun x7 H =>
  resK (call lim 12 [x6, x7] H) fun x8 H =>
  purK (extA 0 x8) fun x9 =>
  purK (extA 1 x8) fun x10 =>
  resK (call lim 6 [x9] H) fun x13 H =>
  purK (extA 0 x13) fun x14 =>
  purK (extA 1 x13) fun x15 =>
  purK (binA Tryz.prog H .eql 24 x10 (.int .i64 0)) fun x17 =>
  purK (gPur (wantV x17 true) (some x15)) fun x19 =>
  purK (gPur (wantV x17 true) (binA Tryz.prog H .eql 24 x19 (.int .i64 0))) fun x20 =>
  purK (pickA x17 x20 (.bool false)) fun x21 =>
  purK (gPur (wantV x21 true) (some x14)) fun x23 =>
  purK (gPur (wantV x21 true) (lenS x23)) fun x24 =>
  purK (gPur (wantV x21 true) (binA Tryz.prog H .eql 3 x24 (.int .i64 1))) fun x25 =>
  purK (pickA x21 x25 (.bool false)) fun x26 =>
  purK (gPur (wantV x26 true) (some x14)) fun x28 =>
  purK (gPur (wantV x26 true) (ixS 5 x28 (.int .i64 0))) fun x29 =>
  purK (gPur (wantV x26 true) (addA 4 x29)) fun x30 =>
  purK (gPur (wantV x26 true) (ld1 ρ H x30)) fun x31 =>
  purK (gPur (wantV x26 true) (binA Tryz.prog H .eql 3 x31 (.int .i64 32))) fun x32 =>
  purK (pickA x26 x32 (.bool false)) fun x33 =>
  retK [x33] H
theorem G5 (ρ : Addr → Option Value) (call : CallF) (yc : YieldF) (lim k : Nat) (H : Heap) :
    evL (cx ρ) call yc false 5 lim k c5 [(.tup []), (.tup []), (.tup []), (.tup []), (.tup []), (.tup []), (.tup []), (.tup []), (.tup []), (.tup []), (.tup []), (.tup []), (.tup []), (.tup []), (.tup []), (.tup []), (.tup []), (.tup []), (.tup []), (.tup []), (.tup []), (.tup []), (.tup []), (.tup []), (.tup []), (.tup []), (.tup []), (.tup []), (.tup []), (.tup []), (.tup []), (.tup []), (.tup []), (.tup [])] H (kk none (fun s H => retK (([0] : List Nat).map fun t => s.getD t (.tup [])) H) [] retK [0]) = L5 ρ call yc lim k H := by
  kernel_rfl
theorem E5 (ρ : Addr → Option Value) (k lim : Nat) (H : Heap) : evCall (cx ρ) (k + 1) lim 5 [] H = L5 ρ (evCall (cx ρ) k) (evCY (cx ρ) k).2 lim k H := by
  rw [evCall_body (cx ρ) k lim 5 _ H Tryz.f5 c5 [0] (by kernel_rfl) (by kernel_rfl) (by kernel_rfl) (by kernel_rfl) (by kernel_rfl)]
  exact G5 ρ (evCall (cx ρ) k) (evCY (cx ρ) k).2 lim k H
-- haycroft/occupy.Uses
noncomputable def c6 : Code := Code.of Tryz.prog 6
noncomputable def N6_1 (ρ : Addr → Option Value) (call : CallF) (yc : YieldF) (lim k : Nat) (x4 : AV) (H : Heap) (R : List AV → Heap → Res) : Res :=
  purK (nilChkA x4) fun x43_1 =>
  purK (addA 1 x43_1) fun x44_1 =>
  purK (ld1 ρ H x44_1) fun x45_1 =>
  R [x45_1, (.int .i64 0)] H
theorem N6_1_eq (ρ : Addr → Option Value) (call : CallF) (yc : YieldF) (lim k : Nat) (x4 : AV) (H : Heap) (R : List AV → Heap → Res) :
    evL (cx ρ) call yc false 6 lim k (Code.at [1, 1, 1, 1] c6) (sp 46 [(4, x4)]) H (kk none (fun s H => R (([2, 3] : List Nat).map fun t => s.getD t (.tup [])) H) [] R [2, 3]) = N6_1 ρ call yc lim k x4 H R := by
  kernel_rfl
noncomputable def N6_4 (ρ : Addr → Option Value) (call : CallF) (yc : YieldF) (lim k : Nat) (x4 x21 x22 x23 : AV) (H : Heap) (kn : AV → Heap → Res) : Res :=
  purK (binA Tryz.prog H .add 3 x23 (.int .i64 1)) fun x41_1 =>
  kn x41_1 H
theorem N6_4_eq (ρ : Addr → Option Value) (call : CallF) (yc : YieldF) (lim k : Nat) (x4 x21 x22 x23 : AV) (H : Heap) (kn : KS) (k1 : KS) (R : List AV → Heap → Res) :
    evL (cx ρ) call yc false 6 lim k (Code.at [1, 1, 1, 0, 1, 0, 0, 1, 1, 1] c6) (sp 46 [(4, x4), (21, x21), (22, x22), (23, x23)]) H (kk (some [4, 21, 22, 23]) kn [(1, (some [4]), k1)] R [2, 3]) = N6_4 ρ call yc lim k x4 x21 x22 x23 H (fun x23 H => kn (sp 46 [(4, x4), (21, x21), (22, x22), (23, x23)]) H) := by
  kernel_rfl
noncomputable def N6_3b (ρ : Addr → Option Value) (call : CallF) (yc : YieldF) (lim k : Nat) (x4 x21 x22 x23 : AV) (H : Heap) (kn : AV → Heap → Res) (k1 : AV → Heap → Res) (R : List AV → Heap → Res) : Res :=
  purK (binA Tryz.prog H .lss 3 x23 x22) fun x24_1 =>
  condK x24_1
  (
    purK (ixS 1 x21 x23) fun x25_1 =>
    purK (ld1 ρ H x25_1) fun x26_1 =>
    resK (call lim 19 [x26_1] H) fun x29_1 H =>
    purK (extA 0 x29_1) fun x30_1 =>
    purK (extA 1 x29_1) fun x31_1 =>
    effK H (some (.ptr H.sz 0 0, .new (newCells 54 false [.int .u64 0, .int .u64 0, .bool false]))) fun x7_1 H =>
    effK H (stA lim H 3 x7_1 x30_1) fun _ H =>
    purK (binA Tryz.prog H .neq 24 x31_1 (.int .i64 0)) fun x33_1 =>
    condK x33_1
    (
      R [.nils, (.int .i64 4)] H)
    (
      purK (addA 0 x7_1) fun x35_1 =>
      purK (ld1 ρ H x35_1) fun x36_1 =>
      resK (call lim 20 [x4, x36_1] H) fun x37_1 H =>
      purK (binA Tryz.prog H .neq 24 x37_1 (.int .i64 0)) fun x39_1 =>
      condK x39_1
      (
        R [.nils, x37_1] H)
      (
        N6_4 ρ call yc lim k x4 x21 x22 x23 H kn)))
  (
    k1 x4 H)
theorem N6_3b_x (ρ : Addr → Option Value) (call : CallF) (yc : YieldF) (lim k : Nat) (J : CodeF) (x4 x21 x22 x23 : AV) (H : Heap) (kn : KS) (k1 : KS) (R : List AV → Heap → Res) :
    evX (cx ρ) call yc false 6 lim k J (Code.at [1, 1, 1, 0, 1, 0, 0] c6) (sp 46 [(4, x4), (21, x21), (22, x22), (23, x23)]) H (kk (some [4, 21, 22, 23]) kn [(1, (some [4]), k1)] R [2, 3]) =
  purK (binA Tryz.prog H .lss 3 x23 x22) fun x24_1 =>
  condK x24_1
  (
    purK (ixS 1 x21 x23) fun x25_1 =>
    purK (ld1 ρ H x25_1) fun x26_1 =>
    resK (call lim 19 [x26_1] H) fun x29_1 H =>
    purK (extA 0 x29_1) fun x30_1 =>
    purK (extA 1 x29_1) fun x31_1 =>
    effK H (some (.ptr H.sz 0 0, .new (newCells 54 false [.int .u64 0, .int .u64 0, .bool false]))) fun x7_1 H =>
    effK H (stA lim H 3 x7_1 x30_1) fun _ H =>
    purK (binA Tryz.prog H .neq 24 x31_1 (.int .i64 0)) fun x33_1 =>
    condK x33_1
    (
      R [.nils, (.int .i64 4)] H)
    (
      purK (addA 0 x7_1) fun x35_1 =>
      purK (ld1 ρ H x35_1) fun x36_1 =>
      resK (call lim 20 [x4, x36_1] H) fun x37_1 H =>
      purK (binA Tryz.prog H .neq 24 x37_1 (.int .i64 0)) fun x39_1 =>
      condK x39_1
      (
        R [.nils, x37_1] H)
      (
        J (Code.at [1, 1, 1, 0, 1, 0, 0, 1, 1, 1] c6) (sp 46 [(4, x4), (21, x21), (22, x22), (23, x23)]) H (kk (some [4, 21, 22, 23]) kn [(1, (some [4]), k1)] R [2, 3]))))
  (
    k1 (sp 46 [(4, x4)]) H) := by
  kernel_rfl
theorem N6_3b_eq (ρ : Addr → Option Value) (call : CallF) (yc : YieldF) (lim k : Nat) (x4 x21 x22 x23 : AV) (H : Heap) (kn : KS) (k1 : KS) (R : List AV → Heap → Res) :
    evL (cx ρ) call yc false 6 lim k (Code.at [1, 1, 1, 0, 1, 0, 0] c6) (sp 46 [(4, x4), (21, x21), (22, x22), (23, x23)]) H (kk (some [4, 21, 22, 23]) kn [(1, (some [4]), k1)] R [2, 3]) = N6_3b ρ call yc lim k x4 x21 x22 x23 H (fun x23 H => kn (sp 46 [(4, x4), (21, x21), (22, x22), (23, x23)]) H) (fun x4 H => k1 (sp 46 [(4, x4)]) H) R := by
  rw [evL_X, N6_3b_x]
  simp only [← evL_X, N6_3b, N6_4_eq]
noncomputable def N6_3 (ρ : Addr → Option Value) (call : CallF) (yc : YieldF) (lim k : Nat) (x4 x21 x22 x23 : AV) (H : Heap) (k1 : AV → Heap → Res) (R : List AV → Heap → Res) : Res :=
  loopL (fun (x : AV) H kn => N6_3b ρ call yc lim k x4 x21 x22 x H (fun x23 H => kn x23 H) k1 R) k x23 H
theorem N6_3_eq (ρ : Addr → Option Value) (call : CallF) (yc : YieldF) (lim k : Nat) (x4 x21 x22 x23 : AV) (H : Heap) (kn : KS) (k1 : KS) (R : List AV → Heap → Res) :
    evL (cx ρ) call yc false 6 lim k (Code.at [1, 1, 1, 0, 1, 0] c6) (sp 46 [(4, x4), (21, x21), (22, x22), (23, x23)]) H (kk (some [4]) kn [(1, (some [4]), k1)] R [2, 3]) = N6_3 ρ call yc lim k x4 x21 x22 x23 H (fun x4 H => k1 (sp 46 [(4, x4)]) H) R := by
  have e : Code.at [1, 1, 1, 0, 1, 0] c6 = .loop (Code.at [1, 1, 1, 0, 1, 0, 0] c6) := by kernel_rfl
  rw [e]
  unfold N6_3
  exact loop_node [4, 21, 22, 23] (fun x : AV => (sp 46 [(4, x4), (21, x21), (22, x22), (23, (x))])) (fun (x : AV) H kn => N6_3b ρ call yc lim k x4 x21 x22 x H (fun x23 H => kn x23 H) (fun x4 H => k1 (sp 46 [(4, x4)]) H) R) (by kernel_rfl) (fun x => by kernel_rfl) (fun x H kn => N6_3b_eq ρ call yc lim k x4 x21 x22 (x) H kn k1 R) x23 (sp 46 [(4, x4), (21, x21), (22, x22), (23, x23)]) H (by kernel_rfl)
noncomputable def N6_2 (ρ : Addr → Option Value) (call : CallF) (yc : YieldF) (lim k : Nat) (x4 x21 x22 x23 : AV) (H : Heap) (kn : AV → Heap → Res) (R : List AV → Heap → Res) : Res :=
  N6_3 ρ call yc lim k x4 x21 x22 x23 H kn R
theorem N6_2_x (ρ : Addr → Option Value) (call : CallF) (yc : YieldF) (lim k : Nat) (J : CodeF) (x4 x21 x22 x23 : AV) (H : Heap) (kn : KS) (R : List AV → Heap → Res) :
    evX (cx ρ) call yc false 6 lim k J (Code.at [1, 1, 1, 0, 1] c6) (sp 46 [(4, x4), (21, x21), (22, x22), (23, x23)]) H (kk (some [4]) kn [] R [2, 3]) =
  J (Code.at [1, 1, 1, 0, 1, 0] c6) (sp 46 [(4, x4), (21, x21), (22, x22), (23, x23)]) H (kk (some [4]) kn [(1, (some [4]), kn)] R [2, 3]) := by
  kernel_rfl
theorem N6_2_eq (ρ : Addr → Option Value) (call : CallF) (yc : YieldF) (lim k : Nat) (x4 x21 x22 x23 : AV) (H : Heap) (kn : KS) (R : List AV → Heap → Res) :
    evL (cx ρ) call yc false 6 lim k (Code.at [1, 1, 1, 0, 1] c6) (sp 46 [(4, x4), (21, x21), (22, x22), (23, x23)]) H (kk (some [4]) kn [] R [2, 3]) = N6_2 ρ call yc lim k x4 x21 x22 x23 H (fun x4 H => kn (sp 46 [(4, x4)]) H) R := by
  rw [evL_X, N6_2_x]
  simp only [← evL_X, N6_2, N6_3_eq]
noncomputable def L6 (ρ : Addr → Option Value) (call : CallF) (yc : YieldF) (lim k : Nat) (x0 : AV) (H : Heap) : Res :=
  purK (binA Tryz.prog H .eql 38 x0 .nilp) fun x12 =>
  condK x12
  (
    retK [.nils, (.int .i64 2)] H)
  (
    resK (call lim 15 [x0] H) fun x15 H =>
    purK (unA .not x15) fun x16 =>
    condK x16
    (
      retK [.nils, (.int .i64 6)] H)
    (
      resK (call lim 16 [x0] H) fun x18 H =>
      resK (call lim 17 [x0] H) fun x20 H =>
      resK (call lim 18 [x20] H) fun x21 H =>
      purK (lenS x21) fun x22 =>
      N6_2 ρ call yc lim k x18 x21 x22 (.int .i64 0) H (fun x4 H =>
        N6_1 ρ call yc lim k x4 H retK) retK))
theorem L6_x (ρ : Addr → Option Value) (call : CallF) (yc : YieldF) (lim k : Nat) (J : CodeF) (x0 : AV) (H : Heap) :
    evX (cx ρ) call yc false 6 lim k J c6 [x0, (.tup []), (.tup []), (.tup []), (.tup []), (.tup []), (.tup []), (.tup []), (.tup []), (.tup []), (.tup []), (.tup []), (.tup []), (.tup []), (.tup []), (.tup []), (.tup []), (.tup []), (.tup []), (.tup []), (.tup []), (.tup []), (.tup []), (.tup []), (.tup []), (.tup []), (.tup []), (.tup []), (.tup []), (.tup []), (.tup []), (.tup []), (.tup []), (.tup []), (.tup []), (.tup []), (.tup []), (.tup []), (.tup []), (.tup []), (.tup []), (.tup []), (.tup []), (.tup []), (.tup []), (.tup [])] H (kk none (fun s H => retK (([2, 3] : List Nat).map fun t => s.getD t (.tup [])) H) [] retK [2, 3]) =
  purK (binA Tryz.prog H .eql 38 x0 .nilp) fun x12 =>
  condK x12
  (
    retK [.nils, (.int .i64 2)] H)
  (
    resK (call lim 15 [x0] H) fun x15 H =>
    purK (unA .not x15) fun x16 =>
    condK x16
    (
      retK [.nils, (.int .i64 6)] H)
    (
      resK (call lim 16 [x0] H) fun x18 H =>
      resK (call lim 17 [x0] H) fun x20 H =>
      resK (call lim 18 [x20] H) fun x21 H =>
      purK (lenS x21) fun x22 =>
      J (Code.at [1, 1, 1, 0, 1] c6) (sp 46 [(4, x18), (21, x21), (22, x22), (23, (.int .i64 0))]) H (kk (some [4]) (fun s H => J (Code.at [1, 1, 1, 1] c6) s H (kk none (fun s H => retK (([2, 3] : List Nat).map fun t => s.getD t (.tup [])) H) [] retK [2, 3])) [] retK [2, 3]))) := by
  kernel_rfl
theorem G6 (ρ : Addr → Option Value) (call : CallF) (yc : YieldF) (lim k : Nat) (x0 : AV) (H : Heap) :
    evL (cx ρ) call yc false 6 lim k c6 [x0, (.tup []), (.tup []), (.tup []), (.tup []), (.tup []), (.tup []), (.tup []), (.tup []), (.tup []), (.tup []), (.tup []), (.tup []), (.tup []), (.tup []), (.tup []), (.tup []), (.tup []), (.tup []), (.tup []), (.tup []), (.tup []), (.tup []), (.tup []), (.tup []), (.tup []), (.tup []), (.tup []), (.tup []), (.tup []), (.tup []), (.tup []), (.tup []), (.tup []), (.tup []), (.tup []), (.tup []), (.tup []), (.tup []), (.tup []), (.tup []), (.tup []), (.tup []), (.tup []), (.tup []), (.tup [])] H (kk none (fun s H => retK (([2, 3] : List Nat).map fun t => s.getD t (.tup [])) H) [] retK [2, 3]) = L6 ρ call yc lim k x0 H := by
  rw [evL_X, L6_x]
  simp only [← evL_X, L6, N6_1_eq, N6_2_eq]
theorem E6 (ρ : Addr → Option Value) (k lim : Nat) (x0 : AV) (H : Heap) : evCall (cx ρ) (k + 1) lim 6 [x0] H = L6 ρ (evCall (cx ρ) k) (evCY (cx ρ) k).2 lim k x0 H := by
  rw [evCall_body (cx ρ) k lim 6 _ H Tryz.f6 c6 [2, 3] (by kernel_rfl) (by kernel_rfl) (by kernel_rfl) (by kernel_rfl) (by kernel_rfl)]
  exact G6 ρ (evCall (cx ρ) k) (evCY (cx ρ) k).2 lim k x0 H
-- haycroft/occupy.Worst
noncomputable def c7 : Code := Code.of Tryz.prog 7
noncomputable def N7_1 (ρ : Addr → Option Value) (call : CallF) (yc : YieldF) (lim k : Nat) (x4 : AV) (H : Heap) (R : List AV → Heap → Res) : Res :=
  purK (addA 0 x4) fun x20_1 =>
  purK (ld1 ρ H x20_1) fun x21_1 =>
  purK (addA 3 x4) fun x22_1 =>
  purK (ld1 ρ H x22_1) fun x23_1 =>
  purK (binA Tryz.prog H .gtr 3 x23_1 (.int .i64 0)) fun x24_1 =>
  R [x21_1, x24_1] H
theorem N7_1_eq (ρ : Addr → Option Value) (call : CallF) (yc : YieldF) (lim k : Nat) (x4 : AV) (H : Heap) (R : List AV → Heap → Res) :
    evL (cx ρ) call yc false 7 lim k (Code.at [1, 1, 1] c7) (sp 25 [(4, x4)]) H (kk none (fun s H => R (([2, 3] : List Nat).map fun t => s.getD t (.tup [])) H) [] R [2, 3]) = N7_1 ρ call yc lim k x4 H R := by
  kernel_rfl
noncomputable def N7_4 (ρ : Addr → Option Value) (call : CallF) (yc : YieldF) (lim k : Nat) (x4 x7 x8 x9 : AV) (H : Heap) (kn : AV → Heap → Res) : Res :=
  purK (binA Tryz.prog H .add 3 x9 (.int .i64 1)) fun x19_1 =>
  kn x19_1 H
theorem N7_4_eq (ρ : Addr → Option Value) (call : CallF) (yc : YieldF) (lim k : Nat) (x4 x7 x8 x9 : AV) (H : Heap) (kn : KS) (k0 : KS) (R : List AV → Heap → Res) :
    evL (cx ρ) call yc false 7 lim k (Code.at [1, 1, 0, 1, 0, 0, 1, 1, 1] c7) (sp 25 [(4, x4), (7, x7), (8, x8), (9, x9)]) H (kk (some [4, 7, 8, 9]) kn [(0, (some [4]), k0)] R [2, 3]) = N7_4 ρ call yc lim k x4 x7 x8 x9 H (fun x9 H => kn (sp 25 [(4, x4), (7, x7), (8, x8), (9, x9)]) H) := by
  kernel_rfl
noncomputable def N7_3b (ρ : Addr → Option Value) (call : CallF) (yc : YieldF) (lim k : Nat) (x4 x7 x8 x9 : AV) (H : Heap) (kn : AV → Heap → Res) (k0 : AV → Heap → Res) : Res :=
  purK (binA Tryz.prog H .lss 3 x9 x8) fun x10_1 =>
  condK x10_1
  (
    purK (ixS 5 x7 x9) fun x11_1 =>
    purK (ldN ρ H 5 x11_1) fun x12_1 =>
    effK H (some (.ptr H.sz 0 0, .new (newCells 30 false [.int .i64 0, .int .i64 0, .int .i64 0, .int .i64 0, .int .i64 0]))) fun x6_1 H =>
    effK H (stA lim H 5 x6_1 x12_1) fun _ H =>
    purK (addA 3 x6_1) fun x13_1 =>
    purK (ld1 ρ H x13_1) fun x14_1 =>
    purK (addA 3 x4) fun x15_1 =>
    purK (ld1 ρ H x15_1) fun x16_1 =>
    purK (binA Tryz.prog H .gtr 3 x14_1 x16_1) fun x17_1 =>
    condK x17_1
    (
      purK (ldN ρ H 5 x6_1) fun x18_1 =>
      effK H (stA lim H 5 x4 x18_1) fun _ H =>
      N7_4 ρ call yc lim k x4 x7 x8 x9 H kn)
    (
      N7_4 ρ call yc lim k x4 x7 x8 x9 H kn))
  (
    k0 x4 H)
theorem N7_3b_x (ρ : Addr → Option Value) (call : CallF) (yc : YieldF) (lim k : Nat) (J : CodeF) (x4 x7 x8 x9 : AV) (H : Heap) (kn : KS) (k0 : KS) (R : List AV → Heap → Res) :
    evX (cx ρ) call yc false 7 lim k J (Code.at [1, 1, 0, 1, 0, 0] c7) (sp 25 [(4, x4), (7, x7), (8, x8), (9, x9)]) H (kk (some [4, 7, 8, 9]) kn [(0, (some [4]), k0)] R [2, 3]) =
  purK (binA Tryz.prog H .lss 3 x9 x8) fun x10_1 =>
  condK x10_1
  (
    purK (ixS 5 x7 x9) fun x11_1 =>
    purK (ldN ρ H 5 x11_1) fun x12_1 =>
    effK H (some (.ptr H.sz 0 0, .new (newCells 30 false [.int .i64 0, .int .i64 0, .int .i64 0, .int .i64 0, .int .i64 0]))) fun x6_1 H =>
    effK H (stA lim H 5 x6_1 x12_1) fun _ H =>
    purK (addA 3 x6_1) fun x13_1 =>
    purK (ld1 ρ H x13_1) fun x14_1 =>
    purK (addA 3 x4) fun x15_1 =>
    purK (ld1 ρ H x15_1) fun x16_1 =>
    purK (binA Tryz.prog H .gtr 3 x14_1 x16_1) fun x17_1 =>
    condK x17_1
    (
      purK (ldN ρ H 5 x6_1) fun x18_1 =>
      effK H (stA lim H 5 x4 x18_1) fun _ H =>
      J (Code.at [1, 1, 0, 1, 0, 0, 1, 1, 1] c7) (sp 25 [(4, x4), (7, x7), (8, x8), (9, x9)]) H (kk (some [4, 7, 8, 9]) kn [(0, (some [4]), k0)] R [2, 3]))
    (
      J (Code.at [1, 1, 0, 1, 0, 0, 1, 1, 1] c7) (sp 25 [(4, x4), (7, x7), (8, x8), (9, x9)]) H (kk (some [4, 7, 8, 9]) kn [(0, (some [4]), k0)] R [2, 3])))
  (
    k0 (sp 25 [(4, x4)]) H) := by
  kernel_rfl
theorem N7_3b_eq (ρ : Addr → Option Value) (call : CallF) (yc : YieldF) (lim k : Nat) (x4 x7 x8 x9 : AV) (H : Heap) (kn : KS) (k0 : KS) (R : List AV → Heap → Res) :
    evL (cx ρ) call yc false 7 lim k (Code.at [1, 1, 0, 1, 0, 0] c7) (sp 25 [(4, x4), (7, x7), (8, x8), (9, x9)]) H (kk (some [4, 7, 8, 9]) kn [(0, (some [4]), k0)] R [2, 3]) = N7_3b ρ call yc lim k x4 x7 x8 x9 H (fun x9 H => kn (sp 25 [(4, x4), (7, x7), (8, x8), (9, x9)]) H) (fun x4 H => k0 (sp 25 [(4, x4)]) H) := by
  rw [evL_X, N7_3b_x]
  simp only [← evL_X, N7_3b, N7_4_eq]
noncomputable def N7_3 (ρ : Addr → Option Value) (call : CallF) (yc : YieldF) (lim k : Nat) (x4 x7 x8 x9 : AV) (H : Heap) (k0 : AV → Heap → Res) : Res :=
  loopL (fun (x : AV) H kn => N7_3b ρ call yc lim k x4 x7 x8 x H (fun x9 H => kn x9 H) k0) k x9 H
theorem N7_3_eq (ρ : Addr → Option Value) (call : CallF) (yc : YieldF) (lim k : Nat) (x4 x7 x8 x9 : AV) (H : Heap) (kn : KS) (k0 : KS) (R : List AV → Heap → Res) :
    evL (cx ρ) call yc false 7 lim k (Code.at [1, 1, 0, 1, 0] c7) (sp 25 [(4, x4), (7, x7), (8, x8), (9, x9)]) H (kk (some [4]) kn [(0, (some [4]), k0)] R [2, 3]) = N7_3 ρ call yc lim k x4 x7 x8 x9 H (fun x4 H => k0 (sp 25 [(4, x4)]) H) := by
  have e : Code.at [1, 1, 0, 1, 0] c7 = .loop (Code.at [1, 1, 0, 1, 0, 0] c7) := by kernel_rfl
  rw [e]
  unfold N7_3
  exact loop_node [4, 7, 8, 9] (fun x : AV => (sp 25 [(4, x4), (7, x7), (8, x8), (9, (x))])) (fun (x : AV) H kn => N7_3b ρ call yc lim k x4 x7 x8 x H (fun x9 H => kn x9 H) (fun x4 H => k0 (sp 25 [(4, x4)]) H)) (by kernel_rfl) (fun x => by kernel_rfl) (fun x H kn => N7_3b_eq ρ call yc lim k x4 x7 x8 (x) H kn k0 R) x9 (sp 25 [(4, x4), (7, x7), (8, x8), (9, x9)]) H (by kernel_rfl)
noncomputable def N7_2 (ρ : Addr → Option Value) (call : CallF) (yc : YieldF) (lim k : Nat) (x4 x7 x8 x9 : AV) (H : Heap) (kn : AV → Heap → Res) : Res :=
  N7_3 ρ call yc lim k x4 x7 x8 x9 H kn
theorem N7_2_x (ρ : Addr → Option Value) (call : CallF) (yc : YieldF) (lim k : Nat) (J : CodeF) (x4 x7 x8 x9 : AV) (H : Heap) (kn : KS) (R : List AV → Heap → Res) :
    evX (cx ρ) call yc false 7 lim k J (Code.at [1, 1, 0, 1] c7) (sp 25 [(4, x4), (7, x7), (8, x8), (9, x9)]) H (kk (some [4]) kn [] R [2, 3]) =
  J (Code.at [1, 1, 0, 1, 0] c7) (sp 25 [(4, x4), (7, x7), (8, x8), (9, x9)]) H (kk (some [4]) kn [(0, (some [4]), kn)] R [2, 3]) := by
  kernel_rfl
theorem N7_2_eq (ρ : Addr → Option Value) (call : CallF) (yc : YieldF) (lim k : Nat) (x4 x7 x8 x9 : AV) (H : Heap) (kn : KS) (R : List AV → Heap → Res) :
    evL (cx ρ) call yc false 7 lim k (Code.at [1, 1, 0, 1] c7) (sp 25 [(4, x4), (7, x7), (8, x8), (9, x9)]) H (kk (some [4]) kn [] R [2, 3]) = N7_2 ρ call yc lim k x4 x7 x8 x9 H (fun x4 H => kn (sp 25 [(4, x4)]) H) := by
  rw [evL_X, N7_2_x]
  simp only [← evL_X, N7_2, N7_3_eq]
noncomputable def L7 (ρ : Addr → Option Value) (call : CallF) (yc : YieldF) (lim k : Nat) (x0 : AV) (H : Heap) : Res :=
  effK H (some (.ptr H.sz 0 0, .new (newCells 30 false [.int .i64 0, .int .i64 0, .int .i64 0, .int .i64 0, .int .i64 0]))) fun x4 H =>
  purK (lenS x0) fun x8 =>
  N7_2 ρ call yc lim k x4 x0 x8 (.int .i64 0) H (fun x4_1 H =>
    N7_1 ρ call yc lim k x4_1 H retK)
theorem L7_x (ρ : Addr → Option Value) (call : CallF) (yc : YieldF) (lim k : Nat) (J : CodeF) (x0 : AV) (H : Heap) :
    evX (cx ρ) call yc false 7 lim k J c7 [x0, (.tup []), (.tup []), (.tup []), (.tup []), (.tup []), (.tup []), (.tup []), (.tup []), (.tup []), (.tup []), (.tup []), (.tup []), (.tup []), (.tup []), (.tup []), (.tup []), (.tup []), (.tup []), (.tup []), (.tup []), (.tup []), (.tup []), (.tup []), (.tup [])] H (kk none (fun s H => retK (([2, 3] : List Nat).map fun t => s.getD t (.tup [])) H) [] retK [2, 3]) =
  effK H (some (.ptr H.sz 0 0, .new (newCells 30 false [.int .i64 0, .int .i64 0, .int .i64 0, .int .i64 0, .int .i64 0]))) fun x4 H =>
  purK (lenS x0) fun x8 =>
  J (Code.at [1, 1, 0, 1] c7) (sp 25 [(4, x4), (7, x0), (8, x8), (9, (.int .i64 0))]) H (kk (some [4]) (fun s H => J (Code.at [1, 1, 1] c7) s H (kk none (fun s H => retK (([2, 3] : List Nat).map fun t => s.getD t (.tup [])) H) [] retK [2, 3])) [] retK [2, 3]) := by
  kernel_rfl
theorem G7 (ρ : Addr → Option Value) (call : CallF) (yc : YieldF) (lim k : Nat) (x0 : AV) (H : Heap) :
    evL (cx ρ) call yc false 7 lim k c7 [x0, (.tup []), (.tup []), (.tup []), (.tup []), (.tup []), (.tup []), (.tup []), (.tup []), (.tup []), (.tup []), (.tup []), (.tup []), (.tup []), (.tup []), (.tup []), (.tup []), (.tup []), (.tup []), (.tup []), (.tup []), (.tup []), (.tup []), (.tup []), (.tup [])] H (kk none (fun s H => retK (([2, 3] : List Nat).map fun t => s.getD t (.tup [])) H) [] retK [2, 3]) = L7 ρ call yc lim k x0 H := by
  rw [evL_X, L7_x]
  simp only [← evL_X, L7, N7_1_eq, N7_2_eq]
theorem E7 (ρ : Addr → Option Value) (k lim : Nat) (x0 : AV) (H : Heap) : evCall (cx ρ) (k + 1) lim 7 [x0] H = L7 ρ (evCall (cx ρ) k) (evCY (cx ρ) k).2 lim k x0 H := by
  rw [evCall_body (cx ρ) k lim 7 _ H Tryz.f7 c7 [2, 3] (by kernel_rfl) (by kernel_rfl) (by kernel_rfl) (by kernel_rfl) (by kernel_rfl)]
  exact G7 ρ (evCall (cx ρ) k) (evCY (cx ρ) k).2 lim k x0 H
-- haycroft/occupy.Total
noncomputable def c8 : Code := Code.of Tryz.prog 8
noncomputable def N8_1 (ρ : Addr → Option Value) (call : CallF) (yc : YieldF) (lim k : Nat) (x2 x3 : AV) (H : Heap) (R : List AV → Heap → Res) : Res :=
  purK (ldN ρ H 5 x3) fun x40_1 =>
  effK H (stA lim H 5 x2 x40_1) fun _ H =>
  R [x2] H
theorem N8_1_eq (ρ : Addr → Option Value) (call : CallF) (yc : YieldF) (lim k : Nat) (x2 x3 : AV) (H : Heap) (R : List AV → Heap → Res) :
    evL (cx ρ) call yc false 8 lim k (Code.at [1, 1, 1] c8) (sp 41 [(2, x2), (3, x3)]) H (kk none (fun s H => R (([2] : List Nat).map fun t => s.getD t (.tup [])) H) [] R [2]) = N8_1 ρ call yc lim k x2 x3 H R := by
  kernel_rfl
noncomputable def N8_4 (ρ : Addr → Option Value) (call : CallF) (yc : YieldF) (lim k : Nat) (x2 x3 x9 x10 x11 : AV) (H : Heap) (kn : AV → Heap → Res) : Res :=
  purK (binA Tryz.prog H .add 3 x11 (.int .i64 1)) fun x39_1 =>
  kn x39_1 H
theorem N8_4_eq (ρ : Addr → Option Value) (call : CallF) (yc : YieldF) (lim k : Nat) (x2 x3 x9 x10 x11 : AV) (H : Heap) (kn : KS) (k0 : KS) (R : List AV → Heap → Res) :
    evL (cx ρ) call yc false 8 lim k (Code.at [1, 1, 0, 1, 0, 0, 1, 1, 1] c8) (sp 41 [(2, x2), (3, x3), (9, x9), (10, x10), (11, x11)]) H (kk (some [2, 3, 9, 10, 11]) kn [(0, (some [2, 3]), k0)] R [2]) = N8_4 ρ call yc lim k x2 x3 x9 x10 x11 H (fun x11 H => kn (sp 41 [(2, x2), (3, x3), (9, x9), (10, x10), (11, x11)]) H) := by
  kernel_rfl
noncomputable def N8_5 (ρ : Addr → Option Value) (call : CallF) (yc : YieldF) (lim k : Nat) (x2 x3 x5 x9 x10 x11 : AV) (H : Heap) (kn : AV → Heap → Res) : Res :=
  purK (addA 4 x3) fun x33_1 =>
  purK (ld1 ρ H x33_1) fun x34_1 =>
  purK (addA 4 x5) fun x35_1 =>
  purK (ld1 ρ H x35_1) fun x36_1 =>
  purK (binA Tryz.prog H .add 3 x34_1 x36_1) fun x37_1 =>
  purK (addA 4 x3) fun x38_1 =>
  effK H (stA lim H 1 x38_1 x37_1) fun _ H =>
  kn x11 H
theorem N8_5_eq (ρ : Addr → Option Value) (call : CallF) (yc : YieldF) (lim k : Nat) (x2 x3 x5 x9 x10 x11 : AV) (H : Heap) (kn : KS) (k1 : KS) (k0 : KS) (R : List AV → Heap → Res) :
    evL (cx ρ) call yc false 8 lim k (Code.at [1, 1, 0, 1, 0, 0, 1, 1, 0, 0, 1, 1, 1, 1] c8) (sp 41 [(2, x2), (3, x3), (5, x5), (9, x9), (10, x10), (11, x11)]) H (kk (some [2, 3, 9, 10, 11]) kn [(1, (some [2, 3, 9, 10, 11]), k1), (0, (some [2, 3]), k0)] R [2]) = N8_5 ρ call yc lim k x2 x3 x5 x9 x10 x11 H (fun x11 H => kn (sp 41 [(2, x2), (3, x3), (9, x9), (10, x10), (11, x11)]) H) := by
  kernel_rfl
noncomputable def N8_3b (ρ : Addr → Option Value) (call : CallF) (yc : YieldF) (lim k : Nat) (x2 x3 x9 x10 x11 : AV) (H : Heap) (kn : AV → Heap → Res) (k0 : AV → AV → Heap → Res) : Res :=
  purK (binA Tryz.prog H .lss 3 x11 x10) fun x12_1 =>
  condK x12_1
  (
    purK (ixS 5 x9 x11) fun x13_1 =>
    purK (ldN ρ H 5 x13_1) fun x14_1 =>
    effK H (some (.ptr H.sz 0 0, .new (newCells 30 false [.int .i64 0, .int .i64 0, .int .i64 0, .int .i64 0, .int .i64 0]))) fun x5_1 H =>
    effK H (stA lim H 5 x5_1 x14_1) fun _ H =>
    purK (addA 1 x3) fun x15_1 =>
    purK (ld1 ρ H x15_1) fun x16_1 =>
    purK (addA 1 x5_1) fun x17_1 =>
    purK (ld1 ρ H x17_1) fun x18_1 =>
    purK (binA Tryz.prog H .add 3 x16_1 x18_1) fun x19_1 =>
    purK (addA 1 x3) fun x20_1 =>
    effK H (stA lim H 1 x20_1 x19_1) fun _ H =>
    purK (addA 2 x3) fun x21_1 =>
    purK (ld1 ρ H x21_1) fun x22_1 =>
    purK (addA 2 x5_1) fun x23_1 =>
    purK (ld1 ρ H x23_1) fun x24_1 =>
    purK (binA Tryz.prog H .add 3 x22_1 x24_1) fun x25_1 =>
    purK (addA 2 x3) fun x26_1 =>
    effK H (stA lim H 1 x26_1 x25_1) fun _ H =>
    purK (addA 3 x3) fun x27_1 =>
    purK (ld1 ρ H x27_1) fun x28_1 =>
    purK (addA 3 x5_1) fun x29_1 =>
    purK (ld1 ρ H x29_1) fun x30_1 =>
    purK (binA Tryz.prog H .add 3 x28_1 x30_1) fun x31_1 =>
    purK (addA 3 x3) fun x32_1 =>
    effK H (stA lim H 1 x32_1 x31_1) fun _ H =>
    N8_5 ρ call yc lim k x2 x3 x5_1 x9 x10 x11 H (fun x11_1 H =>
      N8_4 ρ call yc lim k x2 x3 x9 x10 x11_1 H kn))
  (
    k0 x2 x3 H)
theorem N8_3b_x (ρ : Addr → Option Value) (call : CallF) (yc : YieldF) (lim k : Nat) (J : CodeF) (x2 x3 x9 x10 x11 : AV) (H : Heap) (kn : KS) (k0 : KS) (R : List AV → Heap → Res) :
    evX (cx ρ) call yc false 8 lim k J (Code.at [1, 1, 0, 1, 0, 0] c8) (sp 41 [(2, x2), (3, x3), (9, x9), (10, x10), (11, x11)]) H (kk (some [2, 3, 9, 10, 11]) kn [(0, (some [2, 3]), k0)] R [2]) =
  purK (binA Tryz.prog H .lss 3 x11 x10) fun x12_1 =>
  condK x12_1
  (
    purK (ixS 5 x9 x11) fun x13_1 =>
    purK (ldN ρ H 5 x13_1) fun x14_1 =>
    effK H (some (.ptr H.sz 0 0, .new (newCells 30 false [.int .i64 0, .int .i64 0, .int .i64 0, .int .i64 0, .int .i64 0]))) fun x5_1 H =>
    effK H (stA lim H 5 x5_1 x14_1) fun _ H =>
    purK (addA 1 x3) fun x15_1 =>
    purK (ld1 ρ H x15_1) fun x16_1 =>
    purK (addA 1 x5_1) fun x17_1 =>
    purK (ld1 ρ H x17_1) fun x18_1 =>
    purK (binA Tryz.prog H .add 3 x16_1 x18_1) fun x19_1 =>
    purK (addA 1 x3) fun x20_1 =>
    effK H (stA lim H 1 x20_1 x19_1) fun _ H =>
    purK (addA 2 x3) fun x21_1 =>
    purK (ld1 ρ H x21_1) fun x22_1 =>
    purK (addA 2 x5_1) fun x23_1 =>
    purK (ld1 ρ H x23_1) fun x24_1 =>
    purK (binA Tryz.prog H .add 3 x22_1 x24_1) fun x25_1 =>
    purK (addA 2 x3) fun x26_1 =>
    effK H (stA lim H 1 x26_1 x25_1) fun _ H =>
    purK (addA 3 x3) fun x27_1 =>
    purK (ld1 ρ H x27_1) fun x28_1 =>
    purK (addA 3 x5_1) fun x29_1 =>
    purK (ld1 ρ H x29_1) fun x30_1 =>
    purK (binA Tryz.prog H .add 3 x28_1 x30_1) fun x31_1 =>
    purK (addA 3 x3) fun x32_1 =>
    effK H (stA lim H 1 x32_1 x31_1) fun _ H =>
    J (Code.at [1, 1, 0, 1, 0, 0, 1, 1, 0, 0, 1, 1, 1, 1] c8) (sp 41 [(2, x2), (3, x3), (5, x5_1), (9, x9), (10, x10), (11, x11)]) H (kk (some [2, 3, 9, 10, 11]) (fun s H => J (Code.at [1, 1, 0, 1, 0, 0, 1, 1, 1] c8) s H (kk (some [2, 3, 9, 10, 11]) kn [(0, (some [2, 3]), k0)] R [2])) [(1, (some [2, 3, 9, 10, 11]), (fun s H => J (Code.at [1, 1, 0, 1, 0, 0, 1, 1, 1] c8) s H (kk (some [2, 3, 9, 10, 11]) kn [(0, (some [2, 3]), k0)] R [2]))), (0, (some [2, 3]), k0)] R [2]))
  (
    k0 (sp 41 [(2, x2), (3, x3)]) H) := by
  kernel_rfl
theorem N8_3b_eq (ρ : Addr → Option Value) (call : CallF) (yc : YieldF) (lim k : Nat) (x2 x3 x9 x10 x11 : AV) (H : Heap) (kn : KS) (k0 : KS) (R : List AV → Heap → Res) :
    evL (cx ρ) call yc false 8 lim k (Code.at [1, 1, 0, 1, 0, 0] c8) (sp 41 [(2, x2), (3, x3), (9, x9), (10, x10), (11, x11)]) H (kk (some [2, 3, 9, 10, 11]) kn [(0, (some [2, 3]), k0)] R [2]) = N8_3b ρ call yc lim k x2 x3 x9 x10 x11 H (fun x11 H => kn (sp 41 [(2, x2), (3, x3), (9, x9), (10, x10), (11, x11)]) H) (fun x2 x3 H => k0 (sp 41 [(2, x2), (3, x3)]) H) := by
  rw [evL_X, N8_3b_x]
  simp only [← evL_X, N8_3b, N8_4_eq, N8_5_eq]
noncomputable def N8_3 (ρ : Addr → Option Value) (call : CallF) (yc : YieldF) (lim k : Nat) (x2 x3 x9 x10 x11 : AV) (H : Heap) (k0 : AV → AV → Heap → Res) : Res :=
  loopL (fun (x : AV) H kn => N8_3b ρ call yc lim k x2 x3 x9 x10 x H (fun x11 H => kn x11 H) k0) k x11 H
theorem N8_3_eq (ρ : Addr → Option Value) (call : CallF) (yc : YieldF) (lim k : Nat) (x2 x3 x9 x10 x11 : AV) (H : Heap) (kn : KS) (k0 : KS) (R : List AV → Heap → Res) :
    evL (cx ρ) call yc false 8 lim k (Code.at [1, 1, 0, 1, 0] c8) (sp 41 [(2, x2), (3, x3), (9, x9), (10, x10), (11, x11)]) H (kk (some [2, 3]) kn [(0, (some [2, 3]), k0)] R [2]) = N8_3 ρ call yc lim k x2 x3 x9 x10 x11 H (fun x2 x3 H => k0 (sp 41 [(2, x2), (3, x3)]) H) := by
  have e : Code.at [1, 1, 0, 1, 0] c8 = .loop (Code.at [1, 1, 0, 1, 0, 0] c8) := by kernel_rfl
  rw [e]
  unfold N8_3
  exact loop_node [2, 3, 9, 10, 11] (fun x : AV => (sp 41 [(2, x2), (3, x3), (9, x9), (10, x10), (11, (x))])) (fun (x : AV) H kn => N8_3b ρ call yc lim k x2 x3 x9 x10 x H (fun x11 H => kn x11 H) (fun x2 x3 H => k0 (sp 41 [(2, x2), (3, x3)]) H)) (by kernel_rfl) (fun x => by kernel_rfl) (fun x H kn => N8_3b_eq ρ call yc lim k x2 x3 x9 x10 (x) H kn k0 R) x11 (sp 41 [(2, x2), (3, x3), (9, x9), (10, x10), (11, x11)]) H (by kernel_rfl)
noncomputable def N8_2 (ρ : Addr → Option Value) (call : CallF) (yc : YieldF) (lim k : Nat) (x2 x3 x9 x10 x11 : AV) (H : Heap) (kn : AV → AV → Heap → Res) : Res :=
  N8_3 ρ call yc lim k x2 x3 x9 x10 x11 H kn
theorem N8_2_x (ρ : Addr → Option Value) (call : CallF) (yc : YieldF) (lim k : Nat) (J : CodeF) (x2 x3 x9 x10 x11 : AV) (H : Heap) (kn : KS) (R : List AV → Heap → Res) :
    evX (cx ρ) call yc false 8 lim k J (Code.at [1, 1, 0, 1] c8) (sp 41 [(2, x2), (3, x3), (9, x9), (10, x10), (11, x11)]) H (kk (some [2, 3]) kn [] R [2]) =
  J (Code.at [1, 1, 0, 1, 0] c8) (sp 41 [(2, x2), (3, x3), (9, x9), (10, x10), (11, x11)]) H (kk (some [2, 3]) kn [(0, (some [2, 3]), kn)] R [2]) := by
  kernel_rfl
theorem N8_2_eq (ρ : Addr → Option Value) (call : CallF) (yc : YieldF) (lim k : Nat) (x2 x3 x9 x10 x11 : AV) (H : Heap) (kn : KS) (R : List AV → Heap → Res) :
    evL (cx ρ) call yc false 8 lim k (Code.at [1, 1, 0, 1] c8) (sp 41 [(2, x2), (3, x3), (9, x9), (10, x10), (11, x11)]) H (kk (some [2, 3]) kn [] R [2]) = N8_2 ρ call yc lim k x2 x3 x9 x10 x11 H (fun x2 x3 H => kn (sp 41 [(2, x2), (3, x3)]) H) := by
  rw [evL_X, N8_2_x]
  simp only [← evL_X, N8_2, N8_3_eq]
noncomputable def L8 (ρ : Addr → Option Value) (call : CallF) (yc : YieldF) (lim k : Nat) (x0 : AV) (H : Heap) : Res :=
  effK H (some (.ptr H.sz 0 0, .new (newCells 30 false [.int .i64 0, .int .i64 0, .int .i64 0, .int .i64 0, .int .i64 0]))) fun x2 H =>
  purK (lenS x0) fun x7 =>
  purK (bldA [.int .i64 0, .int .i64 0, .int .i64 0, .int .i64 0, .int .i64 0] [(0, 1, x7)]) fun x8 =>
  effK H (some (.ptr H.sz 0 0, .new (newCells 30 false [.int .i64 0, .int .i64 0, .int .i64 0, .int .i64 0, .int .i64 0]))) fun x3 H =>
  effK H (stA lim H 5 x3 x8) fun _ H =>
  purK (lenS x0) fun x10 =>
  N8_2 ρ call yc lim k x2 x3 x0 x10 (.int .i64 0) H (fun x2_1 x3_1 H =>
    N8_1 ρ call yc lim k x2_1 x3_1 H (retC (cx ρ) [some 30]))
theorem L8_x (ρ : Addr → Option Value) (call : CallF) (yc : YieldF) (lim k : Nat) (J : CodeF) (x0 : AV) (H : Heap) :
    evX (cx ρ) call yc false 8 lim k J c8 [x0, (.tup []), (.tup []), (.tup []), (.tup []), (.tup []), (.tup []), (.tup []), (.tup []), (.tup []), (.tup []), (.tup []), (.tup []), (.tup []), (.tup []), (.tup []), (.tup []), (.tup []), (.tup []), (.tup []), (.tup []), (.tup []), (.tup []), (.tup []), (.tup []), (.tup []), (.tup []), (.tup []), (.tup []), (.tup []), (.tup []), (.tup []), (.tup []), (.tup []), (.tup []), (.tup []), (.tup []), (.tup []), (.tup []), (.tup []), (.tup [])] H (kk none (fun s H => (retC (cx ρ) [some 30]) (([2] : List Nat).map fun t => s.getD t (.tup [])) H) [] (retC (cx ρ) [some 30]) [2]) =
  effK H (some (.ptr H.sz 0 0, .new (newCells 30 false [.int .i64 0, .int .i64 0, .int .i64 0, .int .i64 0, .int .i64 0]))) fun x2 H =>
  purK (lenS x0) fun x7 =>
  purK (bldA [.int .i64 0, .int .i64 0, .int .i64 0, .int .i64 0, .int .i64 0] [(0, 1, x7)]) fun x8 =>
  effK H (some (.ptr H.sz 0 0, .new (newCells 30 false [.int .i64 0, .int .i64 0, .int .i64 0, .int .i64 0, .int .i64 0]))) fun x3 H =>
  effK H (stA lim H 5 x3 x8) fun _ H =>
  purK (lenS x0) fun x10 =>
  J (Code.at [1, 1, 0, 1] c8) (sp 41 [(2, x2), (3, x3), (9, x0), (10, x10), (11, (.int .i64 0))]) H (kk (some [2, 3]) (fun s H => J (Code.at [1, 1, 1] c8) s H (kk none (fun s H => (retC (cx ρ) [some 30]) (([2] : List Nat).map fun t => s.getD t (.tup [])) H) [] (retC (cx ρ) [some 30]) [2])) [] (retC (cx ρ) [some 30]) [2]) := by
  kernel_rfl
theorem G8 (ρ : Addr → Option Value) (call : CallF) (yc : YieldF) (lim k : Nat) (x0 : AV) (H : Heap) :
    evL (cx ρ) call yc false 8 lim k c8 [x0, (.tup []), (.tup []), (.tup []), (.tup []), (.tup []), (.tup []), (.tup []), (.tup []), (.tup []), (.tup []), (.tup []), (.tup []), (.tup []), (.tup []), (.tup []), (.tup []), (.tup []), (.tup []), (.tup []), (.tup []), (.tup []), (.tup []), (.tup []), (.tup []), (.tup []), (.tup []), (.tup []), (.tup []), (.tup []), (.tup []), (.tup []), (.tup []), (.tup []), (.tup []), (.tup []), (.tup []), (.tup []), (.tup []), (.tup []), (.tup [])] H (kk none (fun s H => (retC (cx ρ) [some 30]) (([2] : List Nat).map fun t => s.getD t (.tup [])) H) [] (retC (cx ρ) [some 30]) [2]) = L8 ρ call yc lim k x0 H := by
  rw [evL_X, L8_x]
  simp only [← evL_X, L8, N8_1_eq, N8_2_eq]
theorem E8 (ρ : Addr → Option Value) (k lim : Nat) (x0 : AV) (H : Heap) : evCall (cx ρ) (k + 1) lim 8 [x0] H = L8 ρ (evCall (cx ρ) k) (evCY (cx ρ) k).2 lim k x0 H := by
  rw [evCall_cells (cx ρ) k lim 8 _ H Tryz.f8 c8 [2] [some 30] (by kernel_rfl) (by kernel_rfl) (by kernel_rfl) (by kernel_rfl) (by kernel_rfl) (by kernel_rfl)]
  exact G8 ρ (evCall (cx ρ) k) (evCY (cx ρ) k).2 lim k x0 H
-- haycroft/occupy.Poor
noncomputable def c9 : Code := Code.of Tryz.prog 9
noncomputable def N9_1 (ρ : Addr → Option Value) (call : CallF) (yc : YieldF) (lim k : Nat) (x5 : AV) (H : Heap) (R : List AV → Heap → Res) : Res :=
  R [x5] H
theorem N9_1_eq (ρ : Addr → Option Value) (call : CallF) (yc : YieldF) (lim k : Nat) (x5 : AV) (H : Heap) (R : List AV → Heap → Res) :
    evL (cx ρ) call yc false 9 lim k (Code.at [1, 1, 1] c9) (sp 25 [(5, x5)]) H (kk none (fun s H => R (([4] : List Nat).map fun t => s.getD t (.tup [])) H) [] R [4]) = N9_1 ρ call yc lim k x5 H R := by
  kernel_rfl
noncomputable def N9_4 (ρ : Addr → Option Value) (call : CallF) (yc : YieldF) (lim k : Nat) (x1 x5 x8 x9 x10 : AV) (H : Heap) (kn : AV → AV → Heap → Res) : Res :=
  purK (binA Tryz.prog H .add 3 x10 (.int .i64 1)) fun x23_1 =>
  kn x5 x23_1 H
theorem N9_4_eq (ρ : Addr → Option Value) (call : CallF) (yc : YieldF) (lim k : Nat) (x1 x5 x8 x9 x10 : AV) (H : Heap) (kn : KS) (k0 : KS) (R : List AV → Heap → Res) :
    evL (cx ρ) call yc false 9 lim k (Code.at [1, 1, 0, 1, 0, 0, 1, 1, 1] c9) (sp 25 [(1, x1), (5, x5), (8, x8), (9, x9), (10, x10)]) H (kk (some [1, 5, 8, 9, 10]) kn [(0, (some [5]), k0)] R [4]) = N9_4 ρ call yc lim k x1 x5 x8 x9 x10 H (fun x5 x10 H => kn (sp 25 [(1, x1), (5, x5), (8, x8), (9, x9), (10, x10)]) H) := by
  kernel_rfl
noncomputable def N9_3b (ρ : Addr → Option Value) (call : CallF) (yc : YieldF) (lim k : Nat) (x1 x5 x8 x9 x10 : AV) (H : Heap) (kn : AV → AV → Heap → Res) (k0 : AV → Heap → Res) : Res :=
  purK (binA Tryz.prog H .lss 3 x10 x9) fun x11_1 =>
  condK x11_1
  (
    purK (ixS 5 x8 x10) fun x12_1 =>
    purK (ldN ρ H 5 x12_1) fun x13_1 =>
    effK H (some (.ptr H.sz 0 0, .new (newCells 30 false [.int .i64 0, .int .i64 0, .int .i64 0, .int .i64 0, .int .i64 0]))) fun x7_1 H =>
    effK H (stA lim H 5 x7_1 x13_1) fun _ H =>
    purK (addA 1 x7_1) fun x14_1 =>
    purK (ld1 ρ H x14_1) fun x15_1 =>
    purK (binA Tryz.prog H .leq 3 x15_1 x1) fun x17_1 =>
    condK x17_1
    (
      purK (addA 0 x7_1) fun x19_1 =>
      purK (ld1 ρ H x19_1) fun x20_1 =>
      effK H (bldS H 3 1 [.int .i64 0] 1 [(0, 1, x20_1)]) fun x21_1 H =>
      effK H (apA ρ lim H 3 1 8 x5 x21_1) fun x22_1 H =>
      N9_4 ρ call yc lim k x1 x22_1 x8 x9 x10 H kn)
    (
      N9_4 ρ call yc lim k x1 x5 x8 x9 x10 H kn))
  (
    k0 x5 H)
theorem N9_3b_x (ρ : Addr → Option Value) (call : CallF) (yc : YieldF) (lim k : Nat) (J : CodeF) (x1 x5 x8 x9 x10 : AV) (H : Heap) (kn : KS) (k0 : KS) (R : List AV → Heap → Res) :
    evX (cx ρ) call yc false 9 lim k J (Code.at [1, 1, 0, 1, 0, 0] c9) (sp 25 [(1, x1), (5, x5), (8, x8), (9, x9), (10, x10)]) H (kk (some [1, 5, 8, 9, 10]) kn [(0, (some [5]), k0)] R [4]) =
  purK (binA Tryz.prog H .lss 3 x10 x9) fun x11_1 =>
  condK x11_1
  (
    purK (ixS 5 x8 x10) fun x12_1 =>
    purK (ldN ρ H 5 x12_1) fun x13_1 =>
    effK H (some (.ptr H.sz 0 0, .new (newCells 30 false [.int .i64 0, .int .i64 0, .int .i64 0, .int .i64 0, .int .i64 0]))) fun x7_1 H =>
    effK H (stA lim H 5 x7_1 x13_1) fun _ H =>
    purK (addA 1 x7_1) fun x14_1 =>
    purK (ld1 ρ H x14_1) fun x15_1 =>
    purK (binA Tryz.prog H .leq 3 x15_1 x1) fun x17_1 =>
    condK x17_1
    (
      purK (addA 0 x7_1) fun x19_1 =>
      purK (ld1 ρ H x19_1) fun x20_1 =>
      effK H (bldS H 3 1 [.int .i64 0] 1 [(0, 1, x20_1)]) fun x21_1 H =>
      effK H (apA ρ lim H 3 1 8 x5 x21_1) fun x22_1 H =>
      J (Code.at [1, 1, 0, 1, 0, 0, 1, 1, 1] c9) (sp 25 [(1, x1), (5, x22_1), (8, x8), (9, x9), (10, x10)]) H (kk (some [1, 5, 8, 9, 10]) kn [(0, (some [5]), k0)] R [4]))
    (
      J (Code.at [1, 1, 0, 1, 0, 0, 1, 1, 1] c9) (sp 25 [(1, x1), (5, x5), (8, x8), (9, x9), (10, x10)]) H (kk (some [1, 5, 8, 9, 10]) kn [(0, (some [5]), k0)] R [4])))
  (
    k0 (sp 25 [(5, x5)]) H) := by
  kernel_rfl
theorem N9_3b_eq (ρ : Addr → Option Value) (call : CallF) (yc : YieldF) (lim k : Nat) (x1 x5 x8 x9 x10 : AV) (H : Heap) (kn : KS) (k0 : KS) (R : List AV → Heap → Res) :
    evL (cx ρ) call yc false 9 lim k (Code.at [1, 1, 0, 1, 0, 0] c9) (sp 25 [(1, x1), (5, x5), (8, x8), (9, x9), (10, x10)]) H (kk (some [1, 5, 8, 9, 10]) kn [(0, (some [5]), k0)] R [4]) = N9_3b ρ call yc lim k x1 x5 x8 x9 x10 H (fun x5 x10 H => kn (sp 25 [(1, x1), (5, x5), (8, x8), (9, x9), (10, x10)]) H) (fun x5 H => k0 (sp 25 [(5, x5)]) H) := by
  rw [evL_X, N9_3b_x]
  simp only [← evL_X, N9_3b, N9_4_eq]
noncomputable def N9_3 (ρ : Addr → Option Value) (call : CallF) (yc : YieldF) (lim k : Nat) (x1 x5 x8 x9 x10 : AV) (H : Heap) (k0 : AV → Heap → Res) : Res :=
  loopL (fun (x : AV × AV) H kn => N9_3b ρ call yc lim k x1 x.1 x8 x9 x.2 H (fun x5 x10 H => kn (x5, x10) H) k0) k (x5, x10) H
theorem N9_3_eq (ρ : Addr → Option Value) (call : CallF) (yc : YieldF) (lim k : Nat) (x1 x5 x8 x9 x10 : AV) (H : Heap) (kn : KS) (k0 : KS) (R : List AV → Heap → Res) :
    evL (cx ρ) call yc false 9 lim k (Code.at [1, 1, 0, 1, 0] c9) (sp 25 [(1, x1), (5, x5), (8, x8), (9, x9), (10, x10)]) H (kk (some [5]) kn [(0, (some [5]), k0)] R [4]) = N9_3 ρ call yc lim k x1 x5 x8 x9 x10 H (fun x5 H => k0 (sp 25 [(5, x5)]) H) := by
  have e : Code.at [1, 1, 0, 1, 0] c9 = .loop (Code.at [1, 1, 0, 1, 0, 0] c9) := by kernel_rfl
  rw [e]
  unfold N9_3
  exact loop_node [1, 5, 8, 9, 10] (fun x : AV × AV => (sp 25 [(1, x1), (5, (x.1)), (8, x8), (9, x9), (10, (x.2))])) (fun (x : AV × AV) H kn => N9_3b ρ call yc lim k x1 x.1 x8 x9 x.2 H (fun x5 x10 H => kn (x5, x10) H) (fun x5 H => k0 (sp 25 [(5, x5)]) H)) (by kernel_rfl) (fun x => by kernel_rfl) (fun x H kn => N9_3b_eq ρ call yc lim k x1 (x.1) x8 x9 (x.2) H kn k0 R) (x5, x10) (sp 25 [(1, x1), (5, x5), (8, x8), (9, x9), (10, x10)]) H (by kernel_rfl)
noncomputable def N9_2 (ρ : Addr → Option Value) (call : CallF) (yc : YieldF) (lim k : Nat) (x1 x5 x8 x9 x10 : AV) (H : Heap) (kn : AV → Heap → Res) : Res :=
  N9_3 ρ call yc lim k x1 x5 x8 x9 x10 H kn
theorem N9_2_x (ρ : Addr → Option Value) (call : CallF) (yc : YieldF) (lim k : Nat) (J : CodeF) (x1 x5 x8 x9 x10 : AV) (H : Heap) (kn : KS) (R : List AV → Heap → Res) :
    evX (cx ρ) call yc false 9 lim k J (Code.at [1, 1, 0, 1] c9) (sp 25 [(1, x1), (5, x5), (8, x8), (9, x9), (10, x10)]) H (kk (some [5]) kn [] R [4]) =
  J (Code.at [1, 1, 0, 1, 0] c9) (sp 25 [(1, x1), (5, x5), (8, x8), (9, x9), (10, x10)]) H (kk (some [5]) kn [(0, (some [5]), kn)] R [4]) := by
  kernel_rfl
theorem N9_2_eq (ρ : Addr → Option Value) (call : CallF) (yc : YieldF) (lim k : Nat) (x1 x5 x8 x9 x10 : AV) (H : Heap) (kn : KS) (R : List AV → Heap → Res) :
    evL (cx ρ) call yc false 9 lim k (Code.at [1, 1, 0, 1] c9) (sp 25 [(1, x1), (5, x5), (8, x8), (9, x9), (10, x10)]) H (kk (some [5]) kn [] R [4]) = N9_2 ρ call yc lim k x1 x5 x8 x9 x10 H (fun x5 H => kn (sp 25 [(5, x5)]) H) := by
  rw [evL_X, N9_2_x]
  simp only [← evL_X, N9_2, N9_3_eq]
noncomputable def L9 (ρ : Addr → Option Value) (call : CallF) (yc : YieldF) (lim k : Nat) (x0 x1 : AV) (H : Heap) : Res :=
  purK (lenS x0) fun x9 =>
  N9_2 ρ call yc lim k x1 .nils x0 x9 (.int .i64 0) H (fun x5 H =>
    N9_1 ρ call yc lim k x5 H retK)
theorem L9_x (ρ : Addr → Option Value) (call : CallF) (yc : YieldF) (lim k : Nat) (J : CodeF) (x0 x1 : AV) (H : Heap) :
    evX (cx ρ) call yc false 9 lim k J c9 [x0, x1, (.tup []), (.tup []), (.tup []), (.tup []), (.tup []), (.tup []), (.tup []), (.tup []), (.tup []), (.tup []), (.tup []), (.tup []), (.tup []), (.tup []), (.tup []), (.tup []), (.tup []), (.tup []), (.tup []), (.tup []), (.tup []), (.tup []), (.tup [])] H (kk none (fun s H => retK (([4] : List Nat).map fun t => s.getD t (.tup [])) H) [] retK [4]) =
  purK (lenS x0) fun x9 =>
  J (Code.at [1, 1, 0, 1] c9) (sp 25 [(1, x1), (5, .nils), (8, x0), (9, x9), (10, (.int .i64 0))]) H (kk (some [5]) (fun s H => J (Code.at [1, 1, 1] c9) s H (kk none (fun s H => retK (([4] : List Nat).map fun t => s.getD t (.tup [])) H) [] retK [4])) [] retK [4]) := by
  kernel_rfl
theorem G9 (ρ : Addr → Option Value) (call : CallF) (yc : YieldF) (lim k : Nat) (x0 x1 : AV) (H : Heap) :
    evL (cx ρ) call yc false 9 lim k c9 [x0, x1, (.tup []), (.tup []), (.tup []), (.tup []), (.tup []), (.tup []), (.tup []), (.tup []), (.tup []), (.tup []), (.tup []), (.tup []), (.tup []), (.tup []), (.tup []), (.tup []), (.tup []), (.tup []), (.tup []), (.tup []), (.tup []), (.tup []), (.tup [])] H (kk none (fun s H => retK (([4] : List Nat).map fun t => s.getD t (.tup [])) H) [] retK [4]) = L9 ρ call yc lim k x0 x1 H := by
  rw [evL_X, L9_x]
  simp only [← evL_X, L9, N9_1_eq, N9_2_eq]
theorem E9 (ρ : Addr → Option Value) (k lim : Nat) (x0 x1 : AV) (H : Heap) : evCall (cx ρ) (k + 1) lim 9 [x0, x1] H = L9 ρ (evCall (cx ρ) k) (evCY (cx ρ) k).2 lim k x0 x1 H := by
  rw [evCall_body (cx ρ) k lim 9 _ H Tryz.f9 c9 [4] (by kernel_rfl) (by kernel_rfl) (by kernel_rfl) (by kernel_rfl) (by kernel_rfl)]
  exact G9 ρ (evCall (cx ρ) k) (evCY (cx ρ) k).2 lim k x0 x1 H
-- haycroft/occupy.Rate
noncomputable def c10 : Code := Code.of Tryz.prog 10
noncomputable def L10 (ρ : Addr → Option Value) (call : CallF) (yc : YieldF) (lim k : Nat) (x0 : AV) (H : Heap) : Res :=
  resK (call lim 8 [x0] H) fun x6 H =>
  effK H (some (.ptr H.sz 0 0, .new (newCells 30 false [.int .i64 0, .int .i64 0, .int .i64 0, .int .i64 0, .int .i64 0]))) fun x3 H =>
  effK H (stA lim H 5 x3 x6) fun _ H =>
  purK (addA 1 x3) fun x7 =>
  purK (ld1 ρ H x7) fun x8 =>
  purK (addA 2 x3) fun x9 =>
  purK (ld1 ρ H x9) fun x10 =>
  purK (binA Tryz.prog H .add 3 x8 x10) fun x11 =>
  purK (addA 3 x3) fun x12 =>
  purK (ld1 ρ H x12) fun x13 =>
  purK (binA Tryz.prog H .add 3 x11 x13) fun x14 =>
  purK (addA 4 x3) fun x15 =>
  purK (ld1 ρ H x15) fun x16 =>
  purK (binA Tryz.prog H .add 3 x14 x16) fun x17 =>
  purK (binA Tryz.prog H .leq 3 x17 (.int .i64 0)) fun x19 =>
  condK x19
  (
    retK [(.int .i64 0)] H)
  (
    purK (addA 1 x3) fun x20 =>
    purK (ld1 ρ H x20) fun x21 =>
    purK (binA Tryz.prog H .mul 3 x21 (.int .i64 1000)) fun x22 =>
    purK (binA Tryz.prog H .quo 3 x22 x17) fun x24 =>
    retK [x24] H)
theorem G10 (ρ : Addr → Option Value) (call : CallF) (yc : YieldF) (lim k : Nat) (x0 : AV) (H : Heap) :
    evL (cx ρ) call yc false 10 lim k c10 [x0, (.tup []), (.tup []), (.tup []), (.tup []), (.tup []), (.tup []), (.tup []), (.tup []), (.tup []), (.tup []), (.tup []), (.tup []), (.tup []), (.tup []), (.tup []), (.tup []), (.tup []), (.tup []), (.tup []), (.tup []), (.tup []), (.tup []), (.tup []), (.tup [])] H (kk none (fun s H => retK (([2] : List Nat).map fun t => s.getD t (.tup [])) H) [] retK [2]) = L10 ρ call yc lim k x0 H := by
  kernel_rfl
theorem E10 (ρ : Addr → Option Value) (k lim : Nat) (x0 : AV) (H : Heap) : evCall (cx ρ) (k + 1) lim 10 [x0] H = L10 ρ (evCall (cx ρ) k) (evCY (cx ρ) k).2 lim k x0 H := by
  rw [evCall_body (cx ρ) k lim 10 _ H Tryz.f10 c10 [2] (by kernel_rfl) (by kernel_rfl) (by kernel_rfl) (by kernel_rfl) (by kernel_rfl)]
  exact G10 ρ (evCall (cx ρ) k) (evCY (cx ρ) k).2 lim k x0 H
-- haycroft/haycroftref11.Ints
noncomputable def c11 : Code := Code.of Tryz.prog 11
noncomputable def N11_1 (ρ : Addr → Option Value) (call : CallF) (yc : YieldF) (lim k : Nat) (H : Heap) (R : List AV → Heap → Res) : Res :=
  R [(.bool true)] H
theorem N11_1_eq (ρ : Addr → Option Value) (call : CallF) (yc : YieldF) (lim k : Nat) (H : Heap) (R : List AV → Heap → Res) :
    evL (cx ρ) call yc false 11 lim k (Code.at [1, 1, 1] c11) (sp 26 []) H (kk none (fun s H => R (([4] : List Nat).map fun t => s.getD t (.tup [])) H) [] R [4]) = N11_1 ρ call yc lim k H R := by
  kernel_rfl
noncomputable def N11_3b (ρ : Addr → Option Value) (call : CallF) (yc : YieldF) (lim k : Nat) (x0 x1 x5 : AV) (H : Heap) (kn : AV → Heap → Res) (k0 : Heap → Res) (R : List AV → Heap → Res) : Res :=
  purK (lenS x0) fun x13_1 =>
  purK (binA Tryz.prog H .lss 3 x5 x13_1) fun x14_1 =>
  condK x14_1
  (
    purK (ixS 1 x0 x5) fun x19_1 =>
    purK (ld1 ρ H x19_1) fun x20_1 =>
    purK (ixS 1 x1 x5) fun x23_1 =>
    purK (ld1 ρ H x23_1) fun x24_1 =>
    purK (binA Tryz.prog H .neq 3 x20_1 x24_1) fun x25_1 =>
    condK x25_1
    (
      R [(.bool false)] H)
    (
      purK (binA Tryz.prog H .add 3 x5 (.int .i64 1)) fun x16_1 =>
      kn x16_1 H))
  (
    k0 H)
theorem N11_3b_eq (ρ : Addr → Option Value) (call : CallF) (yc : YieldF) (lim k : Nat) (x0 x1 x5 : AV) (H : Heap) (kn : KS) (k0 : KS) (R : List AV → Heap → Res) :
    evL (cx ρ) call yc false 11 lim k (Code.at [1, 1, 0, 1, 0, 0] c11) (sp 26 [(0, x0), (1, x1), (5, x5)]) H (kk (some [0, 1, 5]) kn [(0, (some []), k0)] R [4]) = N11_3b ρ call yc lim k x0 x1 x5 H (fun x5 H => kn (sp 26 [(0, x0), (1, x1), (5, x5)]) H) (fun H => k0 (sp 26 []) H) R := by
  kernel_rfl
noncomputable def N11_3 (ρ : Addr → Option Value) (call : CallF) (yc : YieldF) (lim k : Nat) (x0 x1 x5 : AV) (H : Heap) (k0 : Heap → Res) (R : List AV → Heap → Res) : Res :=
  loopL (fun (x : AV) H kn => N11_3b ρ call yc lim k x0 x1 x H (fun x5 H => kn x5 H) k0 R) k x5 H
theorem N11_3_eq (ρ : Addr → Option Value) (call : CallF) (yc : YieldF) (lim k : Nat) (x0 x1 x5 : AV) (H : Heap) (kn : KS) (k0 : KS) (R : List AV → Heap → Res) :
    evL (cx ρ) call yc false 11 lim k (Code.at [1, 1, 0, 1, 0] c11) (sp 26 [(0, x0), (1, x1), (5, x5)]) H (kk (some []) kn [(0, (some []), k0)] R [4]) = N11_3 ρ call yc lim k x0 x1 x5 H (fun H => k0 (sp 26 []) H) R := by
  have e : Code.at [1, 1, 0, 1, 0] c11 = .loop (Code.at [1, 1, 0, 1, 0, 0] c11) := by kernel_rfl
  rw [e]
  unfold N11_3
  exact loop_node [0, 1, 5] (fun x : AV => (sp 26 [(0, x0), (1, x1), (5, (x))])) (fun (x : AV) H kn => N11_3b ρ call yc lim k x0 x1 x H (fun x5 H => kn x5 H) (fun H => k0 (sp 26 []) H) R) (by kernel_rfl) (fun x => by kernel_rfl) (fun x H kn => N11_3b_eq ρ call yc lim k x0 x1 (x) H kn k0 R) x5 (sp 26 [(0, x0), (1, x1), (5, x5)]) H (by kernel_rfl)
noncomputable def N11_2 (ρ : Addr → Option Value) (call : CallF) (yc : YieldF) (lim k : Nat) (x0 x1 x5 : AV) (H : Heap) (kn : Heap → Res) (R : List AV → Heap → Res) : Res :=
  N11_3 ρ call yc lim k x0 x1 x5 H kn R
theorem N11_2_x (ρ : Addr → Option Value) (call : CallF) (yc : YieldF) (lim k : Nat) (J : CodeF) (x0 x1 x5 : AV) (H : Heap) (kn : KS) (R : List AV → Heap → Res) :
    evX (cx ρ) call yc false 11 lim k J (Code.at [1, 1, 0, 1] c11) (sp 26 [(0, x0), (1, x1), (5, x5)]) H (kk (some []) kn [] R [4]) =
  J (Code.at [1, 1, 0, 1, 0] c11) (sp 26 [(0, x0), (1, x1), (5, x5)]) H (kk (some []) kn [(0, (some []), kn)] R [4]) := by
  kernel_rfl
theorem N11_2_eq (ρ : Addr → Option Value) (call : CallF) (yc : YieldF) (lim k : Nat) (x0 x1 x5 : AV) (H : Heap) (kn : KS) (R : List AV → Heap → Res) :
    evL (cx ρ) call yc false 11 lim k (Code.at [1, 1, 0, 1] c11) (sp 26 [(0, x0), (1, x1), (5, x5)]) H (kk (some []) kn [] R [4]) = N11_2 ρ call yc lim k x0 x1 x5 H (fun H => kn (sp 26 []) H) R := by
  rw [evL_X, N11_2_x]
  simp only [← evL_X, N11_2, N11_3_eq]
noncomputable def L11 (ρ : Addr → Option Value) (call : CallF) (yc : YieldF) (lim k : Nat) (x0 x1 : AV) (H : Heap) : Res :=
  purK (lenS x0) fun x7 =>
  purK (lenS x1) fun x9 =>
  purK (binA Tryz.prog H .neq 3 x7 x9) fun x10 =>
  condK x10
  (
    retK [(.bool false)] H)
  (
    N11_2 ρ call yc lim k x0 x1 (.int .i64 0) H (fun H =>
      N11_1 ρ call yc lim k H retK) retK)
theorem L11_x (ρ : Addr → Option Value) (call : CallF) (yc : YieldF) (lim k : Nat) (J : CodeF) (x0 x1 : AV) (H : Heap) :
    evX (cx ρ) call yc false 11 lim k J c11 [x0, x1, (.tup []), (.tup []), (.tup []), (.tup []), (.tup []), (.tup []), (.tup []), (.tup []), (.tup []), (.tup []), (.tup []), (.tup []), (.tup []), (.tup []), (.tup []), (.tup []), (.tup []), (.tup []), (.tup []), (.tup []), (.tup []), (.tup []), (.tup []), (.tup [])] H (kk none (fun s H => retK (([4] : List Nat).map fun t => s.getD t (.tup [])) H) [] retK [4]) =
  purK (lenS x0) fun x7 =>
  purK (lenS x1) fun x9 =>
  purK (binA Tryz.prog H .neq 3 x7 x9) fun x10 =>
  condK x10
  (
    retK [(.bool false)] H)
  (
    J (Code.at [1, 1, 0, 1] c11) (sp 26 [(0, x0), (1, x1), (5, (.int .i64 0))]) H (kk (some []) (fun s H => J (Code.at [1, 1, 1] c11) s H (kk none (fun s H => retK (([4] : List Nat).map fun t => s.getD t (.tup [])) H) [] retK [4])) [] retK [4])) := by
  kernel_rfl
theorem G11 (ρ : Addr → Option Value) (call : CallF) (yc : YieldF) (lim k : Nat) (x0 x1 : AV) (H : Heap) :
    evL (cx ρ) call yc false 11 lim k c11 [x0, x1, (.tup []), (.tup []), (.tup []), (.tup []), (.tup []), (.tup []), (.tup []), (.tup []), (.tup []), (.tup []), (.tup []), (.tup []), (.tup []), (.tup []), (.tup []), (.tup []), (.tup []), (.tup []), (.tup []), (.tup []), (.tup []), (.tup []), (.tup []), (.tup [])] H (kk none (fun s H => retK (([4] : List Nat).map fun t => s.getD t (.tup [])) H) [] retK [4]) = L11 ρ call yc lim k x0 x1 H := by
  rw [evL_X, L11_x]
  simp only [← evL_X, L11, N11_1_eq, N11_2_eq]
theorem E11 (ρ : Addr → Option Value) (k lim : Nat) (x0 x1 : AV) (H : Heap) : evCall (cx ρ) (k + 1) lim 11 [x0, x1] H = L11 ρ (evCall (cx ρ) k) (evCY (cx ρ) k).2 lim k x0 x1 H := by
  rw [evCall_body (cx ρ) k lim 11 _ H Tryz.f11 c11 [4] (by kernel_rfl) (by kernel_rfl) (by kernel_rfl) (by kernel_rfl) (by kernel_rfl)]
  exact G11 ρ (evCall (cx ρ) k) (evCY (cx ρ) k).2 lim k x0 x1 H
-- haycroft/store.Open
noncomputable def c12 : Code := Code.of Tryz.prog 12
noncomputable def N12_1 (ρ : Addr → Option Value) (call : CallF) (yc : YieldF) (lim k : Nat) (x1 x2 x6 : AV) (H : Heap) (R : List AV → Heap → Res) : Res :=
  purK (ldN ρ H 6 x2) fun x28_1 =>
  purK (bldA [.int .i64 0, .int .i64 0, .int .i64 0, .int .i64 0, .int .i64 0, .int .i64 0, .nilp, .nilp] [(0, 6, x28_1), (6, 1, x1), (7, 1, x6)]) fun x31_1 =>
  effK H (boxA H 66 x31_1) fun x32_1 H =>
  R [x32_1, (.int .i64 0)] H
theorem N12_1_eq (ρ : Addr → Option Value) (call : CallF) (yc : YieldF) (lim k : Nat) (x1 x2 x6 : AV) (H : Heap) (R : List AV → Heap → Res) :
    evL (cx ρ) call yc false 12 lim k (Code.at [1, 1, 1, 1] c12) (sp 33 [(1, x1), (2, x2), (6, x6)]) H (kk none (fun s H => R (([4, 5] : List Nat).map fun t => s.getD t (.tup [])) H) [] R [4, 5]) = N12_1 ρ call yc lim k x1 x2 x6 H R := by
  kernel_rfl
noncomputable def N12_2 (ρ : Addr → Option Value) (call : CallF) (yc : YieldF) (lim k : Nat) (x1 x2 x6 x7 x26 : AV) (H : Heap) (kn : AV → AV → AV → Heap → Res) (R : List AV → Heap → Res) : Res :=
  condK x26
  (
    R [.nilp, x7] H)
  (
    kn x1 x2 x6 H)
theorem N12_2_eq (ρ : Addr → Option Value) (call : CallF) (yc : YieldF) (lim k : Nat) (x1 x2 x6 x7 x26 : AV) (H : Heap) (kn : KS) (R : List AV → Heap → Res) :
    evL (cx ρ) call yc false 12 lim k (Code.at [1, 1, 1, 0, 1] c12) (sp 33 [(1, x1), (2, x2), (6, x6), (7, x7), (26, x26)]) H (kk (some [1, 2, 6]) kn [] R [4, 5]) = N12_2 ρ call yc lim k x1 x2 x6 x7 x26 H (fun x1 x2 x6 H => kn (sp 33 [(1, x1), (2, x2), (6, x6)]) H) R := by
  kernel_rfl
noncomputable def L12 (ρ : Addr → Option Value) (call : CallF) (yc : YieldF) (lim k : Nat) (x0 x1 : AV) (H : Heap) : Res :=
  effK H (boxA H 42 x0) fun x2 H =>
  purK (binA Tryz.prog H .eql 44 x1 .nilp) fun x10 =>
  condK x10
  (
    retK [.nilp, (.int .i64 2)] H)
  (
    purK (ldN ρ H 6 x2) fun x12 =>
    resK (call lim 21 [x12] H) fun x13 H =>
    purK (unA .not x13) fun x14 =>
    condK x14
    (
      retK [.nilp, (.int .i64 1)] H)
    (
      resK (call lim 22 [x1] H) fun x17 H =>
      purK (unA .not x17) fun x18 =>
      condK x18
      (
        retK [.nilp, (.int .i64 6)] H)
      (
        purK (ldN ρ H 6 x2) fun x20 =>
        resK (call lim 23 [x20, x1] H) fun x22 H =>
        purK (extA 0 x22) fun x23 =>
        purK (extA 1 x22) fun x24 =>
        purK (binA Tryz.prog H .neq 24 x24 (.int .i64 0)) fun x26 =>
        N12_2 ρ call yc lim k x1 x2 x23 x24 x26 H (fun x1_1 x2_1 x6 H =>
          N12_1 ρ call yc lim k x1_1 x2_1 x6 H retK) retK)))
theorem L12_x (ρ : Addr → Option Value) (call : CallF) (yc : YieldF) (lim k : Nat) (J : CodeF) (x0 x1 : AV) (H : Heap) :
    evX (cx ρ) call yc false 12 lim k J c12 [x0, x1, (.tup []), (.tup []), (.tup []), (.tup []), (.tup []), (.tup []), (.tup []), (.tup []), (.tup []), (.tup []), (.tup []), (.tup []), (.tup []), (.tup []), (.tup []), (.tup []), (.tup []), (.tup []), (.tup []), (.tup []), (.tup []), (.tup []), (.tup []), (.tup []), (.tup []), (.tup []), (.tup []), (.tup []), (.tup []), (.tup []), (.tup [])] H (kk none (fun s H => retK (([4, 5] : List Nat).map fun t => s.getD t (.tup [])) H) [] retK [4, 5]) =
  effK H (boxA H 42 x0) fun x2 H =>
  purK (binA Tryz.prog H .eql 44 x1 .nilp) fun x10 =>
  condK x10
  (
    retK [.nilp, (.int .i64 2)] H)
  (
    purK (ldN ρ H 6 x2) fun x12 =>
    resK (call lim 21 [x12] H) fun x13 H =>
    purK (unA .not x13) fun x14 =>
    condK x14
    (
      retK [.nilp, (.int .i64 1)] H)
    (
      resK (call lim 22 [x1] H) fun x17 H =>
      purK (unA .not x17) fun x18 =>
      condK x18
      (
        retK [.nilp, (.int .i64 6)] H)
      (
        purK (ldN ρ H 6 x2) fun x20 =>
        resK (call lim 23 [x20, x1] H) fun x22 H =>
        purK (extA 0 x22) fun x23 =>
        purK (extA 1 x22) fun x24 =>
        purK (binA Tryz.prog H .neq 24 x24 (.int .i64 0)) fun x26 =>
        J (Code.at [1, 1, 1, 0, 1] c12) (sp 33 [(1, x1), (2, x2), (6, x23), (7, x24), (26, x26)]) H (kk (some [1, 2, 6]) (fun s H => J (Code.at [1, 1, 1, 1] c12) s H (kk none (fun s H => retK (([4, 5] : List Nat).map fun t => s.getD t (.tup [])) H) [] retK [4, 5])) [] retK [4, 5])))) := by
  kernel_rfl
theorem G12 (ρ : Addr → Option Value) (call : CallF) (yc : YieldF) (lim k : Nat) (x0 x1 : AV) (H : Heap) :
    evL (cx ρ) call yc false 12 lim k c12 [x0, x1, (.tup []), (.tup []), (.tup []), (.tup []), (.tup []), (.tup []), (.tup []), (.tup []), (.tup []), (.tup []), (.tup []), (.tup []), (.tup []), (.tup []), (.tup []), (.tup []), (.tup []), (.tup []), (.tup []), (.tup []), (.tup []), (.tup []), (.tup []), (.tup []), (.tup []), (.tup []), (.tup []), (.tup []), (.tup []), (.tup []), (.tup [])] H (kk none (fun s H => retK (([4, 5] : List Nat).map fun t => s.getD t (.tup [])) H) [] retK [4, 5]) = L12 ρ call yc lim k x0 x1 H := by
  rw [evL_X, L12_x]
  simp only [← evL_X, L12, N12_1_eq, N12_2_eq]
theorem E12 (ρ : Addr → Option Value) (k lim : Nat) (x0 x1 : AV) (H : Heap) : evCall (cx ρ) (k + 1) lim 12 [x0, x1] H = L12 ρ (evCall (cx ρ) k) (evCY (cx ρ) k).2 lim k x0 x1 H := by
  rw [evCall_body (cx ρ) k lim 12 _ H Tryz.f12 c12 [4, 5] (by kernel_rfl) (by kernel_rfl) (by kernel_rfl) (by kernel_rfl) (by kernel_rfl)]
  exact G12 ρ (evCall (cx ρ) k) (evCY (cx ρ) k).2 lim k x0 x1 H
-- haycroft/haycroftlaw24.Plain
noncomputable def c13 : Code := Code.of Tryz.prog 13
noncomputable def L13 (ρ : Addr → Option Value) (call : CallF) (yc : YieldF) (lim k : Nat) (H : Heap) : Res :=
  effK H (some (.ptr H.sz 0 0, .new (newCells 42 false [.int .i64 0, .int .i64 0, .int .i64 0, .int .i64 0, .int .i64 0, .int .i64 0]))) fun x0 H =>
  purK (bldA [.int .i64 0, .int .i64 0, .int .i64 0, .int .i64 0, .int .i64 0, .int .i64 0] [(0, 1, (.int .i64 5)), (1, 1, (.int .i64 2)), (2, 1, (.int .i64 8)), (3, 1, (.int .i64 1)), (4, 1, (.int .i64 1)), (5, 1, (.int .i64 2))]) fun x1 =>
  effK H (stA lim H 6 x0 x1) fun _ H =>
  (retC (cx ρ) [some 42]) [x0] H
theorem G13 (ρ : Addr → Option Value) (call : CallF) (yc : YieldF) (lim k : Nat) (H : Heap) :
    evL (cx ρ) call yc false 13 lim k c13 [(.tup []), (.tup [])] H (kk none (fun s H => (retC (cx ρ) [some 42]) (([0] : List Nat).map fun t => s.getD t (.tup [])) H) [] (retC (cx ρ) [some 42]) [0]) = L13 ρ call yc lim k H := by
  kernel_rfl
theorem E13 (ρ : Addr → Option Value) (k lim : Nat) (H : Heap) : evCall (cx ρ) (k + 1) lim 13 [] H = L13 ρ (evCall (cx ρ) k) (evCY (cx ρ) k).2 lim k H := by
  rw [evCall_cells (cx ρ) k lim 13 _ H Tryz.f13 c13 [0] [some 42] (by kernel_rfl) (by kernel_rfl) (by kernel_rfl) (by kernel_rfl) (by kernel_rfl) (by kernel_rfl)]
  exact G13 ρ (evCall (cx ρ) k) (evCY (cx ρ) k).2 lim k H
-- haycroft/device.New
noncomputable def c14 : Code := Code.of Tryz.prog 14
noncomputable def L14 (ρ : Addr → Option Value) (call : CallF) (yc : YieldF) (lim k : Nat) (H : Heap) : Res :=
  effK H (some (makeMapA H)) fun x1 H =>
  effK H (some (makeMapA H)) fun x2 H =>
  effK H (some (makeMapA H)) fun x3 H =>
  purK (bldA [.bool false, .nilm, .nilm, .nilm, .int .i64 0] [(1, 1, x1), (2, 1, x2), (3, 1, x3)]) fun x4 =>
  effK H (boxA H 71 x4) fun x5 H =>
  retK [x5] H
theorem G14 (ρ : Addr → Option Value) (call : CallF) (yc : YieldF) (lim k : Nat) (H : Heap) :
    evL (cx ρ) call yc false 14 lim k c14 [(.tup []), (.tup []), (.tup []), (.tup []), (.tup []), (.tup [])] H (kk none (fun s H => retK (([0] : List Nat).map fun t => s.getD t (.tup [])) H) [] retK [0]) = L14 ρ call yc lim k H := by
  kernel_rfl
theorem E14 (ρ : Addr → Option Value) (k lim : Nat) (H : Heap) : evCall (cx ρ) (k + 1) lim 14 [] H = L14 ρ (evCall (cx ρ) k) (evCY (cx ρ) k).2 lim k H := by
  rw [evCall_body (cx ρ) k lim 14 _ H Tryz.f14 c14 [0] (by kernel_rfl) (by kernel_rfl) (by kernel_rfl) (by kernel_rfl) (by kernel_rfl)]
  exact G14 ρ (evCall (cx ρ) k) (evCY (cx ρ) k).2 lim k H
-- (*haycroft/store.Store).Up
noncomputable def c15 : Code := Code.of Tryz.prog 15
noncomputable def L15 (ρ : Addr → Option Value) (call : CallF) (yc : YieldF) (lim k : Nat) (x0 : AV) (H : Heap) : Res :=
  purK (binA Tryz.prog H .neq 38 x0 .nilp) fun x4 =>
  purK (gPur (wantV x4 true) (some x0)) fun x6 =>
  purK (gPur (wantV x4 true) (nilChkA x6)) fun x7 =>
  purK (gPur (wantV x4 true) (addA 7 x7)) fun x8 =>
  purK (gPur (wantV x4 true) (ld1 ρ H x8)) fun x9 =>
  purK (gPur (wantV x4 true) (binA Tryz.prog H .neq 62 x9 .nilp)) fun x10 =>
  purK (pickA x4 x10 (.bool false)) fun x11 =>
  retK [x11] H
theorem G15 (ρ : Addr → Option Value) (call : CallF) (yc : YieldF) (lim k : Nat) (x0 : AV) (H : Heap) :
    evL (cx ρ) call yc false 15 lim k c15 [x0, (.tup []), (.tup []), (.tup []), (.tup []), (.tup []), (.tup []), (.tup []), (.tup []), (.tup []), (.tup []), (.tup [])] H (kk none (fun s H => retK (([2] : List Nat).map fun t => s.getD t (.tup [])) H) [] retK [2]) = L15 ρ call yc lim k x0 H := by
  kernel_rfl
theorem E15 (ρ : Addr → Option Value) (k lim : Nat) (x0 : AV) (H : Heap) : evCall (cx ρ) (k + 1) lim 15 [x0] H = L15 ρ (evCall (cx ρ) k) (evCY (cx ρ) k).2 lim k x0 H := by
  rw [evCall_body (cx ρ) k lim 15 _ H Tryz.f15 c15 [2] (by kernel_rfl) (by kernel_rfl) (by kernel_rfl) (by kernel_rfl) (by kernel_rfl)]
  exact G15 ρ (evCall (cx ρ) k) (evCY (cx ρ) k).2 lim k x0 H
end Go.Proofs.YtonakeopionkkaaGreat
